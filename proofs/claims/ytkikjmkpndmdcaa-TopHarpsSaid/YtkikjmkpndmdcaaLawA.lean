/-
  What is proved: what TopHarps asks of Dress, of Steps and Cuts.
-/
import Derived.Test.YtkikjmkpndmdcaaLong
import Derived.Test.YtkikjmkpndmdcaaCntPer
import Derived.Test.YtkikjmkpndmdcaaHarpP
import Derived.Test.YtkikjmkpndmdcaaSpanOf
namespace Go.Proofs.Ytkikjmkpndmdcaa
open Go.RowKit

/-- What a dressed face is. -/
structure Good (p : Pat) (R H V : Nat) (K : List Int) : Prop where
  pr : p.rings = R
  ph : p.harps = H
  pv : p.wide = V
  e0 : 1 ≤ p.eye
  e1 : p.eye ≤ 16
  r0 : 1 ≤ R
  r1 : R ≤ 4
  v0 : 1 ≤ V
  vs : V ≤ H * V
  s0 : 2 ≤ H * V
  s1 : H * V ≤ 8
  kl : K.length = R * (H * V)
  ki : ∀ x ∈ K, 0 ≤ x ∧ x ≤ 2
  kp : PerK R (H * V) V K

def DressR (p : Pat) (w : World) (e : Ending) (w' : World) : Prop :=
  Below w.heap.size w w' ∧ ∃ a b s A n c er, e = .returned (.tuple #[.agg #[.int .i64 a, .int .i64 b, .int .i64 s, .slice A n c], .int .i64 er]) ∧
    (er = 12 ∨ (er = 0 ∧ ∃ R H V K g, Good p R H V K ∧ a = p.eye ∧ b = R ∧ s = (H * V : Nat) ∧ A = some ⟨g, 0, none⟩ ∧ n = K.length ∧ c = K.length ∧ Bk w' g 3 (intCells K).toArray))

theorem dress_any (p : Pat) (A : Option Addr) (c : Nat) (w : World) (hr : p.rings ≤ 4) (hh : p.harps ≤ 8) (hv : p.wide ≤ 8) (hw : IntKind.i64.wrap (p.harps * p.wide) ≤ 8) (hn : p.furs.length ≤ 20) (hL : RowAt w A (furCells p.furs)) :
    Calls Try.prog 6 #[.agg (p.arr A c)] w (DressR p w) := by
  by_cases hok : p.ok = true
  · obtain ⟨eye, rings, harps, wide, furs⟩ := p
    have h := hok
    simp only [Pat.ok, inB, Bool.and_eq_true, decide_eq_true_eq, Bool.not_eq_true', decide_eq_false_iff_not, List.all_eq_true] at h
    obtain ⟨⟨⟨⟨⟨⟨h1, h2⟩, h3⟩, h4⟩, h5⟩, h6⟩, h7⟩ := h
    simp only at hr hh hv hw hn hL
    obtain ⟨R, rfl⟩ : ∃ R : Nat, rings = R := ⟨rings.toNat, by omega⟩
    obtain ⟨H, rfl⟩ : ∃ R : Nat, harps = R := ⟨harps.toNat, by omega⟩
    obtain ⟨V, rfl⟩ : ∃ R : Nat, wide = R := ⟨wide.toNat, by omega⟩
    have hc : (H : Int) * V = ((H * V : Nat) : Int) := by simp
    rw [hc] at h5 hw
    have hw2 : IntKind.i64.wrap ((H * V : Nat) : Int) = ((H * V : Nat) : Int) := by rw [IntKind.wrap_i64]; omega
    rw [hw2] at hw
    have hin : DressIn R H V furs := ⟨by omega, by omega, by omega, by omega, by omega, by omega, by omega, fun x hx => furIn_of (h7 x hx)⟩
    have hvs : V ≤ H * V := Nat.le_mul_of_pos_left V (by omega)
    have hS : 0 < H * V := by omega
    have hkl : (furK R (H * V) V H furs (List.replicate (R * (H * V)) 0) furs.length).length = R * (H * V) := by rw [furK_len, List.length_replicate]
    refine (dress_good eye R H V furs A c w hok hin hL).mono ?_
    rintro e w' ⟨hb, g, rfl, G⟩
    refine ⟨hb, _, _, _, _, _, _, _, rfl, .inr ⟨rfl, R, H, V, _, g, ⟨rfl, rfl, rfl, h1.1, h1.2, by omega, by omega, by omega, hvs, by omega, by omega, hkl, ?_, ?_⟩, rfl, rfl, rfl, rfl, hkl.symm, hkl.symm, G⟩⟩
    · refine furK_in (fun y hy => ?_) _
      have := List.eq_of_mem_replicate hy
      omega
    · exact fur_per (by omega) rfl hS (by simp) hin.fg (zero_per R (H * V) V) _ (Nat.le_refl _)
  · refine (dress_bad p A c w (by simpa using hok) (by omega) hL).mono ?_
    rintro e w' ⟨rfl, hb⟩
    exact ⟨hb, _, _, _, _, _, _, _, rfl, .inl rfl⟩

def SpanRes (f : Flr) (cnt : Mv → Int) (i : Nat) (a b er : Int) : Prop :=
  (AccS f i ∧ ∃ v : Int × Int, ValS f cnt i v ∧ a = v.1 ∧ b = v.2 ∧ er = 0) ∨ (¬ AccS f i ∧ a = 0 ∧ b = 0 ∧ er = 22)
theorem SpanOfP.res {f : Flr} {cnt : Mv → Int} {i : Nat} {w w' : World} {e : Ending} (h : SpanOfP f cnt i w e w') : ∃ a b er, e = .returned (.tuple #[.agg #[.int .i64 a, .int .i64 b], .int .i64 er]) ∧ SpanRes f cnt i a b er ∧ Below w.heap.size w w' := by
  obtain ⟨hb, ⟨ha, v, hv, rfl⟩ | ⟨ha, rfl⟩⟩ := h
  · exact ⟨_, _, _, rfl, .inl ⟨ha, v, hv, rfl, rfl, rfl⟩, hb⟩
  · exact ⟨_, _, _, rfl, .inr ⟨ha, rfl, rfl, rfl⟩, hb⟩
theorem SpanRes.rot {f : Flr} {cnt : Mv → Int} {V i : Nat} {a b er a' b' er' : Int} (hok : f.Ok) (hp : PerF f V) (hi : i < f.R * f.S * f.S) (h : SpanRes f cnt i a b er) (h' : SpanRes f cnt (rotN f V i) a' b' er') : a' = a ∧ b' = b ∧ er' = er := by
  have ht := rot_turns hok hp
  rcases h with ⟨ha, v, hv, rfl, rfl, rfl⟩ | ⟨ha, rfl, rfl, rfl⟩
  · rcases h' with ⟨ha', v', hv', rfl, rfl, rfl⟩ | ⟨ha', rfl, rfl, rfl⟩
    · have := (ht.val hv hi).uniq hv'
      subst this
      exact ⟨rfl, rfl, rfl⟩
    · exact absurd (ht.acc ha hi) ha'
  · rcases h' with ⟨ha', v', hv', rfl, rfl, rfl⟩ | ⟨ha', rfl, rfl, rfl⟩
    · exact absurd (ht.acc_back ha' i hi rfl) ha
    · exact ⟨rfl, rfl, rfl⟩
theorem rot_num {f : Flr} {V ring sec turn : Nat} (h1 : ring < f.R) (h2 : sec < f.S) : rotN f V (numN f.R f.S ring sec turn) = numN f.R f.S ring ((sec + V) % f.S) turn := by
  obtain ⟨a, b, c⟩ := num_parts (turn := turn) h1 h2
  unfold rotN
  rw [a, b, c]

end Go.Proofs.Ytkikjmkpndmdcaa
