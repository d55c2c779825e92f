/-
  What is proved: the contract of the search for a loop (the closure of loop that calls itself).
-/
import Derived.Test.YtkikjmkpndmdcaaSeekM
import Derived.RangeFuncNested
import Derived.RegionTactic
import Derived.Deep.DeepCutAuto
namespace Go.Proofs.Ytkikjmkpndmdcaa
open Go.RowKit Go.Shelf
attribute [local go_sem ↓] max_int min_int
attribute [local go_sem] Oper.semAt_some

theorem SkAt.con {L : SkLoc} {on dn : List Bool} {p : Nat} {v : Value} {W : World} (h : SkAt L on dn p v W) {i : Nat} (hi : i < L.N) : W.cell? ⟨L.gon, i, none⟩ = some (.bool (on.getD i false)) := by
  rw [h.ron.cell i]
  have := h.lon
  simp [boolCells, List.getD_eq_getElem?_getD, show i < on.length by omega]
theorem SkAt.cdn {L : SkLoc} {on dn : List Bool} {p : Nat} {v : Value} {W : World} (h : SkAt L on dn p v W) {i : Nat} (hi : i < L.N) : W.cell? ⟨L.gd, i, none⟩ = some (.bool (dn.getD i false)) := by
  rw [h.rdn.cell i]
  have := h.ldn
  simp [boolCells, List.getD_eq_getElem?_getD, show i < dn.length by omega]

theorem mvInfo : (Try.prog.info? 94).map (fun i => (i.zero, i.size, i.bytes)) = some (some (.agg #[.int .i64 0, .int .i64 0, .bool false]), 3, 24) := by kernel_rfl

theorem buildMv (W : World) (mo ms : Int) (mc : Bool) :
    (Instr.buildSlice 60 1 #[(0, .agg #[.int .i64 mo, .int .i64 ms, .bool mc])]).run Try.prog W = .ok (.slice (some ⟨W.heap.size, 0, none⟩) 1 1) (W.alloc (.cells #[.int .i64 mo, .int .i64 ms, .bool mc] 94)) := by kernel_rfl

/-- What is read behind the append of a move. -/
theorem seek_mid {L : SkLoc} {on dn : List Bool} {p : Nat} {v : Value} {W w6 : World} (h : SkAt L on dn p v W) (hg : W.grownBy w6 v.ownBlock) {k : Nat} (hk : k < L.N) {b : Bool} (hb : on.getD k false = b) :
    w6.cell? ⟨L.Bp, 0, none⟩ = some v ∧ w6.frozen? ⟨L.Bp, 0, none⟩ = false ∧ L.Bp < w6.heap.size ∧ w6.cell? ⟨L.Bo, 0, none⟩ = some (.slice (some ⟨L.gon, 0, none⟩) L.N L.N) ∧ w6.cell? ⟨L.gon, k, none⟩ = some (.bool b) ∧ w6.cell? ⟨L.Bs, 0, none⟩ = some (.func (.func 82) #[] L.caps) := by
  have key : ∀ {q : Nat} {t : TypeId} {cs : Array Value}, Bk W q t cs → t ≠ 94 → Bk w6 q t cs := fun hq ht => hq.grown hg (fun e => (h.dis hq).2.2 ht e.symm)
  have b1 := key h.bp (by decide)
  have b2 := key h.bo (by decide)
  have b3 := key h.ron (by decide)
  have b4 := key h.bs (by decide)
  refine ⟨by simpa using b1.cell 0, b1.fz 0, b1.lt, by simpa using b2.cell 0, ?_, by simpa using b4.cell 0⟩
  rw [b3.cell k, ← hb]
  have := h.lon
  simp [boolCells, List.getD_eq_getElem?_getD, show k < on.length by omega]

def SeekP (f : Flr) (L : SkLoc) (i : Nat) (on : List Bool) (p : Nat) (v : Value) (W : World) (e : Ending) (W' : World) : Prop :=
  (∃ dn' v', e = .returned (.bool false) ∧ SkAt L on dn' p v' W' ∧ SkKeep L W W' ∧ (∀ k, dn'.getD k false = true → AccS f k) ∧ AccS f i) ∨
  (e = .returned (.bool true) ∧ ¬ AccS f i ∧ SkKeep L W W' ∧ ∃ a n c, Bk W' L.Bp 60 #[.slice (some a) n c])

structure SeekIn (f : Flr) (L : SkLoc) (w0 : World) (i : Nat) (on dn : List Bool) (p : Nat) (v : Value) (W : World) : Prop where
  hi : i < L.N
  oi : on.getD i false = false
  at_ : SkAt L on dn p v W
  bel : Below L.n w0 W
  acc : ∀ k, dn.getD k false = true → AccS f k
  rch : ∀ k, on.getD k false = true → Rch f k i
  cnt : p + on.count false ≤ 2000

set_option maxRecDepth 100000 in
set_option maxHeartbeats 8000000 in
theorem seek_any (f : Flr) (z : FLoc) (L : SkLoc) (w0 : World) (hL : L.Ok) (hf : FlAt w0 L.b f z) (hok : f.Ok) (hN : L.N = f.R * f.S * f.S) (hw0 : w0.heap.size = L.n) :
    ∀ (m : Nat) (i : Nat) (on dn : List Bool) (p : Nat) (v : Value) (W : World), on.count false ≤ m → SeekIn f L w0 i on dn p v W →
      Calls Try.prog 82 (#[.int .i64 i] ++ L.caps) W (SeekP f L i on p v W) := by
  intro m
  induction m with
  | zero =>
    intro i on dn p v W hm h
    exfalso
    have := cnt_set on i (by have := h.at_.lon; have := h.hi; omega) (by rw [getD_dflt (by have := h.at_.lon; have := h.hi; omega) true false]; exact h.oi)
    omega
  | succ m ih =>
    intro i on dn p v W hm h
    rw [show #[Value.int .i64 i] ++ L.caps = #[.int .i64 i, .pointer (some ⟨L.Bo, 0, none⟩), .pointer (some ⟨L.Bf, 0, none⟩), .pointer (some ⟨L.Bd, 0, none⟩), .pointer (some ⟨L.Bp, 0, none⟩), .pointer (some ⟨L.Bs, 0, none⟩)] from rfl]
    have hilt : i < on.length := by have := h.at_.lon; have := h.hi; omega
    have hcs := cnt_set on i hilt (by rw [getD_dflt hilt true false]; exact h.oi)
    have hsb := set_back on i (by rw [getD_dflt hilt true false]; exact h.oi)
    have hiI : (i : Int) < L.N := by have := h.hi; omega
    have hN1 : L.N ≤ 256 := by rw [hN]; exact Nat.mul_le_mul (Nat.mul_le_mul hok.r1 hok.s1) hok.s1
    have S0 := h.at_
    obtain ⟨W1, hW1⟩ : ∃ W1, W.alloc (.cells #[.bool false] 4) = W1 := ⟨_, rfl⟩
    have S1 : SkAt L on dn p v W1 := by rw [← hW1]; exact S0.below ((Below.refl _ _).alloc (Nat.le_refl _) _)
    have hnW : L.n ≤ W.heap.size := by have := h.bel.size; omega
    have K1 : SkKeep L W W1 := by rw [← hW1]; exact .of_below ((Below.refl _ _).alloc (Nat.le_refl _) _) hnW
    have Q1 : Bk W1 W.heap.size 4 #[.bool false] := by rw [← hW1]; exact bk_last rfl
    have c0 := S1.bo.cell 0
    have c1 := S1.con h.hi
    have c2 := S1.ron.fz i
    have c3 := S1.ron.lt
    have HS1 := Lib.hid S1
    have d0 := S1.bf.cell 0
    have dne := S1.bf.ne S1.ron (by decide)
    simp at c0 d0
    have HW := Lib.hid hW1
    have hH := Lib.hid h
    have HSB := Lib.hid hsb
    have HN := Lib.hid hN
    have HW0 := Lib.hid hw0
    clear S0 S1 hW1 h hsb hN hw0
    refine (callsIn_wide (n := 3)).1 ?_
    refine callsIn_of_wp_marks Try.func82 rfl trivial ?_ rfl
    simp only [Try.ntmps82, List.size_toArray, List.length_cons, List.length_nil, Nat.reduceAdd, Nat.reduceSub, Array.replicate_succ, Array.replicate_zero, List.push_toArray, List.append_toArray, List.nil_append, List.cons_append]
    refine wpIn_wide.2 ?_
    go_upto_region 1 with fail
    rw [HW.out]
    clear HW
    go_upto_region 2 with fail
    have S2 := HS1.out.setOn hL i true
    have K2 : SkKeep L W (W1.setCell ⟨L.gon, i, none⟩ (.bool true)) := K1.trans (SkKeep.set hL _ (.inl rfl))
    have hqs : W.heap.size ≠ L.gon := fun e => by have := hH.out.at_.ron.lt; omega
    have Q2 := Q1.far (p := ⟨L.gon, i, none⟩) hqs (.bool true)
    clear c0 c1 c2 c3 d0 K1 HS1 Q1 dne
    generalize W1.setCell ⟨L.gon, i, none⟩ (.bool true) = W2 at *
    have d0 := S2.bf.cell 0
    simp at d0
    go_wp2_with (go_at_call 73; refine (steps_any L.b i _).mono ?_; rintro e w3 ⟨rfl, h65, h3, hb3⟩)
    have hS : Below L.n w0 w3 := by
      have h1 := hH.out.bel
      have h2 := K2.bel
      exact h1.trans (h2.trans (hb3.mono (by have := h2.size; omega)))
    have S3 := S2.below hb3
    have K3 : SkKeep L W w3 := K2.trans (.of_below hb3 (by have := K2.bel.size; omega))
    have Q3 := Q2.keep hb3
    have hz3 : W2.heap.size + 1 < w3.heap.size := h3.lt
    clear d0 S2 K2 Q2 hb3
    generalize W2.heap.size = q2 at *
    refine (wpIn_wide (n := 3)).1 ?_
    refine wpIn_rangeFunc_ownH rfl (by omega) (gf := 85) (lb := #[.pointer (some ⟨q2, 0, none⟩), .pointer (some ⟨q2 + 1, 0, none⟩)]) rfl trivial (enters_of Try.func85 (by kernel_rfl) rfl)
      (encs := stepEnc f i) (Kp := KpS L.n) (S := fun xs => xs = (stepsL f i).attach) (Sp := fun pre => pre <+: (stepsL f i).attach) (N := (stepsL f i).length) (w0 := w3)
      (steps1_stops (3 - 1) L.n L.b q2 (q2 + 1) f z i w0 w3 hf hok (by rw [← HN.out]; exact hH.out.hi) HW0.out hS h65 h3)
      (fun h k => h.trans k) ?Kb (Below.refl _ _) (fun _ => rfl)
      (fun pre W' => ∃ dn' v', SkAt L (on.set i true) dn' p v' W' ∧ SkKeep L W W' ∧ (∀ k, dn'.getD k false = true → AccS f k) ∧ (∀ x ∈ pre, ∀ k, x.1.2 = some k → AccS f k) ∧ Bk W' W.heap.size 4 #[.bool false])
      (fun c _ W' => c = .ret ∧ ¬ AccS f i ∧ SkKeep L W W' ∧ (∃ a n c, Bk W' L.Bp 60 #[.slice (some a) n c]) ∧ Bk W' W.heap.size 4 #[.bool true])
      ?I ?Ix ⟨dn, v, S3, K3, hH.out.acc, by simp, Q3⟩
      (fun x a' W' => ∃ Bx, Bk W' Bx 94 #[.int .i64 x.1.1.out, .int .i64 x.1.1.side, .bool x.1.1.cut] ∧ a' = { tmps := #[.int .i64 i, .pointer (some ⟨L.Bo, 0, none⟩), .pointer (some ⟨L.Bf, 0, none⟩), .pointer (some ⟨L.Bd, 0, none⟩), .pointer (some ⟨L.Bp, 0, none⟩), .pointer (some ⟨L.Bs, 0, none⟩), undef, .pointer (some ⟨W.heap.size, 0, none⟩), .pointer (some ⟨Bx, 0, none⟩), .int .i64 (nextV x.1.2), .slice (some ⟨L.gon, 0, none⟩) L.N L.N, .int .i64 i, .pointer (some ⟨L.gon, i, none⟩), .pointer (some ⟨L.b, 0, none⟩), .int .i64 i, .func (.func 85) #[] #[.pointer (some ⟨q2, 0, none⟩), .pointer (some ⟨q2 + 1, 0, none⟩)], .agg #[.int .i64 x.1.1.out, .int .i64 x.1.1.side, .bool x.1.1.cut], .int .i64 (nextV x.1.2), undef, undef, undef, undef, undef, undef, undef, undef, undef, undef, undef, undef, undef, undef, undef, undef, undef, undef, undef, undef, undef, undef, undef, undef, undef, undef, undef, undef, undef, undef, undef, undef], defers := [] })
      ?Ax ?assign ?body ?done ?stop
    case Kb =>
      intro X l o o' hl hX hc _
      refine ⟨belowK_b (by have := hS.size; have := HW0.out; omega) X l o o' hl hX hc ‹_›, fun k cs t r _ hk => ?_⟩
      by_cases e : k = l
      · subst e
        rw [hk] at hX
        cases hX
        cases hc
      · exact (World.putObj_heap_other e).trans hk
    case I =>
      rintro pre X X' row ⟨dn', v', h1, h2, h5, h6, h7⟩ hg hr
      refine ⟨dn', v', h1.grown hg (fun r e => (hr r e).2), h2.grown hg hnW (fun r e => by have := (hr r e).1; have := K3.bel.size; omega), h5, h6, h7.grown hg (fun e => ?_)⟩
      have := (hr _ e.symm).1
      have := Q3.lt
      omega
    case Ix =>
      rintro c pre X X' row ⟨h1, h2, h4, ⟨a, n, c', h5⟩, h6⟩ hg hr
      refine ⟨h1, h2, h4.grown hg hnW (fun r e => by have := (hr r e).1; have := K3.bel.size; omega), ⟨a, n, c', h5.grown hg (fun e => ?_)⟩, h6.grown hg (fun e => ?_)⟩
      · have := (hr _ e.symm).1
        have := S3.bp.lt
        omega
      · have := (hr _ e.symm).1
        have := Q3.lt
        omega
    case Ax =>
      rintro x a' _ X X' row ⟨Bx, hb, h⟩ hg hr
      refine ⟨Bx, hb.grown hg (fun e => ?_), h⟩
      obtain ⟨_, o, ho, hc⟩ := hr _ e.symm
      unfold Bk at hb
      rw [hb] at ho
      cases ho
      cases hc
    case assign =>
      rintro l pre x X K ⟨dn', v', h1, h2, h5, h6, h7⟩ hK
      unfold stepEnc
      gi_wp2
      have hba : Below X.heap.size X (X.alloc (.cells #[.int .i64 x.1.1.out, .int .i64 x.1.1.side, .bool x.1.1.cut] 94)) := (Below.refl _ _).alloc (Nat.le_refl _) _
      have hks : SkKeep L X (X.alloc (.cells #[.int .i64 x.1.1.out, .int .i64 x.1.1.side, .bool x.1.1.cut] 94)) := .of_below hba (by have := h2.bel.size; omega)
      exact hK _ _ ((hks.others h1).from _) (hks.kps h1) ⟨dn', v', h1.below hba, h2.trans hks, h5, h6, h7.keep hba⟩ ⟨X.heap.size, bk_last rfl, rfl⟩
    case body =>
      rintro l pre ⟨⟨m', o⟩, hx⟩ a' X hlz hrec ⟨dn', v', h1, h2, h5, h6, h7⟩ ⟨Bx, bX, rfl⟩ hlt
      clear hrec h65 h3 S3 K3
      have hnX : L.n ≤ X.heap.size := by have := h2.bel.size; omega
      obtain ⟨mo, ms, mc⟩ := m'
      simp only at bX h6 ⊢
      cases o with
      | none =>
        unfold nextV
        gi_wp2
        exact ⟨KeepsFrom.refl _ _, ⟨Below.refl _ _, fun _ _ _ _ _ h => h⟩, dn', v', h1, h2, h5, (fun x hx' k hk => by
          rcases List.mem_append.1 hx' with h | h
          · exact h6 x h k hk
          · rw [List.mem_singleton.1 h] at hk; cases hk), h7⟩
      | some k =>
        have hst : stepR f i k := ⟨_, hx⟩
        have hkN : k < L.N := by rw [HN.out]; exact step_lt hok (by rw [← HN.out]; exact hH.out.hi) hst
        have hkI : (k : Int) < L.N := by omega
        have hk1 : ((k : Int) == -1) = false := by simp
        unfold nextV
        simp only
        have c0 := h1.bd.cell 0
        have c1 := h1.cdn hkN
        simp at c0
        have HI := Lib.hid (And.intro h5 h6)
        have HX := Lib.hid (show ∀ x ∈ pre ++ [(⟨(⟨mo, ms, mc⟩, some k), hx⟩ : StepOf f i)], AccS f k → ∀ j, x.1.2 = some j → AccS f j from fun x hx' ha j hj => by
          rcases List.mem_append.1 hx' with h | h
          · exact h6 x h j hj
          · rw [List.mem_singleton.1 h] at hj; injection hj with hj; subst hj; exact ha)
        clear h5 h6
        cases hd : dn'.getD k false
        · rw [hd] at c1
          clear hd
          have e0 := h1.bp.cell 0
          simp at e0
          have bx0 := bX.cell 0
          have bx1 := bX.cell 1
          have bx2 := bX.cell 2
          simp at bx0 bx1 bx2
          have BM := buildMv X mo ms mc
          obtain ⟨xs', hxs⟩ := h1.own
          obtain ⟨i0, hi0, hz0, hz1, hz2⟩ := info_parts mvInfo
          have hpb : p + 1 ≤ 2001 := by have := hH.out.cnt; omega
          have HXS := Lib.hid hxs
          have H1 := Lib.hid h1
          have E : Hid (∀ j u, [Value.int .i64 mo, .int .i64 ms, .bool mc][j]? = some u → (X.alloc (.cells #[.int .i64 mo, .int .i64 ms, .bool mc] 94)).cell? ((⟨X.heap.size, 0, none⟩ : Addr).add j) = some u) := three_at X _ _ _ 94 _ rfl
          have hne1 : L.Bo ≠ L.Bp := h1.bo.ne h1.bp (by decide)
          have hne2 : L.gon ≠ L.Bp := h1.ron.ne h1.bp (by decide)
          have hne3 : L.Bs ≠ L.Bp := h1.bs.ne h1.bp (by decide)
          have hne4 : W.heap.size ≠ L.Bp := by have := hH.out.at_.bp.lt; omega
          have hne5 : W.heap.size ≠ L.gon ∧ W.heap.size ≠ L.gd := ⟨hqs, by have := hH.out.at_.rdn.lt; omega⟩
          have hq7 : W.heap.size < X.heap.size := h7.lt
          have H7 := Lib.hid h7
          have hxb : Below X.heap.size X (X.alloc (.cells #[.int .i64 mo, .int .i64 ms, .bool mc] 94)) := (Below.refl _ _).alloc (Nat.le_refl _) _
          have HXB := Lib.hid hxb
          clear h1 h7 hxb
          cases ho : (on.set i true).getD k false
          · have HO := Lib.hid ho
            clear ho
            gi_wp2_with (gi_at_builtin; refine wpListIn_append_own _ rfl _ _ 60 rfl L.n 94 i0 _ 3 24 Try.underlying60 hi0 hz0 hz1 hz2 rfl (by decide) _ _ _ rfl (HXS.out.alloc _) ⟨X.heap.size, 0, none⟩ 1 1 [.int .i64 mo, .int .i64 ms, .bool mc] rfl rfl E.out (by simp [Value.oneCell']) (by unfold maxLen; omega) (by omega) (by simp; omega) ?_; intro v6 w6 hown6 hg6 _; obtain ⟨g6, c6, rfl, _, _⟩ := own_row hown6 (by omega); obtain ⟨r0, r1, r2, r3, r4, r5⟩ := seek_mid (H1.out.below HXB.out) hg6 hkN HO.out; have HOWN := Lib.hid hown6; have HG6 := Lib.hid hg6; clear hown6 hg6)
            have S6 := (H1.out.below HXB.out).row HG6.out ⟨_, HOWN.out⟩
            have K6 : SkKeep L X (w6.setCell ⟨L.Bp, 0, none⟩ (.slice (some ⟨g6, 0, none⟩) (p + 1) c6)) := (SkKeep.of_below HXB.out hnX).trans ((SkKeep.row (H1.out.below HXB.out) (by simp; omega) HG6.out).trans (SkKeep.set hL _ (.inr (.inr rfl))))
            have Q6 := K6.bk H7.out hne5.1 hne5.2 hne4 (by decide)
            have hrc : ∀ j, (on.set i true).getD j false = true → Rch f j k := fun j hj => by
              by_cases e : i = j
              · subst e; exact .one hst
              · rw [getD_set_ne _ _ e] at hj
                exact (hH.out.rch j hj).snoc hst
            have hin : SeekIn f L w0 k (on.set i true) dn' (p + 1) _ _ := ⟨hkN, HO.out, S6, hH.out.bel.trans (h2.trans K6).bel, HI.out.1, hrc, by have := hH.out.cnt; omega⟩
            have HIH := Lib.hid (ih k (on.set i true) dn' (p + 1) _ _ (by omega) hin)
            clear hin hrc r0 r1 r2 r3 r4 r5 HOWN HG6 e0 bx0 bx1 bx2 BM c0 c1 ih
            generalize w6.setCell ⟨L.Bp, 0, none⟩ (.slice (some ⟨g6, 0, none⟩) (p + 1) c6) = W6 at *
            refine ⟨trivial, (CallsIn.inRound l (callsIn_wide.2 HIH.out)).mono ?_⟩
            clear HIH
            rintro e W8 (⟨dn8, v8, rfl, S8, K8, A8, ak⟩ | ⟨rfl, na, K8, ax, nx, cx, b8⟩)
            · obtain ⟨xs8, ho8⟩ := S8.own
              obtain ⟨g8, c8, rfl, _, _⟩ := own_row ho8 (by omega)
              have hcap := (own_cap ho8).1
              have hcapI : ((p : Int)) ≤ c8 := by omega
              have S9 := S8.setP ⟨_, own_init ho8⟩
              have KK : SkKeep L X (W8.setCell ⟨L.Bp, 0, none⟩ (.slice (some ⟨g8, 0, none⟩) p c8)) := K6.trans (K8.trans (SkKeep.set hL _ (.inr (.inr rfl))))
              have r0 := S8.bp.cell 0
              have r1 := S8.bp.fz 0
              have r2 := S8.bp.lt
              simp at r0
              have Q9 := KK.bk H7.out hne5.1 hne5.2 hne4 (by decide)
              have HS9 := Lib.hid S9
              clear S9 S8 S6 K6 Q6 K8 ho8
              gi_wp2
              exact ⟨(KK.others H1.out).from _, KK.kps H1.out, dn8, _, HS9.out, h2.trans KK, A8, fun x hx' j hj => HX.out x hx' ak j hj, Q9⟩
            · have KK := K6.trans K8
              have Q9 := KK.bk H7.out hne5.1 hne5.2 hne4 (by decide)
              have r0 := Q9.cell 0
              have r1 := Q9.fz 0
              have r2 := Q9.lt
              simp at r0
              have B9 := b8.far (p := ⟨W.heap.size, 0, none⟩) hne4.symm (.bool true)
              have Q10 := Q9.put 0 (.bool true)
              clear S6 K6 Q6 K8 b8 Q9
              gi_wp2
              exact ⟨((KK.others H1.out).trans (KeepsOthers.setCell _ _ _)).from _, rfl, fun h => na (h.step hst), (h2.trans KK).grown (grownBy_setCell' _ _ _) hnW (fun r e => by injection e with e; omega), ⟨_, _, _, B9⟩, Q10⟩
          · have HO := Lib.hid ho
            clear ho
            gi_wp2_with (gi_at_builtin; refine wpListIn_append_own _ rfl _ _ 60 rfl L.n 94 i0 _ 3 24 Try.underlying60 hi0 hz0 hz1 hz2 rfl (by decide) _ _ _ rfl (HXS.out.alloc _) ⟨X.heap.size, 0, none⟩ 1 1 [.int .i64 mo, .int .i64 ms, .bool mc] rfl rfl E.out (by simp [Value.oneCell']) (by unfold maxLen; omega) (by omega) (by simp; omega) ?_; intro v6 w6 hown6 hg6 _; obtain ⟨g6, c6, rfl, _, _⟩ := own_row hown6 (by omega); obtain ⟨r0, r1, r2, r3, r4, r5⟩ := seek_mid (H1.out.below HXB.out) hg6 hkN HO.out; have HOWN := Lib.hid hown6; have HG6 := Lib.hid hg6; clear hown6 hg6; have r6 := (((H7.out.alloc (.cells #[.int .i64 mo, .int .i64 ms, .bool mc] 94)).grown HG6.out (fun e => ((H1.out.below HXB.out).dis (H7.out.alloc _)).2.2 (by decide) e.symm)).cell 0); have r7 := (((H7.out.alloc (.cells #[.int .i64 mo, .int .i64 ms, .bool mc] 94)).grown HG6.out (fun e => ((H1.out.below HXB.out).dis (H7.out.alloc _)).2.2 (by decide) e.symm)).fz 0); have r8 := (((H7.out.alloc (.cells #[.int .i64 mo, .int .i64 ms, .bool mc] 94)).grown HG6.out (fun e => ((H1.out.below HXB.out).dis (H7.out.alloc _)).2.2 (by decide) e.symm)).lt); simp at r6)
            have S6 := (H1.out.below HXB.out).row HG6.out ⟨_, HOWN.out⟩
            have K6 : SkKeep L X (w6.setCell ⟨L.Bp, 0, none⟩ (.slice (some ⟨g6, 0, none⟩) (p + 1) c6)) := (SkKeep.of_below HXB.out hnX).trans ((SkKeep.row (H1.out.below HXB.out) (by simp; omega) HG6.out).trans (SkKeep.set hL _ (.inr (.inr rfl))))
            have Q6 := K6.bk H7.out hne5.1 hne5.2 hne4 (by decide)
            have B9 := S6.bp.far (p := ⟨W.heap.size, 0, none⟩) hne4.symm (.bool true)
            have Q10 := Q6.put 0 (.bool true)
            have hri : Rch f k i := by
              by_cases e : i = k
              · subst e; exact .one hst
              · have := HO.out
                rw [getD_set_ne _ _ e] at this
                exact hH.out.rch k this
            refine ⟨(fun f e => by cases e), ?_⟩
            have HS6 := Lib.hid S6
            have HK6 := Lib.hid K6
            clear S6 K6 Q6
            gi_wp2
            have K6 := HK6.out
            exact ⟨((K6.others H1.out).trans (KeepsOthers.setCell _ _ _)).from _, rfl, fun h => (h.step hst).irr (hri.snoc hst), (h2.trans K6).grown (grownBy_setCell' _ _ _) hnW (fun r e => by injection e with e; omega), ⟨_, _, _, B9⟩, Q10⟩
        · rw [hd] at c1
          have ha : AccS f k := HI.out.1 k hd
          clear hd
          gi_wp2
          exact ⟨KeepsFrom.refl _ _, ⟨Below.refl _ _, fun _ _ _ _ _ h => h⟩, dn', v', h1, h2, HI.out.1, (fun x hx' j hj => HX.out x hx' ha j hj), h7⟩
    case done =>
      rintro D xs X hD rfl ⟨dn', v', h1, h2, h5, h6, h7⟩ hK
      have hacc : AccS f i := .mk (fun k ⟨m, hm⟩ => h6 ⟨(m, some k), hm⟩ (List.mem_attach _ _) k rfl)
      have K3s := K3.bel.size
      clear h65 h3 S3 K3 ih h6
      have x0 := h1.bo.cell 0
      have x1 := h1.bd.cell 0
      have x2 := h1.con hH.out.hi
      have x3 := h1.cdn hH.out.hi
      have x4 := h1.ron.fz i
      have x5 := h1.rdn.fz i
      have x6 := h1.ron.lt
      have x7 := h1.rdn.lt
      have y0 := h7.cell 0
      have y1 := h7.fz 0
      have y2 := h7.lt
      simp at x0 x1 y0
      have hne := hL.ne
      have hne' := hL.ne.symm
      have z1 : L.Bd ≠ L.gon := h1.bd.ne h1.ron (by decide)
      have z2 : L.Bo ≠ L.gd := h1.bo.ne h1.rdn (by decide)
      have z3 : L.Bd ≠ L.gd := h1.bd.ne h1.rdn (by decide)
      have z4 : L.Bo ≠ L.gon := h1.bo.ne h1.ron (by decide)
      have hqd : W.heap.size ≠ L.gd := by have := hH.out.at_.rdn.lt; omega
      have HX := Lib.hid (And.intro h1 (And.intro h2 (And.intro h5 (And.intro h7 hK))))
      clear h1 h2 h5 h7 hK
      gi_wp2
      go_wp2_with fail
      go_region
      obtain ⟨h1, h2, h5, h7, hK⟩ := HX.out
      have S9 := ((h1.setOn hL i false).setDn hL i true).drew
      rw [HSB.out] at S9
      have K9 : SkKeep L X ((X.setCell ⟨L.gon, i, none⟩ (.bool false)).setCell ⟨L.gd, i, none⟩ (.bool true)).drew :=
        ((SkKeep.set hL (p := ⟨L.gon, i, none⟩) _ (.inl rfl)).trans (SkKeep.set hL (p := ⟨L.gd, i, none⟩) _ (.inr (.inl rfl)))).trans (.of_below ⟨rfl, rfl, rfl, Nat.le_refl _, fun _ _ => rfl⟩ (by have := h2.bel.size; simp; omega))
      have K10 := h2.trans K9
      have hK9 := (K9.others h1).same _ _ hK rfl
      have hA9 : ∀ k, (dn'.set i true).getD k false = true → AccS f k := fun k hk => by
        by_cases e : i = k
        · subst e; exact hacc
        · rw [getD_set_ne _ _ e] at hk; exact h5 k hk
      have Q9 := K9.bk h7 hqs hqd (by have := hH.out.at_.bp.lt; omega) (by decide)
      have hqP : W.heap.size ≠ L.Bp := by have := hH.out.at_.bp.lt; omega
      have hlo : L.Bf < W.heap.size ∧ L.Bd < W.heap.size ∧ L.Bo < W.heap.size ∧ L.Bs < W.heap.size := ⟨hH.out.at_.bf.lt, hH.out.at_.bd.lt, hH.out.at_.bo.lt, hH.out.at_.bs.lt⟩
      have hdis := (S9.dis Q9).2.2 (by decide)
      clear h1 h2 h5 h7 hK K9 x0 x1 x2 x3 x4 x5 x6 x7 y0 y1 y2 HX
      generalize ((X.setCell ⟨L.gon, i, none⟩ (.bool false)).setCell ⟨L.gd, i, none⟩ (.bool true)).drew = Y at *
      have y0 := Q9.cell 0
      have y1 := Q9.fz 0
      have y2 := Q9.lt
      simp at y0
      have hDq : D ≠ W.heap.size := by have := Q3.lt; omega
      have HS := Lib.hid (And.intro S9 (And.intro K10 (And.intro hK9 Q9)))
      clear S9 K10 hK9 Q9
      go_wp2_with fail
      obtain ⟨S9, K10, hK9, Q9⟩ := HS.out
      have S10 := S9.far (q := ⟨W.heap.size, 0, none⟩) (.bool false) ⟨Nat.ne_of_gt hlo.1, Nat.ne_of_gt hlo.2.1, Nat.ne_of_gt hlo.2.2.1, Nat.ne_of_gt hlo.2.2.2, hqs, hqd, hqP, hdis⟩
      have Q10 := Q9.put 0 (.bool false)
      have K11 := K10.grown (grownBy_setCell' Y W.heap.size (.bool false)) hnW (fun r e => by injection e with e; omega)
      have hK' : (Y.setCell ⟨W.heap.size, 0, none⟩ (.bool false)).heap[D]? = some (.deferred (some [])) := (Below.heap_setCell _ ⟨W.heap.size, 0, none⟩ _ _ hDq).trans hK9
      generalize Y.setCell ⟨W.heap.size, 0, none⟩ (.bool false) = F at *
      have d2 : Bk (F.putObj D (.deferred none)) W.heap.size 4 _ := (World.putObj_heap_other hDq.symm).trans Q10
      have e2 := d2.cell 0
      simp at e2
      refine ⟨by simp, .inl ⟨_, _, rfl, run_takeDeferred hK', ?_⟩⟩
      exact ⟨.bool false, by simp [results, Try.results82, go_sem, e2], .inl ⟨_, v', rfl, S10.grown (grownBy_putObj' _ _ _) (fun r e => by injection e with e; subst e; exact ⟨_, hK', rfl⟩), K11.grown (grownBy_putObj' _ _ _) hnW (fun r e => by injection e with e; have := K3s; omega), hA9, hacc⟩⟩
    case stop =>
      rintro D c pre X hD hp ⟨rfl, h2, h4, ⟨a, n, c', h5⟩, h6⟩ hK
      gi_wp2
      have hqD : W.heap.size ≠ D := by have := Q3.lt; omega
      have hpD : L.Bp ≠ D := by have := S3.bp.lt; omega
      have d2 : Bk (X.putObj D (.deferred none)) W.heap.size 4 _ := (World.putObj_heap_other hqD).trans h6
      have e2 := d2.cell 0
      simp at e2
      refine ⟨by simp, .inl ⟨_, _, rfl, run_takeDeferred hK, ?_⟩⟩
      exact ⟨.bool true, by simp [results, Try.results82, go_sem, e2], .inr ⟨rfl, h2, h4.grown (grownBy_putObj' _ _ _) hnW (fun r e => by injection e with e; have := K3.bel.size; omega), a, n, c', (World.putObj_heap_other hpD).trans h5⟩⟩

end Go.Proofs.Ytkikjmkpndmdcaa
