/-
  What is proved: the contract of the search for a loop (the closure of loop that calls itself).
  What is proved: the contract of loop.
  What is proved: the contract of lightEvents; events in memory.
-/
import Derived.Test.YteihcodicfoiaaaGreatMw6
import Derived.RangeFuncNested
import Derived.RegionTactic
import Derived.Deep.DeepCutAuto
import Derived.OwnWalk
import Derived.Laws.EntriesVeiled
namespace Go.Proofs.YteihcodicfoiaaaGreat
open Go.RowKit Go.Shelf
attribute [local go_sem ↓] max_int min_int
attribute [local go_sem] Oper.semAt_some

theorem SkAt.con {L : SkLoc} {on dn : List Bool} {p : Nat} {v : Value} {W : World} (h : SkAt L on dn p v W) {i : Nat} (hi : i < L.N) : W.cell? ⟨L.gon, i, none⟩ = some (.bool (on.getD i false)) := by
  rw [h.ron.cell i]
  have := h.lon
  simp [boolCells, List.getD_eq_getElem?_getD, show i < on.length by omega]
theorem SkAt.cdn {L : SkLoc} {on dn : List Bool} {p : Nat} {v : Value} {W : World} (h : SkAt L on dn p v W) {i : Nat} (hi : i < L.N) : W.cell? ⟨L.gd, i, none⟩ = some (.bool (dn.getD i false)) := by
  rw [h.rdn.cell i]
  have := h.ldn
  simp [boolCells, List.getD_eq_getElem?_getD, show i < dn.length by omega]

theorem mvInfo : (Tryz.prog.info? 247).map (fun i => (i.zero, i.size, i.bytes)) = some (some (.agg #[.int .i64 0, .int .i64 0, .bool false]), 3, 24) := by kernel_rfl

theorem buildMv (W : World) (mo ms : Int) (mc : Bool) :
    (Instr.buildSlice 155 1 #[(0, .agg #[.int .i64 mo, .int .i64 ms, .bool mc])]).run Tryz.prog W = .ok (.slice (some ⟨W.heap.size, 0, none⟩) 1 1) (W.alloc (.cells #[.int .i64 mo, .int .i64 ms, .bool mc] 247)) := by kernel_rfl

/-- What is read behind the append of a move. -/
theorem seek_mid {L : SkLoc} {on dn : List Bool} {p : Nat} {v : Value} {W w6 : World} (h : SkAt L on dn p v W) (hg : W.grownBy w6 v.ownBlock) {k : Nat} (hk : k < L.N) {b : Bool} (hb : on.getD k false = b) :
    w6.cell? ⟨L.Bp, 0, none⟩ = some v ∧ w6.frozen? ⟨L.Bp, 0, none⟩ = false ∧ L.Bp < w6.heap.size ∧ w6.cell? ⟨L.Bo, 0, none⟩ = some (.slice (some ⟨L.gon, 0, none⟩) L.N L.N) ∧ w6.cell? ⟨L.gon, k, none⟩ = some (.bool b) ∧ w6.cell? ⟨L.Bs, 0, none⟩ = some (.func (.func 195) #[] L.caps) := by
  have key : ∀ {q : Nat} {t : TypeId} {cs : Array Value}, Bk W q t cs → t ≠ 247 → Bk w6 q t cs := fun hq ht => hq.grown hg (fun e => (h.dis hq).2.2 ht e.symm)
  have b1 := key h.bp (by decide)
  have b2 := key h.bo (by decide)
  have b3 := key h.ron (by decide)
  have b4 := key h.bs (by decide)
  refine ⟨by simpa using b1.cell 0, b1.fz 0, b1.lt, by simpa using b2.cell 0, ?_, by simpa using b4.cell 0⟩
  rw [b3.cell k, ← hb]
  have := h.lon
  simp [boolCells, List.getD_eq_getElem?_getD, show k < on.length by omega]

def SeekP (f : Flr) (L : SkLoc) (i : Nat) (on : List Bool) (p : Nat) (v : Value) (W : World) (e : Ending) (W' : World) : Prop :=
  (∃ dn' v', e = .returned (.bool false) ∧ SkAt L on dn' p v' W' ∧ SkKeep L W W' ∧ (∀ k, dn'.getD k false = true → AccS f k) ∧ AccS f i) ∨
  (e = .returned (.bool true) ∧ ¬ AccS f i ∧ SkKeep L W W' ∧ ∃ a n c, Bk W' L.Bp 155 #[.slice (some a) n c])

structure SeekIn (f : Flr) (L : SkLoc) (w0 : World) (i : Nat) (on dn : List Bool) (p : Nat) (v : Value) (W : World) : Prop where
  hi : i < L.N
  oi : on.getD i false = false
  at_ : SkAt L on dn p v W
  bel : Below L.n w0 W
  acc : ∀ k, dn.getD k false = true → AccS f k
  rch : ∀ k, on.getD k false = true → Rch f k i
  cnt : p + on.count false ≤ 2000

set_option maxRecDepth 100000 in
set_option maxHeartbeats 8000000 in
theorem seek_any (f : Flr) (z : FLoc) (L : SkLoc) (w0 : World) (hL : L.Ok) (hf : FlAt w0 L.b f z) (hok : f.Ok) (hN : L.N = f.R * f.S * f.S) (hw0 : w0.heap.size = L.n) :
    ∀ (m : Nat) (i : Nat) (on dn : List Bool) (p : Nat) (v : Value) (W : World), on.count false ≤ m → SeekIn f L w0 i on dn p v W →
      Calls Tryz.prog 195 (#[.int .i64 i] ++ L.caps) W (SeekP f L i on p v W) := by
  intro m
  induction m with
  | zero =>
    intro i on dn p v W hm h
    exfalso
    have := cnt_set on i (by have := h.at_.lon; have := h.hi; omega) (by rw [getD_dflt (by have := h.at_.lon; have := h.hi; omega) true false]; exact h.oi)
    omega
  | succ m ih =>
    intro i on dn p v W hm h
    rw [show #[Value.int .i64 i] ++ L.caps = #[.int .i64 i, .pointer (some ⟨L.Bo, 0, none⟩), .pointer (some ⟨L.Bf, 0, none⟩), .pointer (some ⟨L.Bd, 0, none⟩), .pointer (some ⟨L.Bp, 0, none⟩), .pointer (some ⟨L.Bs, 0, none⟩)] from rfl]
    have hilt : i < on.length := by have := h.at_.lon; have := h.hi; omega
    have hcs := cnt_set on i hilt (by rw [getD_dflt hilt true false]; exact h.oi)
    have hsb := set_back on i (by rw [getD_dflt hilt true false]; exact h.oi)
    have hiI : (i : Int) < L.N := by have := h.hi; omega
    have hN1 : L.N ≤ 256 := by rw [hN]; exact Nat.mul_le_mul (Nat.mul_le_mul hok.r1 hok.s1) hok.s1
    have S0 := h.at_
    obtain ⟨W1, hW1⟩ : ∃ W1, W.alloc (.cells #[.bool false] 4) = W1 := ⟨_, rfl⟩
    have S1 : SkAt L on dn p v W1 := by rw [← hW1]; exact S0.below ((Below.refl _ _).alloc (Nat.le_refl _) _)
    have hnW : L.n ≤ W.heap.size := by have := h.bel.size; omega
    have K1 : SkKeep L W W1 := by rw [← hW1]; exact .of_below ((Below.refl _ _).alloc (Nat.le_refl _) _) hnW
    have Q1 : Bk W1 W.heap.size 4 #[.bool false] := by rw [← hW1]; exact bk_last rfl
    have c0 := S1.bo.cell 0
    have c1 := S1.con h.hi
    have c2 := S1.ron.fz i
    have c3 := S1.ron.lt
    have HS1 := Lib.hid S1
    have d0 := S1.bf.cell 0
    have dne := S1.bf.ne S1.ron (by decide)
    simp at c0 d0
    have HW := Lib.hid hW1
    have hH := Lib.hid h
    have HSB := Lib.hid hsb
    have HN := Lib.hid hN
    have HW0 := Lib.hid hw0
    clear S0 S1 hW1 h hsb hN hw0
    refine (callsIn_wide (n := 3)).1 ?_
    refine callsIn_of_wp_marks Tryz.func195 rfl trivial ?_ rfl
    simp only [Tryz.ntmps195, List.size_toArray, List.length_cons, List.length_nil, Nat.reduceAdd, Nat.reduceSub, Array.replicate_succ, Array.replicate_zero, List.push_toArray, List.append_toArray, List.nil_append, List.cons_append]
    refine wpIn_wide.2 ?_
    go_upto_region 1 with fail
    rw [HW.out]
    clear HW
    go_upto_region 2 with fail
    have S2 := HS1.out.setOn hL i true
    have K2 : SkKeep L W (W1.setCell ⟨L.gon, i, none⟩ (.bool true)) := K1.trans (SkKeep.set hL _ (.inl rfl))
    have hqs : W.heap.size ≠ L.gon := fun e => by have := hH.out.at_.ron.lt; omega
    have Q2 := Q1.far (p := ⟨L.gon, i, none⟩) hqs (.bool true)
    clear c0 c1 c2 c3 d0 K1 HS1 Q1 dne
    generalize W1.setCell ⟨L.gon, i, none⟩ (.bool true) = W2 at *
    have d0 := S2.bf.cell 0
    simp at d0
    go_wp2_with (go_at_call 196; refine (steps_any L.b i _).mono ?_; rintro e w3 ⟨rfl, h65, h3, hb3⟩)
    have hS : Below L.n w0 w3 := by
      have h1 := hH.out.bel
      have h2 := K2.bel
      exact h1.trans (h2.trans (hb3.mono (by have := h2.size; omega)))
    have S3 := S2.below hb3
    have K3 : SkKeep L W w3 := K2.trans (.of_below hb3 (by have := K2.bel.size; omega))
    have Q3 := Q2.keep hb3
    have hz3 : W2.heap.size + 1 < w3.heap.size := h3.lt
    clear d0 S2 K2 Q2 hb3
    generalize W2.heap.size = q2 at *
    refine (wpIn_wide (n := 3)).1 ?_
    refine wpIn_rangeFunc_ownH rfl (by omega) (gf := 224) (lb := #[.pointer (some ⟨q2, 0, none⟩), .pointer (some ⟨q2 + 1, 0, none⟩)]) rfl trivial (enters_of Tryz.func224 (by kernel_rfl) rfl)
      (encs := stepEnc f i) (Kp := KpS L.n) (S := fun xs => xs = (stepsL f i).attach) (Sp := fun pre => pre <+: (stepsL f i).attach) (N := (stepsL f i).length) (w0 := w3)
      (steps1_stops (3 - 1) L.n L.b q2 (q2 + 1) f z i w0 w3 hf hok (by rw [← HN.out]; exact hH.out.hi) HW0.out hS h65 h3)
      (fun h k => h.trans k) ?Kb (Below.refl _ _) (fun _ => rfl)
      (fun pre W' => ∃ dn' v', SkAt L (on.set i true) dn' p v' W' ∧ SkKeep L W W' ∧ (∀ k, dn'.getD k false = true → AccS f k) ∧ (∀ x ∈ pre, ∀ k, x.1.2 = some k → AccS f k) ∧ Bk W' W.heap.size 4 #[.bool false])
      (fun c _ W' => c = .ret ∧ ¬ AccS f i ∧ SkKeep L W W' ∧ (∃ a n c, Bk W' L.Bp 155 #[.slice (some a) n c]) ∧ Bk W' W.heap.size 4 #[.bool true])
      ?I ?Ix ⟨dn, v, S3, K3, hH.out.acc, by simp, Q3⟩
      (fun x a' W' => ∃ Bx, Bk W' Bx 247 #[.int .i64 x.1.1.out, .int .i64 x.1.1.side, .bool x.1.1.cut] ∧ a' = { tmps := #[.int .i64 i, .pointer (some ⟨L.Bo, 0, none⟩), .pointer (some ⟨L.Bf, 0, none⟩), .pointer (some ⟨L.Bd, 0, none⟩), .pointer (some ⟨L.Bp, 0, none⟩), .pointer (some ⟨L.Bs, 0, none⟩), undef, .pointer (some ⟨W.heap.size, 0, none⟩), .pointer (some ⟨Bx, 0, none⟩), .int .i64 (nextV x.1.2), .slice (some ⟨L.gon, 0, none⟩) L.N L.N, .int .i64 i, .pointer (some ⟨L.gon, i, none⟩), .pointer (some ⟨L.b, 0, none⟩), .int .i64 i, .func (.func 224) #[] #[.pointer (some ⟨q2, 0, none⟩), .pointer (some ⟨q2 + 1, 0, none⟩)], .agg #[.int .i64 x.1.1.out, .int .i64 x.1.1.side, .bool x.1.1.cut], .int .i64 (nextV x.1.2), undef, undef, undef, undef, undef, undef, undef, undef, undef, undef, undef, undef, undef, undef, undef, undef, undef, undef, undef, undef, undef, undef, undef, undef, undef, undef, undef, undef, undef, undef, undef, undef], defers := [] })
      ?Ax ?assign ?body ?done ?stop
    case Kb =>
      intro X l o o' hl hX hc _
      refine ⟨belowK_b (by have := hS.size; have := HW0.out; omega) X l o o' hl hX hc ‹_›, fun k cs t r _ hk => ?_⟩
      by_cases e : k = l
      · subst e
        rw [hk] at hX
        cases hX
        cases hc
      · exact (World.putObj_heap_other e).trans hk
    case I =>
      rintro pre X X' row ⟨dn', v', h1, h2, h5, h6, h7⟩ hg hr
      refine ⟨dn', v', h1.grown hg (fun r e => (hr r e).2), h2.grown hg hnW (fun r e => by have := (hr r e).1; have := K3.bel.size; omega), h5, h6, h7.grown hg (fun e => ?_)⟩
      have := (hr _ e.symm).1
      have := Q3.lt
      omega
    case Ix =>
      rintro c pre X X' row ⟨h1, h2, h4, ⟨a, n, c', h5⟩, h6⟩ hg hr
      refine ⟨h1, h2, h4.grown hg hnW (fun r e => by have := (hr r e).1; have := K3.bel.size; omega), ⟨a, n, c', h5.grown hg (fun e => ?_)⟩, h6.grown hg (fun e => ?_)⟩
      · have := (hr _ e.symm).1
        have := S3.bp.lt
        omega
      · have := (hr _ e.symm).1
        have := Q3.lt
        omega
    case Ax =>
      rintro x a' _ X X' row ⟨Bx, hb, h⟩ hg hr
      refine ⟨Bx, hb.grown hg (fun e => ?_), h⟩
      obtain ⟨_, o, ho, hc⟩ := hr _ e.symm
      unfold Bk at hb
      rw [hb] at ho
      cases ho
      cases hc
    case assign =>
      rintro l pre x X K ⟨dn', v', h1, h2, h5, h6, h7⟩ hK
      unfold stepEnc
      gi_wp2
      have hba : Below X.heap.size X (X.alloc (.cells #[.int .i64 x.1.1.out, .int .i64 x.1.1.side, .bool x.1.1.cut] 247)) := (Below.refl _ _).alloc (Nat.le_refl _) _
      have hks : SkKeep L X (X.alloc (.cells #[.int .i64 x.1.1.out, .int .i64 x.1.1.side, .bool x.1.1.cut] 247)) := .of_below hba (by have := h2.bel.size; omega)
      exact hK _ _ ((hks.others h1).from _) (hks.kps h1) ⟨dn', v', h1.below hba, h2.trans hks, h5, h6, h7.keep hba⟩ ⟨X.heap.size, bk_last rfl, rfl⟩
    case body =>
      rintro l pre ⟨⟨m', o⟩, hx⟩ a' X hlz hrec ⟨dn', v', h1, h2, h5, h6, h7⟩ ⟨Bx, bX, rfl⟩ hlt
      clear hrec h65 h3 S3 K3
      have hnX : L.n ≤ X.heap.size := by have := h2.bel.size; omega
      obtain ⟨mo, ms, mc⟩ := m'
      simp only at bX h6 ⊢
      cases o with
      | none =>
        unfold nextV
        gi_wp2
        exact ⟨KeepsFrom.refl _ _, ⟨Below.refl _ _, fun _ _ _ _ _ h => h⟩, dn', v', h1, h2, h5, (fun x hx' k hk => by
          rcases List.mem_append.1 hx' with h | h
          · exact h6 x h k hk
          · rw [List.mem_singleton.1 h] at hk; cases hk), h7⟩
      | some k =>
        have hst : stepR f i k := ⟨_, hx⟩
        have hkN : k < L.N := by rw [HN.out]; exact step_lt hok (by rw [← HN.out]; exact hH.out.hi) hst
        have hkI : (k : Int) < L.N := by omega
        have hk1 : ((k : Int) == -1) = false := by simp
        unfold nextV
        simp only
        have c0 := h1.bd.cell 0
        have c1 := h1.cdn hkN
        simp at c0
        have HI := Lib.hid (And.intro h5 h6)
        have HX := Lib.hid (show ∀ x ∈ pre ++ [(⟨(⟨mo, ms, mc⟩, some k), hx⟩ : StepOf f i)], AccS f k → ∀ j, x.1.2 = some j → AccS f j from fun x hx' ha j hj => by
          rcases List.mem_append.1 hx' with h | h
          · exact h6 x h j hj
          · rw [List.mem_singleton.1 h] at hj; injection hj with hj; subst hj; exact ha)
        clear h5 h6
        cases hd : dn'.getD k false
        · rw [hd] at c1
          clear hd
          have e0 := h1.bp.cell 0
          simp at e0
          have bx0 := bX.cell 0
          have bx1 := bX.cell 1
          have bx2 := bX.cell 2
          simp at bx0 bx1 bx2
          have BM := buildMv X mo ms mc
          obtain ⟨xs', hxs⟩ := h1.own
          obtain ⟨i0, hi0, hz0, hz1, hz2⟩ := info_parts mvInfo
          have hpb : p + 1 ≤ 2001 := by have := hH.out.cnt; omega
          have HXS := Lib.hid hxs
          have H1 := Lib.hid h1
          have E : Hid (∀ j u, [Value.int .i64 mo, .int .i64 ms, .bool mc][j]? = some u → (X.alloc (.cells #[.int .i64 mo, .int .i64 ms, .bool mc] 247)).cell? ((⟨X.heap.size, 0, none⟩ : Addr).add j) = some u) := three_at X _ _ _ 247 _ rfl
          have hne1 : L.Bo ≠ L.Bp := h1.bo.ne h1.bp (by decide)
          have hne2 : L.gon ≠ L.Bp := h1.ron.ne h1.bp (by decide)
          have hne3 : L.Bs ≠ L.Bp := h1.bs.ne h1.bp (by decide)
          have hne4 : W.heap.size ≠ L.Bp := by have := hH.out.at_.bp.lt; omega
          have hne5 : W.heap.size ≠ L.gon ∧ W.heap.size ≠ L.gd := ⟨hqs, by have := hH.out.at_.rdn.lt; omega⟩
          have hq7 : W.heap.size < X.heap.size := h7.lt
          have H7 := Lib.hid h7
          have hxb : Below X.heap.size X (X.alloc (.cells #[.int .i64 mo, .int .i64 ms, .bool mc] 247)) := (Below.refl _ _).alloc (Nat.le_refl _) _
          have HXB := Lib.hid hxb
          clear h1 h7 hxb
          cases ho : (on.set i true).getD k false
          · have HO := Lib.hid ho
            clear ho
            gi_wp2_with (gi_at_builtin; refine wpListIn_append_own _ rfl _ _ 155 rfl L.n 247 i0 _ 3 24 Tryz.underlying155 hi0 hz0 hz1 hz2 rfl (by decide) _ _ _ rfl (HXS.out.alloc _) ⟨X.heap.size, 0, none⟩ 1 1 [.int .i64 mo, .int .i64 ms, .bool mc] rfl rfl E.out (by simp [Value.oneCell']) (by unfold maxLen; omega) (by omega) (by simp; omega) ?_; intro v6 w6 hown6 hg6 _; obtain ⟨g6, c6, rfl, _, _⟩ := own_row hown6 (by omega); obtain ⟨r0, r1, r2, r3, r4, r5⟩ := seek_mid (H1.out.below HXB.out) hg6 hkN HO.out; have HOWN := Lib.hid hown6; have HG6 := Lib.hid hg6; clear hown6 hg6)
            have S6 := (H1.out.below HXB.out).row HG6.out ⟨_, HOWN.out⟩
            have K6 : SkKeep L X (w6.setCell ⟨L.Bp, 0, none⟩ (.slice (some ⟨g6, 0, none⟩) (p + 1) c6)) := (SkKeep.of_below HXB.out hnX).trans ((SkKeep.row (H1.out.below HXB.out) (by simp; omega) HG6.out).trans (SkKeep.set hL _ (.inr (.inr rfl))))
            have Q6 := K6.bk H7.out hne5.1 hne5.2 hne4 (by decide)
            have hrc : ∀ j, (on.set i true).getD j false = true → Rch f j k := fun j hj => by
              by_cases e : i = j
              · subst e; exact .one hst
              · rw [getD_set_ne _ _ e] at hj
                exact (hH.out.rch j hj).snoc hst
            have hin : SeekIn f L w0 k (on.set i true) dn' (p + 1) _ _ := ⟨hkN, HO.out, S6, hH.out.bel.trans (h2.trans K6).bel, HI.out.1, hrc, by have := hH.out.cnt; omega⟩
            have HIH := Lib.hid (ih k (on.set i true) dn' (p + 1) _ _ (by omega) hin)
            clear hin hrc r0 r1 r2 r3 r4 r5 HOWN HG6 e0 bx0 bx1 bx2 BM c0 c1 ih
            generalize w6.setCell ⟨L.Bp, 0, none⟩ (.slice (some ⟨g6, 0, none⟩) (p + 1) c6) = W6 at *
            refine ⟨trivial, (CallsIn.inRound l (callsIn_wide.2 HIH.out)).mono ?_⟩
            clear HIH
            rintro e W8 (⟨dn8, v8, rfl, S8, K8, A8, ak⟩ | ⟨rfl, na, K8, ax, nx, cx, b8⟩)
            · obtain ⟨xs8, ho8⟩ := S8.own
              obtain ⟨g8, c8, rfl, _, _⟩ := own_row ho8 (by omega)
              have hcap := (own_cap ho8).1
              have hcapI : ((p : Int)) ≤ c8 := by omega
              have S9 := S8.setP ⟨_, own_init ho8⟩
              have KK : SkKeep L X (W8.setCell ⟨L.Bp, 0, none⟩ (.slice (some ⟨g8, 0, none⟩) p c8)) := K6.trans (K8.trans (SkKeep.set hL _ (.inr (.inr rfl))))
              have r0 := S8.bp.cell 0
              have r1 := S8.bp.fz 0
              have r2 := S8.bp.lt
              simp at r0
              have Q9 := KK.bk H7.out hne5.1 hne5.2 hne4 (by decide)
              have HS9 := Lib.hid S9
              clear S9 S8 S6 K6 Q6 K8 ho8
              gi_wp2
              exact ⟨(KK.others H1.out).from _, KK.kps H1.out, dn8, _, HS9.out, h2.trans KK, A8, fun x hx' j hj => HX.out x hx' ak j hj, Q9⟩
            · have KK := K6.trans K8
              have Q9 := KK.bk H7.out hne5.1 hne5.2 hne4 (by decide)
              have r0 := Q9.cell 0
              have r1 := Q9.fz 0
              have r2 := Q9.lt
              simp at r0
              have B9 := b8.far (p := ⟨W.heap.size, 0, none⟩) hne4.symm (.bool true)
              have Q10 := Q9.put 0 (.bool true)
              clear S6 K6 Q6 K8 b8 Q9
              gi_wp2
              exact ⟨((KK.others H1.out).trans (KeepsOthers.setCell _ _ _)).from _, rfl, fun h => na (h.step hst), (h2.trans KK).grown (grownBy_setCell' _ _ _) hnW (fun r e => by injection e with e; omega), ⟨_, _, _, B9⟩, Q10⟩
          · have HO := Lib.hid ho
            clear ho
            gi_wp2_with (gi_at_builtin; refine wpListIn_append_own _ rfl _ _ 155 rfl L.n 247 i0 _ 3 24 Tryz.underlying155 hi0 hz0 hz1 hz2 rfl (by decide) _ _ _ rfl (HXS.out.alloc _) ⟨X.heap.size, 0, none⟩ 1 1 [.int .i64 mo, .int .i64 ms, .bool mc] rfl rfl E.out (by simp [Value.oneCell']) (by unfold maxLen; omega) (by omega) (by simp; omega) ?_; intro v6 w6 hown6 hg6 _; obtain ⟨g6, c6, rfl, _, _⟩ := own_row hown6 (by omega); obtain ⟨r0, r1, r2, r3, r4, r5⟩ := seek_mid (H1.out.below HXB.out) hg6 hkN HO.out; have HOWN := Lib.hid hown6; have HG6 := Lib.hid hg6; clear hown6 hg6; have r6 := (((H7.out.alloc (.cells #[.int .i64 mo, .int .i64 ms, .bool mc] 247)).grown HG6.out (fun e => ((H1.out.below HXB.out).dis (H7.out.alloc _)).2.2 (by decide) e.symm)).cell 0); have r7 := (((H7.out.alloc (.cells #[.int .i64 mo, .int .i64 ms, .bool mc] 247)).grown HG6.out (fun e => ((H1.out.below HXB.out).dis (H7.out.alloc _)).2.2 (by decide) e.symm)).fz 0); have r8 := (((H7.out.alloc (.cells #[.int .i64 mo, .int .i64 ms, .bool mc] 247)).grown HG6.out (fun e => ((H1.out.below HXB.out).dis (H7.out.alloc _)).2.2 (by decide) e.symm)).lt); simp at r6)
            have S6 := (H1.out.below HXB.out).row HG6.out ⟨_, HOWN.out⟩
            have K6 : SkKeep L X (w6.setCell ⟨L.Bp, 0, none⟩ (.slice (some ⟨g6, 0, none⟩) (p + 1) c6)) := (SkKeep.of_below HXB.out hnX).trans ((SkKeep.row (H1.out.below HXB.out) (by simp; omega) HG6.out).trans (SkKeep.set hL _ (.inr (.inr rfl))))
            have Q6 := K6.bk H7.out hne5.1 hne5.2 hne4 (by decide)
            have B9 := S6.bp.far (p := ⟨W.heap.size, 0, none⟩) hne4.symm (.bool true)
            have Q10 := Q6.put 0 (.bool true)
            have hri : Rch f k i := by
              by_cases e : i = k
              · subst e; exact .one hst
              · have := HO.out
                rw [getD_set_ne _ _ e] at this
                exact hH.out.rch k this
            refine ⟨(fun f e => by cases e), ?_⟩
            have HS6 := Lib.hid S6
            have HK6 := Lib.hid K6
            clear S6 K6 Q6
            gi_wp2
            have K6 := HK6.out
            exact ⟨((K6.others H1.out).trans (KeepsOthers.setCell _ _ _)).from _, rfl, fun h => (h.step hst).irr (hri.snoc hst), (h2.trans K6).grown (grownBy_setCell' _ _ _) hnW (fun r e => by injection e with e; omega), ⟨_, _, _, B9⟩, Q10⟩
        · rw [hd] at c1
          have ha : AccS f k := HI.out.1 k hd
          clear hd
          gi_wp2
          exact ⟨KeepsFrom.refl _ _, ⟨Below.refl _ _, fun _ _ _ _ _ h => h⟩, dn', v', h1, h2, HI.out.1, (fun x hx' j hj => HX.out x hx' ha j hj), h7⟩
    case done =>
      rintro D xs X hD rfl ⟨dn', v', h1, h2, h5, h6, h7⟩ hK
      have hacc : AccS f i := .mk (fun k ⟨m, hm⟩ => h6 ⟨(m, some k), hm⟩ (List.mem_attach _ _) k rfl)
      have K3s := K3.bel.size
      clear h65 h3 S3 K3 ih h6
      have x0 := h1.bo.cell 0
      have x1 := h1.bd.cell 0
      have x2 := h1.con hH.out.hi
      have x3 := h1.cdn hH.out.hi
      have x4 := h1.ron.fz i
      have x5 := h1.rdn.fz i
      have x6 := h1.ron.lt
      have x7 := h1.rdn.lt
      have y0 := h7.cell 0
      have y1 := h7.fz 0
      have y2 := h7.lt
      simp at x0 x1 y0
      have hne := hL.ne
      have hne' := hL.ne.symm
      have z1 : L.Bd ≠ L.gon := h1.bd.ne h1.ron (by decide)
      have z2 : L.Bo ≠ L.gd := h1.bo.ne h1.rdn (by decide)
      have z3 : L.Bd ≠ L.gd := h1.bd.ne h1.rdn (by decide)
      have z4 : L.Bo ≠ L.gon := h1.bo.ne h1.ron (by decide)
      have hqd : W.heap.size ≠ L.gd := by have := hH.out.at_.rdn.lt; omega
      have HX := Lib.hid (And.intro h1 (And.intro h2 (And.intro h5 (And.intro h7 hK))))
      clear h1 h2 h5 h7 hK
      gi_wp2
      go_wp2_with fail
      go_region
      obtain ⟨h1, h2, h5, h7, hK⟩ := HX.out
      have S9 := ((h1.setOn hL i false).setDn hL i true).drew
      rw [HSB.out] at S9
      have K9 : SkKeep L X ((X.setCell ⟨L.gon, i, none⟩ (.bool false)).setCell ⟨L.gd, i, none⟩ (.bool true)).drew :=
        ((SkKeep.set hL (p := ⟨L.gon, i, none⟩) _ (.inl rfl)).trans (SkKeep.set hL (p := ⟨L.gd, i, none⟩) _ (.inr (.inl rfl)))).trans (.of_below ⟨rfl, rfl, rfl, Nat.le_refl _, fun _ _ => rfl⟩ (by have := h2.bel.size; simp; omega))
      have K10 := h2.trans K9
      have hK9 := (K9.others h1).same _ _ hK rfl
      have hA9 : ∀ k, (dn'.set i true).getD k false = true → AccS f k := fun k hk => by
        by_cases e : i = k
        · subst e; exact hacc
        · rw [getD_set_ne _ _ e] at hk; exact h5 k hk
      have Q9 := K9.bk h7 hqs hqd (by have := hH.out.at_.bp.lt; omega) (by decide)
      have hqP : W.heap.size ≠ L.Bp := by have := hH.out.at_.bp.lt; omega
      have hlo : L.Bf < W.heap.size ∧ L.Bd < W.heap.size ∧ L.Bo < W.heap.size ∧ L.Bs < W.heap.size := ⟨hH.out.at_.bf.lt, hH.out.at_.bd.lt, hH.out.at_.bo.lt, hH.out.at_.bs.lt⟩
      have hdis := (S9.dis Q9).2.2 (by decide)
      clear h1 h2 h5 h7 hK K9 x0 x1 x2 x3 x4 x5 x6 x7 y0 y1 y2 HX
      generalize ((X.setCell ⟨L.gon, i, none⟩ (.bool false)).setCell ⟨L.gd, i, none⟩ (.bool true)).drew = Y at *
      have y0 := Q9.cell 0
      have y1 := Q9.fz 0
      have y2 := Q9.lt
      simp at y0
      have hDq : D ≠ W.heap.size := by have := Q3.lt; omega
      have HS := Lib.hid (And.intro S9 (And.intro K10 (And.intro hK9 Q9)))
      clear S9 K10 hK9 Q9
      go_wp2_with fail
      obtain ⟨S9, K10, hK9, Q9⟩ := HS.out
      have S10 := S9.far (q := ⟨W.heap.size, 0, none⟩) (.bool false) ⟨Nat.ne_of_gt hlo.1, Nat.ne_of_gt hlo.2.1, Nat.ne_of_gt hlo.2.2.1, Nat.ne_of_gt hlo.2.2.2, hqs, hqd, hqP, hdis⟩
      have Q10 := Q9.put 0 (.bool false)
      have K11 := K10.grown (grownBy_setCell' Y W.heap.size (.bool false)) hnW (fun r e => by injection e with e; omega)
      have hK' : (Y.setCell ⟨W.heap.size, 0, none⟩ (.bool false)).heap[D]? = some (.deferred (some [])) := (Below.heap_setCell _ ⟨W.heap.size, 0, none⟩ _ _ hDq).trans hK9
      generalize Y.setCell ⟨W.heap.size, 0, none⟩ (.bool false) = F at *
      have d2 : Bk (F.putObj D (.deferred none)) W.heap.size 4 _ := (World.putObj_heap_other hDq.symm).trans Q10
      have e2 := d2.cell 0
      simp at e2
      refine ⟨by simp, .inl ⟨_, _, rfl, run_takeDeferred hK', ?_⟩⟩
      exact ⟨.bool false, by simp [results, Tryz.results195, go_sem, e2], .inl ⟨_, v', rfl, S10.grown (grownBy_putObj' _ _ _) (fun r e => by injection e with e; subst e; exact ⟨_, hK', rfl⟩), K11.grown (grownBy_putObj' _ _ _) hnW (fun r e => by injection e with e; have := K3s; omega), hA9, hacc⟩⟩
    case stop =>
      rintro D c pre X hD hp ⟨rfl, h2, h4, ⟨a, n, c', h5⟩, h6⟩ hK
      gi_wp2
      have hqD : W.heap.size ≠ D := by have := Q3.lt; omega
      have hpD : L.Bp ≠ D := by have := S3.bp.lt; omega
      have d2 : Bk (X.putObj D (.deferred none)) W.heap.size 4 _ := (World.putObj_heap_other hqD).trans h6
      have e2 := d2.cell 0
      simp at e2
      refine ⟨by simp, .inl ⟨_, _, rfl, run_takeDeferred hK, ?_⟩⟩
      exact ⟨.bool true, by simp [results, Tryz.results195, go_sem, e2], .inr ⟨rfl, h2, h4.grown (grownBy_putObj' _ _ _) hnW (fun r e => by injection e with e; have := K3.bel.size; omega), a, n, c', (World.putObj_heap_other hpD).trans h5⟩⟩

end Go.Proofs.YteihcodicfoiaaaGreat
namespace Go.Proofs.YteihcodicfoiaaaGreat
open Go.RowKit Go.Shelf
attribute [local go_sem ↓] max_int min_int

theorem boolInfo : (Tryz.prog.info? 4).map (fun i => (i.zero, i.size, i.bytes)) = some (some (.bool false), 1, 1) := by kernel_rfl
theorem made_bools (s : Nat) : (madeCells (Value.bool false).cells (s * 1)).toList = boolCells (List.replicate s false) := by
  rw [Nat.mul_one]
  show (madeCells #[Value.bool false] s).toList = _
  rw [toList_madeCells_one]
  simp [boolCells]
theorem own_full {w : World} {base g n : Nat} {e : TypeId} {xs : List Value} (h : w.ownsRow base e 1 (.slice (some ⟨g, 0, none⟩) n n) n xs) : Bk w g e xs.toArray := by
  rcases h.2 with ⟨h1, _⟩ | ⟨g', cap', cur, h1, hb, hg, hc, hm, hs, ht⟩
  · cases h1
  · simp only [Value.slice.injEq, Option.some.injEq, Addr.mk.injEq, and_true, true_and] at h1
    obtain ⟨rfl, rfl⟩ := h1
    have : cur = xs.toArray := by
      rw [← ht, List.take_of_length_le (by simp [hs])]
    rw [← this]
    exact hg

def LoopP (f : Flr) (n gd i : Nat) (w : World) (e : Ending) (w' : World) : Prop :=
  Below n w w' ∧ KeepsOthers w w' ∧ KpS n w w' ∧ (∀ (q : Nat) (t : TypeId) (cs : Array Value), Bk w q t cs → q ≠ gd → t ≠ 247 → Bk w' q t cs) ∧
  ((AccS f i ∧ e = .returned (.slice none 0 0) ∧ ∃ dn', dn'.length = f.R * f.S * f.S ∧ Bk w' gd 4 (boolCells dn').toArray ∧ ∀ k, dn'.getD k false = true → AccS f k) ∨ (¬ AccS f i ∧ ∃ a k c, e = .returned (.slice (some a) k c)))

set_option maxRecDepth 100000 in
set_option maxHeartbeats 8000000 in
theorem loop_any (f : Flr) (z : FLoc) (b n gd N i : Nat) (dn : List Bool) (w0 w : World) (hf : FlAt w0 b f z) (hok : f.Ok) (hN : N = f.R * f.S * f.S) (hw0 : w0.heap.size = n) (hB : Below n w0 w) (hgd : n ≤ gd)
    (D : Bk w gd 4 (boolCells dn).toArray) (hdl : dn.length = N) (hacc : ∀ k, dn.getD k false = true → AccS f k) (hi : i < N) :
    Calls Tryz.prog 150 #[.pointer (some ⟨b, 0, none⟩), .int .i64 i, .slice (some ⟨gd, 0, none⟩) N N] w (LoopP f n gd i w) := by
  have hnw : n ≤ w.heap.size := by have := hB.size; omega
  have HST := Lib.hid (fun (X : World) (h : Below n w0 X) => states_any b f z X (hf.below (by rw [hw0]; exact h)) hok)
  rw [← hN] at HST
  have hNb : N ≤ 256 := by rw [hN]; exact Nat.mul_le_mul (Nat.mul_le_mul hok.r1 hok.s1) hok.s1
  obtain ⟨W, hW⟩ : ∃ W, (w.alloc (.cells #[.pointer (some ⟨b, 0, none⟩)] 173)).alloc (.cells #[.slice (some ⟨gd, 0, none⟩) N N] 266) = W := ⟨_, rfl⟩
  have hbW : Below w.heap.size w W := by rw [← hW]; exact ((Below.refl _ _).alloc (Nat.le_refl _) _).alloc (by simp) _
  have X0 : Bk W w.heap.size 173 #[.pointer (some ⟨b, 0, none⟩)] := by rw [← hW]; exact (bk_last rfl).alloc _
  have X1 : Bk W (w.heap.size + 1) 266 #[.slice (some ⟨gd, 0, none⟩) N N] := by rw [← hW]; exact bk_last (by simp)
  have x0 := X0.cell 0
  simp at x0
  have HW := Lib.hid hW
  have HN := Lib.hid hN
  have HW0 := Lib.hid hw0
  have HACC := Lib.hid hacc
  clear hW hN hw0
  obtain ⟨j0, hj0, jz0, jz1, jz2⟩ := info_parts boolInfo
  have bb2 : j0.bytes * N ≤ 281474976710656 := by rw [jz2]; omega
  have bb3 : N ≤ maxLen := by unfold maxLen; omega
  go_enter Tryz.func150, Tryz.ntmps150
  go_upto_region 1 with fail
  rw [HW.out]
  clear HW
  go_upto_region 5 with (first | (go_at_call 122; refine (HST.out W (hB.trans (hbW.mono hnw))).mono ?_; rintro e w1 ⟨rfl, hb1⟩) | (at_make; refine (wpList_make_full _ rfl _ _ 266 rfl w1.heap.size 4 j0 _ 1 Tryz.underlying266 hj0 jz0 jz1 .i64 .i64 _ _ N rfl rfl rfl rfl bb2 bb3 (Nat.le_refl _) ?_); intro w2 hown hgr))
  rw [made_bools] at hown
  have R2 := own_full hown
  have hb1w := hbW.trans (hb1.mono hbW.size)
  have hb2 : Below w1.heap.size w1 w2 := ⟨hgr.os, hgr.tape, hgr.output, hgr.size, fun k hk => hgr.block k hk (by simp)⟩
  have hb2w := hb1w.trans (hb2.mono hb1w.size)
  have hz1 := hb1w.size
  have hz0 := hbW.size
  have hgl := R2.lt
  have hWs : w.heap.size + 1 < W.heap.size := X1.lt
  have hW1 := hb1.size
  obtain ⟨gon, hgon⟩ : ∃ g, w1.heap.size = g := ⟨_, rfl⟩
  obtain ⟨q, hq⟩ : ∃ q, w.heap.size = q := ⟨_, rfl⟩
  obtain ⟨Bo, hBo⟩ : ∃ q, w2.heap.size = q := ⟨_, rfl⟩
  have Z0 := (X0.keep hb1).keep hb2
  have Z1 := (X1.keep hb1).keep hb2
  have Dw := D.keep hb2w
  have hgdl := D.lt
  rw [hgon] at R2 hz1 hgl hW1
  rw [hq] at Z0 Z1 hz1 hz0 hWs hnw hgdl
  rw [hBo] at hgl
  rw [hgon, hq, hBo]
  obtain ⟨L, hL⟩ : ∃ L : SkLoc, L = ⟨N, n, b, q, q + 1, Bo, Bo + 1, Bo + 1 + 1, gon, gd⟩ := ⟨_, rfl⟩
  have hfun : (Value.func (Fn.func 195) #[] #[.pointer (some ⟨Bo, 0, none⟩), .pointer (some ⟨q, 0, none⟩), .pointer (some ⟨q + 1, 0, none⟩), .pointer (some ⟨Bo + 1, 0, none⟩), .pointer (some ⟨Bo + 1 + 1, 0, none⟩)]) = .func (.func 195) #[] L.caps := by rw [hL]; rfl
  rw [hfun]
  obtain ⟨W5, hW5⟩ : ∃ W5, ((w2.alloc (.cells #[.slice (some ⟨gon, 0, none⟩) N N] 266)).alloc (.cells #[.slice none 0 0] 155)).alloc (.cells #[.func (.func 195) #[] L.caps] 229) = W5 := ⟨_, rfl⟩
  rw [hW5]
  have hb5 : Below w2.heap.size w2 W5 := by rw [← hW5]; exact (((Below.refl _ _).alloc (Nat.le_refl _) _).alloc (by simp) _).alloc (by simp; omega) _
  have hbw5 := hb2w.trans (hb5.mono hb2w.size)
  have S5 : SkAt L (List.replicate N false) dn 0 (.slice none 0 0) W5 := by
    rw [hL]
    refine ⟨Z0.keep hb5, Z1.keep hb5, ?_, ?_, R2.keep hb5, Dw.keep hb5, ?_, ⟨[], World.ownsRow_nil _ _ _ _⟩, by simp, hdl⟩
    · rw [← hW5]; exact ((bk_last hBo).alloc _).alloc _
    · rw [← hL, ← hW5]; exact bk_last (by simp [hL, hBo])
    · rw [← hW5]; exact (bk_last (by simp [hBo])).alloc _
  have hLok : L.Ok := by rw [hL]; exact ⟨by simp only; omega, hgd, by simp only; omega, by simp only; omega⟩
  have hLN : L.N = N := by rw [hL]
  have hLn : L.n = n := by rw [hL]
  have hLgd : L.gd = gd := by rw [hL]
  have hLBp : L.Bp = Bo + 1 := by rw [hL]
  have hLb : L.b = b := by rw [hL]
  have hLgon : L.gon = gon := by rw [hL]
  have hLc : L.caps = #[.pointer (some ⟨Bo, 0, none⟩), .pointer (some ⟨q, 0, none⟩), .pointer (some ⟨q + 1, 0, none⟩), .pointer (some ⟨Bo + 1, 0, none⟩), .pointer (some ⟨Bo + 1 + 1, 0, none⟩)] := by rw [hL]; rfl
  have y0 := S5.bd.cell 0
  have y1 := S5.cdn (i := i) (by rw [hLN]; exact hi)
  have y2 := S5.bs.cell 0
  have hBd : L.Bd = q + 1 := by rw [hL]
  have hBs : L.Bs = Bo + 1 + 1 := by rw [hL]
  rw [hBd, hLgd, hLN] at y0
  rw [hLgd] at y1
  rw [hBs] at y2
  simp at y0 y2
  have hcnt : (List.replicate N false).count false = N := by simp
  have hin : SeekIn f L w0 i (List.replicate N false) dn 0 (.slice none 0 0) W5 := ⟨by rw [hLN]; exact hi, by simp [List.getD_eq_getElem?_getD, hi], S5, by rw [hLn]; exact hB.trans (hbw5.mono (by omega)), hacc, fun k hk => by
    rw [List.getD_eq_getElem?_getD, List.getElem?_replicate] at hk
    split at hk <;> simp at hk, by rw [hcnt]; omega⟩
  have HSK := Lib.hid (seek_any f z L w0 hLok (by rw [hLb]; exact hf) hok (by rw [hLN]; exact HN.out) (by rw [hLn]; exact HW0.out) N i (List.replicate N false) dn 0 (.slice none 0 0) W5 (by rw [hcnt]; exact Nat.le_refl _) hin)
  have HS5 := Lib.hid S5
  have HBW := Lib.hid hbw5
  have hLN2 : L.N = N := hLN
  have HL := Lib.hid (And.intro hLn (And.intro hLgd (And.intro hLBp (And.intro hLgon hq))))
  have hiI : (i : Int) < N := by omega
  clear hcnt hin S5 hbw5 hb5 hW5 hfun hL hLN hLn hLgd hLBp hLb hLgon hLc hBd hBs Z0 Z1 Dw D R2 hb1 hb2 hb1w hb2w hown hgr hgon hBo x0 X0 X1 hbW HST HW0
  have hqw := HL.out.2.2.2.2
  have hP : ∀ W8, SkKeep L W5 W8 → Below n w W8 ∧ KeepsOthers w W8 ∧ KpS n w W8 ∧ (∀ (q : Nat) (t : TypeId) (cs : Array Value), Bk w q t cs → q ≠ gd → t ≠ 247 → Bk W8 q t cs) := fun W8 K8 => by
    obtain ⟨hLn, hLgd, hLBp, hLgon, _⟩ := HL.out
    refine ⟨(HBW.out.mono (by omega)).trans (by have := K8.bel; rwa [hLn] at this), ⟨Nat.le_trans HBW.out.size K8.bel.size, fun k o hk ho => (K8.others HS5.out).same k o ((HBW.out.block k (Array.getElem?_eq_some_iff.1 hk).1).trans hk) ho⟩, ?_, fun r t cs hr h1 h2 => ?_⟩
    · have hk1 := K8.kps HS5.out
      rw [hLn] at hk1
      exact KpS.trans ⟨HBW.out.mono (by omega), fun k cs t r _ hk => (HBW.out.block k (Array.getElem?_eq_some_iff.1 hk).1).trans hk⟩ hk1
    have := hr.lt
    exact K8.bk (hr.keep HBW.out) (by omega) (by omega) (by omega) h2
  have HP := Lib.hid hP
  clear hP hqw
  have HDI := Lib.hid (fun h => hacc i h)
  have HLN2 := Lib.hid hLN2
  clear hacc hLN2
  cases hdi : dn.getD i false
  case' true =>
    rw [hdi] at y1
    have ak := HDI.out hdi
    have D5 := HS5.out.rdn
    have hl5 := HS5.out.ldn
    have hgd5 := HL.out.2.1
    have HEND := Lib.hid (And.intro ak (And.intro D5 (And.intro hl5 hgd5)))
    clear hdi ak D5 hl5 hgd5 HSK
    go_wp2_with fail
    go_ret
    obtain ⟨h1, h2, h4, h3⟩ := HP.out _ (SkKeep.refl L W5)
    obtain ⟨ak, D5, hl5, hgd5⟩ := HEND.out
    rw [hgd5] at D5
    exact ⟨h1, h2, h4, h3, .inl ⟨ak, rfl, dn, by rw [hl5, HLN2.out, HN.out], D5, HACC.out⟩⟩
  rw [hdi] at y1
  clear hdi
  go_wp2_with fail
  refine (HSK.out).mono ?_
  clear HSK
  rintro e W8 (⟨dn8, v8, rfl, S8, K8, A8, ak⟩ | ⟨rfl, na, K8, ax, nx, cx, b8⟩)
  · go_wp2_with fail
    go_ret
    obtain ⟨h1, h2, h4, h3⟩ := HP.out _ K8
    have D8 := S8.rdn
    rw [HL.out.2.1] at D8
    exact ⟨h1, h2, h4, h3, .inl ⟨ak, rfl, dn8, by rw [S8.ldn, HLN2.out, HN.out], D8, A8⟩⟩
  · rw [HL.out.2.2.1] at b8
    have z0 := b8.cell 0
    simp at z0
    go_wp2_with fail
    go_ret
    obtain ⟨h1, h2, h4, h3⟩ := HP.out _ K8
    exact ⟨h1, h2, h4, h3, .inr ⟨na, _, _, _, rfl⟩⟩

end Go.Proofs.YteihcodicfoiaaaGreat
namespace Go.Proofs.YteihcodicfoiaaaGreat
open Go.RowKit

/-- An event: its name and its note. -/
structure EvD where
  eh : Int
  en : Int
  note : NoteD
def EvD.cells (e : EvD) : List Value := .int .i64 e.eh :: .int .i64 e.en :: e.note.arr.toList
theorem EvD.cells_len (e : EvD) : e.cells.length = 21 := rfl
def evCells (l : List EvD) : List Value := l.flatMap EvD.cells
/-- A list of events in memory. -/
structure EvRow (w : World) (A : Option Addr) (l : List EvD) : Prop where
  row : RowAt w A (evCells l)
  str : ∀ e ∈ l, e.note.At w
theorem EvRow.below {w w' : World} {A : Option Addr} {l : List EvD} (h : EvRow w A l) (hb : Below w.heap.size w w') : EvRow w' A l :=
  ⟨h.row.below hb, fun e he => (h.str e he).below hb⟩
def note0 : NoteD := ⟨0, 0, 0, 0, 0, 0, 0, 0, 0, 0, 0, 0, 0, 0, 0, [], none, 0, 0, 0, 0⟩
def ev0 : EvD := ⟨0, 0, note0⟩
theorem ev_row {w : World} {A : Option Addr} {l : List EvD} (h : RowAt w A (evCells l)) (h0 : 0 < l.length) :
    ∃ b off, A = some ⟨b, off, none⟩ ∧ b < w.heap.size ∧ ∀ k, k < l.length → ∀ j u, (l.getD k ev0).cells[j]? = some u → w.cell? ⟨b, off + k * 21 + j, none⟩ = some u := by
  have hl : (evCells l).length = l.length * 21 := flat_len _ 21 (fun _ => rfl) l
  obtain ⟨b, off, h1, h2, h3⟩ := h.some_ (by omega)
  refine ⟨b, off, h1, h2, fun k hk j u hu => ?_⟩
  have hj : j < 21 := (List.getElem?_eq_some_iff.1 hu).1
  have e := flat_get EvD.cells 21 (fun _ => rfl) (by omega) l k j hk hj
  rw [getD_get _ _ hk] at hu
  rw [Nat.add_assoc]
  exact h3 (k * 21 + j) u (e.trans hu)

def regV (A1 : Option Addr) (n1 c1 : Nat) (A2 : Option Addr) (n2 c2 : Nat) (A3 : Option Addr) (n3 c3 : Nat) : Value := .agg #[.slice A1 n1 c1, .slice A2 n2 c2, .slice A3 n3 c3]
def lightN (l : List EvD) : Nat := (l.map fun e => e.note.strokes.length).sum
theorem lightN_take (l : List EvD) (k : Nat) (hk : k < l.length) : lightN (l.take (k + 1)) = lightN (l.take k) + (l.getD k ev0).note.strokes.length := by
  unfold lightN
  rw [List.take_succ_eq_append_getElem hk, List.map_append, List.sum_append, getD_get _ _ hk]
  simp

theorem lightN_bd (l : List EvD) (h : ∀ e ∈ l, e.note.strokes.length ≤ 1000) : lightN l ≤ l.length * 1000 := by
  unfold lightN
  induction l with
  | nil => simp
  | cons a l ih =>
    have h1 := ih (fun e he => h e (by simp [he]))
    have h2 := h a (by simp)
    simp only [List.map_cons, List.sum_cons, List.length_cons, Nat.add_mul]
    omega
theorem lightN_le (l : List EvD) : ∀ e ∈ l, e.note.strokes.length ≤ lightN l := by
  unfold lightN
  induction l with
  | nil => intro e he; cases he
  | cons a l ih =>
    intro e he
    simp only [List.map_cons, List.sum_cons]
    rcases List.mem_cons.1 he with rfl | he
    · omega
    · have := ih e he; omega

set_option maxRecDepth 100000 in
set_option maxHeartbeats 2000000 in
theorem lightEvents_any (A1 A2 A3 : Option Addr) (n1 c1 c2 n3 c3 : Nat) (l : List EvD) (w : World) (hL : RowAt w A2 (evCells l)) (hn : l.length ≤ 10) (hs : ∀ e ∈ l, e.note.strokes.length ≤ 1000) :
    Calls Tryz.prog 31 #[regV A1 n1 c1 A2 l.length c2 A3 n3 c3] w fun e w' => e = .returned (.bool (decide (lightN l ≤ 100))) ∧ Below w.heap.size w w' := by
  unfold regV
  obtain ⟨W, hW⟩ : ∃ W, w.alloc (.cells #[.slice A1 n1 c1, .slice A2 l.length c2, .slice A3 n3 c3] 49) = W := ⟨_, rfl⟩
  have hbW : Below w.heap.size w W := by rw [← hW]; exact (Below.refl _ _).alloc (Nat.le_refl _) _
  have X := (show Bk W w.heap.size 49 #[.slice A1 n1 c1, .slice A2 l.length c2, .slice A3 n3 c3] by rw [← hW]; exact bk_last rfl)
  have x1 := X.cell 1
  simp at x1
  have HW := Lib.hid hW
  have HL := Lib.hid (hL.below hbW)
  have HS := Lib.hid hs
  clear hW X hL hs
  go_enter Tryz.func31, Tryz.ntmps31
  go_upto_region 1 with fail
  rw [HW.out]
  clear HW
  go_wp2_with fail
  go_loopw [3, 4] (fun v i wr => W = wr ∧ ∃ k : Nat, k ≤ l.length ∧ i = .int .i64 k ∧ v = .int .i64 (lightN (l.take k))) (fun _ i _ => l.length - (intOf i).toNat)
  case atStart => exact ⟨rfl, 0, Nat.zero_le _, rfl, rfl⟩
  case round =>
    obtain ⟨rfl, k, hk, rfl, rfl⟩ := hrel
    have hbd := lightN_bd (l.take k) (fun e he => HS.out e (List.mem_of_mem_take he))
    rw [List.length_take, Nat.min_eq_left hk] at hbd
    by_cases hlt : k < l.length
    · have hkI : (k : Int) < l.length := by omega
      obtain ⟨b, off, hA, hb, hc⟩ := ev_row HL.out (by omega)
      have c15 := hc k hlt 17 (.slice (l.getD k ev0).note.sA (l.getD k ev0).note.strokes.length (l.getD k ev0).note.sc) rfl
      rw [hA] at x1
      rw [hA]
      have hm := HS.out _ (getD_mem ev0 hlt)
      have HT := Lib.hid (lightN_take l k hlt)
      clear hA hc
      generalize (l.getD k ev0).note.strokes.length = m at *
      generalize lightN (l.take k) = s at *
      have hw1 := IntWalk.i64_in ((s : Int) + m) (by omega)
      go_wp2_with fail
      go_roundw
      case rel => exact ⟨trivial, k + 1, by omega, by go_num, by rw [HT.out]; go_num⟩
      case measure => simp [intOf]; omega
    · obtain rfl : k = l.length := by omega
      rw [List.take_of_length_le (Nat.le_refl _)] at hbd ⊢
      go_wp2_with fail
      go_ret
      exact ⟨ret_bool (by simp; omega), hbW⟩
end Go.Proofs.YteihcodicfoiaaaGreat
