/-
  What is proved: the contracts of steps and of its iterator.
-/
import Derived.Test.YtkikjmkpndmdcaaOver
import Derived.Test.YtkikjmkpndmdcaaMixIn
import Derived.RangeFuncNested
import Derived.RangeFuncBound
import Derived.RangeFuncCalls
import Derived.RangeFuncLeaves
import Derived.Shelf.RegionOpen
import Derived.OwnWalkIn
import Derived.TacticsInMore
import Derived.LoopNIn
import Derived.LoopIn
import Derived.Sort.QuietIn
namespace Go.Proofs.Ytkikjmkpndmdcaa
open Go.RowKit
attribute [local go_sem ↓] max_int min_int
attribute [local go_sem] Oper.semAt_some

/-- The moves of a state with where they lead. -/
def stepsL (f : Flr) (i : Nat) : List (Mv × Option Nat) :=
  (mvsOf f (ringN f.R f.S i) (secN f.S i) (turnN f.R f.S i)).map fun m => (m, nextN f (ringN f.R f.S i) (secN f.S i) (turnN f.R f.S i) m)
abbrev StepOf (f : Flr) (i : Nat) := { x : Mv × Option Nat // x ∈ stepsL f i }
def stepEnc (f : Flr) (i : Nat) (x : StepOf f i) : Array Value := #[.agg #[.int .i64 x.1.1.out, .int .i64 x.1.1.side, .bool x.1.1.cut], .int .i64 (nextV x.1.2)]

theorem state_lt {f : Flr} (hok : f.Ok) {i : Nat} (hi : i < f.R * f.S * f.S) : ringN f.R f.S i < f.R ∧ secN f.S i < f.S ∧ turnN f.R f.S i < f.S ∧ i < 1000 := by
  obtain ⟨r0, r1, s0, s1, _, _, _, _, _, _⟩ := hok
  have h1 : f.R * f.S * f.S ≤ 4 * 8 * 8 := Nat.mul_le_mul (Nat.mul_le_mul r1 s1) s1
  refine ⟨Nat.mod_lt _ (by omega), Nat.mod_lt _ (by omega), ?_, by omega⟩
  unfold turnN
  refine Nat.div_lt_of_lt_mul ?_
  rw [Nat.mul_comm f.S f.R]
  exact hi

/-- What a body keeps: all that lay below n₀, and each box of a state or of a floor's pointer. -/
def KpS (n₀ : Nat) (W W' : World) : Prop := Below n₀ W W' ∧ ∀ (k : Nat) (cs : Array Value) (t : TypeId) (r : Nat × Nat), t = 40 ∨ t = 65 → W.heap[k]? = some (.cells cs t r) → W'.heap[k]? = some (.cells cs t r)
theorem KpS.trans {n₀ : Nat} {A B C : World} (h : KpS n₀ A B) (k : KpS n₀ B C) : KpS n₀ A C := ⟨h.1.trans k.1, fun j cs t r ht hj => k.2 j cs t r ht (h.2 j cs t r ht hj)⟩
theorem KpS.bk {n₀ : Nat} {W W' : World} {q : Nat} {t : TypeId} {cs : Array Value} (h : KpS n₀ W W') (ht : t = 40 ∨ t = 65) (hb : Bk W q t cs) : Bk W' q t cs := h.2 q cs t (0, 0) ht hb

set_option maxRecDepth 100000 in
set_option maxHeartbeats 1000000 in
theorem steps_any (b : Nat) (i : Int) (w : World) :
    Calls Try.prog 73 #[.pointer (some ⟨b, 0, none⟩), .int .i64 i] w fun e w' => e = .returned (.func (.func 85) #[] #[.pointer (some ⟨w.heap.size, 0, none⟩), .pointer (some ⟨w.heap.size + 1, 0, none⟩)]) ∧
      Bk w' w.heap.size 65 #[.pointer (some ⟨b, 0, none⟩)] ∧ Bk w' (w.heap.size + 1) 3 #[.int .i64 i] ∧ Below w.heap.size w w' := by
  have A0 : Bk ((w.alloc (.cells #[.pointer (some ⟨b, 0, none⟩)] 65)).alloc (.cells #[.int .i64 i] 3)) w.heap.size 65 #[.pointer (some ⟨b, 0, none⟩)] := (bk_last rfl).alloc _
  have A1 : Bk ((w.alloc (.cells #[.pointer (some ⟨b, 0, none⟩)] 65)).alloc (.cells #[.int .i64 i] 3)) (w.heap.size + 1) 3 #[.int .i64 i] := bk_last (by simp)
  have hB : Below w.heap.size w ((w.alloc (.cells #[.pointer (some ⟨b, 0, none⟩)] 65)).alloc (.cells #[.int .i64 i] 3)) := ((Below.refl _ _).alloc (Nat.le_refl _) _).alloc (by simp) _
  go_enter Try.func73, Try.ntmps73
  go_wp2_with fail
  go_ret
  exact ⟨rfl, A0, A1, hB⟩

theorem grow_below' {w1 w2 : World} {r : Option Nat} (h : Below w1.heap.size w1 w2) : w1.grownBy w2 r := ⟨h.os, h.tape, h.output, h.size, fun k hk _ => h.block k hk⟩

set_option maxRecDepth 100000 in
set_option maxHeartbeats 8000000 in
theorem steps1_stops (n n₀ b B2 B3 : Nat) (f : Flr) (z : FLoc) (i : Nat) (w0 w : World) (hf : FlAt w0 b f z) (hok : f.Ok) (hi : i < f.R * f.S * f.S) (hn0 : w0.heap.size = n₀) (hw0 : Below n₀ w0 w) (h2 : Bk w B2 65 #[.pointer (some ⟨b, 0, none⟩)]) (h3 : Bk w B3 3 #[.int .i64 i]) :
    SeqStopsK Fence.wide n Try.prog 85 #[.pointer (some ⟨B2, 0, none⟩), .pointer (some ⟨B3, 0, none⟩)] (stepEnc f i) (KpS n₀) (fun xs => xs = (stepsL f i).attach) (fun pre => pre <+: (stepsL f i).attach) (stepsL f i).length w := by
  intro l J Jx W hW hJ hJx hY h0
  obtain ⟨e1, e2, e3, e4⟩ := state_lt hok hi
  subst hn0
  have hw1 : Below w0.heap.size w0 W := hw0.trans (hW.mono hw0.size)
  have K2 := h2.keep hW
  have K3 := h3.keep hW
  have HS := Lib.hid (fun (X : World) (h : Below w0.heap.size w0 X) => state_any b f z i X (hf.below h) hok e4)
  have HM := Lib.hid (fun (X : World) (h : Below w0.heap.size w0 X) => moves_any b f z _ _ _ X (hf.below h) hok e1 e2 e3)
  have HL : Hid (stepsL f i = (mvsOf f (ringN f.R f.S i) (secN f.S i) (turnN f.R f.S i)).map fun m => (m, nextN f (ringN f.R f.S i) (secN f.S i) (turnN f.R f.S i) m)) := rfl
  have HF := Lib.hid hf
  have hk2 := K2.lt
  have hk3 := K3.lt
  have b2 := K2.cell 0
  have b3 := K3.cell 0
  simp at b2 b3
  refine callsIn_of_wp Try.func85 rfl trivial ?_ rfl
  simp only [Try.ntmps85, List.size_toArray, List.length_cons, List.length_nil, Nat.reduceAdd, Nat.reduceSub, Array.replicate_succ, Array.replicate_zero, List.push_toArray, List.append_toArray, List.nil_append, List.cons_append]
  refine wpIn_wide.2 ?_
  have hlm : (mvsOf f (ringN f.R f.S i) (secN f.S i) (turnN f.R f.S i)).length = (f.drive.getD (mvIx f (ringN f.R f.S i) (secN f.S i) (turnN f.R f.S i)) []).length := rfl
  have k3 := (kinds_in hok (turn := turnN f.R f.S i) e1 e2).2.2
  have hdk := hok.dk _ (getD_mem [] (show mvIx f (ringN f.R f.S i) (secN f.S i) (turnN f.R f.S i) < f.drive.length by rw [hok.dl]; exact k3))
  have HD := Lib.hid (fun (X : World) (h : Below w0.heap.size w0 X) => (hf.below h).drv _ k3)
  have HNX := Lib.hid (fun (X : World) (h : Below w0.heap.size w0 X) (m : Mv) (hm : -1 ≤ m.out ∧ m.out ≤ 1 ∧ -1 ≤ m.side ∧ m.side ≤ 1) => next_any b f z _ _ _ m X (hf.below h) hok e1 e2 e3 hm)
  unfold stV at HS HM HNX
  unfold drCell at HM
  change Hid (∀ X, Below w0.heap.size w0 X → RowAt X (z.dr.getD (mvIx f (ringN f.R f.S i) (secN f.S i) (turnN f.R f.S i)) (none, 0)).1 (mvCells (mvsOf f (ringN f.R f.S i) (secN f.S i) (turnN f.R f.S i)))) at HD
  change 1 ≤ (mvsOf f (ringN f.R f.S i) (secN f.S i) (turnN f.R f.S i)).length ∧ (mvsOf f (ringN f.R f.S i) (secN f.S i) (turnN f.R f.S i)).length ≤ 3 ∧ ∀ m ∈ mvsOf f (ringN f.R f.S i) (secN f.S i) (turnN f.R f.S i), -1 ≤ m.out ∧ m.out ≤ 1 ∧ -1 ≤ m.side ∧ m.side ≤ 1 at hdk
  rw [← hlm] at HM
  clear hlm
  generalize (z.dr.getD (mvIx f (ringN f.R f.S i) (secN f.S i) (turnN f.R f.S i)) (none, 0)).1 = A at *
  generalize (z.dr.getD (mvIx f (ringN f.R f.S i) (secN f.S i) (turnN f.R f.S i)) (none, 0)).2 = c at *
  generalize ringN f.R f.S i = ring at *
  generalize secN f.S i = sec at *
  generalize turnN f.R f.S i = turn at *
  go_upto_region 1 with (go_at_call 41; refine (HS.out _ hw1).mono ?_; rintro e w1 ⟨rfl, hb1⟩)
  have S4 : Bk (w1.alloc (.cells #[.int .i64 ring, .int .i64 sec, .int .i64 turn] 40)) w1.heap.size 40 #[.int .i64 ring, .int .i64 sec, .int .i64 turn] := bk_last rfl
  have hb2 : Below w1.heap.size w1 (w1.alloc (.cells #[.int .i64 ring, .int .i64 sec, .int .i64 turn] 40)) := (Below.refl _ _).alloc (Nat.le_refl _) _
  generalize w1.alloc (.cells #[.int .i64 ring, .int .i64 sec, .int .i64 turn] 40) = w2 at *
  have hb12 := hb1.trans (hb2.mono hb1.size)
  replace K2 := K2.keep hb12
  have hw2 := hw1.trans (hb12.mono hw1.size)
  generalize w1.heap.size = q4 at *
  replace b2 := K2.cell 0
  have s0 := S4.cell 0
  have s1 := S4.cell 1
  have s2 := S4.cell 2
  simp at b2 s0 s1 s2
  have HW2 := Lib.hid (And.intro hb12 hw2)
  clear b3 K3 hb1 hb2 hw1 HS
  go_upto_region 2 with (go_at_call 43; refine (HM.out _ hw2).mono ?_; rintro e w3 ⟨rfl, hb3⟩)
  clear b2 s0 s1 s2
  replace K2 := K2.keep hb3
  replace S4 := S4.keep hb3
  have hb13 := HW2.out.1.trans (hb3.mono HW2.out.1.size)
  have hw3 := HW2.out.2.trans (hb3.mono HW2.out.2.size)
  have hJ0 : J [] w3 := hJ _ W w3 none h0 (grow_below' hb13) (fun r e => by cases e)
  clear HW2 HM hb3 h0 hb12 hw2
  generalize hms : mvsOf f ring sec turn = ms at *
  have hlen : (stepsL f i).length = ms.length := by rw [HL.out]; simp
  refine (wpIn_wide (n := n)).1 ?_
  gi_loopw [6, 14] (fun _ ix wr => ∃ k : Nat, k ≤ ms.length ∧ ix = .int .i64 k ∧ J ((stepsL f i).attach.take k) wr ∧ Bk wr B2 65 #[.pointer (some ⟨b, 0, none⟩)] ∧ Bk wr q4 40 #[.int .i64 ring, .int .i64 sec, .int .i64 turn] ∧ Below w0.heap.size w0 wr ∧ W.heap.size ≤ wr.heap.size) (fun _ ix _ => ms.length - (intOf ix).toNat)
  case atStart => exact ⟨0, Nat.zero_le _, rfl, by simpa using hJ0, K2, S4, hw3, hb13.size⟩
  case round =>
    clear hJ0 K2 S4
    obtain ⟨k, hk, rfl, hJk, K2, S4, hwr, hszr⟩ := hrel
    by_cases hlt : k < ms.length
    · have hkI : (k : Int) < ms.length := by omega
      obtain ⟨b5, o5, hA, hb5, hc5⟩ := mv_row (HD.out wr hwr) (by omega)
      obtain ⟨c0, c1, c2⟩ := hc5 k hlt
      have hmm := hdk.2.2 _ (List.getElem_mem hlt)
      have hkl : k < (stepsL f i).length := by omega
      have hxk : (stepsL f i)[k] = (ms[k], nextN f ring sec turn ms[k]) := by
        simp only [HL.out, List.getElem_map]
      have hNX := HNX.out
      have HX : Hid (stepEnc f i ((stepsL f i).attach[k]'(by simpa using hkl)) = #[.agg #[.int .i64 ms[k].out, .int .i64 ms[k].side, .bool ms[k].cut], .int .i64 (nextV (nextN f ring sec turn ms[k]))]) := by
        simp only [Hid, stepEnc, List.getElem_attach, hxk]
      have HTK : Hid ((stepsL f i).attach.take (k + 1) = (stepsL f i).attach.take k ++ [(stepsL f i).attach[k]'(by simpa using hkl)]) := by
        refine Lib.hid ?_
        rw [List.take_add_one, List.getElem?_eq_getElem (by simpa using hkl)]; rfl
      have HN := Lib.hid (fun (X : World) (h : Below w0.heap.size w0 X) => hNX X h ms[k] hmm)
      have hplen : ((stepsL f i).attach.take k).length < (stepsL f i).length := by rw [List.length_take, List.length_attach]; omega
      rw [hA]
      clear hc5 hxk hmm hNX HNX hA
      generalize (stepsL f i).attach[k]'(by simpa using hkl) = xk at *
      generalize nextV (nextN f ring sec turn ms[k]) = nv at *
      generalize ms[k] = mk at *
      obtain ⟨mo, msd, mc⟩ := mk
      simp only at c0 c1 c2 HX HN
      obtain ⟨w5, hw5⟩ : ∃ w5, wr.alloc (.cells #[.int .i64 mo, .int .i64 msd, .bool mc] 94) = w5 := ⟨_, rfl⟩
      have Y5 : Bk w5 wr.heap.size 94 #[.int .i64 mo, .int .i64 msd, .bool mc] := by rw [← hw5]; exact bk_last rfl
      have hb5' : Below wr.heap.size wr w5 := by rw [← hw5]; exact (Below.refl _ _).alloc (Nat.le_refl _) _
      have HW5 := Lib.hid hw5
      have y0 := Y5.cell 0
      have y1 := Y5.cell 1
      have y2 := Y5.cell 2
      have b2 := (K2.keep hb5').cell 0
      have s0 := (S4.keep hb5').cell 0
      have s1 := (S4.keep hb5').cell 1
      have s2 := (S4.keep hb5').cell 2
      simp at y0 y1 y2 b2 s0 s1 s2
      have hw05 := hwr.trans (hb5'.mono hwr.size)
      have HK := Lib.hid (And.intro K2 (And.intro S4 (And.intro hJk (And.intro hb5' hw05))))
      clear hw5 Y5 K2 S4 hJk hb5' hw05
      refine (wpIn_wide (n := n)).2 ?_
      go_upto_region 4 with fail
      rw [HW5.out]
      clear HW5 c0 c1 c2
      refine (wpIn_wide (n := n)).1 ?_
      have K86 : Hid (∀ x : Ext w5, Calls Try.prog 86 #[.pointer (some ⟨b, 0, none⟩), .agg #[.int .i64 ring, .int .i64 sec, .int .i64 turn], .agg #[.int .i64 mo, .int .i64 msd, .bool mc]] x.w fun e w' => e = .returned (.int .i64 nv) ∧ Below x.w.heap.size x.w w') := fun x => HN.out x.w (HK.out.2.2.2.2.trans (x.bel.mono HK.out.2.2.2.2.size))
      replace y0 := fun x : Ext w5 => keepc x.bel y0
      replace y1 := fun x : Ext w5 => keepc x.bel y1
      replace y2 := fun x : Ext w5 => keepc x.bel y2
      replace b2 := fun x : Ext w5 => keepc x.bel b2
      replace s0 := fun x : Ext w5 => keepc x.bel s0
      replace s1 := fun x : Ext w5 => keepc x.bel s1
      replace s2 := fun x : Ext w5 => keepc x.bel s2
      refine wpIn_region_extmix 6 (by kernel_rfl) (by kernel_rfl) (by kernel_rfl) ?_
      simp only [List.take_succ_cons, List.take_zero, List.drop_succ_cons, List.drop_zero]
      repeat (go_big_quiet_step (fail))
      go_big_quiet_step ((go_at_call 86; exact ext_of (K86.out _)))
      repeat (go_big_quiet_step (fail))
      refine wpQuiet_nil ?_
      rintro _ ⟨y, rfl⟩
      clear y0 y1 y2 b2 s0 s1 s2 K86
      have hb6 := y.bel
      generalize y.w = w6 at hb6 ⊢
      obtain ⟨K2, S4, hJk, hb5', hw05⟩ := HK.out
      have hb56 := hb5'.trans (hb6.mono hb5'.size)
      have hJ6 : J ((stepsL f i).attach.take k) w6 := hJ _ wr w6 none hJk (grow_below' hb56) (fun r e => by cases e)
      have hw6 := hwr.trans (hb56.mono hwr.size)
      obtain ⟨fn, tmps, assign, body, hy, hR⟩ := hY _ xk w6 hJ6 hplen
      rw [HX.out] at hy
      have HK6 := Lib.hid (And.intro (K2.keep hb56) (And.intro (S4.keep hb56) hw6))
      have hs56 := hb56.size
      clear K2 S4 hJk hb5' hw05 HK hb6 hJ6 hY hwr hb56
      gi_wp2
      refine ⟨fun h => (by simp [Fence.wide] at h), hR.mono ?_⟩
      rintro e W7 (⟨rfl, hJ7, hk7⟩ | ⟨rfl, hJx7⟩)
      · obtain ⟨K6, S6, hw6⟩ := HK6.out
        have hz7 : W.heap.size ≤ W7.heap.size := Nat.le_trans (Nat.le_trans hszr hs56) hk7.1.size
        have HE := Lib.hid (And.intro (hk7.bk (Or.inr rfl) K6) (And.intro (hk7.bk (Or.inl rfl) S6) (And.intro (hw6.trans hk7.1) hz7)))
        rw [← HTK.out] at hJ7
        clear hk7 K6 S6 hw6 HK6
        gi_wp2
        go_wp2_with fail
        go_roundw
        case rel => exact ⟨k + 1, by omega, by go_num, hJ7, HE.out.1, HE.out.2.1, HE.out.2.2.1, HE.out.2.2.2⟩
        case measure => simp [intOf]; omega
      · rw [← HTK.out] at hJx7
        clear HK6
        gi_wp2
        go_wp2_with fail
        refine bodyPost_ret (results_none rfl _ _ _) rfl ?_
        exact ⟨⟨_, rfl⟩, .inr ⟨_, List.take_prefix _ _, hJx7⟩⟩
    · obtain rfl : k = ms.length := by omega
      have htk : (stepsL f i).attach.take ms.length = (stepsL f i).attach := List.take_of_length_le (by rw [List.length_attach, hlen]; exact Nat.le_refl _)
      rw [htk] at hJk
      gi_wp2
      go_end0
      exact ⟨⟨_, rfl⟩, .inl ⟨_, rfl, hJk⟩⟩

end Go.Proofs.Ytkikjmkpndmdcaa
