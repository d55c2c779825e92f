/-
  What is proved: the contracts of gears.Time and Runs.
-/
import Derived.Test.YtheifigkclegdaaWhere
import Derived.Test.YtheifigkclegdaaFeed
namespace Go.Proofs.Ytheifigkclegdaa
open Go.RowKit
attribute [local go_sem] Res.val

def timeR (L : List Mesh) (h d k n : Int) : Res :=
  if okTrain L then
    if okFeed h d k then
      if inB n 0 1000000 then
        if (ratioR L).err = 0 then low (n.toNat * (ratioR L).den) (k.toNat * (ratioR L).num) else ⟨0, 0, (ratioR L).err⟩
      else ⟨0, 0, 1⟩
    else ⟨0, 0, 33⟩
  else ⟨0, 0, 70⟩

theorem ratio_fit {L : List Mesh} (hok : okTrain L = true) (h : (ratioR L).err = 0) :
    1 ≤ (ratioR L).num ∧ (ratioR L).num ≤ 1000000000 ∧ 1 ≤ (ratioR L).den ∧ (ratioR L).den ≤ 1000000000 := by
  obtain ⟨_, _, k3⟩ := ok_train hok
  have hR : ratioR L = low (pr (drs L)) (pr (dns L)) := by rw [ratioR, if_pos hok]
  have hp : 1 ≤ pr (dns L) := pr_pos _ fun x hx => by
    obtain ⟨m, hm, rfl⟩ := List.mem_map.1 hx
    have := ok_mesh (k3 m hm)
    omega
  have hq : 1 ≤ pr (drs L) := pr_pos _ fun x hx => by
    obtain ⟨m, hm, rfl⟩ := List.mem_map.1 hx
    have := ok_mesh (k3 m hm)
    omega
  rw [hR] at h ⊢
  obtain ⟨e, _, g1, g2, g3⟩ := low_ok _ _ hp h
  refine ⟨?_, g2, g1, g3⟩
  rcases Nat.eq_zero_or_pos (low (pr (drs L)) (pr (dns L))).num with h0 | h0
  · rw [h0, Nat.zero_mul] at e
    have : 1 ≤ pr (drs L) * (low (pr (drs L)) (pr (dns L))).den := Nat.mul_le_mul hq g1
    omega
  · exact h0

set_option maxRecDepth 100000 in
set_option maxHeartbeats 4000000 in
theorem time_ok (A : Option Addr) (c h d k n : Nat) (L : List Mesh) (R : Res) (w : World) (hL : RowAt w A (meshCells L)) (hn : L.length ≤ 9223372036854775807) (hok : okTrain L = true) (hf : okFeed h d k = true) (hn1 : n ≤ 1000000)
    (hR : Hid (timeR L h d k n = R)) :
    Calls Try.prog 42 #[.agg #[.slice A L.length c], .agg #[.int .i64 h, .int .i64 d, .int .i64 k], .int .i64 n] w fun e w' => e = .returned R.val ∧ Below w.heap.size w w' := by
  have hbd := okFeed_bounds hf
  have hn2 : inB (n : Int) 0 1000000 = true := by simp [inB]; omega
  have HL := Lib.hid (And.intro hL (And.intro hok hf))
  have HR : Hid (timeR L h d k n = if (ratioR L).err = 0 then low (n * (ratioR L).den) (k * (ratioR L).num) else ⟨0, 0, (ratioR L).err⟩) := by
    unfold Hid timeR
    rw [if_pos hok, if_pos hf, if_pos hn2]
    simp
  have HF : Hid ((ratioR L).err = 0 → 1 ≤ (ratioR L).num ∧ (ratioR L).num ≤ 1000000000 ∧ 1 ≤ (ratioR L).den ∧ (ratioR L).den ≤ 1000000000) := fun h => ratio_fit hok h
  have HC : Hid (∀ W, RowAt W A (meshCells L) → Calls Try.prog 25 #[.agg #[.slice A L.length c]] W fun e w' => e = .returned (ratioR L).val ∧ Below W.heap.size W w') := fun W hW => ratioOf_any A c L W hW hn
  replace HR : Hid (R = if (ratioR L).err = 0 then low (n * (ratioR L).den) (k * (ratioR L).num) else ⟨0, 0, (ratioR L).err⟩) := hR.out.symm.trans HR.out
  clear hR hL hok hf
  generalize ratioR L = r at *
  obtain ⟨rn, rd, re⟩ := r
  simp only at HR HF
  go_enter Try.func42, Try.ntmps42
  go_wp2_with fail
  refine (validTrain_any _ _ _ _ (((HL.out.1.alloc _).alloc _).alloc _) hn).mono ?_
  rintro e w1 ⟨rfl, hb1⟩
  have T : Bk w1 w.heap.size 24 #[.slice A L.length c] := (((bk_last rfl).alloc _).alloc _).keep hb1
  have F : Bk w1 (w.heap.size + 1) 57 #[.int .i64 h, .int .i64 d, .int .i64 k] := ((bk_last (by simp)).alloc _).keep hb1
  have E : Bk w1 (w.heap.size + 1 + 1) 42 #[.int .i64 0, .int .i64 0] := (bk_last (by simp)).keep hb1
  have hB1 : Below w.heap.size w w1 := ((((Below.refl _ _).alloc (Nat.le_refl _) _).alloc (by simp) _).alloc (by simp; omega) _).trans (hb1.mono (by simp; omega))
  clear hb1
  rw [HL.out.2.1]
  have t0 := T.cell 0
  have f0 := F.cell 0
  have f1 := F.cell 1
  have f2 := F.cell 2
  simp at t0 f0 f1 f2
  go_wp2_with fail
  refine (validFeed_any _ _ _ _).mono ?_
  rintro e w2 ⟨rfl, hb2⟩
  replace T := T.keep hb2
  replace F := F.keep hb2
  replace E := E.keep hb2
  have hB2 := hB1.trans (hb2.mono hB1.size)
  clear hb2 hB1 t0 f0 f1 f2
  rw [HL.out.2.2]
  have t0 := T.cell 0
  simp at t0
  go_wp2_with (go_at_call 68; refine (within_any _ _ _ _).mono ?_; rintro e w' ⟨rfl, rfl⟩)
  refine (HC.out _ (HL.out.1.below hB2)).mono ?_
  rintro e w3 ⟨rfl, hb3⟩
  replace F := F.keep hb3
  replace E := E.keep hb3
  have hB3 := hB2.trans (hb3.mono hB2.size)
  clear hb3 hB2 t0 T
  have hEl := E.lt
  by_cases hre : re = 0
  · subst hre
    obtain ⟨n1, n2, n3, n4⟩ := HF.out rfl
    have hR2 := HR.out
    rw [if_pos rfl] at hR2
    subst hR2
    go_wp2_with fail
    have Q : Bk (w3.alloc (Obj.cells #[Value.int IntKind.i64 rn, Value.int IntKind.i64 rd] 42)) w3.heap.size 42 #[.int .i64 rn, .int .i64 rd] := bk_last rfl
    replace F := F.alloc (Obj.cells #[Value.int IntKind.i64 rn, Value.int IntKind.i64 rd] 42)
    replace E := E.alloc (Obj.cells #[Value.int IntKind.i64 rn, Value.int IntKind.i64 rd] 42)
    replace hB3 := hB3.alloc hB3.size (Obj.cells #[Value.int IntKind.i64 rn, Value.int IntKind.i64 rd] 42)
    generalize w3.alloc (Obj.cells #[Value.int IntKind.i64 rn, Value.int IntKind.i64 rd] 42) = V at *
    have q0 := Q.cell 0
    have q1 := Q.cell 1
    have f2 := F.cell 2
    simp at q0 q1 f2
    refine wp_region_extmix 7 (by kernel_rfl) (by kernel_rfl) (fun _ _ d _ _ h => by cases d <;> exact h) ?_
    simp only [List.take_succ_cons, List.take_zero, List.drop_succ_cons, List.drop_zero]
    have F1 := fun x : Ext V => keepc x.bel q0
    have F2 := fun x : Ext V => keepc x.bel q1
    have F3 := fun x : Ext V => keepc x.bel f2
    clear q0 q1 f2
    repeat (go_big_quiet_step ((first | (go_at_call 72; exact ext_of (of_any _ _ _)) | (go_at_call 83; exact ext_of (back_any _ _ _)))))
    refine wpQuiet_nil ?_
    rintro _ ⟨x, rfl⟩
    clear F1 F2 F3
    have hb3 := x.bel
    generalize x.w = w4 at hb3 ⊢
    replace E := E.keep hb3
    have hB4 := hB3.trans (hb3.mono hB3.size)
    clear hb3 hB3
    go_wp2_with fail
    refine (product2_any _ _ n k rd rn _ (by simp) (by simp [go_sem]) (by simp [go_sem]) (by simp [go_sem]) (by simp [go_sem]) (by omega) (by omega) (by omega) (by omega) (by omega) (by omega)).mono ?_
    rintro e w5 ⟨rfl, hb4⟩
    have hb5 : Below w4.heap.size w4 w5 := ((Below.refl _ _).alloc (Nat.le_refl _) _).trans (hb4.mono (by simp))
    replace E := E.keep hb5
    have hB5 := hB4.trans (hb5.mono hB4.size)
    clear hb4 hb5 hB4
    have e0 := E.cell 0
    have e1 := E.cell 1
    have e2 := E.fz 0
    have e3 := E.fz 1
    simp at e0 e1
    go_wp2_with fail
    refine bodyPost_ret (v := (low (n * rd) (k * rn)).val) (by simp [results, Try.results42, go_sem, e0, e1]) rfl ⟨rfl, (hB5.setCell (by simp; omega) _).setCell (by simp; omega) _⟩
  · have hR2 := HR.out
    rw [if_neg hre] at hR2
    subst hR2
    have hr1 : ((re : Int) == 0) = false := by simp; omega
    have e0 := E.cell 0
    have e1 := E.cell 1
    have e2 := E.fz 0
    have e3 := E.fz 1
    simp at e0 e1
    go_wp2_with fail
    refine bodyPost_ret (v := (⟨0, 0, re⟩ : Res).val) (by simp [results, Try.results42, go_sem, e0, e1, hEl]) rfl ⟨rfl, ((hB3.setCell (by simp; omega) _).setCell (by simp; omega) _).alloc (by simpa using hB3.size) _⟩

end Go.Proofs.Ytheifigkclegdaa
