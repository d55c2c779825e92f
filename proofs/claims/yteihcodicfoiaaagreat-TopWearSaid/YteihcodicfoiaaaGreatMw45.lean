/-
  What is proved: the contract of covers; what strokes cover, as a list.
  What is proved: a story under way: what the memory holds, and how an append changes it.
-/
import Derived.Test.YteihcodicfoiaaaGreatEvItMw
import Derived.Test.YteihcodicfoiaaaGreatMw23
import Derived.Test.YteihcodicfoiaaaGreatMw37
import Derived.Test.YteihcodicfoiaaaGreatRightMw
namespace Go.Proofs.YteihcodicfoiaaaGreat
open Go.RowKit

def bump (l : List Int) (i : Nat) : List Int := l.set i (l.getD i 0 + 1)
def bumps (l : List Int) (s : Nat) : Nat → List Int
  | 0 => l
  | n + 1 => bump (bumps l s n) (s + n)
/-- How often strokes cover each place of a list, from off on. -/
def covered (wide off : Nat) (l : List Int) (ss : List Int) : List Int := ss.foldl (fun l s => bumps l (off + s.toNat) wide) l
theorem bump_len (l : List Int) (i : Nat) : (bump l i).length = l.length := by simp [bump]
theorem bumps_len (l : List Int) (s : Nat) : ∀ n, (bumps l s n).length = l.length
  | 0 => rfl
  | n + 1 => by rw [bumps, bump_len, bumps_len l s n]
theorem covered_len (wide off : Nat) : ∀ (ss l : List Int), (covered wide off l ss).length = l.length
  | [], _ => rfl
  | s :: ss, l => by
    have := covered_len wide off ss (bumps l (off + s.toNat) wide)
    unfold covered at *
    rw [List.foldl_cons, this, bumps_len]
def Upto (M : Int) (l : List Int) : Prop := ∀ x ∈ l, 0 ≤ x ∧ x ≤ M
theorem Upto.get {M : Int} {l : List Int} (h : Upto M l) (hM : 0 ≤ M) (i : Nat) : 0 ≤ l.getD i 0 ∧ l.getD i 0 ≤ M := by
  by_cases hi : i < l.length
  · exact h _ (getD_mem 0 hi)
  · rw [List.getD_eq_getElem?_getD, List.getElem?_eq_none (by omega)]
    exact ⟨Int.le_refl _, hM⟩
theorem Upto.bump {M : Int} {l : List Int} (h : Upto M l) (hM : 0 ≤ M) (i : Nat) : Upto (M + 1) (bump l i) := by
  intro x hx
  have hg := h.get hM i
  rcases List.mem_or_eq_of_mem_set hx with hx | rfl
  · have := h x hx; omega
  · omega
theorem Upto.bumps {M : Int} {l : List Int} (h : Upto M l) (hM : 0 ≤ M) (s : Nat) : ∀ n : Nat, Upto (M + n) (bumps l s n)
  | 0 => by simpa [YteihcodicfoiaaaGreat.bumps] using h
  | n + 1 => by
    have := (h.bumps hM s n).bump (by omega) (s + n)
    rw [YteihcodicfoiaaaGreat.bumps]
    have e : M + ((n + 1 : Nat) : Int) = M + n + 1 := by omega
    rw [e]
    exact this
theorem covered_snoc (wide off : Nat) (l ss : List Int) (s : Int) : covered wide off l (ss ++ [s]) = bumps (covered wide off l ss) (off + s.toNat) wide := by simp [covered, List.foldl_append]
theorem Upto.covered (wide off : Nat) : ∀ (ss : List Int) {M : Int} {l : List Int}, Upto M l → 0 ≤ M → Upto (M + ss.length * wide) (covered wide off l ss)
  | [], M, l, h, _ => by simpa [YteihcodicfoiaaaGreat.covered] using h
  | s :: ss, M, l, h, hM => by
    have h1 := h.bumps hM (off + s.toNat) wide
    have := Upto.covered wide off ss h1 (by omega)
    have e : M + ((s :: ss).length : Int) * wide = M + wide + ss.length * wide := by simp [Int.add_mul]; omega
    rw [e]
    exact this

/-- covers under way. -/
structure CovI (w : World) (f : FrD) (g : Nat) (l : List Int) (V : World) : Prop where
  bx : Bk V w.heap.size 112 #[.int .i64 f.rings, .int .i64 f.sec, .int .i64 f.wide]
  rw : Bk V g 3 (intCells l).toArray
  gr : w.grownBy V (some g)
theorem CovI.cell {w V : World} {f : FrD} {g : Nat} {l : List Int} (h : CovI w f g l V) {i : Nat} (hi : i < l.length) : V.cell? ⟨g, i, none⟩ = some (.int .i64 (l.getD i 0)) := by
  rw [h.rw.cell i, List.getElem?_toArray, getD_get _ _ hi]
  simp [intCells, hi]
theorem CovI.bump {w V : World} {f : FrD} {g : Nat} {l : List Int} (h : CovI w f g l V) (hg : g < w.heap.size) (i : Nat) : CovI w f g (bump l i) (V.setCell ⟨g, i, none⟩ (.int .i64 (l.getD i 0 + 1))) := by
  refine ⟨h.bx.far (by simp; omega) _, ?_, ⟨h.gr.os, h.gr.tape, h.gr.output, by simpa using h.gr.size, fun k hk hne => ?_⟩⟩
  · have := h.rw.put i (.int .i64 (l.getD i 0 + 1))
    have e : (intCells l).toArray.setIfInBounds i (.int .i64 (l.getD i 0 + 1)) = (intCells (YteihcodicfoiaaaGreat.bump l i)).toArray := by
      simp [intCells, YteihcodicfoiaaaGreat.bump, List.map_set]
    rwa [e] at this
  · rw [Below.heap_setCell _ _ _ _ (fun e => hne (by rw [e]))]
    exact h.gr.block k hk hne

set_option maxRecDepth 100000 in
set_option maxHeartbeats 4000000 in
theorem covers_any (f : FrD) (hf : f.Ok) (g off c c2 : Nat) (l ss : List Int) (A : Option Addr) (w : World) (hg : Bk w g 3 (intCells l).toArray) (hA : RowAt w A (intCells ss)) (hAg : ∀ a, A = some a → a.block ≠ g) (hl : l.length ≤ 2400) (ho : off ≤ l.length)
    (hs : ∀ s ∈ ss, 0 ≤ s ∧ s + f.wide ≤ (l.length : Int) - off) (hn : ss.length ≤ 200) (hz : Upto 0 l) :
    Calls Tryz.prog 83 #[f.val, .slice (some ⟨g, off, none⟩) (l.length - off) c, .slice A ss.length c2] w fun e w' => e = .returned (.tuple #[]) ∧ Bk w' g 3 (intCells (covered f.wide.toNat off l ss)).toArray ∧ w.grownBy w' (some g) := by
  unfold FrD.val
  obtain ⟨N, hN⟩ : ∃ N, l.length = N := ⟨_, rfl⟩
  obtain ⟨W, hW⟩ : ∃ W, w.alloc (.cells #[.int .i64 f.rings, .int .i64 f.sec, .int .i64 f.wide] 112) = W := ⟨_, rfl⟩
  have hbW : Below w.heap.size w W := by rw [← hW]; exact (Below.refl _ _).alloc (Nat.le_refl _) _
  have hglt := hg.lt
  have HI0 : Hid (CovI w f g (covered f.wide.toNat off l (ss.take 0)) W) := Lib.hid ⟨by rw [← hW]; exact bk_last rfl, hg.keep hbW, ⟨hbW.os, hbW.tape, hbW.output, hbW.size, fun k hk _ => hbW.block k hk⟩⟩
  have HR := Lib.hid (fun (X : World) (h : w.grownBy X (some g)) => (show RowAt X A (intCells ss) from fun h0 => by
    obtain ⟨b, o, rfl, h1, h2⟩ := hA h0
    have hb := h.block b h1 (fun e => hAg _ rfl (by injection e))
    exact ⟨b, o, rfl, Nat.lt_of_lt_of_le h1 h.size, fun j u hu => by
      have := h2 j u hu
      simp only [World.cell?] at this ⊢
      rw [hb]
      exact this⟩))
  have hw0 := hf.w0
  have hw1 := hf.w1
  have hs1 := hf.s1
  obtain ⟨wd, hwd⟩ : ∃ wd : Nat, f.wide = wd := ⟨f.wide.toNat, by omega⟩
  have hwdT : f.wide.toNat = wd := by omega
  rw [hwdT] at HI0 ⊢
  rw [hN] at hl ho hs ⊢
  have HLEN : Hid (∀ k, (covered wd off l (ss.take k)).length = N) := Lib.hid fun k => by rw [covered_len, hN]
  have HUP : Hid (∀ k, k ≤ ss.length → Upto (k * wd) (covered wd off l (ss.take k))) := Lib.hid fun k hk => by
    have := Upto.covered wd off (ss.take k) hz (Int.le_refl _)
    rw [List.length_take, Nat.min_eq_left hk] at this
    simpa using this
  have HW := Lib.hid hW
  have HS := Lib.hid hs
  have HF : Hid (#[Value.int .i64 f.rings, .int .i64 f.sec, .int .i64 f.wide] = #[Value.int .i64 f.rings, .int .i64 f.sec, .int .i64 (wd : Int)]) := Lib.hid (by rw [hwd])
  rw [HF.out]
  rw [HF.out] at HW
  have hwd96 : wd ≤ 96 := by omega
  have HWD := Lib.hid hwd
  clear hW hbW hg hA hAg hs hz hN hwd hwdT hw0 hw1 HF
  go_enter Tryz.func83, Tryz.ntmps83
  go_upto_region 1 with fail
  rw [HW.out]
  clear HW
  go_wp2_with fail
  go_loopw [11] (fun i wr => ∃ k : Nat, k ≤ ss.length ∧ i = .int .i64 k ∧ Hid (CovI w f g (covered wd off l (ss.take k)) wr)) (fun i _ => ss.length - (intOf i).toNat)
  case atStart => exact ⟨0, Nat.zero_le _, rfl, HI0⟩
  case round =>
    clear HI0
    obtain ⟨k, hk, rfl, HI⟩ := hrel
    by_cases hlt : k < ss.length
    · have hkI : (k : Int) < ss.length := by omega
      obtain ⟨b5, o5, hA5, hb5, hc5⟩ := int_row (HR.out wr HI.out.gr) (by omega)
      have l0 := hc5 k hlt
      have hsk := HS.out _ (getD_mem 0 hlt)
      obtain ⟨sn, hsn⟩ : ∃ sn : Nat, ss.getD k 0 = sn := ⟨(ss.getD k 0).toNat, by omega⟩
      have HSN : Hid (covered wd off l (ss.take (k + 1)) = bumps (covered wd off l (ss.take k)) (off + sn) wd) := Lib.hid (by
        have e : ss.take (k + 1) = ss.take k ++ [ss.getD k 0] := by rw [List.take_add_one, List.getElem?_eq_getElem hlt, getD_get _ _ hlt]; rfl
        rw [e, covered_snoc, hsn]
        rfl)
      have HCL := Lib.hid (HLEN.out k)
      have HUK := Lib.hid (HUP.out k hk)
      rw [hsn] at l0 hsk
      rw [HWD.out] at hsk
      rw [hA5]
      have HA5 := Lib.hid hA5
      clear hA5 hc5 hsn
      generalize covered wd off l (ss.take k) = cl at *
      have HM : Hid ((0 : Int) ≤ (k : Int) * wd ∧ (k : Int) * wd ≤ 19200) := Lib.hid ⟨Int.mul_nonneg (by omega) (by omega), by have : (k : Int) * wd ≤ 200 * 96 := Int.mul_le_mul (by omega) (by omega) (by omega) (by omega); omega⟩
      have HB0 : Hid (CovI w f g (bumps cl (off + sn) 0) wr) := HI
      clear HI
      go_upto_region 5 with fail
      clear l0
      go_loopw [8] (fun i wr => ∃ j : Nat, j ≤ wd ∧ i = .int .i64 (sn + j : Nat) ∧ Hid (CovI w f g (bumps cl (off + sn) j) wr)) (fun i _ => (sn + wd) - (intOf i).toNat)
      case atStart => exact ⟨0, Nat.zero_le _, rfl, HB0⟩
      case round =>
        clear HB0
        obtain ⟨j, hj, rfl, HI⟩ := hrel
        have b2 := HI.out.bx.cell 2
        simp [HWD.out] at b2
        by_cases hltj : j < wd
        · have hjI : (sn : Int) + j < sn + wd := by omega
          have hin : off + (sn + j) < (bumps cl (off + sn) j).length := by rw [bumps_len, HCL.out]; omega
          have v0 := HI.out.cell hin
          have hv := (HUK.out.bumps HM.out.1 (off + sn) j).get (by have := HM.out; omega) (off + (sn + j))
          have hM2 := HM.out
          have hv2 : 0 ≤ (bumps cl (off + sn) j).getD (off + (sn + j)) 0 ∧ (bumps cl (off + sn) j).getD (off + (sn + j)) 0 ≤ 30000 := by omega
          have fz := HI.out.rw.fz (off + (sn + j))
          have gl := HI.out.rw.lt
          have HN := Lib.hid (HI.out.bump hglt (off + (sn + j)))
          have HE : Hid (bump (bumps cl (off + sn) j) (off + (sn + j)) = bumps cl (off + sn) (j + 1)) := Lib.hid (by rw [bumps, Nat.add_assoc])
          rw [HE.out] at HN
          clear hin hv hM2
          generalize (bumps cl (off + sn) j).getD (off + (sn + j)) 0 = vv at *
          go_wp2_with fail
          go_roundw
          case rel => exact ⟨j + 1, by omega, by go_num, HN⟩
          case measure => simp [intOf]; omega
        · obtain rfl : j = wd := by omega
          rw [← HSN.out] at HI
          go_wp2_with fail
          go_roundw
          case rel => exact ⟨k + 1, by omega, by go_num, HI⟩
          case measure => simp [intOf]; omega
    · obtain rfl : k = ss.length := by omega
      rw [List.take_length] at HI
      go_wp2_with fail
      exact bodyPost_end (results_none rfl _ _ _) rfl ⟨rfl, HI.out.rw, HI.out.gr⟩
end Go.Proofs.YteihcodicfoiaaaGreat
namespace Go.Proofs.YteihcodicfoiaaaGreat
open Go.RowKit

/-- A step of a story. -/
structure StepD where
  kind : Int
  heap : Int
  times : List Int
  tA : Option Addr
  tc : Nat
  dlo : Int
  dhi : Int
def StepD.cells (s : StepD) : List Value := [.int .i64 s.kind, .int .i64 s.heap, .slice s.tA s.times.length s.tc, .int .i64 s.dlo, .int .i64 s.dhi]
/-- A reading of a story. -/
structure ReadD where
  sl : Int
  a : Int
  b : Int
  lo : Int
  hi : Int
def ReadD.cells (r : ReadD) : List Value := [.int .i64 r.sl, .int .i64 r.a, .int .i64 r.b, .int .i64 r.lo, .int .i64 r.hi]
def stpCells (l : List StepD) : List Value := l.flatMap StepD.cells
def rdCells (l : List ReadD) : List Value := l.flatMap ReadD.cells
theorem stpCells_len (l : List StepD) : (stpCells l).length = l.length * 5 := flat_len _ 5 (fun _ => rfl) l
theorem rdCells_len (l : List ReadD) : (rdCells l).length = l.length * 5 := flat_len _ 5 (fun _ => rfl) l
structure StoL where
  sA : Option Addr
  sc : Nat
  hA : Option Addr
  hc : Nat
  kA : Option Addr
  kc : Nat
  rA : Option Addr
  rc : Nat
def tellArr (b : BaseC) (z : BaseL) (stone : Int) (gc N cc : Nat) (y : StoL) (ns nh nk nr : Nat) : Array Value :=
  #[.int .i64 b.bed.rings, .int .i64 b.bed.sec, .int .i64 b.wide,
    .int .i64 b.bed.eye, .int .i64 b.bed.rings, .int .i64 b.bed.sec, .slice z.bed.1 b.bed.kinds.length z.bed.2,
    .int .i64 b.run.eye, .int .i64 b.run.rings, .int .i64 b.run.sec, .slice z.run.1 b.run.kinds.length z.run.2,
    .slice z.drive.1 b.drive.length z.drive.2,
    .int .i64 b.lift, .int .i64 b.top, .slice z.grades.1 b.grades.length z.grades.2, .int .i64 b.slo, .int .i64 b.shi,
    .slice z.s0.1 b.s0.length z.s0.2, .slice z.s1.1 b.s1.length z.s1.2, .slice z.a0.1 b.a0.length z.a0.2, .slice z.a1.1 b.a1.length z.a1.2,
    .int .i64 b.dlo, .int .i64 b.dhi, .int .i64 b.wide, .slice z.caps.1 b.caps.length z.caps.2, .slice z.reach.1 b.reach.length z.reach.2,
    .slice z.compass.1 b.compass.length z.compass.2, .slice z.pockets.1 b.pockets.length z.pockets.2, .int .i64 b.tol,
    .slice z.meshes.1 b.meshes.length z.meshes.2, .int .i64 b.houses,
    .int .i64 stone, .slice (some ⟨gc, 0, none⟩) N cc, .slice y.sA ns y.sc, .slice y.hA nh y.hc, .slice y.kA nk y.kc, .slice y.rA nr y.rc]

structure StoI (w : World) (B pt : Nat) (b : BaseC) (z : BaseL) (stone : Int) (gc cc : Nat) (cnt : List Int) (st hp : List (Int × Int)) (S : List StepD) (R : List ReadD) (y : StoL) (V : World) : Prop where
  lt : w.heap.size ≤ pt ∧ pt < B ∧ B ≤ V.heap.size
  bl : Below w.heap.size w V
  bk : Bk V pt 118 (tellArr b z stone gc cnt.length cc y st.length hp.length S.length R.length)
  ss : V.ownsRow w.heap.size 29 2 (.slice y.sA st.length y.sc) st.length (spanCells st)
  s0 : ∀ a, y.sA = some a → a.block < B
  hs : V.ownsRow B 29 2 (.slice y.hA hp.length y.hc) hp.length (spanCells hp)
  ks : V.ownsRow B 62 5 (.slice y.kA S.length y.kc) S.length (stpCells S)
  rs : V.ownsRow B 186 5 (.slice y.rA R.length y.rc) R.length (rdCells R)
  cn : Bk V gc 3 (intCells cnt).toArray
  tm : ∀ s ∈ S, ∃ g, s.tA = some ⟨g, 0, none⟩ ∧ (w.heap.size ≤ g ∧ s.times.length ≤ s.tc) ∧ Bk V g 3 (intCells s.times).toArray
section
variable {w : World} {B pt : Nat} {b : BaseC} {z : BaseL} {stone : Int} {gc cc : Nat} {cnt : List Int} {st hp : List (Int × Int)} {S : List StepD} {R : List ReadD} {y : StoL} {V V' : World}
theorem StoI.below (h : StoI w B pt b z stone gc cc cnt st hp S R y V) (hb : Below V.heap.size V V') : StoI w B pt b z stone gc cc cnt st hp S R y V' :=
  ⟨⟨h.lt.1, h.lt.2.1, Nat.le_trans h.lt.2.2 hb.size⟩, h.bl.trans (hb.mono h.bl.size), h.bk.keep hb, own_keep h.ss hb, h.s0, own_keep h.hs hb, own_keep h.ks hb, own_keep h.rs hb, h.cn.keep hb, fun s hs => by
    obtain ⟨g, h1, h2, h3⟩ := h.tm s hs
    exact ⟨g, h1, h2, h3.keep hb⟩⟩
theorem StoI.drew (h : StoI w B pt b z stone gc cc cnt st hp S R y V) : StoI w B pt b z stone gc cc cnt st hp S R y V.drew := h.below (Below.refl _ V).drew
theorem own_farP {base : Nat} {t : TypeId} {size n : Nat} {v : Value} {xs : List Value} {cs0 : Array Value} (hv : V'.ownsRow base t size v n xs) (ht : t ≠ 118) (hb : Bk V' pt 118 cs0) (c : Nat) (u : Value) : (V'.setCell ⟨pt, c, none⟩ u).ownsRow base t size v n xs := by
  refine own_far hv ?_ u
  intro e
  obtain ⟨cs, hcs⟩ := own_type hv e
  have := hcs.symm.trans hb
  simp at this
  exact ht this.2
theorem StoI.pushStep (h : StoI w B pt b z stone gc cc cnt st hp S R y V) {s : StepD} (hs' : ∃ g, s.tA = some ⟨g, 0, none⟩ ∧ (w.heap.size ≤ g ∧ s.times.length ≤ s.tc) ∧ Bk V g 3 (intCells s.times).toArray) {A' : Option Addr} {c' : Nat} (hown : V'.ownsRow B 62 5 (.slice A' (S.length + 1) c') (S.length + 1) (stpCells S ++ s.cells)) (hg : V.grownBy V' (Value.slice y.kA S.length y.kc).ownBlock) :
    StoI w B pt b z stone gc cc cnt st hp (S ++ [s]) R { y with kA := A', kc := c' } (V'.setCell ⟨pt, 35, none⟩ (.slice A' (S.length + 1) c')) := by
  have hbk : Bk V' pt 118 (tellArr b z stone gc cnt.length cc y st.length hp.length S.length R.length) := (hg.block pt h.bk.lt (own_notT h.ks h.bk (by decide))).trans h.bk
  have kp : ∀ {q : Nat} {t : TypeId} {cs : Array Value}, Bk V q t cs → t ≠ 62 → t ≠ 118 → Bk (V'.setCell ⟨pt, 35, none⟩ (.slice A' (S.length + 1) c')) q t cs := fun hq h1 h2 => by
    refine Bk.far ((hg.block _ hq.lt (own_notT h.ks hq h1)).trans hq) ?_ _
    rintro rfl
    have := hq.symm.trans h.bk
    simp at this
    exact h2 this.2
  have ok : ∀ {base t size n : Nat} {v : Value} {xs : List Value}, V.ownsRow base t size v n xs → t ≠ 62 → t ≠ 118 → (V'.setCell ⟨pt, 35, none⟩ (.slice A' (S.length + 1) c')).ownsRow base t size v n xs := fun hv h1 h2 => by
    refine own_farP (ownsRow_grown hv hg fun k hk e => ?_) h2 hbk _ _
    obtain ⟨cs, hcs⟩ := own_type hv hk
    exact own_notT h.ks hcs h1 e.symm
  have hl : (S ++ [s]).length = S.length + 1 := by simp
  have hl2 : stpCells (S ++ [s]) = stpCells S ++ s.cells := by simp [stpCells]
  refine ⟨⟨h.lt.1, h.lt.2.1, by have := h.lt.2.2; have := hg.size; simp; omega⟩, Below.setCell ⟨hg.os.trans h.bl.os, hg.tape.trans h.bl.tape, hg.output.trans h.bl.output, Nat.le_trans h.bl.size hg.size, fun i hi => (hg.block i (by have := h.bl.size; omega) (fun e => by have := (h.ks.lt i e.symm).1; have := h.lt; omega)).trans (h.bl.block i hi)⟩ (by simpa using h.lt.1) _, ?_, ok h.ss (by decide) (by decide), h.s0, ok h.hs (by decide) (by decide), ?_, ok h.rs (by decide) (by decide), kp h.cn (by decide) (by decide), fun x hx => ?_⟩
  · have := hbk.put 35 (.slice A' (S.length + 1) c')
    rw [hl]
    exact this
  · rw [hl, hl2]
    exact own_farP hown (by decide) hbk _ _
  · have h' : ∃ g, x.tA = some ⟨g, 0, none⟩ ∧ (w.heap.size ≤ g ∧ x.times.length ≤ x.tc) ∧ Bk V g 3 (intCells x.times).toArray := by
      rcases List.mem_append.1 hx with hx | hx
      · exact h.tm x hx
      · rw [List.mem_singleton.1 hx]
        exact hs'
    obtain ⟨g, h1, h2, h3⟩ := h'
    exact ⟨g, h1, h2, kp h3 (by decide) (by decide)⟩
theorem StoI.pushRead (h : StoI w B pt b z stone gc cc cnt st hp S R y V) {r : ReadD} {A' : Option Addr} {c' : Nat} (hown : V'.ownsRow B 186 5 (.slice A' (R.length + 1) c') (R.length + 1) (rdCells R ++ r.cells)) (hg : V.grownBy V' (Value.slice y.rA R.length y.rc).ownBlock) :
    StoI w B pt b z stone gc cc cnt st hp S (R ++ [r]) { y with rA := A', rc := c' } (V'.setCell ⟨pt, 36, none⟩ (.slice A' (R.length + 1) c')) := by
  have hbk : Bk V' pt 118 (tellArr b z stone gc cnt.length cc y st.length hp.length S.length R.length) := (hg.block pt h.bk.lt (own_notT h.rs h.bk (by decide))).trans h.bk
  have kp : ∀ {q : Nat} {t : TypeId} {cs : Array Value}, Bk V q t cs → t ≠ 186 → t ≠ 118 → Bk (V'.setCell ⟨pt, 36, none⟩ (.slice A' (R.length + 1) c')) q t cs := fun hq h1 h2 => by
    refine Bk.far ((hg.block _ hq.lt (own_notT h.rs hq h1)).trans hq) ?_ _
    rintro rfl
    have := hq.symm.trans h.bk
    simp at this
    exact h2 this.2
  have ok : ∀ {base t size n : Nat} {v : Value} {xs : List Value}, V.ownsRow base t size v n xs → t ≠ 186 → t ≠ 118 → (V'.setCell ⟨pt, 36, none⟩ (.slice A' (R.length + 1) c')).ownsRow base t size v n xs := fun hv h1 h2 => by
    refine own_farP (ownsRow_grown hv hg fun k hk e => ?_) h2 hbk _ _
    obtain ⟨cs, hcs⟩ := own_type hv hk
    exact own_notT h.rs hcs h1 e.symm
  have hl : (R ++ [r]).length = R.length + 1 := by simp
  have hl2 : rdCells (R ++ [r]) = rdCells R ++ r.cells := by simp [rdCells]
  refine ⟨⟨h.lt.1, h.lt.2.1, by have := h.lt.2.2; have := hg.size; simp; omega⟩, Below.setCell ⟨hg.os.trans h.bl.os, hg.tape.trans h.bl.tape, hg.output.trans h.bl.output, Nat.le_trans h.bl.size hg.size, fun i hi => (hg.block i (by have := h.bl.size; omega) (fun e => by have := (h.rs.lt i e.symm).1; have := h.lt; omega)).trans (h.bl.block i hi)⟩ (by simpa using h.lt.1) _, ?_, ok h.ss (by decide) (by decide), h.s0, ok h.hs (by decide) (by decide), ok h.ks (by decide) (by decide), ?_, kp h.cn (by decide) (by decide), fun x hx => ?_⟩
  · have := hbk.put 36 (.slice A' (R.length + 1) c')
    rw [hl]
    exact this
  · rw [hl, hl2]
    exact own_farP hown (by decide) hbk _ _
  · obtain ⟨g, h1, h2, h3⟩ := h.tm x hx
    exact ⟨g, h1, h2, kp h3 (by decide) (by decide)⟩
theorem StoI.pushHeap (h : StoI w B pt b z stone gc cc cnt st hp S R y V) (s : Int × Int) {A' : Option Addr} {c' : Nat} (hown : V'.ownsRow B 29 2 (.slice A' (hp.length + 1) c') (hp.length + 1) (spanCells hp ++ [.int .i64 s.1, .int .i64 s.2])) (hg : V.grownBy V' (Value.slice y.hA hp.length y.hc).ownBlock) :
    StoI w B pt b z stone gc cc cnt st (hp ++ [s]) S R { y with hA := A', hc := c' } (V'.setCell ⟨pt, 34, none⟩ (.slice A' (hp.length + 1) c')) := by
  have hbk : Bk V' pt 118 (tellArr b z stone gc cnt.length cc y st.length hp.length S.length R.length) := (hg.block pt h.bk.lt (own_notT h.hs h.bk (by decide))).trans h.bk
  have kp : ∀ {q : Nat} {t : TypeId} {cs : Array Value}, Bk V q t cs → t ≠ 29 → t ≠ 118 → Bk (V'.setCell ⟨pt, 34, none⟩ (.slice A' (hp.length + 1) c')) q t cs := fun hq h1 h2 => by
    refine Bk.far ((hg.block _ hq.lt (own_notT h.hs hq h1)).trans hq) ?_ _
    rintro rfl
    have := hq.symm.trans h.bk
    simp at this
    exact h2 this.2
  have ok : ∀ {base t size n : Nat} {v : Value} {xs : List Value}, V.ownsRow base t size v n xs → (∀ k, v.ownBlock = some k → (Value.slice y.hA hp.length y.hc).ownBlock ≠ some k) → t ≠ 118 → (V'.setCell ⟨pt, 34, none⟩ (.slice A' (hp.length + 1) c')).ownsRow base t size v n xs := fun hv h1 h2 =>
    own_farP (ownsRow_grown hv hg h1) h2 hbk _ _
  have nt : ∀ {base t size n : Nat} {v : Value} {xs : List Value}, V.ownsRow base t size v n xs → t ≠ 29 → ∀ k, v.ownBlock = some k → (Value.slice y.hA hp.length y.hc).ownBlock ≠ some k := fun hv h1 k hk e => by
    obtain ⟨cs, hcs⟩ := own_type hv hk
    exact own_notT h.hs hcs h1 e.symm
  have hl : (hp ++ [s]).length = hp.length + 1 := by simp
  have hl2 : spanCells (hp ++ [s]) = spanCells hp ++ [.int .i64 s.1, .int .i64 s.2] := by simp [spanCells]
  refine ⟨⟨h.lt.1, h.lt.2.1, by have := h.lt.2.2; have := hg.size; simp; omega⟩, Below.setCell ⟨hg.os.trans h.bl.os, hg.tape.trans h.bl.tape, hg.output.trans h.bl.output, Nat.le_trans h.bl.size hg.size, fun i hi => (hg.block i (by have := h.bl.size; omega) (fun e => by have := (h.hs.lt i e.symm).1; have := h.lt; omega)).trans (h.bl.block i hi)⟩ (by simpa using h.lt.1) _, ?_, ok h.ss (fun k hk e => ?_) (by decide), h.s0, ?_, ok h.ks (nt h.ks (by decide)) (by decide), ok h.rs (nt h.rs (by decide)) (by decide), kp h.cn (by decide) (by decide), fun x hx => ?_⟩
  · have := hbk.put 34 (.slice A' (hp.length + 1) c')
    rw [hl]
    exact this
  · have h1 := (h.hs.lt k e).1
    cases hA : y.sA with
    | none => rw [hA] at hk; simp [Value.ownBlock] at hk
    | some a =>
      rw [hA] at hk
      have h2 := h.s0 a hA
      simp [Value.ownBlock] at hk
      omega
  · rw [hl, hl2]
    exact own_farP hown (by decide) hbk _ _
  · obtain ⟨g, h1, h2, h3⟩ := h.tm x hx
    exact ⟨g, h1, h2, kp h3 (by decide) (by decide)⟩
end
end Go.Proofs.YteihcodicfoiaaaGreat
