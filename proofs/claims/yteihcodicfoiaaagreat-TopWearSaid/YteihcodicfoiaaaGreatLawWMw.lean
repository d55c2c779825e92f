/-
  What is proved: TopWear answers true, and only makes memory.
-/
import Derived.Test.YteihcodicfoiaaaGreatMix4Mw
import Derived.Test.YteihcodicfoiaaaGreatWearPMw
import Derived.Test.YteihcodicfoiaaaGreatAwakeMw
namespace Go.Proofs.YteihcodicfoiaaaGreat
open Go.RowKit

theorem load_at62 (v : Value) : Instr.loadAt 62 v = loadI 62 v := rfl
def StepD.arr (s : StepD) : Array Value := #[.int .i64 s.kind, .int .i64 s.heap, .slice s.tA s.times.length s.tc, .int .i64 s.dlo, .int .i64 s.dhi]
theorem stp_row {w : World} {A : Option Addr} {l : List StepD} (h : RowAt w A (stpCells l)) (h0 : 0 < l.length) :
    ∃ b off, A = some ⟨b, off, none⟩ ∧ b < w.heap.size ∧ ∀ k, k < l.length → ∀ j u, (l.getD k step0).cells[j]? = some u → w.cell? ⟨b, off + k * 5 + j, none⟩ = some u := by
  have hl := stpCells_len l
  obtain ⟨b, off, h1, h2, h3⟩ := h.some_ (by omega)
  refine ⟨b, off, h1, h2, fun k hk j u hu => ?_⟩
  have hj : j < 5 := (List.getElem?_eq_some_iff.1 hu).1
  rw [getD_get _ _ hk] at hu
  have := flat_get StepD.cells 5 (fun _ => rfl) (by decide) l k j hk hj
  have := h3 (k * 5 + j) u (this.trans hu)
  rwa [← Nat.add_assoc] at this
theorem stp_loads {w : World} {A : Option Addr} {l : List StepD} (h : RowAt w A (stpCells l)) (h0 : 0 < l.length) :
    ∃ b off, A = some ⟨b, off, none⟩ ∧ b < w.heap.size ∧ ∀ k, k < l.length → loadN 62 (.pointer (some ⟨b, off + k * 5, none⟩)) w = .ok (.agg (l.getD k step0).arr) w ∧ w.cell? ⟨b, off + k * 5, none⟩ = some (.int .i64 (l.getD k step0).kind) := by
  obtain ⟨b, off, h1, h2, h3⟩ := stp_row h h0
  exact ⟨b, off, h1, h2, fun k hk => ⟨loadN_at (cs := (l.getD k step0).cells) (h3 k hk) rfl Tryz.underlying62 (by kernel_rfl), h3 k hk 0 _ rfl⟩⟩

theorem row_sub {X : World} {g : Nat} {l : List Int} (h : Bk X g 3 (intCells l).toArray) (lo n : Nat) : RowAt X (some ⟨g, lo, none⟩) (intCells ((l.drop lo).take n)) := fun _ => ⟨g, lo, rfl, h.lt, fun j u hu => by
  rw [h.cell (lo + j)]
  have hj := (List.getElem?_eq_some_iff.1 hu).1
  simp only [intCells, List.length_map, List.length_take, List.length_drop] at hj
  simp only [intCells, List.getElem?_map] at hu
  rw [List.getElem?_take_of_lt (by omega), List.getElem?_drop] at hu
  simpa [intCells] using hu⟩
/-- Between the two collections. -/
structure ColI (D0 D1 : List StepD) (n : Nat) (V2 : World) (k : Nat) (A0 : Option Addr) (m0 : Nat) (P0 : List StepD) (A1 : Option Addr) (m1 : Nat) (P1 : List StepD) (V : World) : Prop where
  bl : Below n V2 V
  bk : Bk V n 60 #[.slice A0 P0.length m0, .slice A1 P1.length m1]
  r0 : RowAt V A0 (stpCells P0)
  r1 : RowAt V A1 (stpCells P1)
  l0 : ∀ a, A0 = some a → n < a.block ∧ a.block < V.heap.size
  l1 : ∀ a, A1 = some a → n < a.block ∧ a.block < V.heap.size
  d0 : 1 ≤ k → P0 = passS D0
  d1 : 2 ≤ k → P1 = passS D1
  z0 : k = 0 → A0 = none ∧ m0 = 0 ∧ P0 = []
  z1 : k ≤ 1 → A1 = none ∧ m1 = 0 ∧ P1 = []
/-- In one collection: the row at place c grows. -/
structure ColJ (D : List StepD) (n B : Nat) (V2 : World) (k : Nat) (A : Option Addr) (m : Nat) (P : List StepD) (Ax : Option Addr) (Px : List StepD) (arr : Array Value) (V : World) : Prop where
  bl : Below n V2 V
  bk : Bk V n 60 arr
  lt : n < B ∧ B ≤ V.heap.size
  own : V.ownsRow B 62 5 (.slice A P.length m) P.length (stpCells P)
  rx : RowAt V Ax (stpCells Px)
  lx : ∀ a, Ax = some a → n < a.block ∧ a.block < B
  is : P = passS (D.take k)
section
variable {D : List StepD} {n B : Nat} {V2 V V' : World} {k m : Nat} {A Ax : Option Addr} {P Px : List StepD} {arr : Array Value}
theorem ColJ.below (h : ColJ D n B V2 k A m P Ax Px arr V) (hb : Below V.heap.size V V') : ColJ D n B V2 k A m P Ax Px arr V' :=
  ⟨h.bl.trans (hb.mono (by have := h.lt; omega)), h.bk.keep hb, ⟨h.lt.1, Nat.le_trans h.lt.2 hb.size⟩, own_keep h.own hb, h.rx.below hb, h.lx, h.is⟩
theorem ColJ.skip (h : ColJ D n B V2 k A m P Ax Px arr V) (hk : k < D.length) (h1 : (D.getD k step0).kind ≠ 1) : ColJ D n B V2 (k + 1) A m P Ax Px arr V :=
  ⟨h.bl, h.bk, h.lt, h.own, h.rx, h.lx, by rw [passS_take _ _ hk, if_neg h1]; exact h.is⟩
theorem ColJ.push (h : ColJ D n B V2 k A m P Ax Px arr V) (hk : k < D.length) (h1 : (D.getD k step0).kind = 1) {A' : Option Addr} {m' : Nat} (c : Nat) (hown : V'.ownsRow B 62 5 (.slice A' (P.length + 1) m') (P.length + 1) (stpCells P ++ (D.getD k step0).cells)) (hg : V.grownBy V' (Value.slice A P.length m).ownBlock) :
    ColJ D n B V2 (k + 1) A' m' (P ++ [D.getD k step0]) Ax Px (arr.setIfInBounds c (.slice A' (P.length + 1) m')) (V'.setCell ⟨n, c, none⟩ (.slice A' (P.length + 1) m')) := by
  have hne : ∀ q, q < B → some q ≠ (Value.slice A P.length m).ownBlock := fun q hq e => by have := (h.own.lt q e.symm).1; omega
  have hlt := h.lt
  have hbk : Bk V' n 60 arr := (hg.block n h.bk.lt (hne n hlt.1)).trans h.bk
  have hl : (P ++ [D.getD k step0]).length = P.length + 1 := by simp
  have hl2 : stpCells (P ++ [D.getD k step0]) = stpCells P ++ (D.getD k step0).cells := by simp [stpCells]
  refine ⟨Below.setCell ⟨hg.os.trans h.bl.os, hg.tape.trans h.bl.tape, hg.output.trans h.bl.output, Nat.le_trans h.bl.size hg.size, fun i hi => (hg.block i (by omega) (hne i (by omega))).trans (h.bl.block i hi)⟩ (by simp) _, hbk.put c _, ⟨hlt.1, by have := hg.size; simp; omega⟩, ?_, ?_, h.lx, by rw [passS_take _ _ hk, if_pos h1, h.is]⟩
  · rw [hl, hl2]
    exact own_far hown (fun e => by have := (hown.lt _ e).1; simp at this; omega) _
  · exact (RowAt.of_heap h.rx (fun a ha => hg.block _ (by have := h.lx a ha; omega) (hne _ (h.lx a ha).2)) hg.size).farA (fun a ha => by have := h.lx a ha; simp; omega) _
end

attribute [local go_sem ↓] load_at62 load_at41 load_at49 load_run
set_option maxRecDepth 100000 in
set_option maxHeartbeats 16000000 in
theorem wear_any (b : BaseC) (z : BaseL) (A : Option Addr) (c : Nat) (l : List NoteD) (w : World) (hb : BaseAt w b z) (hl : NotesAt w A l) (hn : l.length ≤ 9223372036854775807) (hs : ∀ n ∈ l, n.strokes.length ≤ 9223372036854775807)
    (hr : b.reach.length ≤ 9223372036854775807) (hd : b.drive.length ≤ 9223372036854775807)
    (hrr : ∀ k, k < b.reach.length → (b.reach.getD k []).length ≤ 9223372036854775807) (hdd : ∀ k, k < b.drive.length → (b.drive.getD k []).length ≤ 9223372036854775807) :
    Calls Tryz.prog 3 #[.agg (b.arr z), .slice A l.length c] w fun e w' => e = .returned (.bool true) ∧ Below w.heap.size w w' := by
  have HSF := Lib.hid (fun (X : World) (h : Below w.heap.size w X) => setF_any b z A c l X (hb.below h) (hl.below h) hn hs hr hd hrr hdd)
  have HSS := Lib.hid (fun (L : List NoteD) (H E : List EvD) (hR : SetR b l L H E) (A1 A2 A3 : Option Addr) (c1 c2 n3 c3 : Nat) (X : World) (h : Below w.heap.size w X) (r1 : EvRow X A1 H) (r2 : EvRow X A2 E) => stories_any b z l L H E A1 A2 A3 c1 c2 n3 c3 X (hb.below h) hR r1 r2)
  obtain ⟨W, hW⟩ : ∃ W, w.alloc (.cells (b.arr z) 41) = W := ⟨_, rfl⟩
  have hbW : Below w.heap.size w W := by rw [← hW]; exact (Below.refl _ _).alloc (Nat.le_refl _) _
  have X : Bk W w.heap.size 41 (b.arr z) := by rw [← hW]; exact bk_last rfl
  have H1 := Lib.hid (And.intro X hbW)
  have HW := Lib.hid hW
  have HAW := Lib.hid (awake_any W)
  clear hW X hbW hb hl hs hr hd hrr hdd
  go_enter Tryz.func3, Tryz.ntmps3
  go_upto_region 1 with fail
  rw [HW.out]
  clear HW
  go_upto_region 2 with (go_at_call 5; refine HAW.out.mono ?_; rintro e w1 ⟨rfl, hb1⟩; have H2 := Lib.hid (And.intro (H1.out.1.keep hb1) (H1.out.2.trans (hb1.mono H1.out.2.size))); clear hb1)
  clear H1 HAW
  have HSF1 := Lib.hid (HSF.out w1 H2.out.2)
  have l41 := load41_eq H2.out.1 rfl
  clear HSF
  go_upto_region 3 with (go_at_call 6; refine HSF1.out.mono ?_; rintro e w2 ⟨hb2, fr, A1, n1, c1, A2, n2, c2, A3, n3, c3, ok, rfl, hok⟩; unfold FrD.val regV)
  have hb3 : Below w2.heap.size w2 ((w2.alloc (.cells #[.int .i64 fr.rings, .int .i64 fr.sec, .int .i64 fr.wide] 45)).alloc (.cells #[.slice A1 n1 c1, .slice A2 n2 c2, .slice A3 n3 c3] 49)) := ((Below.refl _ _).alloc (Nat.le_refl _) _).alloc (by simp) _
  have Q49 : Bk ((w2.alloc (.cells #[.int .i64 fr.rings, .int .i64 fr.sec, .int .i64 fr.wide] 45)).alloc (.cells #[.slice A1 n1 c1, .slice A2 n2 c2, .slice A3 n3 c3] 49)) (w2.heap.size + 1) 49 #[.slice A1 n1 c1, .slice A2 n2 c2, .slice A3 n3 c3] := bk_last (by simp)
  have hB2 := H2.out.2.trans (hb2.mono H2.out.2.size)
  have H3 := Lib.hid (And.intro ((H2.out.1.keep hb2).keep hb3) (And.intro Q49 (hB2.trans (hb3.mono hB2.size))))
  have hs12 := hb2.size
  have hpw1 : w.heap.size < w1.heap.size := H2.out.1.lt
  clear HSF1 l41 Q49
  cases ok with
  | false =>
    clear hok hb2 hb3 hB2 H2
    go_wp2_with fail
    go_ret
    exact ⟨rfl, H3.out.2.2⟩
  | true =>
    obtain ⟨hfr, L, H, E, hR, e1, e2, o1, o2⟩ := hok rfl
    subst hfr e1 e2
    have HR := Lib.hid hR
    have HO := Lib.hid (And.intro (o1.row.below hb3) (o2.row.below hb3))
    clear hb2 hb3 hB2 hR o1 o2 hok H2
    generalize (w2.alloc _).alloc _ = V1 at *
    have hs2 : w2.heap.size + 1 < V1.heap.size := H3.out.2.1.lt
    have HSS1 := Lib.hid (HSS.out L H E HR.out A1 A2 A3 c1 c2 n3 c3 V1 H3.out.2.2 HO.out.1 HO.out.2)
    unfold regV at HSS1
    have l41 := load41_eq H3.out.1 rfl
    have l49 := load49_eq H3.out.2.1 rfl
    clear HSS
    go_upto_region 6 with (go_at_call 7; refine HSS1.out.mono ?_; rintro e w3 ⟨hb3, D0, D1, rfl, hD0, hD1⟩; unfold st8)
    clear HSS1 l41 l49 HO
    have hb4 : Below w3.heap.size w3 (w3.alloc (.cells (st8 D0 D1) 56)) := (Below.refl _ _).alloc (Nat.le_refl _) _
    have Q56 : Bk (w3.alloc (.cells (st8 D0 D1) 56)) w3.heap.size 56 (st8 D0 D1) := bk_last rfl
    have HPK := Lib.hid (pair_ok HR.out hD0.is hD1.is)
    have H4 := Lib.hid (show Bk (w3.alloc (.cells (st8 D0 D1) 56)) w.heap.size 41 (b.arr z) ∧ Below w.heap.size w (w3.alloc (.cells (st8 D0 D1) 56)) ∧ Bk (w3.alloc (.cells (st8 D0 D1) 56)) w3.heap.size 56 (st8 D0 D1) ∧ StpAt V1.heap.size (w3.alloc (.cells (st8 D0 D1) 56)) D0.A3 D0.S ∧ StpAt V1.heap.size (w3.alloc (.cells (st8 D0 D1) 56)) D1.A3 D1.S from
      ⟨(H3.out.1.keep hb3).keep hb4, (H3.out.2.2.trans (hb3.mono H3.out.2.2.size)).trans (hb4.mono (H3.out.2.2.trans (hb3.mono H3.out.2.2.size)).size), Q56, hD0.at_.below hb4, hD1.at_.below hb4⟩)
    have hs3 := hb3.size
    have HLS : Hid (D0.S.length ≤ 10 ∧ D1.S.length ≤ 10) := Lib.hid (by
      have h0 := toldF_len b 0 (cntOf b.flr (ixS 0)) H E
      have h1 := toldF_len b 1 (cntOf b.flr (ixS 1)) H E
      rw [← hD0.is] at h0
      rw [← hD1.is] at h1
      have := HR.out.e10
      simp only [List.length_map] at h0 h1
      omega)
    have ew : w3.alloc (.cells #[.slice D0.A1 D0.n1 D0.c1, .slice D0.A2 D0.n2 D0.c2, .slice D0.A3 D0.S.length D0.c3, .slice D0.A4 D0.R.length D0.c4, .slice D1.A1 D1.n1 D1.c1, .slice D1.A2 D1.n2 D1.c2, .slice D1.A3 D1.S.length D1.c3, .slice D1.A4 D1.R.length D1.c4] 56) = w3.alloc (.cells (st8 D0 D1) 56) := rfl
    rw [ew]
    clear ew hb3 hb4 Q56 hD0 hD1 H3
    generalize w3.alloc _ = V2 at *
    have hs4 : w3.heap.size < V2.heap.size := H4.out.2.2.1.lt
    generalize w3.heap.size = q56 at *
    go_upto_region 9 with fail
    have hb5 : Below V2.heap.size V2 (V2.alloc (.cells #[.slice none 0 0, .slice none 0 0] 60)) := (Below.refl _ _).alloc (Nat.le_refl _) _
    have Q60 : Bk (V2.alloc (.cells #[.slice none 0 0, .slice none 0 0] 60)) V2.heap.size 60 #[.slice none 0 0, .slice none 0 0] := bk_last rfl
    have H5 := Lib.hid (And.intro hb5 Q60)
    clear hb5 Q60
    generalize V2.alloc _ = V3 at *
    have HC0 := Lib.hid (show ColI D0.S D1.S V2.heap.size V2 0 none 0 [] none 0 [] V3 from ⟨H5.out.1, H5.out.2, fun h => by simp [stpCells] at h, fun h => by simp [stpCells] at h, (fun a h => by cases h), (fun a h => by cases h), fun h => absurd h (by omega), fun h => absurd h (by omega), fun _ => ⟨rfl, rfl, rfl⟩, fun _ => ⟨rfl, rfl, rfl⟩⟩)
    clear H5
    obtain ⟨n, hn2⟩ : ∃ n, V2.heap.size = n := ⟨_, rfl⟩
    have HN2 := Lib.hid hn2
    rw [hn2] at HC0 hs4 ⊢
    clear hn2
    go_upto_region 10 with fail
    go_loopw [12] (fun i wr => ∃ (k : Nat) (A0 : Option Addr) (m0 : Nat) (P0 : List StepD) (A1 : Option Addr) (m1 : Nat) (P1 : List StepD), k ≤ 2 ∧ i = .int .i64 k ∧ Hid (ColI D0.S D1.S n V2 k A0 m0 P0 A1 m1 P1 wr)) (fun i _ => 2 - (intOf i).toNat)
    case atStart => exact ⟨0, none, 0, [], none, 0, [], by omega, rfl, HC0⟩
    case round =>
      clear HC0
      obtain ⟨k, A0, m0, P0, A1', m1, P1, hk, rfl, HI⟩ := hrel
      have hk3 : k = 0 ∨ k = 1 ∨ k = 2 := by omega
      rcases hk3 with rfl | rfl | rfl
      · have hnw : n < wr.heap.size := HI.out.bk.lt
        obtain ⟨e1, e2, e3⟩ := HI.out.z0 (by omega)
        subst e1 e2 e3
        obtain ⟨B, hB⟩ : ∃ B, wr.heap.size = B := ⟨_, rfl⟩
        have HJ0 := Lib.hid (show ColJ D0.S n B V2 0 none 0 [] A1' P1 #[.slice none 0 0, .slice A1' P1.length m1] wr from ⟨HI.out.bl, HI.out.bk, ⟨by omega, by omega⟩, World.ownsRow_nil _ _ _ _, HI.out.r1, fun a ha => by have := HI.out.l1 a ha; omega, rfl⟩)
        have HD0 := Lib.hid (And.intro HI.out.d0 HI.out.z1)
        clear HI hnw hB
        simp only [show ((0 : Nat) : Int) = 0 from rfl]
        go_upto_region 13 with fail
        go_loopw [13] (fun i ws => ∃ (k : Nat) (A : Option Addr) (m : Nat) (P : List StepD), k ≤ D0.S.length ∧ i = .int .i64 k ∧ Hid (ColJ D0.S n B V2 k A m P A1' P1 #[.slice A P.length m, .slice A1' P1.length m1] ws)) (fun i _ => D0.S.length - (intOf i).toNat)
        case atStart => exact ⟨0, none, 0, [], Nat.zero_le _, rfl, HJ0⟩
        case round =>
          clear HJ0
          obtain ⟨k, A, m, P, hk, rfl, HJ⟩ := hrel
          have hb2 : Below V2.heap.size V2 wr := by rw [HN2.out]; exact HJ.out.bl
          have HB2 := Lib.hid hb2
          have z0 := (H4.out.2.2.1.keep hb2).cell 2
          simp [st8] at z0
          have hPk : P.length ≤ k := by rw [HJ.out.is]; exact Nat.le_trans (List.length_filter_le _ _) (by simp; omega)
          have hl10 := HLS.out.1
          by_cases hlt : k < D0.S.length
          · have hkI : (k : Int) < D0.S.length := by omega
            obtain ⟨b5, o5, hA5, hb5, hc5⟩ := stp_loads (H4.out.2.2.2.1.row.below hb2) (by omega)
            have hc6 := hc5 k hlt
            have lk := hc6.2
            have hlo5 : b5 < V2.heap.size := by
              obtain ⟨b6, o6, hA6, hb6, _⟩ := stp_loads H4.out.2.2.2.1.row (by omega)
              rw [hA6] at hA5
              injection hA5 with hA5
              injection hA5 with hA5
              omega
            have HL6 := Lib.hid hc6.1
            have HLX := Lib.hid (fun (X : World) (h : Below V2.heap.size V2 X) => (show loadN 62 (.pointer (some ⟨b5, o5 + k * 5, none⟩)) X = .ok (.agg (D0.S.getD k step0).arr) X from by
              obtain ⟨b6, o6, hA6, hb6, hc7⟩ := stp_loads (H4.out.2.2.2.1.row.below h) (by omega)
              have e := hA5.symm.trans hA6
              injection e with e
              injection e with e1 e2
              subst e1 e2
              exact (hc7 k hlt).1))
            have HA5 := Lib.hid hA5
            rw [hA5] at z0
            have hzx : wr.cell? ⟨q56, 2, none⟩ = some (.slice (some ⟨b5, o5, none⟩) D0.S.length D0.c3) := z0
            clear hc5 hc6 hb2 hb5 hA5
            have HSKIP := Lib.hid (fun (h : (D0.S.getD k step0).kind ≠ 1) => HJ.out.skip hlt h)
            have HPUSH := Lib.hid (fun (h1 : (D0.S.getD k step0).kind = 1) (V V' : World) (hj : ColJ D0.S n B V2 k A m P A1' P1 #[.slice A P.length m, .slice A1' P1.length m1] V) (A' : Option Addr) (m' : Nat) (hown : V'.ownsRow B 62 5 (.slice A' (P.length + 1) m') (P.length + 1) (stpCells P ++ (D0.S.getD k step0).cells)) (hg : V.grownBy V' (Value.slice A P.length m).ownBlock) => hj.push hlt h1 0 hown hg)
            generalize D0.S.getD k step0 = s at *
            by_cases hkd : s.kind = 1
            · have hkb : (s.kind == 1) = true := by simpa using hkd
              clear HSKIP
              go_upto_region 16 with fail
              have HKD := Lib.hid hkd
              clear z0 lk hkb hkd
              have J5 := fun x : Ext wr => HJ.out.below x.bel
              have j0 := fun x : Ext wr => (show loadN 62 (.pointer (some ⟨b5, o5 + k * 5, none⟩)) x.w = .ok (.agg #[.int .i64 s.kind, .int .i64 s.heap, .slice s.tA s.times.length s.tc, .int .i64 s.dlo, .int .i64 s.dhi]) x.w from HLX.out x.w (by rw [HN2.out]; exact (J5 x).bl))
              have j1 := fun x : Ext wr => (show x.w.cell? ⟨q56, 2, none⟩ = some (.slice (some ⟨b5, o5, none⟩) D0.S.length D0.c3) from by rw [← HA5.out]; exact ((H4.out.2.2.1.keep (show Below V2.heap.size V2 x.w by rw [HN2.out]; exact (J5 x).bl)).cell 2).trans rfl)
              have j2 := fun x : Ext wr => (J5 x).bk.cell 0
              simp at j2
              have HJ5 := Lib.hid J5
              have hnw : n < wr.heap.size := HJ.out.bk.lt
              obtain ⟨i0, hi0, hz0, hz1, hz2⟩ := info_parts info62
              clear J5 HLX HL6 hzx
              refine wp_region_extlead 1 4 11 _ (by kernel_rfl) (by kernel_rfl) rfl (fun _ _ d _ _ h => by cases d <;> exact h) ?_
              simp only [List.take_succ_cons, List.take_zero, List.drop_succ_cons, List.drop_zero]
              repeat (go_big_quiet_step (fail))
              refine wpQuiet_nil ?_
              refine ⟨rfl, ?_⟩
              rintro _ ⟨y6, rfl⟩
              have hBx : Below wr.heap.size wr (y6.w.alloc (.cells #[.int .i64 s.kind, .int .i64 s.heap, .slice s.tA s.times.length s.tc, .int .i64 s.dlo, .int .i64 s.dhi] 62)) := y6.bel.alloc y6.bel.size _
              refine ⟨.slice (some ⟨y6.w.heap.size, 0, none⟩) 1 1, y6.w.alloc (.cells #[.int .i64 s.kind, .int .i64 s.heap, .slice s.tA s.times.length s.tc, .int .i64 s.dlo, .int .i64 s.dhi] 62), by kernel_rfl, ⟨⟨_, hBx⟩, rfl⟩, ?_⟩
              clear j0 j1 j2
              have I6 := HJ5.out ⟨_, hBx⟩
              refine wpList_append_own _ rfl _ _ 52 rfl B 62 i0 _ 5 56 Tryz.underlying52 hi0 hz0 hz1 hz2 rfl (by decide) (.slice A P.length m) P.length (stpCells P) rfl I6.own ⟨y6.w.heap.size, 0, none⟩ 1 1 [.int .i64 s.kind, .int .i64 s.heap, .slice s.tA s.times.length s.tc, .int .i64 s.dlo, .int .i64 s.dhi] rfl rfl (blk_cells (bk_last rfl)) (by simp [Value.oneCell']) (by unfold maxLen; omega) (by omega) I6.lt.2 ?_
              intro v6 w6 hown6 hg6 _
              obtain ⟨A6, c6, rfl, _, _, _⟩ := own_form hown6
              have HEND := Lib.hid (HPUSH.out HKD.out _ w6 I6 A6 c6 hown6 hg6)
              have B7' : Bk w6 n 60 _ := (hg6.block n I6.bk.lt (fun e => by have := (I6.own.lt _ e.symm).1; have := I6.lt; omega)).trans I6.bk
              have c4 := B7'.cell 0
              have f4 := B7'.fz 0
              have l4 := B7'.lt
              simp at c4
              clear B7' hown6 hg6 I6 hBx HJ5
              focus
                go_wp2_with fail
                go_roundw
                case rel => exact ⟨k + 1, A6, c6, P ++ [s], by omega, by go_num, by simpa using HEND⟩
                case measure => simp [intOf]; omega
            · have hkb : (s.kind == 1) = false := by simpa using hkd
              have HEND := Lib.hid (HSKIP.out hkd)
              go_wp2_with fail
              go_roundw
              case rel => exact ⟨k + 1, A, m, P, by omega, by go_num, HEND⟩
              case measure => simp [intOf]; omega
          · obtain rfl : k = D0.S.length := by omega
            obtain ⟨A7, c7, e7, _, hrow7, _⟩ := own_form HJ.out.own
            injection e7 with e7
            subst e7
            have hP : P = passS D0.S := by have := HJ.out.is; rwa [List.take_length] at this
            have HEND := Lib.hid (show ColI D0.S D1.S n V2 1 A m P A1' m1 P1 wr from ⟨HJ.out.bl, HJ.out.bk, hrow7, HJ.out.rx, fun a ha => ⟨by have := (own_lt HJ.out.own a ha).1; have := HJ.out.lt; omega, (own_lt HJ.out.own a ha).2⟩, fun a ha => ⟨(HJ.out.lx a ha).1, by have := HJ.out.lx a ha; have := HJ.out.lt; omega⟩, fun _ => hP, fun h => absurd h (by omega), fun h => absurd h (by omega), fun _ => HD0.out.2 (by omega)⟩)
            clear hP hrow7
            go_wp2_with fail
            go_roundw
            case rel => exact ⟨1, A, m, P, A1', m1, P1, by omega, by first | rfl | go_num, HEND⟩
            case measure => simp [intOf]
      · have hnw : n < wr.heap.size := HI.out.bk.lt
        obtain ⟨e1, e2, e3⟩ := HI.out.z1 (by omega)
        subst e1 e2 e3
        obtain ⟨B, hB⟩ : ∃ B, wr.heap.size = B := ⟨_, rfl⟩
        have HJ0 := Lib.hid (show ColJ D1.S n B V2 0 none 0 [] A0 P0 #[.slice A0 P0.length m0, .slice none 0 0] wr from ⟨HI.out.bl, HI.out.bk, ⟨by omega, by omega⟩, World.ownsRow_nil _ _ _ _, HI.out.r0, fun a ha => by have := HI.out.l0 a ha; omega, rfl⟩)
        have HD0 := Lib.hid (And.intro HI.out.d0 HI.out.z1)
        clear HI hnw hB
        simp only [show ((1 : Nat) : Int) = 1 from rfl]
        go_upto_region 13 with fail
        go_loopw [13] (fun i ws => ∃ (k : Nat) (A : Option Addr) (m : Nat) (P : List StepD), k ≤ D1.S.length ∧ i = .int .i64 k ∧ Hid (ColJ D1.S n B V2 k A m P A0 P0 #[.slice A0 P0.length m0, .slice A P.length m] ws)) (fun i _ => D1.S.length - (intOf i).toNat)
        case atStart => exact ⟨0, none, 0, [], Nat.zero_le _, rfl, HJ0⟩
        case round =>
          clear HJ0
          obtain ⟨k, A, m, P, hk, rfl, HJ⟩ := hrel
          have hb2 : Below V2.heap.size V2 wr := by rw [HN2.out]; exact HJ.out.bl
          have HB2 := Lib.hid hb2
          have z0 := (H4.out.2.2.1.keep hb2).cell 6
          simp [st8] at z0
          have hPk : P.length ≤ k := by rw [HJ.out.is]; exact Nat.le_trans (List.length_filter_le _ _) (by simp; omega)
          have hl10 := HLS.out.2
          by_cases hlt : k < D1.S.length
          · have hkI : (k : Int) < D1.S.length := by omega
            obtain ⟨b5, o5, hA5, hb5, hc5⟩ := stp_loads (H4.out.2.2.2.2.row.below hb2) (by omega)
            have hc6 := hc5 k hlt
            have lk := hc6.2
            have hlo5 : b5 < V2.heap.size := by
              obtain ⟨b6, o6, hA6, hb6, _⟩ := stp_loads H4.out.2.2.2.2.row (by omega)
              rw [hA6] at hA5
              injection hA5 with hA5
              injection hA5 with hA5
              omega
            have HL6 := Lib.hid hc6.1
            have HLX := Lib.hid (fun (X : World) (h : Below V2.heap.size V2 X) => (show loadN 62 (.pointer (some ⟨b5, o5 + k * 5, none⟩)) X = .ok (.agg (D1.S.getD k step0).arr) X from by
              obtain ⟨b6, o6, hA6, hb6, hc7⟩ := stp_loads (H4.out.2.2.2.2.row.below h) (by omega)
              have e := hA5.symm.trans hA6
              injection e with e
              injection e with e1 e2
              subst e1 e2
              exact (hc7 k hlt).1))
            have HA5 := Lib.hid hA5
            rw [hA5] at z0
            have hzx : wr.cell? ⟨q56, 6, none⟩ = some (.slice (some ⟨b5, o5, none⟩) D1.S.length D1.c3) := z0
            clear hc5 hc6 hb2 hb5 hA5
            have HSKIP := Lib.hid (fun (h : (D1.S.getD k step0).kind ≠ 1) => HJ.out.skip hlt h)
            have HPUSH := Lib.hid (fun (h1 : (D1.S.getD k step0).kind = 1) (V V' : World) (hj : ColJ D1.S n B V2 k A m P A0 P0 #[.slice A0 P0.length m0, .slice A P.length m] V) (A' : Option Addr) (m' : Nat) (hown : V'.ownsRow B 62 5 (.slice A' (P.length + 1) m') (P.length + 1) (stpCells P ++ (D1.S.getD k step0).cells)) (hg : V.grownBy V' (Value.slice A P.length m).ownBlock) => hj.push hlt h1 1 hown hg)
            generalize D1.S.getD k step0 = s at *
            by_cases hkd : s.kind = 1
            · have hkb : (s.kind == 1) = true := by simpa using hkd
              clear HSKIP
              go_upto_region 16 with fail
              have HKD := Lib.hid hkd
              clear z0 lk hkb hkd
              have J5 := fun x : Ext wr => HJ.out.below x.bel
              have j0 := fun x : Ext wr => (show loadN 62 (.pointer (some ⟨b5, o5 + k * 5, none⟩)) x.w = .ok (.agg #[.int .i64 s.kind, .int .i64 s.heap, .slice s.tA s.times.length s.tc, .int .i64 s.dlo, .int .i64 s.dhi]) x.w from HLX.out x.w (by rw [HN2.out]; exact (J5 x).bl))
              have j1 := fun x : Ext wr => (show x.w.cell? ⟨q56, 6, none⟩ = some (.slice (some ⟨b5, o5, none⟩) D1.S.length D1.c3) from by rw [← HA5.out]; exact ((H4.out.2.2.1.keep (show Below V2.heap.size V2 x.w by rw [HN2.out]; exact (J5 x).bl)).cell 6).trans rfl)
              have j2 := fun x : Ext wr => (J5 x).bk.cell 1
              simp at j2
              have HJ5 := Lib.hid J5
              have hnw : n < wr.heap.size := HJ.out.bk.lt
              obtain ⟨i0, hi0, hz0, hz1, hz2⟩ := info_parts info62
              clear J5 HLX HL6 hzx
              refine wp_region_extlead 1 4 11 _ (by kernel_rfl) (by kernel_rfl) rfl (fun _ _ d _ _ h => by cases d <;> exact h) ?_
              simp only [List.take_succ_cons, List.take_zero, List.drop_succ_cons, List.drop_zero]
              repeat (go_big_quiet_step (fail))
              refine wpQuiet_nil ?_
              refine ⟨rfl, ?_⟩
              rintro _ ⟨y6, rfl⟩
              have hBx : Below wr.heap.size wr (y6.w.alloc (.cells #[.int .i64 s.kind, .int .i64 s.heap, .slice s.tA s.times.length s.tc, .int .i64 s.dlo, .int .i64 s.dhi] 62)) := y6.bel.alloc y6.bel.size _
              refine ⟨.slice (some ⟨y6.w.heap.size, 0, none⟩) 1 1, y6.w.alloc (.cells #[.int .i64 s.kind, .int .i64 s.heap, .slice s.tA s.times.length s.tc, .int .i64 s.dlo, .int .i64 s.dhi] 62), by kernel_rfl, ⟨⟨_, hBx⟩, rfl⟩, ?_⟩
              clear j0 j1 j2
              have I6 := HJ5.out ⟨_, hBx⟩
              refine wpList_append_own _ rfl _ _ 52 rfl B 62 i0 _ 5 56 Tryz.underlying52 hi0 hz0 hz1 hz2 rfl (by decide) (.slice A P.length m) P.length (stpCells P) rfl I6.own ⟨y6.w.heap.size, 0, none⟩ 1 1 [.int .i64 s.kind, .int .i64 s.heap, .slice s.tA s.times.length s.tc, .int .i64 s.dlo, .int .i64 s.dhi] rfl rfl (blk_cells (bk_last rfl)) (by simp [Value.oneCell']) (by unfold maxLen; omega) (by omega) I6.lt.2 ?_
              intro v6 w6 hown6 hg6 _
              obtain ⟨A6, c6, rfl, _, _, _⟩ := own_form hown6
              have HEND := Lib.hid (HPUSH.out HKD.out _ w6 I6 A6 c6 hown6 hg6)
              have B7' : Bk w6 n 60 _ := (hg6.block n I6.bk.lt (fun e => by have := (I6.own.lt _ e.symm).1; have := I6.lt; omega)).trans I6.bk
              have c4 := B7'.cell 1
              have f4 := B7'.fz 1
              have l4 := B7'.lt
              simp at c4
              clear B7' hown6 hg6 I6 hBx HJ5
              focus
                go_wp2_with fail
                go_roundw
                case rel => exact ⟨k + 1, A6, c6, P ++ [s], by omega, by go_num, by simpa using HEND⟩
                case measure => simp [intOf]; omega
            · have hkb : (s.kind == 1) = false := by simpa using hkd
              have HEND := Lib.hid (HSKIP.out hkd)
              go_wp2_with fail
              go_roundw
              case rel => exact ⟨k + 1, A, m, P, by omega, by go_num, HEND⟩
              case measure => simp [intOf]; omega
          · obtain rfl : k = D1.S.length := by omega
            obtain ⟨A7, c7, e7, _, hrow7, _⟩ := own_form HJ.out.own
            injection e7 with e7
            subst e7
            have hP : P = passS D1.S := by have := HJ.out.is; rwa [List.take_length] at this
            have HEND := Lib.hid (show ColI D0.S D1.S n V2 2 A0 m0 P0 A m P wr from ⟨HJ.out.bl, HJ.out.bk, HJ.out.rx, hrow7, fun a ha => ⟨(HJ.out.lx a ha).1, by have := HJ.out.lx a ha; have := HJ.out.lt; omega⟩, fun a ha => ⟨by have := (own_lt HJ.out.own a ha).1; have := HJ.out.lt; omega, (own_lt HJ.out.own a ha).2⟩, fun _ => HD0.out.1 (by omega), fun _ => hP, fun h => absurd h (by omega), fun h => absurd h (by omega)⟩)
            clear hP hrow7
            go_wp2_with fail
            go_roundw
            case rel => exact ⟨2, A0, m0, P0, A, m, P, by omega, by first | rfl | go_num, HEND⟩
            case measure => simp [intOf]
      · have e0 := HI.out.d0 (by omega)
        have e1 := HI.out.d1 (by omega)
        have HPK2 := Lib.hid (show PairOk b P0 P1 by rw [e0, e1]; exact HPK.out)
        have hl10 : P0.length ≤ 10 := by rw [e0]; exact Nat.le_trans (List.length_filter_le _ _) HLS.out.1
        have HM0 := Lib.hid (show ∀ i, i < P0.length → P0.getD i step0 ∈ D0.S from fun i hi => by rw [e0] at hi ⊢; exact (List.mem_filter.1 (getD_mem step0 hi)).1)
        have HM1 := Lib.hid (show ∀ i, i < P1.length → P1.getD i step0 ∈ D1.S from fun i hi => by rw [e1] at hi ⊢; exact (List.mem_filter.1 (getD_mem step0 hi)).1)
        clear e0 e1 HPK HLS
        obtain ⟨V9, hV9⟩ : ∃ X, X = wr := ⟨_, rfl⟩
        subst hV9
        have hfr := fr_ok HR.out.chk
        obtain ⟨_, hR4, hS6⟩ := RS_of hfr HR.out.few
        have eR : b.bed.rings = (b.flr.R : Int) := by have := hfr.r0; simp only [BaseC.fr] at this; show _ = ((b.bed.rings.toNat : Nat) : Int); omega
        have eS : b.bed.sec = (b.flr.S : Int) := by have := hfr.s0; simp only [BaseC.fr] at this; show _ = ((b.bed.sec.toNat : Nat) : Int); omega
        have hS1 : 1 ≤ b.flr.S := by have := hfr.s0; simp only [BaseC.fr] at this; omega
        have HPE := Lib.hid HPK2.out.each
        have hlen := HPK2.out.len
        generalize b.flr.R = R at *
        generalize b.flr.S = S at *
        have hb2 : Below V2.heap.size V2 V9 := by rw [HN2.out]; exact HI.out.bl
        have hP1 : ∀ X, Below V9.heap.size V9 X → X.cell? ⟨w.heap.size, 1, none⟩ = some (.int .i64 (R : Int)) ∧ X.cell? ⟨w.heap.size, 2, none⟩ = some (.int .i64 (S : Int)) := fun X h => by
          rw [← eR, ← eS]
          exact ⟨(((H4.out.1.keep hb2).keep h).cell 1).trans rfl, (((H4.out.1.keep hb2).keep h).cell 2).trans rfl⟩
        have HP1 := Lib.hid hP1
        have HTM := Lib.hid (And.intro (H4.out.2.2.2.1.below hb2) (H4.out.2.2.2.2.below hb2))
        have p2 := (HP1.out V9 (Below.refl _ _)).2
        have n0 := HI.out.bk.cell 0
        have n1 := HI.out.bk.cell 1
        simp at n0 n1
        have HB9 := Lib.hid (H4.out.2.1.trans (hb2.mono H4.out.2.1.size))
        have hlenI : (P0.length : Int) = P1.length := by omega
        clear hP1 hfr eR eS hb2 H4
        go_upto_region 21 with fail
        clear p2 n0 n1
        go_loopw [15] (fun i ws => ∃ k : Nat, k ≤ P0.length ∧ i = .int .i64 k ∧ Hid (Below V9.heap.size V9 ws)) (fun i _ => P0.length - (intOf i).toNat)
        case atStart => exact ⟨0, Nat.zero_le _, rfl, Below.refl _ _⟩
        case round =>
          obtain ⟨k, hk, rfl, HK⟩ := hrel
          have n0 := (HI.out.bk.keep HK.out).cell 0
          simp at n0
          by_cases hlt : k < P0.length
          · have hkI : (k : Int) < P0.length := by omega
            have hkI1 : (k : Int) < P1.length := by omega
            obtain ⟨hh, hx1, hy1, hx2, hy2, hsum⟩ := HPE.out k hlt
            have hxm := HM0.out k hlt
            have hym := HM1.out k (by omega)
            obtain ⟨gx, tx, ⟨_, cx⟩, bx⟩ := HTM.out.1.tm _ hxm
            obtain ⟨gy, ty, ⟨_, cy⟩, bY⟩ := HTM.out.2.tm _ hym
            have hRS24 : R * S ≤ 4 * 6 := Nat.mul_le_mul hR4 hS6
            obtain ⟨N, hN⟩ : ∃ N, R * S = N := ⟨_, rfl⟩
            rw [hN] at hx1 hy1 hRS24
            rw [hx1] at cx
            rw [hy1] at cy
            obtain ⟨b5, o5, hA5, _, hc5⟩ := stp_loads (HI.out.r0.below HK.out) (by omega)
            have L0 := (hc5 k hlt).1
            unfold StepD.arr at L0
            rw [tx, hx1] at L0
            rw [hA5] at n0
            have hlP : ∀ X, Below V9.heap.size V9 X → ∃ b6 o6, A1' = some ⟨b6, o6, none⟩ ∧ loadN 62 (.pointer (some ⟨b6, o6 + k * 5, none⟩)) X = .ok (.agg #[.int .i64 (P1.getD k step0).kind, .int .i64 (P0.getD k step0).heap, .slice (some ⟨gy, 0, none⟩) N (P1.getD k step0).tc, .int .i64 (P1.getD k step0).dlo, .int .i64 (P1.getD k step0).dhi]) X := fun X h => by
              obtain ⟨b6, o6, h6, _, hc6⟩ := stp_loads (HI.out.r1.below h) (by omega)
              have L1 := (hc6 k (by omega)).1
              unfold StepD.arr at L1
              rw [ty, hy1, ← hh] at L1
              exact ⟨b6, o6, h6, L1⟩
            have HBX := Lib.hid (And.intro bx bY)
            have HSUM := Lib.hid (And.intro hsum (And.intro hx2 (And.intro hy2 (And.intro hx1 hy1))))
            clear hc5 hA5 hh hsum hx2 hy2 hx1 hy1 hxm hym tx ty bx bY
            generalize P0.getD k step0 = x at *
            generalize P1.getD k step0 = y at *
            have hbx : Below wr.heap.size wr (wr.alloc (.cells #[.int .i64 x.kind, .int .i64 x.heap, .slice (some ⟨gx, 0, none⟩) N x.tc, .int .i64 x.dlo, .int .i64 x.dhi] 62)) := (Below.refl _ _).alloc (Nat.le_refl _) _
            have hBx := HK.out.trans (hbx.mono HK.out.size)
            obtain ⟨b6, o6, hA6, L1⟩ := hlP _ hBx
            have n1 := ((HI.out.bk.keep HK.out).keep hbx).cell 1
            simp at n1
            rw [hA6] at n1
            have hby : Below (wr.alloc (.cells #[.int .i64 x.kind, .int .i64 x.heap, .slice (some ⟨gx, 0, none⟩) N x.tc, .int .i64 x.dlo, .int .i64 x.dhi] 62)).heap.size (wr.alloc (.cells #[.int .i64 x.kind, .int .i64 x.heap, .slice (some ⟨gx, 0, none⟩) N x.tc, .int .i64 x.dlo, .int .i64 x.dhi] 62)) ((wr.alloc (.cells #[.int .i64 x.kind, .int .i64 x.heap, .slice (some ⟨gx, 0, none⟩) N x.tc, .int .i64 x.dlo, .int .i64 x.dhi] 62)).alloc (.cells #[.int .i64 y.kind, .int .i64 x.heap, .slice (some ⟨gy, 0, none⟩) N y.tc, .int .i64 y.dlo, .int .i64 y.dhi] 62)) := (Below.refl _ _).alloc (Nat.le_refl _) _
            have HV := Lib.hid (show Bk ((wr.alloc (.cells #[.int .i64 x.kind, .int .i64 x.heap, .slice (some ⟨gx, 0, none⟩) N x.tc, .int .i64 x.dlo, .int .i64 x.dhi] 62)).alloc (.cells #[.int .i64 y.kind, .int .i64 x.heap, .slice (some ⟨gy, 0, none⟩) N y.tc, .int .i64 y.dlo, .int .i64 y.dhi] 62)) wr.heap.size 62 #[.int .i64 x.kind, .int .i64 x.heap, .slice (some ⟨gx, 0, none⟩) N x.tc, .int .i64 x.dlo, .int .i64 x.dhi] ∧ Bk ((wr.alloc (.cells #[.int .i64 x.kind, .int .i64 x.heap, .slice (some ⟨gx, 0, none⟩) N x.tc, .int .i64 x.dlo, .int .i64 x.dhi] 62)).alloc (.cells #[.int .i64 y.kind, .int .i64 x.heap, .slice (some ⟨gy, 0, none⟩) N y.tc, .int .i64 y.dlo, .int .i64 y.dhi] 62)) (wr.heap.size + 1) 62 #[.int .i64 y.kind, .int .i64 x.heap, .slice (some ⟨gy, 0, none⟩) N y.tc, .int .i64 y.dlo, .int .i64 y.dhi] ∧ Below V9.heap.size V9 ((wr.alloc (.cells #[.int .i64 x.kind, .int .i64 x.heap, .slice (some ⟨gx, 0, none⟩) N x.tc, .int .i64 x.dlo, .int .i64 x.dhi] 62)).alloc (.cells #[.int .i64 y.kind, .int .i64 x.heap, .slice (some ⟨gy, 0, none⟩) N y.tc, .int .i64 y.dlo, .int .i64 y.dhi] 62)) from
              ⟨(bk_last rfl).alloc _, bk_last (by simp), hBx.trans (hby.mono hBx.size)⟩)
            clear hbx hBx hby hlP hA6
            go_upto_region 25 with fail
            clear n0 n1 L0 L1
            obtain ⟨V, hV⟩ : ∃ X, (wr.alloc (.cells #[.int .i64 x.kind, .int .i64 x.heap, .slice (some ⟨gx, 0, none⟩) N x.tc, .int .i64 x.dlo, .int .i64 x.dhi] 62)).alloc (.cells #[.int .i64 y.kind, .int .i64 x.heap, .slice (some ⟨gy, 0, none⟩) N y.tc, .int .i64 y.dlo, .int .i64 y.dhi] 62) = X := ⟨_, rfl⟩
            rw [hV] at HV ⊢
            clear hV
            generalize wr.heap.size = q16 at *
            have a1 := HV.out.1.cell 1
            have a2 := HV.out.1.cell 2
            have d1 := HV.out.2.1.cell 1
            have d2 := HV.out.2.1.cell 2
            simp at a1 a2 d1 d2
            have p1 := (HP1.out V HV.out.2.2).1
            have hw1 : IntKind.i64.wrap ((R : Int) * S) = (N : Int) := by rw [← hN, Int.natCast_mul]; exact IntWalk.i64_in _ (by rw [← Int.natCast_mul, hN]; omega)
            have HN := Lib.hid hN
            have HC := Lib.hid (And.intro cx cy)
            clear hN cx cy
            go_upto_region 28 with fail
            clear a1 a2 d1 d2 p1 hw1
            go_loopw [18] (fun i ws => ∃ r : Nat, r ≤ R ∧ i = .int .i64 r ∧ Hid (Below V.heap.size V ws)) (fun i _ => R - (intOf i).toNat)
            case atStart => exact ⟨0, Nat.zero_le _, rfl, Below.refl _ _⟩
            case round =>
              obtain ⟨r, hr, rfl, HL⟩ := hrel
              have hB9 := HV.out.2.2.trans (HL.out.mono HV.out.2.2.size)
              have p1 := (HP1.out wr hB9).1
              by_cases hrl : r < R
              · have hrI : (r : Int) < R := by omega
                obtain ⟨lo, hlo⟩ : ∃ lo, r * S = lo := ⟨_, rfl⟩
                have hloN : lo + S ≤ N := by
                  have : (r + 1) * S ≤ R * S := Nat.mul_le_mul_right _ hrl
                  rw [HN.out, Nat.add_mul, Nat.one_mul, hlo] at this
                  exact this
                have hw1 : IntKind.i64.wrap ((r : Int) * S) = (lo : Int) := by rw [← hlo, Int.natCast_mul]; exact IntWalk.i64_in _ (by rw [← Int.natCast_mul, hlo]; omega)
                have hw2 : IntKind.i64.wrap (((r : Int) + 1) * S) = ((lo + S : Nat) : Int) := by
                  have e : ((r : Int) + 1) * S = ((lo + S : Nat) : Int) := by rw [Int.add_mul, Int.one_mul, ← Int.natCast_mul, hlo, Int.natCast_add]
                  rw [e]
                  exact IntWalk.i64_in _ (by omega)
                have hcx := HC.out.1
                have hcy := HC.out.2
                have hnx : ¬ x.tc = lo := by omega
                have hny : ¬ y.tc = lo := by omega
                have hsub : lo + S - lo = S := by omega
                have KS0 : Hid (∀ X : Ext wr, Calls Tryz.prog 8 #[.slice (some ⟨gx, lo, none⟩) S (x.tc - lo)] X.w fun e w' => e = .returned (.int .i64 (sumZ ((x.times.drop lo).take S))) ∧ Below X.w.heap.size X.w w') := Lib.hid fun X => by
                  have hBX := hB9.trans (X.bel.mono hB9.size)
                  have hlen : ((x.times.drop lo).take S).length = S := by rw [List.length_take, List.length_drop, HSUM.out.2.2.2.1]; omega
                  have := sum_any (some ⟨gx, lo, none⟩) (x.tc - lo) ((x.times.drop lo).take S) X.w (row_sub (HBX.out.1.keep hBX) lo S) (by omega) (fun u hu => HSUM.out.2.1 u (List.mem_of_mem_drop (List.mem_of_mem_take hu)))
                  rw [hlen] at this
                  exact this.mono fun e w' he => ⟨he.1, by rw [he.2]; exact Below.refl _ _⟩
                have KS1 : Hid (∀ X : Ext wr, Calls Tryz.prog 8 #[.slice (some ⟨gy, lo, none⟩) S (y.tc - lo)] X.w fun e w' => e = .returned (.int .i64 (sumZ ((x.times.drop lo).take S))) ∧ Below X.w.heap.size X.w w') := Lib.hid fun X => by
                  have hBX := hB9.trans (X.bel.mono hB9.size)
                  have hlen : ((y.times.drop lo).take S).length = S := by rw [List.length_take, List.length_drop, HSUM.out.2.2.2.2]; omega
                  have hse := HSUM.out.1 r hrl
                  rw [hlo] at hse
                  have := sum_any (some ⟨gy, lo, none⟩) (y.tc - lo) ((y.times.drop lo).take S) X.w (row_sub (HBX.out.2.keep hBX) lo S) (by omega) (fun u hu => HSUM.out.2.2.1 u (List.mem_of_mem_drop (List.mem_of_mem_take hu)))
                  rw [hlen, ← hse] at this
                  exact this.mono fun e w' he => ⟨he.1, by rw [he.2]; exact Below.refl _ _⟩
                generalize sumZ ((x.times.drop lo).take S) = s0 at *
                have a2 := (HV.out.1.keep HL.out).cell 2
                have d2 := (HV.out.2.1.keep HL.out).cell 2
                simp at a2 d2
                clear hB9 hlo hsub
                go_upto_region 30 with fail
                clear p1
                replace a2 := fun x : Ext wr => keepc x.bel a2
                replace d2 := fun x : Ext wr => keepc x.bel d2
                refine wp_region_ext (by kernel_rfl) (by kernel_rfl) ?_
                iterate 11 (go_big_quiet_step ((go_at_call 8; exact ext_of (KS0.out _))))
                repeat (go_big_quiet_step ((go_at_call 8; exact ext_of (KS1.out _))))
                refine wpQuiet_nil ?_
                rintro _ ⟨yy, rfl⟩
                clear a2 d2 hw1 hw2 KS0 KS1
                have hb8 := yy.bel
                generalize yy.w = w8 at hb8 ⊢
                have HEND := Lib.hid (HL.out.trans (hb8.mono HL.out.size))
                clear hb8
                go_wp2_with fail
                go_roundw
                case rel => exact ⟨r + 1, by omega, by go_num, HEND⟩
                case measure => simp [intOf]; omega
              · obtain rfl : r = R := by omega
                have HEND := Lib.hid hB9
                clear hB9
                go_wp2_with fail
                go_roundw
                case rel => exact ⟨k + 1, by omega, by go_num, HEND⟩
                case measure => simp [intOf]; omega
          · obtain rfl : k = P0.length := by omega
            have HEND := Lib.hid (HB9.out.trans (HK.out.mono HB9.out.size))
            go_wp2_with fail
            go_ret
            exact ⟨rfl, HEND.out⟩
end Go.Proofs.YteihcodicfoiaaaGreat
