/-
  What is proved: the contract of gears.All.
-/
import Derived.Test.YtheifigkclegdaaAllM
import Derived.Test.YtheifigkclegdaaLow
import Derived.Deep.DeepCutAuto
namespace Go.Proofs.Ytheifigkclegdaa
open Go.RowKit
attribute [local go_sem] Res.val

theorem boolInfo : (Try.prog.info? 4).map (fun i => (i.zero, i.size, i.bytes)) = some (some (.bool false), 1, 1) := by kernel_rfl

def boolCells (l : List Bool) : List Value := l.map (.bool ·)
theorem boolCells_len (l : List Bool) : (boolCells l).length = l.length := by simp [boolCells]
theorem boolCells_set (l : List Bool) (i : Nat) (x : Bool) : (boolCells l).set i (.bool x) = boolCells (l.set i x) := by simp [boolCells, List.map_set]
theorem bool_at {w : World} {base g n c : Nat} {l : List Bool} (h : w.ownsRow base 4 1 (.slice (some ⟨g, 0, none⟩) n c) n (boolCells l)) (hl : l.length = n) (k : Nat) (hk : k < n) : w.cell? ⟨g, k, none⟩ = some (.bool (l.getD k false)) := by
  rw [h.cellAt k (by omega)]
  simp [boolCells, List.getD_eq_getElem?_getD, show k < l.length by omega]

theorem span_bounds {r p : Res} {s t : Nat} (hr : r.num = 1) (ht : t ≤ 96) (hs : s ≤ 96) (hp : p.num ≤ 1000000000) :
    -1000000000000 ≤ (spanR r p s t).1 ∧ (spanR r p s t).1 ≤ (spanR r p s t).2 ∧ 0 ≤ (spanR r p s t).2 ∧ (spanR r p s t).2 ≤ 10000 := by
  refine ⟨?_, span_le _ _ _ _, ?_, ?_⟩
  · simp only [spanR]
    have h1 : p.num * s / p.den ≤ p.num * s := Nat.div_le_self _ _
    have h2 : p.num * s ≤ 1000000000 * 96 := Nat.mul_le_mul hp hs
    generalize p.num * s / p.den = y at *
    generalize t * r.num * s / r.den = x at *
    split <;> omega
  · simp only [spanR]
    generalize t * r.num * s / r.den = x
    omega
  · simp only [spanR]
    have h1 : t * r.num * s / r.den ≤ t * r.num * s := Nat.div_le_self _ _
    have h2 : t * r.num * s ≤ 96 * 1 * 96 := Nat.mul_le_mul (Nat.mul_le_mul ht (by omega)) hs
    omega

def filtI (P : Nat → Bool) (k : Nat) : List Int := ((List.range k).filter P).map fun k : Nat => (k : Int)
theorem filtI_succ_true {P : Nat → Bool} {k : Nat} (h : P k = true) : filtI P (k + 1) = filtI P k ++ [(k : Int)] := by
  simp [filtI, List.range_succ, List.filter_append, h]
theorem filtI_succ_false {P : Nat → Bool} {k : Nat} (h : P k = false) : filtI P (k + 1) = filtI P k := by
  simp [filtI, List.range_succ, List.filter_append, h]
theorem filtI_len (P : Nat → Bool) (k : Nat) : (filtI P k).length ≤ k := by
  simp only [filtI, List.length_map]
  exact Nat.le_trans (List.length_filter_le _ _) (by simp)

set_option maxRecDepth 100000 in
set_option maxHeartbeats 16000000 in
theorem all_core (b off c s : Nat) (L : List Mesh) (rn rd : Nat) (p : Res) (w : World) (hL : RowAt w (some ⟨b, off, none⟩) (meshCells L)) (hcm : L.length ≤ 9223372036854775807) (hs2 : 2 ≤ s) (hs96 : s ≤ 96)
    (hrd : 1 ≤ rd) (hrd2 : rd ≤ 1000000000) (hpn : p.num ≤ 1000000000) (hpd : 1 ≤ p.den) (hpd2 : p.den ≤ 1000000000)
    (HA : Hid (∀ W, RowAt W (some ⟨b, off, none⟩) (meshCells L) → Calls Try.prog 60 #[.agg #[.slice (some ⟨b, off, none⟩) L.length c], .int .i64 0] W fun e w' => e = .returned (.int .i64 0) ∧ Below W.heap.size W w'))
    (HR : Hid (∀ W, RowAt W (some ⟨b, off, none⟩) (meshCells L) → Calls Try.prog 69 #[.agg #[.slice (some ⟨b, off, none⟩) L.length c], .int .i64 s] W fun e w' => Below W.heap.size W w' ∧ ∃ g, e = .returned (.tuple #[.pointer (some ⟨g, 0, none⟩), .int .i64 0]) ∧ W.heap.size ≤ g ∧
      Bk w' g 102 #[.int .i64 rn, .int .i64 rd, .int .i64 p.num, .int .i64 p.den, .int .i64 s])) :
    Calls Try.prog 46 #[.agg #[.slice (some ⟨b, off, none⟩) L.length c], .int .i64 s] w fun e w' => ∃ v, e = .returned (.tuple #[v, .int .i64 0]) ∧ w'.ownsRow w.heap.size 3 1 v (filtI (allB rd p s) s).length (intCells (filtI (allB rd p s) s)) ∧ Below w.heap.size w w' := by
  obtain ⟨i0, hi0, hz0, hz1, hz2⟩ := info_parts intInfo
  obtain ⟨j0, hj0, jz0, jz1, jz2⟩ := info_parts boolInfo
  have hsB : inB (s : Int) 2 96 = true := by simp [inB]; omega
  obtain ⟨m, hm⟩ : ∃ m, min rd s = m := ⟨_, rfl⟩
  have hms : m ≤ s := by omega
  have HM := Lib.hid hm
  clear hm
  go_enter Try.func46, Try.ntmps46
  go_wp2_with fail
  refine (HA.out _ (hL.alloc _)).mono ?_
  rintro e w1 ⟨rfl, hb1⟩
  have X : Bk w1 w.heap.size 24 #[.slice (some ⟨b, off, none⟩) L.length c] := (bk_last rfl).keep hb1
  have hB1 : Below w.heap.size w w1 := ((Below.refl _ _).alloc (Nat.le_refl _) _).trans (hb1.mono (by simp))
  clear hb1
  have Xc0 := X.cell 0
  simp at Xc0
  go_wp2_with (go_at_call 68; refine (within_any _ _ _ _).mono ?_; rintro e w' ⟨rfl, rfl⟩)
  refine (HR.out _ (hL.below hB1)).mono ?_
  rintro e w2 ⟨hb2, g, rfl, hg, G⟩
  have hB2 := hB1.trans (hb2.mono hB1.size)
  have hgw : w.heap.size ≤ g := by have := hB1.size; omega
  clear hb2 hB1 X Xc0 HA HR hL
  have G0 := G.cell 0
  have G1 := G.cell 1
  have Gf := G.fz 0
  simp at G0 G1
  have Gl := G.lt
  have bb2 : j0.bytes * s ≤ 281474976710656 := by rw [jz2]; omega
  have bb3 : s ≤ maxLen := by unfold maxLen; omega
  have hB20 := hB2.size
  go_upto_region 12 with (at_make; refine (wpList_make_full _ rfl _ _ 103 rfl w.heap.size 4 j0 _ 1 Try.underlying103 hj0 jz0 jz1 .i64 .i64 _ _ s rfl rfl rfl rfl bb2 bb3 (by simpa using hB20) ?_); intro w3 hown hgr)
  have hsz : (w2.setCell { block := g, off := 0 } (Value.int IntKind.i64 1)).heap.size = w2.heap.size := by simp
  rw [hsz] at hown
  have hrep : (madeCells (Value.bool false).cells (s * 1)).toList = boolCells (List.replicate s false) := by
    rw [Nat.mul_one]
    show (madeCells #[Value.bool false] s).toList = _
    rw [toList_madeCells_one]
    simp [boolCells]
  rw [hrep] at hown
  have G3 : Bk w3 g 102 #[.int .i64 1, .int .i64 rd, .int .i64 p.num, .int .i64 p.den, .int .i64 s] := by simpa using (G.put 0 _).grown hgr (by simp)
  have hB3 : Below w.heap.size w w3 := (hB2.setCell hgw _).grown hgr (by simpa using hB20) (fun k hk => by cases hk)
  have hql := hown.lt w2.heap.size rfl
  have hgq : g ≠ w2.heap.size := by omega
  clear hgr hrep hsz G hB2 G0 G1 Gf
  generalize w2.heap.size = q at *
  have G1 := G3.cell 1
  simp at G1
  go_cut [47, 48] from 41 to 48 (fun cc dd wx => cc = .int .i64 (m : Nat) ∧ dd = .int .i64 0 ∧ wx = w3)
  case first =>
    have hm := HM.out
    rcases Nat.lt_trichotomy rd s with h | h | h
    · have e : m = rd := by omega
      subst e
      have d1 : decide ((s : Int) < m) = false := by simp; omega
      have d2 : decide ((m : Int) < s) = true := by simp; omega
      go_wp2_with fail
      go_meet
      case rel => exact ⟨rfl, rfl, rfl⟩
    · have e : m = s := by omega
      subst h
      subst e
      go_wp2_with fail
      go_meet
      case rel => exact ⟨rfl, rfl, rfl⟩
    · have e : m = s := by omega
      subst e
      have d1 : decide ((m : Int) < rd) = true := by simp; omega
      have d2 : decide ((rd : Int) < m) = false := by simp; omega
      go_wp2_with fail
      go_meet
      case rel => exact ⟨rfl, rfl, rfl⟩
  case rest =>
  obtain ⟨rfl, rfl, rfl⟩ := hcut
  clear G1
  have hfalse : ∀ k, (List.replicate s false).getD k false = false := fun k => by
    simp only [List.getD_eq_getElem?_getD, List.getElem?_replicate]
    split <;> rfl
  have HF0 : Hid (∀ k, k < s → ((List.replicate s false).getD k false = true ↔ ∃ t, t < 0 ∧ hit (spanR ⟨1, rd, 0⟩ p s t) s k = true)) := fun k _ => by
    rw [hfalse]
    simp
  clear hfalse
  go_wp2_with fail
  go_loopw [48] (fun i wr => ∃ T : Nat, T ≤ m ∧ i = .int .i64 T ∧ ∃ bl : List Bool, bl.length = s ∧ wr.ownsRow w.heap.size 4 1 (.slice (some ⟨q, 0, none⟩) s s) s (boolCells bl) ∧ Hid (∀ k, k < s → (bl.getD k false = true ↔ ∃ t, t < T ∧ hit (spanR ⟨1, rd, 0⟩ p s t) s k = true)) ∧
    Bk wr g 102 #[.int .i64 1, .int .i64 rd, .int .i64 p.num, .int .i64 p.den, .int .i64 s] ∧ Below w.heap.size w wr) (fun i _ => m - (intOf i).toNat)
  case atStart => exact ⟨0, Nat.zero_le _, rfl, _, by simp, hown, HF0, G3, hB3⟩
  case round =>
    clear HF0 hown G3 hB3
    obtain ⟨T, hT, rfl, bl, hbl, hown, HF, G, hB⟩ := hrel
    have hql2 := hown.lt q rfl
    by_cases hlt : T < m
    · have hTI : (T : Int) < m := by omega
      have g0 := G.cell 0
      have g1 := G.cell 1
      have g2 := G.cell 2
      have g3 := G.cell 3
      have g4 := G.cell 4
      simp at g0 g1 g2 g3 g4
      have HW := Lib.hid (where_any g T s ⟨1, rd, 0⟩ p wr g0 g1 g2 g3 g4 (by omega) hs96 (by simp) hrd hrd2 hpn hpd hpd2)
      obtain ⟨sp, hsp⟩ : ∃ sp, spanR ⟨1, rd, 0⟩ p s T = sp := ⟨_, rfl⟩
      have hbd := span_bounds (r := ⟨1, rd, 0⟩) (p := p) (s := s) (t := T) rfl (by omega) hs96 hpn
      have HSP := Lib.hid hsp
      rw [hsp] at hbd HW
      clear g0 g1 g2 g3 g4 hsp
      obtain ⟨lo, hi⟩ := sp
      simp only at hbd HW
      go_wp2_with fail
      refine (HW.out).mono ?_
      rintro e w4 ⟨rfl, hb4⟩
      replace hown := own_keep hown hb4
      replace G := G.keep hb4
      have hB4 := hB.trans (hb4.mono hB.size)
      have hq4 := (hown.lt q rfl).2
      clear hb4 hB HW hql2
      go_upto_region 16 with fail
      have S : Bk (w4.alloc (Obj.cells #[Value.int IntKind.i64 lo, Value.int IntKind.i64 hi] 38)) w4.heap.size 38 #[.int .i64 lo, .int .i64 hi] := bk_last rfl
      replace hown := hown.alloc (Obj.cells #[Value.int IntKind.i64 lo, Value.int IntKind.i64 hi] 38)
      replace G := G.alloc (Obj.cells #[Value.int IntKind.i64 lo, Value.int IntKind.i64 hi] 38)
      have hB5 := hB4.alloc hB4.size (Obj.cells #[Value.int IntKind.i64 lo, Value.int IntKind.i64 hi] 38)
      have hw4 := hB4.size
      clear hB4
      generalize w4.alloc (Obj.cells #[Value.int IntKind.i64 lo, Value.int IntKind.i64 hi] 38) = V at *
      generalize w4.heap.size = sb at *
      obtain ⟨n0, hn0⟩ : ∃ n0 : Int, max lo (hi - s + 1) = n0 := ⟨_, rfl⟩
      have HN0 := Lib.hid hn0
      have hn1 : lo ≤ n0 ∧ hi - s + 1 ≤ n0 ∧ n0 ≤ hi := by omega
      clear hn0
      have S0 := S.cell 0
      have S1 := S.cell 1
      simp at S0 S1
      go_cut [13] from 54 to 61 (fun cc wx => cc = .int .i64 n0 ∧ wx = V)
      case first =>
        have hn0 := HN0.out
        rcases Int.lt_trichotomy lo (hi - s + 1) with h | h | h
        · have e : hi - s + 1 = n0 := by omega
          have d1 : decide (lo < hi - s + 1) = true := by simpa using h
          have d2 : decide (hi - s + 1 < lo) = false := by simp; omega
          go_wp2_with fail
          go_meet
          case rel => exact ⟨by first | rfl | rw [e], rfl⟩
        · have e : lo = n0 := by omega
          have d1 : decide (lo < hi - s + 1) = false := by simp; omega
          have d2 : decide (hi - s + 1 < lo) = false := by simp; omega
          go_wp2_with fail
          go_meet
          case rel => exact ⟨by first | rfl | rw [e] | rw [← h, e], rfl⟩
        · have e : lo = n0 := by omega
          have d1 : decide (lo < hi - s + 1) = false := by simp; omega
          have d2 : decide (hi - s + 1 < lo) = true := by simpa using h
          go_wp2_with fail
          go_meet
          case rel => exact ⟨by first | rfl | rw [e], rfl⟩
      case rest =>
      obtain ⟨rfl, rfl⟩ := hcut
      clear S0 S1
      have HI0 : Hid (∀ k, k < s → (bl.getD k false = true ↔ (∃ t, t < T ∧ hit (spanR ⟨1, rd, 0⟩ p s t) s k = true) ∨ ∃ y : Int, n0 ≤ y ∧ y < n0 ∧ y % s = k)) := fun k hk => by
        rw [HF.out k hk]
        constructor
        · exact .inl
        · rintro (h | ⟨y, h1, h2, _⟩)
          · exact h
          · omega
      clear HF
      go_wp2_with fail
      obtain ⟨wo, hwo⟩ : ∃ wo : World, wo = wc := ⟨_, rfl⟩
      subst hwo
      go_loopw [13] (fun n wr => ∃ x : Int, n = .int .i64 x ∧ n0 ≤ x ∧ x ≤ hi + 1 ∧ ∃ bl : List Bool, bl.length = s ∧ wr.ownsRow w.heap.size 4 1 (.slice (some ⟨q, 0, none⟩) s s) s (boolCells bl) ∧
        Hid (∀ k, k < s → (bl.getD k false = true ↔ (∃ t, t < T ∧ hit (spanR ⟨1, rd, 0⟩ p s t) s k = true) ∨ ∃ y : Int, n0 ≤ y ∧ y < x ∧ y % s = k)) ∧
        Bk wr g 102 #[.int .i64 1, .int .i64 rd, .int .i64 p.num, .int .i64 p.den, .int .i64 s] ∧ Bk wr sb 38 #[.int .i64 lo, .int .i64 hi] ∧ Below w.heap.size w wr) (fun n _ => (hi + 1 - intOf n).toNat)
      case atStart => exact ⟨n0, rfl, Int.le_refl _, by omega, bl, hbl, hown, HI0, G, S, hB5⟩
      case round =>
        clear HI0 hown G S hB5 hbl
        obtain ⟨x, rfl, hx1, hx2, bl, hbl, hown, HI, G, S, hB⟩ := hrel
        have S1 := S.cell 1
        simp at S1
        by_cases hle : x ≤ hi
        · obtain ⟨r1, r2, r3, r4, r5, r6⟩ := go_mod x (show 0 < s by omega)
          obtain ⟨k0, hk0⟩ := Int.eq_ofNat_of_zero_le r5
          have r7 : (Int.tmod x s + s) % s = (k0 : Nat) := r4.trans hk0
          have hk0s : k0 < s := by omega
          have hkI : (k0 : Int) < s := by omega
          have sz : ((s : Int) == 0) = false := by simp; omega
          have s1 : (1 : Int) ≤ s := by omega
          have q0 := bool_at hown hbl k0 hk0s
          have q1 := hown.frozenAt k0
          have q2 := (hown.lt q rfl).2
          have hnext := hown.stored k0 (.bool true)
          have hset : boolCells (bl.set k0 true) = (boolCells bl).set k0 (.bool true) := (boolCells_set _ _ _).symm
          have HNX : Hid (∀ k, k < s → ((bl.set k0 true).getD k false = true ↔ (∃ t, t < T ∧ hit (spanR ⟨1, rd, 0⟩ p s t) s k = true) ∨ ∃ y : Int, n0 ≤ y ∧ y < x + 1 ∧ y % s = k)) := fun k hk => by
            have hg : (bl.set k0 true).getD k false = if k0 = k then true else bl.getD k false := by
              simp only [List.getD_eq_getElem?_getD, List.getElem?_set]
              by_cases e : k0 = k
              · subst e; simp [show k0 < bl.length by omega]
              · simp [e]
            rw [hg]
            by_cases e : k0 = k
            · subst e
              simp only [if_true, true_iff]
              exact .inr ⟨x, hx1, by omega, hk0⟩
            · rw [if_neg e, HI.out k hk]
              constructor
              · rintro (h | ⟨y, h1, h2, h3⟩)
                · exact .inl h
                · exact .inr ⟨y, h1, by omega, h3⟩
              · rintro (h | ⟨y, h1, h2, h3⟩)
                · exact .inl h
                · refine .inr ⟨y, h1, ?_, h3⟩
                  rcases Int.lt_or_eq_of_le (show y ≤ x by omega) with h | h
                  · exact h
                  · subst h
                    rw [hk0] at h3
                    omega
          clear r4 r5 r6 hk0 HI
          go_wp2_with fail
          go_roundw
          case rel => exact ⟨x + 1, rfl, by omega, by omega, bl.set k0 true, by simpa using hbl, by rw [hset]; exact hnext.1, HNX, G.far (by simp; omega) _, S.far (by simp; omega) _, hB.setCell (by simp; omega) _⟩
          case measure => simp [intOf]; omega
        · have hx : x = hi + 1 := by omega
          subst hx
          have HF2 : Hid (∀ k, k < s → (bl.getD k false = true ↔ ∃ t, t < T + 1 ∧ hit (spanR ⟨1, rd, 0⟩ p s t) s k = true)) := fun k hk => by
            rw [HI.out k hk]
            have hl := hit_last (s := (lo, hi)) (show 0 < s by omega) hk
            rw [HN0.out] at hl
            constructor
            · rintro (⟨t, h1, h2⟩ | ⟨y, h1, h2, h3⟩)
              · exact ⟨t, by omega, h2⟩
              · exact ⟨T, by omega, by rw [HSP.out]; exact hl.2 ⟨y, h1, by simp only; omega, h3⟩⟩
            · rintro ⟨t, h1, h2⟩
              rcases Nat.lt_or_ge t T with h | h
              · exact .inl ⟨t, h, h2⟩
              · have : t = T := by omega
                subst this
                rw [HSP.out] at h2
                obtain ⟨y, y1, y2, y3⟩ := hl.1 h2
                exact .inr ⟨y, y1, by simp only at y2; omega, y3⟩
          clear HI
          go_wp2_with fail
          go_roundw
          case rel => exact ⟨T + 1, by omega, by go_num, bl, hbl, hown, HF2, G, hB⟩
          case measure => simp [intOf]; omega
    · have : T = m := by omega
      subst this
      have HP : Hid (∀ k, k < s → (bl.getD k false || decide (s ≤ rd)) = allB rd p s k) := fun k hk => by
        unfold allB
        have hm := HM.out
        by_cases hge : s ≤ rd
        · simp [hge]
        · have e : rd = T := by omega
          have h := HF.out k hk
          rw [← e] at h
          simp only [hge, decide_false, Bool.or_false, Bool.false_or]
          rw [Bool.eq_iff_iff, h, List.any_eq_true]
          simp
      clear HF
      have hql3 := hown.lt q rfl
      have HO0 : wr.ownsRow (q + 1) 3 1 (.slice none 0 0) (filtI (allB rd p s) 0).length (intCells (filtI (allB rd p s) 0)) := World.ownsRow_nil _ _ _ _
      go_wp2_with fail
      obtain ⟨wo, hwo⟩ : ∃ wo : World, wo = wr := ⟨_, rfl⟩
      subst hwo
      go_loopw [14, 79] (fun v i wr => ∃ k : Nat, k ≤ s ∧ i = .int .i64 k ∧ wr.ownsRow (q + 1) 3 1 v (filtI (allB rd p s) k).length (intCells (filtI (allB rd p s) k)) ∧ wr.ownsRow w.heap.size 4 1 (.slice (some ⟨q, 0, none⟩) s s) s (boolCells bl) ∧
        Bk wr g 102 #[.int .i64 1, .int .i64 rd, .int .i64 p.num, .int .i64 p.den, .int .i64 s] ∧ Below w.heap.size w wr) (fun _ i _ => s - (intOf i).toNat)
      case atStart => exact ⟨0, Nat.zero_le _, rfl, HO0, hown, G, hB⟩
      case round =>
        clear HO0 hown G hB hql3
        obtain ⟨k, hk, rfl, ho, hown, G, hB⟩ := hrel
        by_cases hlk : k < s
        · have hkI : (k : Int) < s := by omega
          have q0 := bool_at hown hbl k hlk
          have g1 := G.cell 1
          simp at g1
          have hql3 := hown.lt q rfl
          have hP := HP.out k hlk
          have hU := ho.lt
          have hlen := filtI_len (allB rd p s) k
          by_cases hb : allB rd p s k = true
          · have HS := Lib.hid (filtI_succ_true hb)
            rw [hb] at hP
            have E1 : (filtI (allB rd p s) k).length + 1 ≤ maxLen := by unfold maxLen; omega
            have E2 : ((filtI (allB rd p s) k).length + 1) * 8 ≤ 140737488355328 := by omega
            have EE := Lib.hid (And.intro E1 E2)
            clear E1 E2 hlen hb
            have hcase : bl.getD k false = true ∨ (bl.getD k false = false ∧ (s : Int) ≤ rd) := by
              cases h : bl.getD k false
              · rw [h] at hP; simp at hP; exact .inr ⟨rfl, by omega⟩
              · exact .inl rfl
            clear hP
            generalize filtI (allB rd p s) k = F at *
            rcases hcase with hc | ⟨hc, hc2⟩
            all_goals
              rw [hc] at q0
              go_wp2_with (at_builtin; refine (wpList_append_own_at _ rfl _ _ 27 rfl (q + 1) 3 i0 _ 1 8 Try.underlying27 hi0 hz0 hz1 hz2 rfl (by decide) _ _ _ rfl (ho.alloc _) ⟨wr.heap.size, 0, none⟩ 1 1 [.int .i64 k] rfl rfl (cell_one_new _ _ _) (by simp [Value.oneCell']) EE.out.1 EE.out.2 (by simp; omega) ?_); intro v' w5 hown' hg5 _ _)
              have hg' : (wr.alloc (Obj.cells #[Value.int IntKind.i64 k] 3)).grownBy w5 u14.ownBlock := hg5
              clear hg5
              go_roundw
              case rel =>
                refine ⟨k + 1, by omega, by go_num, ?_, (hown.alloc _).kept hg' (.inr (fun e => by have := (hU q e.symm).1; omega)), (G.alloc _).grown hg' (fun e => by have := (hU g e.symm).1; omega), (hB.alloc hB.size _).grown hg' (by have := hB.size; simp; omega) (fun i hi => by have := (hU i hi).1; omega)⟩
                rw [HS.out]
                simpa [intCells] using hown'
              case measure => simp [intOf]; omega
          · have hb' : allB rd p s k = false := by simpa using hb
            have HS := Lib.hid (filtI_succ_false hb')
            rw [hb'] at hP
            have hc : bl.getD k false = false ∧ ¬ (s ≤ rd) := by
              simp at hP
              exact ⟨by simpa using hP.1, by omega⟩
            obtain ⟨hc1, hc2⟩ := hc
            have hc3 : (rd : Int) < s := by omega
            rw [hc1] at q0
            clear hP hb hb' hlen
            go_wp2_with fail
            go_roundw
            case rel => exact ⟨k + 1, by omega, by go_num, by rw [HS.out]; exact ho, hown, G, hB⟩
            case measure => simp [intOf]; omega
        · have : k = s := by omega
          subst this
          go_wp2_with fail
          go_ret2
          have hz := (hown.lt q rfl).1
          exact ⟨_, rfl, own_base ho (by omega), hB⟩

end Go.Proofs.Ytheifigkclegdaa
