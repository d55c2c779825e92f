/-
  What is proved: the contract of the specification's All in all cases.
-/
import Derived.Test.YtheifigkclegdaaSecM
import Derived.Test.YtheifigkclegdaaMeetsM
import Derived.Test.YtheifigkclegdaaRWhere
namespace Go.Proofs.Ytheifigkclegdaa
/-- The multiples of a coprime number take all remainders. -/
theorem cop_onto {n d u : Nat} (hd : 1 ≤ d) (h : Nat.gcd n d = 1) (hu : u < d) : ∃ t, t < d ∧ t * n % d = u := by
  obtain ⟨x, y, e⟩ := bez n d
  rw [h] at e
  have e1 := Int.emod_nonneg ((u : Int) * x) (show (d : Int) ≠ 0 by omega)
  have e2 := Int.emod_lt_of_pos ((u : Int) * x) (show (0 : Int) < d by omega)
  obtain ⟨t, ht⟩ := Int.eq_ofNat_of_zero_le e1
  refine ⟨t, by omega, ?_⟩
  have e3 : ((t * n % d : Nat) : Int) = (u : Int) := by
    rw [Int.natCast_emod, Int.natCast_mul, ← ht, Int.mul_emod, Int.emod_emod, ← Int.mul_emod]
    have e4 : (u : Int) * x * n = u + d * (-(u * y)) := by
      have e5 : (u : Int) * (n * x + d * y) = u * ((1 : Nat) : Int) := by rw [e]
      grind
    rw [e4, Int.add_mul_emod_self_left]
    exact Int.emod_eq_of_lt (by omega) (by omega)
  omega

theorem hit_shift' {a b : Int × Int} {s k z : Nat} (hs : 0 < s) (hk : k < s) (h1 : a.1 = b.1 + (z * s : Nat)) (h2 : a.2 = b.2 + (z * s : Nat)) (h : hit b s k = true) : hit a s k = true := by
  obtain ⟨x, x1, x2, x3⟩ := (hit_iff hs hk).1 h
  refine (hit_iff hs hk).2 ⟨x + (z * s : Nat), by omega, by omega, ?_⟩
  have e : x + ((z * s : Nat) : Int) = x + s * (z : Int) := by
    rw [Int.natCast_mul, Int.mul_comm (s : Int)]
  rw [e, Int.add_mul_emod_self_left, x3]

/-- It is the same whether the runner's turns are rn or 1 by den. -/
theorem all_same {rn den s k : Nat} {p : Res} (hd : 1 ≤ den) (hg : Nat.gcd rn den = 1) (hs : 0 < s) (hk : k < s) :
    (∃ t, t < den ∧ hit (spanR ⟨rn, den, 0⟩ p s t) s k = true) ↔ ∃ t, t < den ∧ hit (spanR ⟨1, den, 0⟩ p s t) s k = true := by
  constructor
  · rintro ⟨t, _, h⟩
    obtain ⟨e1, e2⟩ := span_shift (rn := rn) (den := den) (p := p) (s := s) (t := t) (u := t * rn % den) (q := t * rn / den) (Nat.div_add_mod _ _).symm hd
    exact ⟨t * rn % den, Nat.mod_lt _ (by omega), hit_shift hs hk e1 e2 h⟩
  · rintro ⟨u, hu, h⟩
    obtain ⟨t, ht, e⟩ := cop_onto hd hg hu
    have e0 : t * rn = den * (t * rn / den) + u := by
      have := Nat.div_add_mod (t * rn) den
      omega
    obtain ⟨e1, e2⟩ := span_shift (rn := rn) (den := den) (p := p) (s := s) (t := t) (u := u) (q := t * rn / den) e0 hd
    exact ⟨t, ht, hit_shift' hs hk e1 e2 h⟩

theorem last_cop {L : List Mesh} (hok : okTrain L = true) (hr : (lastR L).err = 0) : Nat.gcd (lastR L).num (lastR L).den = 1 := by
  obtain ⟨k1, k2, k3⟩ := ok_train hok
  have k4 : ∀ m ∈ L.take L.length, m.ok = true := fun m hm => k3 m (List.mem_of_mem_take hm)
  have hp : 1 ≤ pr (dns (L.take L.length)) := pr_pos _ fun x hx => by
    obtain ⟨m, hm, rfl⟩ := List.mem_map.1 hx
    have := ok_mesh (k4 m hm)
    omega
  have h2 := (drs_getD k3 0).1
  exact (low_ok _ _ (Nat.mul_le_mul hp h2) hr).2.1

open Go.RowKit
attribute [local go_sem] Res.val

theorem rspan_bounds {r p : Res} {s t : Nat} (hr : r.num ≤ 1000000000) (ht : t ≤ 96) (hs : s ≤ 96) (hp : p.num ≤ 1000000000) :
    -1000000000000 ≤ (spanR r p s t).1 ∧ (spanR r p s t).1 ≤ (spanR r p s t).2 ∧ 0 ≤ (spanR r p s t).2 ∧ (spanR r p s t).2 ≤ 10000000000000 := by
  refine ⟨?_, span_le _ _ _ _, ?_, ?_⟩
  · simp only [spanR]
    have h1 : p.num * s / p.den ≤ p.num * s := Nat.div_le_self _ _
    have h2 : p.num * s ≤ 1000000000 * 96 := Nat.mul_le_mul hp hs
    generalize p.num * s / p.den = y at *
    generalize t * r.num * s / r.den = x at *
    split <;> omega
  · simp only [spanR]
    generalize t * r.num * s / r.den = x
    omega
  · simp only [spanR]
    have h1 : t * r.num * s / r.den ≤ t * r.num * s := Nat.div_le_self _ _
    have h2 : t * r.num * s ≤ 96 * 1000000000 * 96 := Nat.mul_le_mul (Nat.mul_le_mul ht hr) hs
    omega

theorem getD_set_true {bl : List Bool} {k0 k : Nat} (h : k0 < bl.length) : (bl.set k0 true).getD k false = if k0 = k then true else bl.getD k false := by
  simp only [List.getD_eq_getElem?_getD, List.getElem?_set]
  by_cases e : k0 = k
  · subst e; simp [h]
  · simp [e]

set_option maxRecDepth 100000 in
set_option maxHeartbeats 16000000 in
theorem rall_core (b off c s rn rd : Nat) (L : List Mesh) (p : Res) (w : World) (hL : RowAt w (some ⟨b, off, none⟩) (meshCells L)) (hs2 : 2 ≤ s) (hs96 : s ≤ 96)
    (hrn : rn ≤ 1000000000) (hrd : 1 ≤ rd) (hrd2 : rd ≤ 1000000000) (hpn : p.num ≤ 1000000000) (hpd : 1 ≤ p.den) (hpd2 : p.den ≤ 1000000000)
    (HE : Hid (∀ k, k < s → ((∃ t, t < rd ∧ hit (spanR ⟨rn, rd, 0⟩ p s t) s k = true) ↔ ∃ t, t < rd ∧ hit (spanR ⟨1, rd, 0⟩ p s t) s k = true)))
    (HA : Hid (∀ W, RowAt W (some ⟨b, off, none⟩) (meshCells L) → Calls Try.prog 34 #[.agg #[.slice (some ⟨b, off, none⟩) L.length c]] W fun e w' => e = .returned (.bool true) ∧ Below W.heap.size W w'))
    (HR : Hid (∀ W, RowAt W (some ⟨b, off, none⟩) (meshCells L) → Calls Try.prog 84 #[.agg #[.slice (some ⟨b, off, none⟩) L.length c], .int .i64 s] W fun e w' => e = .returned (.tuple #[.agg #[.int .i64 rn, .int .i64 rd], .agg #[.int .i64 p.num, .int .i64 p.den], .int .i64 0]) ∧ Below W.heap.size W w')) :
    Calls Try.prog 47 #[.agg #[.slice (some ⟨b, off, none⟩) L.length c], .int .i64 s] w fun e w' => ∃ v, e = .returned (.tuple #[v, .int .i64 0]) ∧ w'.ownsRow w.heap.size 3 1 v (filtI (allB rd p s) s).length (intCells (filtI (allB rd p s) s)) ∧ Below w.heap.size w w' := by
  obtain ⟨i0, hi0, hz0, hz1, hz2⟩ := info_parts intInfo
  obtain ⟨j0, hj0, jz0, jz1, jz2⟩ := info_parts boolInfo
  go_enter Try.func47, Try.ntmps47
  go_wp2_with fail
  refine (HA.out _ (hL.alloc _)).mono ?_
  rintro e w1 ⟨rfl, hb1⟩
  have X : Bk w1 w.heap.size 24 #[.slice (some ⟨b, off, none⟩) L.length c] := (bk_last rfl).keep hb1
  have hB1 : Below w.heap.size w w1 := ((Below.refl _ _).alloc (Nat.le_refl _) _).trans (hb1.mono (by simp))
  replace hL := (hL.alloc _).below hb1
  clear hb1
  have Xc0 := X.cell 0
  simp at Xc0
  go_wp2_with fail
  refine (HR.out _ hL).mono ?_
  rintro e w2 ⟨rfl, hb2⟩
  have hB2 := hB1.trans (hb2.mono hB1.size)
  clear hb2 hB1 X Xc0 HA HR hL
  have bb2 : j0.bytes * s ≤ 281474976710656 := by rw [jz2]; omega
  have bb3 : s ≤ maxLen := by unfold maxLen; omega
  have hB20 := hB2.size
  go_upto_region 6 with fail
  have R : Bk ((w2.alloc (Obj.cells #[Value.int IntKind.i64 rn, Value.int IntKind.i64 rd] 42)).alloc (Obj.cells #[Value.int IntKind.i64 p.num, Value.int IntKind.i64 p.den] 42)) w2.heap.size 42 #[.int .i64 rn, .int .i64 rd] := (bk_last rfl).alloc _
  have P : Bk ((w2.alloc (Obj.cells #[Value.int IntKind.i64 rn, Value.int IntKind.i64 rd] 42)).alloc (Obj.cells #[Value.int IntKind.i64 p.num, Value.int IntKind.i64 p.den] 42)) (w2.heap.size + 1) 42 #[.int .i64 p.num, .int .i64 p.den] := bk_last (by simp)
  have hBV : Below w.heap.size w ((w2.alloc (Obj.cells #[Value.int IntKind.i64 rn, Value.int IntKind.i64 rd] 42)).alloc (Obj.cells #[Value.int IntKind.i64 p.num, Value.int IntKind.i64 p.den] 42)) := (hB2.alloc hB20 _).alloc (by simp; omega) _
  have hBV0 := hBV.size
  clear hB2
  generalize (w2.alloc (Obj.cells #[Value.int IntKind.i64 rn, Value.int IntKind.i64 rd] 42)).alloc (Obj.cells #[Value.int IntKind.i64 p.num, Value.int IntKind.i64 p.den] 42) = V at *
  go_upto_region 7 with (at_make; refine (wpList_make_full _ rfl _ _ 103 rfl w.heap.size 4 j0 _ 1 Try.underlying103 hj0 jz0 jz1 .i64 .i64 _ _ s rfl rfl rfl rfl bb2 bb3 (by simpa using hBV0) ?_); intro w3 hown hgr)
  have hrep : (madeCells (Value.bool false).cells (s * 1)).toList = boolCells (List.replicate s false) := by
    rw [Nat.mul_one]
    show (madeCells #[Value.bool false] s).toList = _
    rw [toList_madeCells_one]
    simp [boolCells]
  rw [hrep] at hown
  have hql := hown.lt V.heap.size rfl
  have hRl := R.lt
  have hPl := P.lt
  replace R : Bk w3 w2.heap.size 42 #[.int .i64 rn, .int .i64 rd] := R.grown hgr (by simp)
  replace P : Bk w3 (w2.heap.size + 1) 42 #[.int .i64 p.num, .int .i64 p.den] := P.grown hgr (by simp)
  have hB3 : Below w.heap.size w w3 := hBV.grown hgr (by simpa using hBV0) (fun k hk => by cases hk)
  clear hgr hrep hBV hBV0
  generalize hr : w2.heap.size = r at *
  generalize hq : V.heap.size = q at *
  have hrq : r + 1 < q := by omega
  clear hr hq hRl hPl
  have HF0 : Hid (∀ j, j < s → ((List.replicate s false).getD j false = true ↔ j < 0)) := fun j _ => by
    simp only [List.getD_eq_getElem?_getD, List.getElem?_replicate]
    split <;> simp
  go_wp2_with fail
  go_loopw [10] (fun i wr => ∃ k : Nat, k ≤ s ∧ i = .int .i64 k ∧ (rd < s → k = 0) ∧ ∃ bl : List Bool, bl.length = s ∧ wr.ownsRow w.heap.size 4 1 (.slice (some ⟨q, 0, none⟩) s s) s (boolCells bl) ∧ Hid (∀ j, j < s → (bl.getD j false = true ↔ j < k)) ∧
    Bk wr r 42 #[.int .i64 rn, .int .i64 rd] ∧ Bk wr (r + 1) 42 #[.int .i64 p.num, .int .i64 p.den] ∧ Below w.heap.size w wr) (fun i _ => s - (intOf i).toNat)
  case atStart => exact ⟨0, Nat.zero_le _, rfl, fun _ => rfl, _, by simp, hown, HF0, R, P, hB3⟩
  case round =>
    clear HF0 hown R P hB3 hql
    obtain ⟨k, hk, rfl, hk0, bl, hbl, hown, HF, R, P, hB⟩ := hrel
    have hql2 := hown.lt q rfl
    obtain ⟨v, hv⟩ : ∃ v, decide (k < s ∧ s ≤ rd) = v := ⟨_, rfl⟩
    have HVV := Lib.hid hv
    clear hv
    have R1 := R.cell 1
    simp at R1
    have Rl := R.lt
    go_upto_region 8 with fail
    go_cut [39] from 31 to 39 (fun cc wx => cc = .bool v ∧ wx = wr)
    case first =>
      have hv := HVV.out
      by_cases h1 : k < s
      · have h1I : (k : Int) < s := by omega
        by_cases h2 : s ≤ rd
        · have h2I : (s : Int) ≤ rd := by omega
          rw [decide_eq_true ⟨h1, h2⟩] at hv
          subst hv
          go_wp2_with fail
          go_meet
          case rel => exact ⟨rfl, rfl⟩
        · have h2I : (rd : Int) < s := by omega
          rw [decide_eq_false (fun h => h2 h.2)] at hv
          subst hv
          go_wp2_with fail
          go_meet
          case rel => exact ⟨rfl, rfl⟩
      · have h1I : (s : Int) ≤ k := by omega
        rw [decide_eq_false (fun h => h1 h.1)] at hv
        subst hv
        go_wp2_with fail
        go_meet
        case rel => exact ⟨rfl, rfl⟩
    case rest =>
    obtain ⟨rfl, rfl⟩ := hcut
    cases v
    · have hout := of_decide_eq_false HVV.out
      have HG : Hid (∀ j, j < s → (bl.getD j false = true ↔ s ≤ rd ∨ ∃ t, t < 0 ∧ hit (spanR ⟨rn, rd, 0⟩ p s t) s j = true)) := fun j hj => by
        rw [HF.out j hj]
        constructor
        · intro h
          refine .inl ?_
          rcases Nat.lt_or_ge rd s with h2 | h2
          · have := hk0 h2; omega
          · exact h2
        · rintro (h | ⟨t, h, _⟩)
          · omega
          · omega
      clear HF HVV hout hk0 hk
      go_wp2_with fail
      obtain ⟨wo, hwo⟩ : ∃ wo : World, wo = wc := ⟨_, rfl⟩
      subst hwo
      go_loopw [11] (fun i wr => ∃ n : Nat, n ≤ rd ∧ i = .int .i64 n ∧ ∃ bl : List Bool, bl.length = s ∧ wr.ownsRow w.heap.size 4 1 (.slice (some ⟨q, 0, none⟩) s s) s (boolCells bl) ∧ Hid (∀ j, j < s → (bl.getD j false = true ↔ s ≤ rd ∨ ∃ t, t < n ∧ hit (spanR ⟨rn, rd, 0⟩ p s t) s j = true)) ∧
        Bk wr r 42 #[.int .i64 rn, .int .i64 rd] ∧ Bk wr (r + 1) 42 #[.int .i64 p.num, .int .i64 p.den] ∧ Below w.heap.size w wr) (fun i _ => rd - (intOf i).toNat)
      case atStart => exact ⟨0, Nat.zero_le _, rfl, bl, hbl, hown, HG, R, P, hB⟩
      case round =>
        clear HG hown R P hB hbl hql2 R1 Rl
        obtain ⟨n, hn, rfl, bl, hbl, hown, HF, R, P, hB⟩ := hrel
        have hql2 := hown.lt q rfl
        obtain ⟨v, hv⟩ : ∃ v, decide (n < rd ∧ rd < s) = v := ⟨_, rfl⟩
        have HVV := Lib.hid hv
        clear hv
        have R1 := R.cell 1
        simp at R1
        have Rl := R.lt
        go_upto_region 12 with fail
        go_cut [54] from 45 to 54 (fun cc wx => cc = .bool v ∧ wx = wr)
        case first =>
          have hv := HVV.out
          by_cases h1 : n < rd
          · have h1I : (n : Int) < rd := by omega
            by_cases h2 : rd < s
            · have h2I : (rd : Int) < s := by omega
              rw [decide_eq_true ⟨h1, h2⟩] at hv
              subst hv
              go_wp2_with fail
              go_meet
              case rel => exact ⟨rfl, rfl⟩
            · have h2I : (s : Int) ≤ rd := by omega
              rw [decide_eq_false (fun h => h2 h.2)] at hv
              subst hv
              go_wp2_with fail
              go_meet
              case rel => exact ⟨rfl, rfl⟩
          · have h1I : (rd : Int) ≤ n := by omega
            rw [decide_eq_false (fun h => h1 h.1)] at hv
            subst hv
            go_wp2_with fail
            go_meet
            case rel => exact ⟨rfl, rfl⟩
        case rest =>
        obtain ⟨rfl, rfl⟩ := hcut
        cases v
        · have hout := of_decide_eq_false HVV.out
          have HP : Hid (∀ k, k < s → bl.getD k false = allB rd p s k) := fun k hk => by
            rw [Bool.eq_iff_iff, HF.out k hk]
            unfold allB
            simp only [Bool.or_eq_true, decide_eq_true_eq, List.any_eq_true, List.mem_range]
            rcases Nat.lt_or_ge rd s with h2 | h2
            · have e : n = rd := by omega
              subst e
              have he := HE.out k hk
              constructor
              · rintro (h | h)
                · exact .inl h
                · exact .inr (he.1 h)
              · rintro (h | h)
                · exact .inl h
                · exact .inr (he.2 h)
            · simp [h2]
          clear HF HVV hout hn HE
          have hql3 := hown.lt q rfl
          have HO0 : wc.ownsRow (q + 1) 3 1 (.slice none 0 0) (filtI (allB rd p s) 0).length (intCells (filtI (allB rd p s) 0)) := World.ownsRow_nil _ _ _ _
          go_wp2_with fail
          obtain ⟨wo, hwo⟩ : ∃ wo : World, wo = wc := ⟨_, rfl⟩
          subst hwo
          go_loopw [14, 15] (fun v i wr => ∃ k : Nat, k ≤ s ∧ i = .int .i64 k ∧ wr.ownsRow (q + 1) 3 1 v (filtI (allB rd p s) k).length (intCells (filtI (allB rd p s) k)) ∧ wr.ownsRow w.heap.size 4 1 (.slice (some ⟨q, 0, none⟩) s s) s (boolCells bl) ∧ Below w.heap.size w wr) (fun _ i _ => s - (intOf i).toNat)
          case atStart => exact ⟨0, Nat.zero_le _, rfl, HO0, hown, hB⟩
          case round =>
            clear HO0 hown R P hB hql3 hql2 R1 Rl
            obtain ⟨k, hk, rfl, ho, hown, hB⟩ := hrel
            by_cases hlk : k < s
            · have hkI : (k : Int) < s := by omega
              have q0 := bool_at hown hbl k hlk
              have hql3 := hown.lt q rfl
              have hP := HP.out k hlk
              have hU := ho.lt
              have hlen := filtI_len (allB rd p s) k
              rw [hP] at q0
              by_cases hb : allB rd p s k = true
              · have HS := Lib.hid (filtI_succ_true hb)
                rw [hb] at q0
                have E1 : (filtI (allB rd p s) k).length + 1 ≤ maxLen := by unfold maxLen; omega
                have E2 : ((filtI (allB rd p s) k).length + 1) * 8 ≤ 140737488355328 := by omega
                have EE := Lib.hid (And.intro E1 E2)
                clear E1 E2 hlen hb hP
                generalize filtI (allB rd p s) k = F at *
                go_wp2_with (at_builtin; refine (wpList_append_own_at _ rfl _ _ 27 rfl (q + 1) 3 i0 _ 1 8 Try.underlying27 hi0 hz0 hz1 hz2 rfl (by decide) _ _ _ rfl (ho.alloc _) ⟨wr.heap.size, 0, none⟩ 1 1 [.int .i64 k] rfl rfl (cell_one_new _ _ _) (by simp [Value.oneCell']) EE.out.1 EE.out.2 (by simp; omega) ?_); intro v' w5 hown' hg5 _ _)
                have hg' : (wr.alloc (Obj.cells #[Value.int IntKind.i64 k] 3)).grownBy w5 u14.ownBlock := hg5
                clear hg5
                go_roundw
                case rel =>
                  refine ⟨k + 1, by omega, by go_num, ?_, (hown.alloc _).kept hg' (.inr (fun e => by have := (hU q e.symm).1; omega)), (hB.alloc hB.size _).grown hg' (by have := hB.size; simp; omega) (fun i hi => by have := (hU i hi).1; omega)⟩
                  rw [HS.out]
                  simpa [intCells] using hown'
                case measure => simp [intOf]; omega
              · have hb' : allB rd p s k = false := by simpa using hb
                have HS := Lib.hid (filtI_succ_false hb')
                rw [hb'] at q0
                clear hP hb hb' hlen
                go_wp2_with fail
                go_roundw
                case rel => exact ⟨k + 1, by omega, by go_num, by rw [HS.out]; exact ho, hown, hB⟩
                case measure => simp [intOf]; omega
            · have : k = s := by omega
              subst this
              go_wp2_with fail
              go_ret2
              have hz := (hown.lt q rfl).1
              exact ⟨_, rfl, own_base ho (by omega), hB⟩
        · obtain ⟨h1, h2⟩ := of_decide_eq_true HVV.out
          have hnI : (n : Int) < rd := by omega
          have R0 := R.cell 0
          have P0 := P.cell 0
          have P1 := P.cell 1
          simp at R0 P0 P1
          have Pl := P.lt
          have hts : n * rn ≤ 1000000000000000 := Nat.le_trans (Nat.mul_le_mul (show n ≤ 96 by omega) hrn) (by omega)
          have HW := Lib.hid (rspan_any n s ⟨rn, rd, 0⟩ p wc (by omega) hts hs96 hrn hrd hrd2 hpn hpd hpd2)
          obtain ⟨sp, hsp⟩ : ∃ sp, spanR ⟨rn, rd, 0⟩ p s n = sp := ⟨_, rfl⟩
          have hbd := rspan_bounds (r := ⟨rn, rd, 0⟩) (p := p) (s := s) (t := n) hrn (by omega) hs96 hpn
          have HSP := Lib.hid hsp
          rw [hsp] at hbd HW
          clear hsp hts HVV
          obtain ⟨lo, hi⟩ := sp
          simp only at hbd HW
          go_wp2_with fail
          refine (HW.out).mono ?_
          rintro e w4 ⟨rfl, hb4⟩
          replace hown := own_keep hown hb4
          replace R := R.keep hb4
          replace P := P.keep hb4
          have hB4 := hB.trans (hb4.mono hB.size)
          have hq4 := (hown.lt q rfl).2
          clear hb4 hB HW hql2 R0 R1 P0 P1 Rl Pl
          go_upto_region 15 with fail
          have S : Bk (w4.alloc (Obj.cells #[Value.int IntKind.i64 lo, Value.int IntKind.i64 hi] 38)) w4.heap.size 38 #[.int .i64 lo, .int .i64 hi] := bk_last rfl
          replace hown := hown.alloc (Obj.cells #[Value.int IntKind.i64 lo, Value.int IntKind.i64 hi] 38)
          replace R := R.alloc (Obj.cells #[Value.int IntKind.i64 lo, Value.int IntKind.i64 hi] 38)
          replace P := P.alloc (Obj.cells #[Value.int IntKind.i64 lo, Value.int IntKind.i64 hi] 38)
          have hB5 := hB4.alloc hB4.size (Obj.cells #[Value.int IntKind.i64 lo, Value.int IntKind.i64 hi] 38)
          clear hB4
          generalize w4.alloc (Obj.cells #[Value.int IntKind.i64 lo, Value.int IntKind.i64 hi] 38) = U at *
          generalize w4.heap.size = sb at *
          have HI0 : Hid (∀ j, j < s → (bl.getD j false = true ↔ (s ≤ rd ∨ ∃ t, t < n ∧ hit (spanR ⟨rn, rd, 0⟩ p s t) s j = true) ∨ ∃ i : Nat, i < 0 ∧ lo + i ≤ hi ∧ (lo + i) % s = j)) := fun j hj => by
            rw [HF.out j hj]
            constructor
            · exact .inl
            · rintro (h | ⟨i, h, _⟩)
              · exact h
              · omega
          clear HF
          go_wp2_with fail
          go_loopw [13] (fun i wr => ∃ k : Nat, k ≤ s ∧ i = .int .i64 k ∧ ∃ bl : List Bool, bl.length = s ∧ wr.ownsRow w.heap.size 4 1 (.slice (some ⟨q, 0, none⟩) s s) s (boolCells bl) ∧
            Hid (∀ j, j < s → (bl.getD j false = true ↔ (s ≤ rd ∨ ∃ t, t < n ∧ hit (spanR ⟨rn, rd, 0⟩ p s t) s j = true) ∨ ∃ i : Nat, i < k ∧ lo + i ≤ hi ∧ (lo + i) % s = j)) ∧
            Bk wr r 42 #[.int .i64 rn, .int .i64 rd] ∧ Bk wr (r + 1) 42 #[.int .i64 p.num, .int .i64 p.den] ∧ Bk wr sb 38 #[.int .i64 lo, .int .i64 hi] ∧ Below w.heap.size w wr) (fun i _ => s - (intOf i).toNat)
          case atStart => exact ⟨0, Nat.zero_le _, rfl, bl, hbl, hown, HI0, R, P, S, hB5⟩
          case round =>
            clear HI0 hown R P S hB5 hbl
            obtain ⟨k, hk, rfl, bl, hbl, hown, HI, R, P, S, hB⟩ := hrel
            have hql2 := hown.lt q rfl
            obtain ⟨v, hv⟩ : ∃ v, decide (k < s ∧ lo + k ≤ hi) = v := ⟨_, rfl⟩
            have HVV := Lib.hid hv
            clear hv
            have S0 := S.cell 0
            have S1 := S.cell 1
            simp at S0 S1
            have Sl := S.lt
            go_upto_region 16 with fail
            go_cut [73] from 62 to 73 (fun cc wx => cc = .bool v ∧ wx = wr)
            case first =>
              have hv := HVV.out
              by_cases h1 : k < s
              · have h1I : (k : Int) < s := by omega
                by_cases h2 : lo + k ≤ hi
                · rw [decide_eq_true ⟨h1, h2⟩] at hv
                  subst hv
                  go_wp2_with fail
                  go_meet
                  case rel => exact ⟨rfl, rfl⟩
                · have h2I : hi < lo + k := by omega
                  rw [decide_eq_false (fun h => h2 h.2)] at hv
                  subst hv
                  go_wp2_with fail
                  go_meet
                  case rel => exact ⟨rfl, rfl⟩
              · have h1I : (s : Int) ≤ k := by omega
                rw [decide_eq_false (fun h => h1 h.1)] at hv
                subst hv
                go_wp2_with fail
                go_meet
                case rel => exact ⟨rfl, rfl⟩
            case rest =>
            obtain ⟨rfl, rfl⟩ := hcut
            cases v
            · have hout := of_decide_eq_false HVV.out
              have HF2 : Hid (∀ j, j < s → (bl.getD j false = true ↔ s ≤ rd ∨ ∃ t, t < n + 1 ∧ hit (spanR ⟨rn, rd, 0⟩ p s t) s j = true)) := fun j hj => by
                rw [HI.out j hj]
                have hl := hit_first (s := (lo, hi)) (show 0 < s by omega) hj
                constructor
                · rintro ((h | ⟨t, h1, h2⟩) | ⟨i, y1, y2, y3⟩)
                  · exact .inl h
                  · exact .inr ⟨t, by omega, h2⟩
                  · exact .inr ⟨n, by omega, by rw [HSP.out]; exact hl.2 ⟨i, by omega, y2, y3⟩⟩
                · rintro (h | ⟨t, h1, h2⟩)
                  · exact .inl (.inl h)
                  · rcases Nat.lt_or_ge t n with h | h
                    · exact .inl (.inr ⟨t, h, h2⟩)
                    · have : t = n := by omega
                      subst this
                      rw [HSP.out] at h2
                      obtain ⟨i, y1, y2, y3⟩ := hl.1 h2
                      refine .inr ⟨i, ?_, y2, y3⟩
                      simp only at y2
                      omega
              clear HI HVV hout
              go_wp2_with fail
              go_roundw
              case rel => exact ⟨n + 1, by omega, by go_num, bl, hbl, hown, HF2, R, P, hB⟩
              case measure => simp [intOf]; omega
            · obtain ⟨g1, g2⟩ := of_decide_eq_true HVV.out
              obtain ⟨r1, r2, r3, r4, r5, r6⟩ := go_mod (lo + k) (show 0 < s by omega)
              obtain ⟨k0, hk0⟩ := Int.eq_ofNat_of_zero_le r5
              have r7 : (Int.tmod (lo + k) s + s) % s = (k0 : Nat) := r4.trans hk0
              have hk0s : k0 < s := by omega
              have hkI : (k0 : Int) < s := by omega
              have sz : ((s : Int) == 0) = false := by simp; omega
              have s1 : (1 : Int) ≤ s := by omega
              have q0 := bool_at hown hbl k0 hk0s
              have q1 := hown.frozenAt k0
              have hnext := hown.stored k0 (.bool true)
              have hset : boolCells (bl.set k0 true) = (boolCells bl).set k0 (.bool true) := (boolCells_set _ _ _).symm
              have HNX : Hid (∀ j, j < s → ((bl.set k0 true).getD j false = true ↔ (s ≤ rd ∨ ∃ t, t < n ∧ hit (spanR ⟨rn, rd, 0⟩ p s t) s j = true) ∨ ∃ i : Nat, i < k + 1 ∧ lo + i ≤ hi ∧ (lo + i) % s = j)) := fun j hj => by
                rw [getD_set_true (by omega)]
                by_cases e : k0 = j
                · subst e
                  simp only [if_true, true_iff]
                  exact .inr ⟨k, by omega, g2, hk0⟩
                · rw [if_neg e, HI.out j hj]
                  constructor
                  · rintro (h | ⟨i, y1, y2, y3⟩)
                    · exact .inl h
                    · exact .inr ⟨i, by omega, y2, y3⟩
                  · rintro (h | ⟨i, y1, y2, y3⟩)
                    · exact .inl h
                    · refine .inr ⟨i, ?_, y2, y3⟩
                      rcases Nat.lt_or_eq_of_le (show i ≤ k by omega) with h | h
                      · exact h
                      · subst h
                        rw [hk0] at y3
                        omega
              clear r4 r5 r6 hk0 HI HVV
              go_wp2_with fail
              go_roundw
              case rel => exact ⟨k + 1, by omega, by go_num, bl.set k0 true, by simpa using hbl, by rw [hset]; exact hnext.1, HNX, R.far (by simp; omega) _, P.far (by simp; omega) _, S.far (by simp; omega) _, hB.setCell (by simp; omega) _⟩
              case measure => simp [intOf]; omega
    · have hin := of_decide_eq_true HVV.out
      obtain ⟨h1, h2⟩ := hin
      have h1I : (k : Int) < s := by omega
      have q0 := bool_at hown hbl k h1
      have q1 := hown.frozenAt k
      have hnext := hown.stored k (.bool true)
      have hset : boolCells (bl.set k true) = (boolCells bl).set k (.bool true) := (boolCells_set _ _ _).symm
      have HNX : Hid (∀ j, j < s → ((bl.set k true).getD j false = true ↔ j < k + 1)) := fun j hj => by
        rw [getD_set_true (by omega)]
        by_cases e : k = j
        · subst e; simp
        · rw [if_neg e, HF.out j hj]
          omega
      clear HF HVV
      go_wp2_with fail
      go_roundw
      case rel => exact ⟨k + 1, by omega, by go_num, fun h => by omega, bl.set k true, by simpa using hbl, by rw [hset]; exact hnext.1, HNX, R.far (by simp; omega) _, P.far (by simp; omega) _, hB.setCell (by simp; omega) _⟩
      case measure => simp [intOf]; omega

theorem allR_len (L : List Mesh) (sec : Int) : (allR L sec).1.length ≤ 9223372036854775807 := by
  unfold allR
  split
  · split
    · rename_i hs
      simp only [inB, decide_eq_true_eq] at hs
      split
      · have := filtI_len (allB (lastR L).den (playGo L ⟨0, 1, 0⟩) sec.toNat) sec.toNat
        unfold filtI at this
        simp only
        omega
      · simp
    · simp
  · simp

set_option maxRecDepth 100000 in
set_option maxHeartbeats 4000000 in
theorem rall_any (A : Option Addr) (c : Nat) (L : List Mesh) (sec : Int) (w : World) (hL : RowAt w A (meshCells L)) (hn : L.length ≤ 9223372036854775807) :
    Calls Try.prog 47 #[.agg #[.slice A L.length c], .int .i64 sec] w (AllPost L sec w) := by
  by_cases hok : okTrain L = true
  · obtain ⟨k1, k2, k3⟩ := ok_train hok
    obtain ⟨b, off, rfl, _⟩ := hL (by rw [meshCells_len]; omega)
    have HA : Hid (∀ W, RowAt W (some ⟨b, off, none⟩) (meshCells L) → Calls Try.prog 34 #[.agg #[.slice (some ⟨b, off, none⟩) L.length c]] W fun e w' => e = .returned (.bool true) ∧ Below W.heap.size W w') := fun W hW => by
      rw [← hok]
      exact rvalidTrain_any _ c L W hW hn
    have HR : Hid (∀ W, RowAt W (some ⟨b, off, none⟩) (meshCells L) → Calls Try.prog 84 #[.agg #[.slice (some ⟨b, off, none⟩) L.length c], .int .i64 sec] W fun e w' => e = .returned (runnerV (runnerR L sec)) ∧ Below W.heap.size W w') := fun W hW => rrunner_any b off c sec L W hW hn hok
    by_cases hr : (runnerR L sec).2.2 = 0
    · have h12 : inB sec 2 96 = true ∧ runnerE L = 0 := by
        unfold runnerR at hr
        by_cases h1 : inB sec 2 96 = true
        · by_cases h2 : runnerE L = 0
          · exact ⟨h1, h2⟩
          · simp [h1, h2] at hr
        · simp [h1] at hr
      obtain ⟨hs, hr0⟩ := h12
      have hs' := hs
      simp only [inB, decide_eq_true_eq] at hs'
      obtain ⟨s, rfl⟩ := Int.eq_ofNat_of_zero_le (show 0 ≤ sec by omega)
      obtain ⟨n1, n2, n3, n4, n5, n6⟩ := runner_bounds hok hr0
      have hle : (lastR L).err = 0 := by
        unfold runnerE at hr0
        split at hr0
        · rename_i h0; exact h0
        · rename_i h0; exact absurd hr0 h0
      have hA : allR L s = (filtI (allB (lastR L).den (playGo L ⟨0, 1, 0⟩) s) s, 0) := by
        rw [allR, if_pos hok, if_pos hs, if_pos hr0]
        simp [filtI]
      have e2 : runnerR L s = ((((lastR L).num : Int), ((lastR L).den : Int)), (((playGo L ⟨0, 1, 0⟩).num : Int), ((playGo L ⟨0, 1, 0⟩).den : Int)), (0 : Int)) := by
        unfold runnerR
        rw [if_pos hs, if_pos hr0]
      rw [e2] at HR
      unfold AllPost
      rw [hA]
      exact rall_core b off c s (lastR L).num (lastR L).den L (playGo L ⟨0, 1, 0⟩) w hL (by omega) (by omega) n1 n2 n3 n4 n5 n6 (fun k hk => all_same n2 (last_cop hok hle) (by omega) hk) HA HR
    · have hA : allR L sec = ([], (runnerR L sec).2.2) := by
        unfold runnerR at hr ⊢
        rw [allR, if_pos hok]
        by_cases h1 : inB sec 2 96 = true
        · by_cases h2 : runnerE L = 0
          · simp [h1, h2] at hr
          · simp [h1, h2]
        · simp [h1]
      unfold AllPost
      rw [hA]
      clear hA
      generalize runnerR L sec = x at *
      obtain ⟨⟨rn, rd⟩, ⟨pn, pd⟩, x⟩ := x
      simp only [runnerV] at HR hr ⊢
      have hx : (x == 0) = false := by simpa using hr
      go_enter Try.func47, Try.ntmps47
      go_wp2_with fail
      refine (HA.out _ (hL.alloc _)).mono ?_
      rintro e w1 ⟨rfl, hb1⟩
      have X : Bk w1 w.heap.size 24 #[.slice (some ⟨b, off, none⟩) L.length c] := (bk_last rfl).keep hb1
      have hB1 : Below w.heap.size w w1 := ((Below.refl _ _).alloc (Nat.le_refl _) _).trans (hb1.mono (by simp))
      replace hL := (hL.alloc _).below hb1
      clear hb1
      have Xc0 := X.cell 0
      simp at Xc0
      go_wp2_with fail
      refine (HR.out _ hL).mono ?_
      rintro e w2 ⟨rfl, hb2⟩
      have hB2 := hB1.trans (hb2.mono hB1.size)
      have hz2 := hB2.size
      clear hb2 hB1 X Xc0
      go_wp2_with fail
      go_ret2
      exact ⟨_, rfl, World.ownsRow_nil _ _ _ _, (hB2.alloc hz2 _).alloc (by simp; omega) _⟩
  · have hA : allR L sec = ([], 70) := by rw [allR, if_neg hok]
    have hok' : okTrain L = false := by simpa using hok
    unfold AllPost
    rw [hA]
    clear hA
    go_enter Try.func47, Try.ntmps47
    go_wp2_with fail
    refine (rvalidTrain_any _ c L _ (hL.alloc _) hn).mono ?_
    rintro e w1 ⟨rfl, hb1⟩
    have hB1 : Below w.heap.size w w1 := ((Below.refl _ _).alloc (Nat.le_refl _) _).trans (hb1.mono (by simp))
    clear hb1
    rw [hok']
    go_wp2_with fail
    go_ret2
    exact ⟨_, rfl, World.ownsRow_nil _ _ _ _, hB1⟩

end Go.Proofs.Ytheifigkclegdaa
