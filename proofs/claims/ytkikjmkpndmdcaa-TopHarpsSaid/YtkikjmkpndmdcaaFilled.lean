/-
  What is proved: the contract of filled, from one state.
-/
import Derived.Test.YtkikjmkpndmdcaaFill
namespace Go.Proofs.Ytkikjmkpndmdcaa
open Go.RowKit Go.Shelf
attribute [local go_sem ↓] max_int min_int
attribute [local go_sem] Oper.semAt_some

theorem spanInfo : (Try.prog.info? 42).map (fun i => (i.zero, i.size, i.bytes)) = some (some (.agg #[.int .i64 0, .int .i64 0]), 2, 16) := by kernel_rfl

theorem made_two (z : Value) (n : Nat) : (madeCells #[z, z] n).toList = List.replicate n z := by
  apply List.ext_getElem?
  intro j
  by_cases hj : j < n
  · have h2 : j % 2 = 0 ∨ j % 2 = 1 := by omega
    rcases h2 with h2 | h2 <;> simp [madeCells, hj, h2]
  · simp [madeCells, hj]
theorem sp_zero (s : Nat) : spCells (List.replicate s (0, 0)) = List.replicate (s * 2) (.int .i64 0) := by
  induction s with
  | zero => rfl
  | succ s ih =>
    have e : spCells (List.replicate (s + 1) (0, 0)) = [.int .i64 0, .int .i64 0] ++ spCells (List.replicate s (0, 0)) := by simp [spCells, List.replicate_succ]
    rw [e, ih, show (s + 1) * 2 = s * 2 + 1 + 1 by omega, List.replicate_succ, List.replicate_succ]
    rfl
theorem made_spans (s : Nat) : (madeCells (Value.agg #[.int .i64 0, .int .i64 0]).cells (s * 2)).toList = spCells (List.replicate s (0, 0)) := by
  rw [sp_zero]
  exact made_two _ _
theorem own_full2 {w : World} {base g n : Nat} {e : TypeId} {xs : List Value} (h : w.ownsRow base e 2 (.slice (some ⟨g, 0, none⟩) n n) n xs) : Bk w g e xs.toArray := by
  rcases h.2 with ⟨h1, _⟩ | ⟨g', cap', cur, h1, hb, hg, hc, hm, hs, ht⟩
  · cases h1
  · simp only [Value.slice.injEq, Option.some.injEq, Addr.mk.injEq, and_true, true_and] at h1
    obtain ⟨rfl, rfl⟩ := h1
    have : cur = xs.toArray := by
      rw [← ht, List.take_of_length_le (by simp [hs])]
    rw [← this]
    exact hg
theorem make_spans (N : Nat) (hN : N ≤ 256) (X : World) : ∃ X', (Instr.makeSlice 103 (.int .i64 N) (.int .i64 N)).run Try.prog X = .ok (.slice (some ⟨X.heap.size, 0, none⟩) N N) X' ∧ Bk X' X.heap.size 42 (spCells (List.replicate N (0, 0))).toArray ∧ Below X.heap.size X X' := by
  obtain ⟨k0, hk0, kz0, kz1, kz2⟩ := info_parts spanInfo
  obtain ⟨X', hr, ho, hg⟩ := run_make_full (P := Try.prog) X X.heap.size 103 42 k0 _ 2 Try.underlying103 hk0 kz0 kz1 .i64 .i64 N (by rw [kz2]; omega) (by unfold maxLen; omega) (Nat.le_refl _)
  rw [made_spans] at ho
  exact ⟨X', hr, own_full2 ho, ⟨hg.os, hg.tape, hg.output, hg.size, fun k hk => hg.block k hk (by simp)⟩⟩
theorem make_bools (N : Nat) (hN : N ≤ 256) (X : World) : ∃ X', (Instr.makeSlice 104 (.int .i64 N) (.int .i64 N)).run Try.prog X = .ok (.slice (some ⟨X.heap.size, 0, none⟩) N N) X' ∧ Bk X' X.heap.size 4 (boolCells (List.replicate N false)).toArray ∧ Below X.heap.size X X' := by
  obtain ⟨k0, hk0, kz0, kz1, kz2⟩ := info_parts boolInfo
  obtain ⟨X', hr, ho, hg⟩ := run_make_full (P := Try.prog) X X.heap.size 104 4 k0 _ 1 Try.underlying104 hk0 kz0 kz1 .i64 .i64 N (by rw [kz2]; omega) (by unfold maxLen; omega) (Nat.le_refl _)
  rw [made_bools] at ho
  exact ⟨X', hr, own_full ho, ⟨hg.os, hg.tape, hg.output, hg.size, fun k hk => hg.block k hk (by simp)⟩⟩

/-- The state of the statement that makes both rows. -/
structure FillIn (w : World) (b Bg Bc N : Nat) (v6 v7 : Value) (og ok : Option Nat) (X : World) : Prop where
  hB : Below w.heap.size w X
  b0 : Bk X w.heap.size 65 #[.pointer (some ⟨b, 0, none⟩)]
  b1 : Bk X (w.heap.size + 1) 129 #[.func (.func 72) #[] #[.pointer (some ⟨Bg, 0, none⟩), .pointer (some ⟨Bc, 0, none⟩)]]
  b2 : Bk X (w.heap.size + 1 + 1) 103 #[v6]
  b3 : Bk X (w.heap.size + 1 + 1 + 1) 104 #[v7]
  ro : ∀ g, og = some g → w.heap.size ≤ g ∧ Bk X g 42 (spCells (List.replicate N (0, 0))).toArray
  rk : ∀ g, ok = some g → w.heap.size ≤ g ∧ Bk X g 4 (boolCells (List.replicate N false)).toArray
section
variable {w : World} {b Bg Bc N : Nat} {v6 v7 : Value} {og ok : Option Nat} {X X' : World}
theorem FillIn.below (h : FillIn w b Bg Bc N v6 v7 og ok X) (hb : Below X.heap.size X X') : FillIn w b Bg Bc N v6 v7 og ok X' :=
  ⟨h.hB.trans (hb.mono h.hB.size), h.b0.keep hb, h.b1.keep hb, h.b2.keep hb, h.b3.keep hb, fun g e => ⟨(h.ro g e).1, (h.ro g e).2.keep hb⟩, fun g e => ⟨(h.rk g e).1, (h.rk g e).2.keep hb⟩⟩
theorem FillIn.norm6 {Y : World} {p : Addr} {v : Value} (h : FillIn w b Bg Bc N v6 v7 (some (Y.setCell p v).heap.size) ok X) : FillIn w b Bg Bc N v6 v7 (some Y.heap.size) ok X := by
  rwa [show (Y.setCell p v).heap.size = Y.heap.size by simp] at h
theorem FillIn.norm7 {Y : World} {p : Addr} {v : Value} (h : FillIn w b Bg Bc N v6 v7 og (some (Y.setCell p v).heap.size) X) : FillIn w b Bg Bc N v6 v7 og (some Y.heap.size) X := by
  rwa [show (Y.setCell p v).heap.size = Y.heap.size by simp] at h
theorem FillIn.set6 (h : FillIn w b Bg Bc N v6 v7 og ok X) (v : Value) : FillIn w b Bg Bc N v v7 og ok (X.setCell ⟨w.heap.size + 1 + 1, 0, none⟩ v) :=
  ⟨h.hB.setCell (by simp only; omega) _, h.b0.far (by simp only [ne_eq]; omega) _, h.b1.far (by simp only [ne_eq]; omega) _, by simpa using h.b2.put 0 v, h.b3.far (by simp only [ne_eq]; omega) _, fun g e => ⟨(h.ro g e).1, (h.ro g e).2.far ((h.ro g e).2.ne h.b2 (by decide)) _⟩, fun g e => ⟨(h.rk g e).1, (h.rk g e).2.far ((h.rk g e).2.ne h.b2 (by decide)) _⟩⟩
theorem FillIn.set7 (h : FillIn w b Bg Bc N v6 v7 og ok X) (v : Value) : FillIn w b Bg Bc N v6 v og ok (X.setCell ⟨w.heap.size + 1 + 1 + 1, 0, none⟩ v) :=
  ⟨h.hB.setCell (by simp only; omega) _, h.b0.far (by simp only [ne_eq]; omega) _, h.b1.far (by simp only [ne_eq]; omega) _, h.b2.far (by simp only [ne_eq]; omega) _, by simpa using h.b3.put 0 v, fun g e => ⟨(h.ro g e).1, (h.ro g e).2.far ((h.ro g e).2.ne h.b3 (by decide)) _⟩, fun g e => ⟨(h.rk g e).1, (h.rk g e).2.far ((h.rk g e).2.ne h.b3 (by decide)) _⟩⟩
theorem FillIn.mk6 (h : FillIn w b Bg Bc N v6 v7 og ok X) (hr : Bk X' X.heap.size 42 (spCells (List.replicate N (0, 0))).toArray) (hb : Below X.heap.size X X') : FillIn w b Bg Bc N v6 v7 (some X.heap.size) ok X' :=
  ⟨(h.below hb).hB, (h.below hb).b0, (h.below hb).b1, (h.below hb).b2, (h.below hb).b3, fun g e => by injection e with e; subst e; exact ⟨h.hB.size, hr⟩, (h.below hb).rk⟩
theorem FillIn.mk7 (h : FillIn w b Bg Bc N v6 v7 og ok X) (hr : Bk X' X.heap.size 4 (boolCells (List.replicate N false)).toArray) (hb : Below X.heap.size X X') : FillIn w b Bg Bc N v6 v7 og (some X.heap.size) X' :=
  ⟨(h.below hb).hB, (h.below hb).b0, (h.below hb).b1, (h.below hb).b2, (h.below hb).b3, (h.below hb).ro, fun g e => by injection e with e; subst e; exact ⟨h.hB.size, hr⟩⟩
theorem FillIn.c0 (h : FillIn w b Bg Bc N v6 v7 og ok X) : X.cell? ⟨w.heap.size, 0, none⟩ = some (.pointer (some ⟨b, 0, none⟩)) := by simpa using h.b0.cell 0
theorem FillIn.c2 (h : FillIn w b Bg Bc N v6 v7 og ok X) : X.cell? ⟨w.heap.size + 1 + 1, 0, none⟩ = some v6 := by simpa using h.b2.cell 0
theorem FillIn.c3 (h : FillIn w b Bg Bc N v6 v7 og ok X) : X.cell? ⟨w.heap.size + 1 + 1 + 1, 0, none⟩ = some v7 := by simpa using h.b3.cell 0
end
def FSEnd (w : World) (b Bg Bc N : Nat) (X : World) : Prop := ∃ go gk : Nat, FillIn w b Bg Bc N (.slice (some ⟨go, 0, none⟩) N N) (.slice (some ⟨gk, 0, none⟩) N N) (some go) (some gk) X

def FilledP (f : Flr) (cnt : Mv → Int) (i : Nat) (w : World) (e : Ending) (w' : World) : Prop :=
  Below w.heap.size w w' ∧ ∃ go gk sp, e = .returned (.tuple #[.slice (some ⟨go, 0, none⟩) (f.R * f.S * f.S) (f.R * f.S * f.S), .slice (some ⟨gk, 0, none⟩) (f.R * f.S * f.S) (f.R * f.S * f.S)]) ∧ Bk w' go 42 (spCells sp).toArray ∧ sp.length = f.R * f.S * f.S ∧ ValS f cnt i (sp.getD i (0, 0))

set_option maxRecDepth 100000 in
set_option maxHeartbeats 8000000 in
theorem filled_any (f : Flr) (z : FLoc) (cnt : Mv → Int) (cf b i Bs bl Bg Bc : Nat) (w : World) (hval : ValCalls f cnt cf) (hf : FlAt w b f z) (hok : f.Ok) (hi : i < f.R * f.S * f.S) (ha : AccS f i)
    (h1 : Bk w Bs 28 #[.slice (some ⟨bl, 0, none⟩) 1 1]) (h2 : Bk w bl 3 #[.int .i64 i]) (h3 : Bk w Bg 65 #[.pointer (some ⟨b, 0, none⟩)]) (h4 : Bk w Bc 75 #[.func (.func cf) #[] #[]]) :
    Calls Try.prog 71 #[.pointer (some ⟨b, 0, none⟩), .func (.func 83) #[] #[.pointer (some ⟨Bs, 0, none⟩)], .func (.func 72) #[] #[.pointer (some ⟨Bg, 0, none⟩), .pointer (some ⟨Bc, 0, none⟩)]] w (FilledP f cnt i w) := by
  obtain ⟨N, hN⟩ : ∃ N, N = f.R * f.S * f.S := ⟨_, rfl⟩
  have HST := Lib.hid (fun (X : World) (h : Below w.heap.size w X) => states_any b f z X (hf.below h) hok)
  have hiN : i < N := by omega
  rw [← hN] at HST
  have hNb : N ≤ 256 := by rw [hN]; exact Nat.mul_le_mul (Nat.mul_le_mul hok.r1 hok.s1) hok.s1
  obtain ⟨W, hW⟩ : ∃ W, (((w.alloc (.cells #[.pointer (some ⟨b, 0, none⟩)] 65)).alloc (.cells #[.func (.func 72) #[] #[.pointer (some ⟨Bg, 0, none⟩), .pointer (some ⟨Bc, 0, none⟩)]] 129)).alloc (.cells #[.slice none 0 0] 103)).alloc (.cells #[.slice none 0 0] 104) = W := ⟨_, rfl⟩
  have hbW : Below w.heap.size w W := by rw [← hW]; exact ((((Below.refl _ _).alloc (Nat.le_refl _) _).alloc (by simp) _).alloc (by simp; omega) _).alloc (by simp; omega) _
  have X0 : Bk W w.heap.size 65 #[.pointer (some ⟨b, 0, none⟩)] := by rw [← hW]; exact (((bk_last rfl).alloc _).alloc _).alloc _
  have X1 : Bk W (w.heap.size + 1) 129 #[.func (.func 72) #[] #[.pointer (some ⟨Bg, 0, none⟩), .pointer (some ⟨Bc, 0, none⟩)]] := by rw [← hW]; exact ((bk_last (by simp)).alloc _).alloc _
  have X2 : Bk W (w.heap.size + 1 + 1) 103 #[.slice none 0 0] := by rw [← hW]; exact (bk_last (by simp)).alloc _
  have X3 : Bk W (w.heap.size + 1 + 1 + 1) 104 #[.slice none 0 0] := by rw [← hW]; exact bk_last (by simp)
  have HW := Lib.hid hW
  have HN := Lib.hid hN
  have hNi : (i : Int) < N := by omega
  clear hW hN hi
  refine (callsIn_wide (n := 3)).1 ?_
  refine callsIn_of_wp_marks Try.func71 rfl trivial ?_ rfl
  simp only [Try.ntmps71, List.size_toArray, List.length_cons, List.length_nil, Nat.reduceAdd, Nat.reduceSub, Array.replicate_succ, Array.replicate_zero, List.push_toArray, List.append_toArray, List.nil_append, List.cons_append]
  refine wpIn_wide.2 ?_
  go_upto_region 1 with fail
  rw [HW.out]
  clear HW
  go_cut [6, 7] from 10 to 15 (fun v6 v7 wx => v6 = .pointer (some ⟨w.heap.size + 1 + 1, 0, none⟩) ∧ v7 = .pointer (some ⟨w.heap.size + 1 + 1 + 1, 0, none⟩) ∧ FSEnd w b Bg Bc N wx)
  case first =>
    have S : FillIn w b Bg Bc N (.slice none 0 0) (.slice none 0 0) none none W.drew := ⟨hbW.drew, X0, X1, X2, X3, fun g e => (by cases e), fun g e => (by cases e)⟩
    have x0 := S.c0
    have x2 := S.c2
    have x3 := S.c3
    have y2 := S.b2.fz 0
    have y3 := S.b3.fz 0
    have l2 := S.b2.lt
    have l3 := S.b3.lt
    have HMS := Lib.hid (make_spans N hNb)
    have HMB := Lib.hid (make_bools N hNb)
    clear h1 h2 h3 h4 hbW X0 X1 X2 X3
    go_region_with (first
      | (go_at_call 40; refine (HST.out _ (by first | exact S.hB | exact (S.set6 _).hB | exact (S.set7 _).hB | exact ((S.set6 _).set7 _).hB)).mono ?_; rintro e w1 ⟨rfl, hb1⟩; (first | replace S := S.below hb1 | replace S := (S.set6 _).below hb1 | replace S := (S.set7 _).below hb1); clear hb1 x0 x2 x3 y2 y3 l2 l3; have x0 := S.c0; have x2 := S.c2; have x3 := S.c3; have y2 := S.b2.fz 0; have y3 := S.b3.fz 0; have l2 := S.b2.lt; have l3 := S.b3.lt)
      | (obtain ⟨wm, hr, RO, hb1⟩ := HMS.out _; rw [hr]; clear hr; (first | replace S := S.mk6 RO hb1 | replace S := (S.set7 _).mk6 RO hb1); clear hb1 x0 x2 x3 y2 y3 l2 l3; have x0 := S.c0; have x2 := S.c2; have x3 := S.c3; have y2 := S.b2.fz 0; have y3 := S.b3.fz 0; have l2 := S.b2.lt; have l3 := S.b3.lt)
      | (obtain ⟨wm, hr, RK, hb1⟩ := HMB.out _; rw [hr]; clear hr; (first | replace S := S.mk7 RK hb1 | replace S := (S.set6 _).mk7 RK hb1); clear hb1 x0 x2 x3 y2 y3 l2 l3; have x0 := S.c0; have x2 := S.c2; have x3 := S.c3; have y2 := S.b2.fz 0; have y3 := S.b3.fz 0; have l2 := S.b2.lt; have l3 := S.b3.lt))
    all_goals
      clear x0 x2 x3 y2 y3 l2 l3
      go_wp2_with fail
      go_meet
      case rel => exact ⟨rfl, rfl, _, _, by first | exact (S.set6 _).set7 _ | exact (S.set7 _).set6 _ | exact S.set6 _ | exact S.set7 _ | exact S.norm7.set7 _ | exact S.norm6.set6 _⟩
  case rest =>
    obtain ⟨rfl, rfl, go, gk, S⟩ := hcut
    clear X0 X1 X2 X3 HST
    obtain ⟨q, hq⟩ : ∃ q, wc.heap.size = q := ⟨_, rfl⟩
    obtain ⟨L, hL⟩ : ∃ L : FilLoc, L = ⟨N, w.heap.size, b, cf, w.heap.size, w.heap.size + 1 + 1 + 1, q, w.heap.size + 1, w.heap.size + 1 + 1, Bg, Bc, gk, go⟩ := ⟨_, rfl⟩
    have hcaps : L.caps = #[.pointer (some ⟨w.heap.size, 0, none⟩), .pointer (some ⟨w.heap.size + 1 + 1 + 1, 0, none⟩), .pointer (some ⟨q, 0, none⟩), .pointer (some ⟨w.heap.size + 1, 0, none⟩), .pointer (some ⟨w.heap.size + 1 + 1, 0, none⟩)] := by rw [hL]; rfl
    go_wp2_with fail
    rw [← hcaps]
    obtain ⟨U, hU⟩ : ∃ U, wc.alloc (.cells #[.func (.func 84) #[] L.caps] 138) = U := ⟨_, rfl⟩
    rw [hU]
    have hbU : Below wc.heap.size wc U := by rw [← hU]; exact (Below.refl _ _).alloc (Nat.le_refl _) _
    have SU := S.below hbU
    have QF : Bk U q 138 #[.func (.func 84) #[] L.caps] := by rw [← hU]; exact bk_last hq
    have hBU := SU.hB
    have F0 : FilAt L (List.replicate N (0, 0)) (List.replicate N false) U := by
      refine ⟨?_, ?_, ?_, ?_, ?_, ?_, ?_, ?_, ?_, ?_, ?_⟩ <;> (try rw [hL] at QF ⊢)
      · exact SU.b0
      · exact SU.b3
      · exact QF
      · exact SU.b1
      · exact SU.b2
      · exact h3.keep hBU
      · exact h4.keep hBU
      · exact (SU.rk gk rfl).2
      · exact (SU.ro go rfl).2
      · simp
      · simp
    have hLok : L.Ok := by rw [hL]; exact ⟨(SU.rk gk rfl).1, (SU.ro go rfl).1⟩
    have hLN : L.N = N := by rw [hL]
    have hLn : L.n = w.heap.size := by rw [hL]
    have hLb : L.b = b := by rw [hL]
    have hLcf : L.cf = cf := by rw [hL]
    have HLx := Lib.hid (And.intro (show L.Bk = w.heap.size + 1 + 1 + 1 by rw [hL]) (And.intro (show L.Bl = q by rw [hL]) (And.intro (show L.Bo = w.heap.size + 1 + 1 by rw [hL]) (And.intro (show L.gk = gk by rw [hL]) (show L.go = go by rw [hL])))))
    have HFL := Lib.hid (fun (sp : List (Int × Int)) (kn : List Bool) (X : World) (hX : FilAt L sp kn X) (hb : Below w.heap.size w X) (hinv : ∀ k, kn.getD k false = true → ValS f cnt k (sp.getD k (0, 0))) =>
      fill_any f z cnt L w hLok (by rw [hLcf]; exact hval) (by rw [hLb]; exact hf) hok (by rw [hLN]; exact HN.out) (by rw [hLn]) ha sp kn X (by rw [hLN]; exact hiN) hX (by rw [hLn]; exact hb) hinv)
    have Y1 := h1.keep hBU
    have Y2 := h2.keep hBU
    have hqU := QF.lt
    have hBUs := hBU.size
    have hgk := (SU.rk gk rfl).2.lt
    have hgo := (SU.ro go rfl).2.lt
    have hz3 := SU.b3.lt
    have HLN := Lib.hid (And.intro hLN hLn)
    clear h1 h2 h3 h4 hU hbU hL hcaps SU S QF hq hLN hLb hLcf hbW
    refine (wpIn_wide (n := 3)).1 ?_
    refine wpIn_rangeFunc_ownH rfl (by omega) (gf := 83) (lb := #[.pointer (some ⟨Bs, 0, none⟩)]) rfl trivial (enters_of Try.func83 (by kernel_rfl) rfl)
      (encs := fun _ : Unit => #[.int .i64 i]) (Kp := fun _ _ => True) (S := fun xs => xs = [()]) (Sp := fun pre => pre <+: [()]) (N := 1) (w0 := U)
      (values1_stops (3 - 1) Bs bl i (fun _ _ => True) U Y1 Y2)
      (fun _ _ => trivial) (fun _ _ _ _ _ _ _ _ => trivial) (Below.refl _ _) (fun _ => rfl)
      (fun pre W' => ∃ sp kn, FilAt L sp kn W' ∧ Below w.heap.size w W' ∧ U.heap.size ≤ W'.heap.size ∧ (∀ k, kn.getD k false = true → ValS f cnt k (sp.getD k (0, 0))) ∧ (pre ≠ [] → kn.getD i false = true))
      (fun _ _ _ => False)
      ?I (fun _ _ _ _ _ h _ _ => h) ⟨_, _, F0, hBU, Nat.le_refl _, (fun k hk => by
        rw [List.getD_eq_getElem?_getD, List.getElem?_replicate] at hk
        split at hk <;> simp at hk), fun h => absurd rfl h⟩
      (fun _ a' _ => a' = { tmps := #[.pointer (some ⟨b, 0, none⟩), .func (.func 83) #[] #[.pointer (some ⟨Bs, 0, none⟩)], .func (.func 72) #[] #[.pointer (some ⟨Bg, 0, none⟩), .pointer (some ⟨Bc, 0, none⟩)], .pointer (some ⟨w.heap.size, 0, none⟩), undef, .pointer (some ⟨w.heap.size + 1, 0, none⟩), .pointer (some ⟨w.heap.size + 1 + 1, 0, none⟩), .pointer (some ⟨w.heap.size + 1 + 1 + 1, 0, none⟩), .pointer (some ⟨q, 0, none⟩), .int .i64 i, u10, u11, u12, u13, u14, u15, .func (.func 84) #[] L.caps, .func (.func 83) #[] #[.pointer (some ⟨Bs, 0, none⟩)], .int .i64 i, undef, undef, undef, undef, undef, undef, undef, undef, undef, undef], defers := [] })
      ?Ax ?assign ?body ?done ?stop
    case I =>
      rintro pre X X' row ⟨sp, kn, a1, a2, a3, a4, a5⟩ hg hr
      exact ⟨sp, kn, a1.grown hg (fun r e => (hr r e).2), a2.grown hg a2.size (fun r e => by have := (hr r e).1; omega), Nat.le_trans a3 hg.size, a4, a5⟩
    case Ax => exact fun _ _ _ _ _ _ h _ _ => h
    case assign =>
      rintro l pre x X K hI hK
      gi_wp2
      exact hK _ _ (KeepsFrom.refl _ _) trivial hI rfl
    case body =>
      rintro l pre x a' X hlz hrec ⟨sp, kn, a1, a2, a3, a4, a5⟩ rfl hlt
      have y0 := a1.bk.cell 0
      have y1 := a1.bl.cell 0
      have y2 := a1.ck (i := i) (by rw [HLN.out.1]; exact hiN)
      rw [HLx.out.1] at y0
      rw [HLx.out.2.1] at y1
      rw [HLN.out.1] at y0
      simp at y0 y1
      have HC := Lib.hid (HFL.out sp kn X a1 a2 a4)
      have HA := Lib.hid (And.intro a1 (And.intro a2 (And.intro a3 a4)))
      clear a1 a2 a3 a4 a5 hrec HFL F0 Y1 Y2 hBU
      cases hd : kn.getD i false
      · rw [hd] at y2
        clear hd
        gi_wp2
        refine ⟨trivial, (CallsIn.inRound l (callsIn_wide.2 HC.out)).mono ?_⟩
        clear HC
        rintro e W8 ⟨sp8, kn8, ⟨v8, rfl⟩, S8, K8, A8, M8, T8⟩
        gi_wp2
        obtain ⟨a1, a2, a3, a4⟩ := HA.out
        exact ⟨(K8.others a1).from _, trivial, sp8, kn8, S8, a2.trans (by have := K8.bel; rwa [HLN.out.2] at this), Nat.le_trans a3 K8.bel.size, A8, fun _ => T8⟩
      · rw [hd] at y2
        have hd' := Lib.hid hd
        clear hd
        gi_wp2
        obtain ⟨a1, a2, a3, a4⟩ := HA.out
        exact ⟨KeepsFrom.refl _ _, trivial, sp, kn, a1, a2, a3, a4, fun _ => hd'.out⟩
    case done =>
      rintro D xs X hD rfl ⟨sp, kn, a1, a2, a3, a4, a5⟩ hK
      have hv := a4 i (a5 (by simp))
      have b2 := a1.bo
      have b3 := a1.bk
      rw [HLx.out.2.2.1] at b2
      rw [HLx.out.1] at b3
      rw [HLN.out.1] at b2 b3
      have r0 := b2.cell 0
      have r1 := b3.cell 0
      have r2 := b2.fz 0
      have r3 := b3.fz 0
      have r4 := b2.lt
      have r5 := b3.lt
      simp at r0 r1
      have HA := Lib.hid (And.intro a1 (And.intro a2 (And.intro b2 (And.intro b3 hK))))
      clear a1 a2 a3 a4 a5 hK HFL F0 Y1 Y2 hBU b2 b3
      gi_wp2
      go_wp2_with fail
      go_region
      go_wp2_with fail
      obtain ⟨a1, a2, b2, b3, hK⟩ := HA.out
      have c2 := ((b2.put 0 (.slice (some ⟨L.go, 0, none⟩) N N)).far (p := ⟨w.heap.size + 1 + 1 + 1, 0, none⟩) (by simp) (.slice (some ⟨L.gk, 0, none⟩) N N)).drew
      have c3 := ((b3.far (p := ⟨w.heap.size + 1 + 1, 0, none⟩) (by simp) (.slice (some ⟨L.go, 0, none⟩) N N)).put 0 (.slice (some ⟨L.gk, 0, none⟩) N N)).drew
      have cr := ((a1.ro.far (p := ⟨w.heap.size + 1 + 1, 0, none⟩) (a1.ro.ne b2 (by decide)) (.slice (some ⟨L.go, 0, none⟩) N N)).far (p := ⟨w.heap.size + 1 + 1 + 1, 0, none⟩) (a1.ro.ne b3 (by decide)) (.slice (some ⟨L.gk, 0, none⟩) N N)).drew
      have hB' := ((a2.setCell (p := ⟨w.heap.size + 1 + 1, 0, none⟩) (by simp only; omega) (.slice (some ⟨L.go, 0, none⟩) N N)).setCell (p := ⟨w.heap.size + 1 + 1 + 1, 0, none⟩) (by simp only; omega) (.slice (some ⟨L.gk, 0, none⟩) N N)).drew
      have hK' : ((X.setCell ⟨w.heap.size + 1 + 1, 0, none⟩ (.slice (some ⟨L.go, 0, none⟩) N N)).setCell ⟨w.heap.size + 1 + 1 + 1, 0, none⟩ (.slice (some ⟨L.gk, 0, none⟩) N N)).drew.heap[D]? = some (.deferred (some [])) :=
        ((Below.heap_setCell _ ⟨w.heap.size + 1 + 1 + 1, 0, none⟩ _ _ (by simp only [ne_eq]; omega)).trans (Below.heap_setCell _ ⟨w.heap.size + 1 + 1, 0, none⟩ _ _ (by simp only [ne_eq]; omega))).trans hK
      have hlo := a1.lo
      rw [HLN.out.1, HN.out] at hlo
      have hgoU : L.go < U.heap.size := by rw [HLx.out.2.2.2.2]; exact hgo
      generalize ((X.setCell ⟨w.heap.size + 1 + 1, 0, none⟩ (.slice (some ⟨L.go, 0, none⟩) N N)).setCell ⟨w.heap.size + 1 + 1 + 1, 0, none⟩ (.slice (some ⟨L.gk, 0, none⟩) N N)).drew = F at *
      have d2 : Bk (F.putObj D (.deferred none)) (w.heap.size + 1 + 1) 103 _ := (World.putObj_heap_other (by omega)).trans c2
      have d3 : Bk (F.putObj D (.deferred none)) (w.heap.size + 1 + 1 + 1) 104 _ := (World.putObj_heap_other (by omega)).trans c3
      have dr : Bk (F.putObj D (.deferred none)) L.go 42 _ := (World.putObj_heap_other (by omega)).trans cr
      have e2 := d2.cell 0
      have e3 := d3.cell 0
      simp at e2 e3
      refine ⟨by simp, .inl ⟨_, _, rfl, run_takeDeferred hK', ?_⟩⟩
      exact ⟨.tuple #[.slice (some ⟨L.go, 0, none⟩) N N, .slice (some ⟨L.gk, 0, none⟩) N N], by simp [results, Try.results71, go_sem, e2, e3], hB'.grown (grownBy_putObj' _ _ _) hB'.size (fun r e => by injection e with e; omega), L.go, L.gk, sp, by rw [HN.out], dr, hlo, hv⟩
    case stop =>
      rintro D c pre X hD hp h hK
      exact h.elim

end Go.Proofs.Ytkikjmkpndmdcaa
