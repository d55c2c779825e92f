/-
  What is proved: the contract of loop.
-/
import Derived.Test.YtkikjmkpndmdcaaSeek
import Derived.OwnWalk
import Derived.Laws.EntriesVeiled
namespace Go.Proofs.Ytkikjmkpndmdcaa
open Go.RowKit Go.Shelf
attribute [local go_sem ↓] max_int min_int

theorem boolInfo : (Try.prog.info? 4).map (fun i => (i.zero, i.size, i.bytes)) = some (some (.bool false), 1, 1) := by kernel_rfl
theorem made_bools (s : Nat) : (madeCells (Value.bool false).cells (s * 1)).toList = boolCells (List.replicate s false) := by
  rw [Nat.mul_one]
  show (madeCells #[Value.bool false] s).toList = _
  rw [toList_madeCells_one]
  simp [boolCells]
theorem own_full {w : World} {base g n : Nat} {e : TypeId} {xs : List Value} (h : w.ownsRow base e 1 (.slice (some ⟨g, 0, none⟩) n n) n xs) : Bk w g e xs.toArray := by
  rcases h.2 with ⟨h1, _⟩ | ⟨g', cap', cur, h1, hb, hg, hc, hm, hs, ht⟩
  · cases h1
  · simp only [Value.slice.injEq, Option.some.injEq, Addr.mk.injEq, and_true, true_and] at h1
    obtain ⟨rfl, rfl⟩ := h1
    have : cur = xs.toArray := by
      rw [← ht, List.take_of_length_le (by simp [hs])]
    rw [← this]
    exact hg

def LoopP (f : Flr) (n gd i : Nat) (w : World) (e : Ending) (w' : World) : Prop :=
  Below n w w' ∧ KeepsOthers w w' ∧ (∀ (q : Nat) (t : TypeId) (cs : Array Value), Bk w q t cs → q ≠ gd → t ≠ 94 → Bk w' q t cs) ∧
  ((AccS f i ∧ e = .returned (.slice none 0 0)) ∨ (¬ AccS f i ∧ ∃ a k c, e = .returned (.slice (some a) k c)))

set_option maxRecDepth 100000 in
set_option maxHeartbeats 8000000 in
theorem loop_any (f : Flr) (z : FLoc) (b n gd N i : Nat) (dn : List Bool) (w0 w : World) (hf : FlAt w0 b f z) (hok : f.Ok) (hN : N = f.R * f.S * f.S) (hw0 : w0.heap.size = n) (hB : Below n w0 w) (hgd : n ≤ gd)
    (D : Bk w gd 4 (boolCells dn).toArray) (hdl : dn.length = N) (hdi : dn.getD i false = false) (hacc : ∀ k, dn.getD k false = true → AccS f k) (hi : i < N) :
    Calls Try.prog 69 #[.pointer (some ⟨b, 0, none⟩), .int .i64 i, .slice (some ⟨gd, 0, none⟩) N N] w (LoopP f n gd i w) := by
  have hnw : n ≤ w.heap.size := by have := hB.size; omega
  have HST := Lib.hid (fun (X : World) (h : Below n w0 X) => states_any b f z X (hf.below (by rw [hw0]; exact h)) hok)
  rw [← hN] at HST
  have hNb : N ≤ 256 := by rw [hN]; exact Nat.mul_le_mul (Nat.mul_le_mul hok.r1 hok.s1) hok.s1
  obtain ⟨W, hW⟩ : ∃ W, (w.alloc (.cells #[.pointer (some ⟨b, 0, none⟩)] 65)).alloc (.cells #[.slice (some ⟨gd, 0, none⟩) N N] 104) = W := ⟨_, rfl⟩
  have hbW : Below w.heap.size w W := by rw [← hW]; exact ((Below.refl _ _).alloc (Nat.le_refl _) _).alloc (by simp) _
  have X0 : Bk W w.heap.size 65 #[.pointer (some ⟨b, 0, none⟩)] := by rw [← hW]; exact (bk_last rfl).alloc _
  have X1 : Bk W (w.heap.size + 1) 104 #[.slice (some ⟨gd, 0, none⟩) N N] := by rw [← hW]; exact bk_last (by simp)
  have x0 := X0.cell 0
  simp at x0
  have HW := Lib.hid hW
  have HN := Lib.hid hN
  have HW0 := Lib.hid hw0
  have HDI := Lib.hid hdi
  clear hW hN hw0 hdi
  obtain ⟨j0, hj0, jz0, jz1, jz2⟩ := info_parts boolInfo
  have bb2 : j0.bytes * N ≤ 281474976710656 := by rw [jz2]; omega
  have bb3 : N ≤ maxLen := by unfold maxLen; omega
  go_enter Try.func69, Try.ntmps69
  go_upto_region 1 with fail
  rw [HW.out]
  clear HW
  go_upto_region 5 with (first | (go_at_call 40; refine (HST.out W (hB.trans (hbW.mono hnw))).mono ?_; rintro e w1 ⟨rfl, hb1⟩) | (at_make; refine (wpList_make_full _ rfl _ _ 104 rfl w1.heap.size 4 j0 _ 1 Try.underlying104 hj0 jz0 jz1 .i64 .i64 _ _ N rfl rfl rfl rfl bb2 bb3 (Nat.le_refl _) ?_); intro w2 hown hgr))
  rw [made_bools] at hown
  have R2 := own_full hown
  have hb1w := hbW.trans (hb1.mono hbW.size)
  have hb2 : Below w1.heap.size w1 w2 := ⟨hgr.os, hgr.tape, hgr.output, hgr.size, fun k hk => hgr.block k hk (by simp)⟩
  have hb2w := hb1w.trans (hb2.mono hb1w.size)
  have hz1 := hb1w.size
  have hz0 := hbW.size
  have hgl := R2.lt
  have hWs : w.heap.size + 1 < W.heap.size := X1.lt
  have hW1 := hb1.size
  obtain ⟨gon, hgon⟩ : ∃ g, w1.heap.size = g := ⟨_, rfl⟩
  obtain ⟨q, hq⟩ : ∃ q, w.heap.size = q := ⟨_, rfl⟩
  obtain ⟨Bo, hBo⟩ : ∃ q, w2.heap.size = q := ⟨_, rfl⟩
  have Z0 := (X0.keep hb1).keep hb2
  have Z1 := (X1.keep hb1).keep hb2
  have Dw := D.keep hb2w
  have hgdl := D.lt
  rw [hgon] at R2 hz1 hgl hW1
  rw [hq] at Z0 Z1 hz1 hz0 hWs hnw hgdl
  rw [hBo] at hgl
  rw [hgon, hq, hBo]
  obtain ⟨L, hL⟩ : ∃ L : SkLoc, L = ⟨N, n, b, q, q + 1, Bo, Bo + 1, Bo + 1 + 1, gon, gd⟩ := ⟨_, rfl⟩
  have hfun : (Value.func (Fn.func 82) #[] #[.pointer (some ⟨Bo, 0, none⟩), .pointer (some ⟨q, 0, none⟩), .pointer (some ⟨q + 1, 0, none⟩), .pointer (some ⟨Bo + 1, 0, none⟩), .pointer (some ⟨Bo + 1 + 1, 0, none⟩)]) = .func (.func 82) #[] L.caps := by rw [hL]; rfl
  rw [hfun]
  obtain ⟨W5, hW5⟩ : ∃ W5, ((w2.alloc (.cells #[.slice (some ⟨gon, 0, none⟩) N N] 104)).alloc (.cells #[.slice none 0 0] 60)).alloc (.cells #[.func (.func 82) #[] L.caps] 117) = W5 := ⟨_, rfl⟩
  rw [hW5]
  have hb5 : Below w2.heap.size w2 W5 := by rw [← hW5]; exact (((Below.refl _ _).alloc (Nat.le_refl _) _).alloc (by simp) _).alloc (by simp; omega) _
  have hbw5 := hb2w.trans (hb5.mono hb2w.size)
  have S5 : SkAt L (List.replicate N false) dn 0 (.slice none 0 0) W5 := by
    rw [hL]
    refine ⟨Z0.keep hb5, Z1.keep hb5, ?_, ?_, R2.keep hb5, Dw.keep hb5, ?_, ⟨[], World.ownsRow_nil _ _ _ _⟩, by simp, hdl⟩
    · rw [← hW5]; exact ((bk_last hBo).alloc _).alloc _
    · rw [← hL, ← hW5]; exact bk_last (by simp [hL, hBo])
    · rw [← hW5]; exact (bk_last (by simp [hBo])).alloc _
  have hLok : L.Ok := by rw [hL]; exact ⟨by simp only; omega, hgd, by simp only; omega, by simp only; omega⟩
  have hLN : L.N = N := by rw [hL]
  have hLn : L.n = n := by rw [hL]
  have hLgd : L.gd = gd := by rw [hL]
  have hLBp : L.Bp = Bo + 1 := by rw [hL]
  have hLb : L.b = b := by rw [hL]
  have hLgon : L.gon = gon := by rw [hL]
  have hLc : L.caps = #[.pointer (some ⟨Bo, 0, none⟩), .pointer (some ⟨q, 0, none⟩), .pointer (some ⟨q + 1, 0, none⟩), .pointer (some ⟨Bo + 1, 0, none⟩), .pointer (some ⟨Bo + 1 + 1, 0, none⟩)] := by rw [hL]; rfl
  have y0 := S5.bd.cell 0
  have y1 := S5.cdn (i := i) (by rw [hLN]; exact hi)
  have y2 := S5.bs.cell 0
  have hBd : L.Bd = q + 1 := by rw [hL]
  have hBs : L.Bs = Bo + 1 + 1 := by rw [hL]
  rw [hBd, hLgd, hLN] at y0
  rw [hLgd, HDI.out] at y1
  rw [hBs] at y2
  simp at y0 y2
  have hcnt : (List.replicate N false).count false = N := by simp
  have hin : SeekIn f L w0 i (List.replicate N false) dn 0 (.slice none 0 0) W5 := ⟨by rw [hLN]; exact hi, by simp [List.getD_eq_getElem?_getD, hi], S5, by rw [hLn]; exact hB.trans (hbw5.mono (by omega)), hacc, fun k hk => by
    rw [List.getD_eq_getElem?_getD, List.getElem?_replicate] at hk
    split at hk <;> simp at hk, by rw [hcnt]; omega⟩
  have HSK := Lib.hid (seek_any f z L w0 hLok (by rw [hLb]; exact hf) hok (by rw [hLN]; exact HN.out) (by rw [hLn]; exact HW0.out) N i (List.replicate N false) dn 0 (.slice none 0 0) W5 (by rw [hcnt]; exact Nat.le_refl _) hin)
  have HS5 := Lib.hid S5
  have HBW := Lib.hid hbw5
  have HL := Lib.hid (And.intro hLn (And.intro hLgd (And.intro hLBp (And.intro hLgon hq))))
  have hiI : (i : Int) < N := by omega
  clear hcnt hin S5 hbw5 hb5 hW5 hfun hL hLN hLn hLgd hLBp hLb hLgon hLc hBd hBs Z0 Z1 Dw D R2 hb1 hb2 hb1w hb2w hown hgr hgon hBo x0 X0 X1 hbW HST HW0
  have hqw := HL.out.2.2.2.2
  have hP : ∀ W8, SkKeep L W5 W8 → Below n w W8 ∧ KeepsOthers w W8 ∧ (∀ (q : Nat) (t : TypeId) (cs : Array Value), Bk w q t cs → q ≠ gd → t ≠ 94 → Bk W8 q t cs) := fun W8 K8 => by
    obtain ⟨hLn, hLgd, hLBp, hLgon, _⟩ := HL.out
    refine ⟨(HBW.out.mono (by omega)).trans (by have := K8.bel; rwa [hLn] at this), ⟨Nat.le_trans HBW.out.size K8.bel.size, fun k o hk ho => (K8.others HS5.out).same k o ((HBW.out.block k (Array.getElem?_eq_some_iff.1 hk).1).trans hk) ho⟩, fun r t cs hr h1 h2 => ?_⟩
    have := hr.lt
    exact K8.bk (hr.keep HBW.out) (by omega) (by omega) (by omega) h2
  have HP := Lib.hid hP
  clear hP hqw
  go_wp2_with fail
  refine (HSK.out).mono ?_
  clear HSK
  rintro e W8 (⟨dn8, v8, rfl, S8, K8, A8, ak⟩ | ⟨rfl, na, K8, ax, nx, cx, b8⟩)
  · go_wp2_with fail
    go_ret
    obtain ⟨h1, h2, h3⟩ := HP.out _ K8
    exact ⟨h1, h2, h3, .inl ⟨ak, rfl⟩⟩
  · rw [HL.out.2.2.1] at b8
    have z0 := b8.cell 0
    simp at z0
    go_wp2_with fail
    go_ret
    obtain ⟨h1, h2, h3⟩ := HP.out _ K8
    exact ⟨h1, h2, h3, .inr ⟨na, _, _, _, rfl⟩⟩

end Go.Proofs.Ytkikjmkpndmdcaa
