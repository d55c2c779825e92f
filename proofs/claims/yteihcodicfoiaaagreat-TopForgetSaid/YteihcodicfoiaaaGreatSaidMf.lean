/-
  What is proved: the contract of said.
-/
import Derived.Test.YteihcodicfoiaaaGreat21Mf
namespace Go.Proofs.YteihcodicfoiaaaGreat
set_option maxRecDepth 100000
set_option maxHeartbeats 4000000
open Go Go.RowKit
theorem Hm {fn:Func} {p q:Tmp} {ty:TypeId} {tmps:Array Value} {w:World} {g:Nat} {t:TypeId} {cs:Array Value} {d:TypeDesc} (h:fn.results=#[.cell p ty,.tmp q])
  (hp:tmps.getD p undef=.pointer (some ⟨g,0,none⟩)) (hg:Bk w g t cs) (hd:(match d with | .struct _ | .array _ _=>true | _=>false)=true) (hu:Tryz.prog.underlying ty=some d) (hi:(Tryz.prog.info? ty).map (·.size)=some cs.size) :
  (results fn tmps).run Tryz.prog w=.ok (.tuple #[.agg cs,tmps.getD q undef]) w:=by
 have hp':tmps[p]?.getD undef=.pointer (some ⟨g,0,none⟩):=by simpa using hp
 have hl:=run_loadVar_row (P:=Tryz.prog) w g t ty cs (0,0) d hg hu (by cases d<;>simp_all) hi
 simp [results,h,hp',asAddr,hl]
def Az (kind:Int) (n:Ab):Ab :=
 if kind=1 then { n with hlo:=0,hhi:=0 }
 else if kind=2 then { n with turns:=0 }
 else if kind=3 then { n with stone:=0,a:=0,b:=0,dlo:=0,dhi:=0 }
 else if kind=4 then { n with stone:=0,ring:=0,strokes:=[],sA:=none,sc:=0 }
 else if kind=5\/kind=6 then { n with rh:=0,rn:=0 }
 else n
def Dd (f:FrD) (kind:Int) (n:Ab):Bool :=
 if kind=1 then Cf n.hlo n.hhi 1 255
 else if kind=2 then inB n.turns 1 10000
 else if kind=3 then inB n.stone 0 1 && (inB n.a 0 (f.rings*f.sec - 1) && ((decide (n.b = -1) || inB n.b 0 (f.rings*f.sec - 1)) && (decide (n.a≠n.b) && Cf n.dlo n.dhi (-1000000000) 1000000000)))
 else if kind=4 then inB n.stone 0 1 && (inB n.ring 0 (f.rings - 1) && Fx f n.strokes)
 else if kind=5\/kind=6 then inB n.rh 1 8 && inB n.rn 1 400
 else false
def SaidP (f:FrD) (kind:Int) (n:Ab) (w:World) (e:Ending) (w':World):Prop :=
 e=.returned (.tuple #[.agg (Az kind n).arr,.bool (Dd f kind n)])/\Below w.heap.size w w'
theorem Eb (n:Ab):n.arr.all (·.oneCell')=true:=by simp [Ab.arr,Value.oneCell']
theorem cont_nil {k:Int} {n:Ab} (h:k<1\/6<k):Fb k n=.nilIface:=by unfold Fb;rw [if_neg (by omega),if_neg (by omega),if_neg (by omega),if_neg (by omega),if_neg (by omega)]
structure SaidAt (f:FrD) (n:Ab) (w U:World):Prop where
 fr:Bk U w.heap.size 112 #[.int .i64 f.rings,.int .i64 f.sec,.int .i64 f.wide]
 nt:Bk U (w.heap.size+1) 68 n.arr
 rs:Bk U (w.heap.size+1+1) 68 z68
 re:Bk U (w.heap.size+3) 68 n.arr
 be:Below w.heap.size w U
attribute [local go_sem ↓] Cd Bu Ek Dh
theorem ta281_281 (v:Value) (w:World):(Instr.typeAssert (.iface 281 v) 278 281 true).run Tryz.prog w=.ok (.tuple #[v,.bool true]) w:=by kernel_rfl
theorem ta283_281 (v:Value) (w:World):(Instr.typeAssert (.iface 283 v) 278 281 true).run Tryz.prog w=.ok (.tuple #[.agg #[.int .i64 0,.int .i64 0],.bool false]) w:=by kernel_rfl
theorem ta285_281 (v:Value) (w:World):(Instr.typeAssert (.iface 285 v) 278 281 true).run Tryz.prog w=.ok (.tuple #[.agg #[.int .i64 0,.int .i64 0],.bool false]) w:=by kernel_rfl
theorem ta287_281 (v:Value) (w:World):(Instr.typeAssert (.iface 287 v) 278 281 true).run Tryz.prog w=.ok (.tuple #[.agg #[.int .i64 0,.int .i64 0],.bool false]) w:=by kernel_rfl
theorem ta289_281 (v:Value) (w:World):(Instr.typeAssert (.iface 289 v) 278 281 true).run Tryz.prog w=.ok (.tuple #[.agg #[.int .i64 0,.int .i64 0],.bool false]) w:=by kernel_rfl
theorem tan_281 (w:World):(Instr.typeAssert .nilIface 278 281 true).run Tryz.prog w=.ok (.tuple #[.agg #[.int .i64 0,.int .i64 0],.bool false]) w:=by kernel_rfl
theorem ta281_283 (v:Value) (w:World):(Instr.typeAssert (.iface 281 v) 278 283 true).run Tryz.prog w=.ok (.tuple #[.agg #[.int .i64 0],.bool false]) w:=by kernel_rfl
theorem ta283_283 (v:Value) (w:World):(Instr.typeAssert (.iface 283 v) 278 283 true).run Tryz.prog w=.ok (.tuple #[v,.bool true]) w:=by kernel_rfl
theorem ta285_283 (v:Value) (w:World):(Instr.typeAssert (.iface 285 v) 278 283 true).run Tryz.prog w=.ok (.tuple #[.agg #[.int .i64 0],.bool false]) w:=by kernel_rfl
theorem ta287_283 (v:Value) (w:World):(Instr.typeAssert (.iface 287 v) 278 283 true).run Tryz.prog w=.ok (.tuple #[.agg #[.int .i64 0],.bool false]) w:=by kernel_rfl
theorem ta289_283 (v:Value) (w:World):(Instr.typeAssert (.iface 289 v) 278 283 true).run Tryz.prog w=.ok (.tuple #[.agg #[.int .i64 0],.bool false]) w:=by kernel_rfl
theorem tan_283 (w:World):(Instr.typeAssert .nilIface 278 283 true).run Tryz.prog w=.ok (.tuple #[.agg #[.int .i64 0],.bool false]) w:=by kernel_rfl
theorem ta281_285 (v:Value) (w:World):(Instr.typeAssert (.iface 281 v) 278 285 true).run Tryz.prog w=.ok (.tuple #[.agg #[.int .i64 0,.int .i64 0,.int .i64 0],.bool false]) w:=by kernel_rfl
theorem ta283_285 (v:Value) (w:World):(Instr.typeAssert (.iface 283 v) 278 285 true).run Tryz.prog w=.ok (.tuple #[.agg #[.int .i64 0,.int .i64 0,.int .i64 0],.bool false]) w:=by kernel_rfl
theorem ta285_285 (v:Value) (w:World):(Instr.typeAssert (.iface 285 v) 278 285 true).run Tryz.prog w=.ok (.tuple #[v,.bool true]) w:=by kernel_rfl
theorem ta287_285 (v:Value) (w:World):(Instr.typeAssert (.iface 287 v) 278 285 true).run Tryz.prog w=.ok (.tuple #[.agg #[.int .i64 0,.int .i64 0,.int .i64 0],.bool false]) w:=by kernel_rfl
theorem ta289_285 (v:Value) (w:World):(Instr.typeAssert (.iface 289 v) 278 285 true).run Tryz.prog w=.ok (.tuple #[.agg #[.int .i64 0,.int .i64 0,.int .i64 0],.bool false]) w:=by kernel_rfl
theorem tan_285 (w:World):(Instr.typeAssert .nilIface 278 285 true).run Tryz.prog w=.ok (.tuple #[.agg #[.int .i64 0,.int .i64 0,.int .i64 0],.bool false]) w:=by kernel_rfl
theorem ta281_287 (v:Value) (w:World):(Instr.typeAssert (.iface 281 v) 278 287 true).run Tryz.prog w=.ok (.tuple #[.agg #[.int .i64 0,.int .i64 0],.bool false]) w:=by kernel_rfl
theorem ta283_287 (v:Value) (w:World):(Instr.typeAssert (.iface 283 v) 278 287 true).run Tryz.prog w=.ok (.tuple #[.agg #[.int .i64 0,.int .i64 0],.bool false]) w:=by kernel_rfl
theorem ta285_287 (v:Value) (w:World):(Instr.typeAssert (.iface 285 v) 278 287 true).run Tryz.prog w=.ok (.tuple #[.agg #[.int .i64 0,.int .i64 0],.bool false]) w:=by kernel_rfl
theorem ta287_287 (v:Value) (w:World):(Instr.typeAssert (.iface 287 v) 278 287 true).run Tryz.prog w=.ok (.tuple #[v,.bool true]) w:=by kernel_rfl
theorem ta289_287 (v:Value) (w:World):(Instr.typeAssert (.iface 289 v) 278 287 true).run Tryz.prog w=.ok (.tuple #[.agg #[.int .i64 0,.int .i64 0],.bool false]) w:=by kernel_rfl
theorem tan_287 (w:World):(Instr.typeAssert .nilIface 278 287 true).run Tryz.prog w=.ok (.tuple #[.agg #[.int .i64 0,.int .i64 0],.bool false]) w:=by kernel_rfl
theorem ta281_289 (v:Value) (w:World):(Instr.typeAssert (.iface 281 v) 278 289 true).run Tryz.prog w=.ok (.tuple #[.agg #[.int .i64 0,.int .i64 0],.bool false]) w:=by kernel_rfl
theorem ta283_289 (v:Value) (w:World):(Instr.typeAssert (.iface 283 v) 278 289 true).run Tryz.prog w=.ok (.tuple #[.agg #[.int .i64 0,.int .i64 0],.bool false]) w:=by kernel_rfl
theorem ta285_289 (v:Value) (w:World):(Instr.typeAssert (.iface 285 v) 278 289 true).run Tryz.prog w=.ok (.tuple #[.agg #[.int .i64 0,.int .i64 0],.bool false]) w:=by kernel_rfl
theorem ta287_289 (v:Value) (w:World):(Instr.typeAssert (.iface 287 v) 278 289 true).run Tryz.prog w=.ok (.tuple #[.agg #[.int .i64 0,.int .i64 0],.bool false]) w:=by kernel_rfl
theorem ta289_289 (v:Value) (w:World):(Instr.typeAssert (.iface 289 v) 278 289 true).run Tryz.prog w=.ok (.tuple #[v,.bool true]) w:=by kernel_rfl
theorem tan_289 (w:World):(Instr.typeAssert .nilIface 278 289 true).run Tryz.prog w=.ok (.tuple #[.agg #[.int .i64 0,.int .i64 0],.bool false]) w:=by kernel_rfl
attribute [local go_sem] ta281_281 ta283_281 ta285_281 ta287_281 ta289_281 tan_281 ta281_283 ta283_283 ta285_283 ta287_283 ta289_283 tan_283 ta281_285 ta283_285 ta285_285 ta287_285 ta289_285 tan_285 ta281_287 ta283_287 ta285_287 ta287_287 ta289_287 tan_287 ta281_289 ta283_289 ta285_289 ta287_289 ta289_289 tan_289
theorem said_pre (f:FrD) (n:Ab) (w:World):∃ W,((w.alloc (.cells #[.int .i64 f.rings,.int .i64 f.sec,.int .i64 f.wide] 112)).alloc (.cells n.arr 68)).alloc (.cells z68 68)=W/\W.heap.size=w.heap.size+3/\Hb 68 (.pointer (some ⟨w.heap.size+1,0,none⟩)) W=.ok (.agg n.arr) W /\
  storeN 68 (.pointer (some ⟨w.heap.size+3,0,none⟩)) (.agg n.arr) (W.alloc (.cells z68 68))=.ok () ((W.alloc (.cells z68 68)).setRow (w.heap.size+3) n.arr)/\SaidAt f n w ((W.alloc (.cells z68 68)).setRow (w.heap.size+3) n.arr):=by
 obtain ⟨W,hW⟩:∃ W,((w.alloc (.cells #[.int .i64 f.rings,.int .i64 f.sec,.int .i64 f.wide] 112)).alloc (.cells n.arr 68)).alloc (.cells z68 68)=W:=⟨_,rfl⟩;have hbW:Below w.heap.size w W:=by rw [<- hW];exact (Ba.alloc (by simp) _).alloc (by simp;omega) _
 have X:=(show Bk W w.heap.size 112 #[.int .i64 f.rings,.int .i64 f.sec,.int .i64 f.wide] by rw [<- hW];exact ((Aa rfl).alloc _).alloc _)
 have Y:=(show Bk W (w.heap.size+1) 68 n.arr by rw [<- hW];exact (Aa (by simp)).alloc _)
 have R:=(show Bk W (w.heap.size+1+1) 68 z68 by rw [<- hW];exact Aa (by simp))
 have hsz:W.heap.size=w.heap.size+3:=by rw [<- hW];simp
 have hU:SaidAt f n w ((W.alloc (.cells z68 68)).setRow (w.heap.size+3) n.arr) :=
  ⟨(X.alloc _).farRow (by omega) _,(Y.alloc _).farRow (by omega) _,(R.alloc _).farRow (by omega) _,Bj (Aa hsz) _,Aq (hbW.alloc (by omega) _) (by omega) _⟩
 have l1:=Ah n Y;have s1:=Be (ty:=68) (cs:=n.arr) (Aa (t:=68) (cs:=z68) hsz) (by kernel_rfl) rfl (Eb n)
 exact ⟨W,hW,hsz,l1,s1,hU⟩
theorem Ev {n:Ab} {V w:World} {g q:Nat} {old:Array Value} (re:Bk V q 68 n.arr) (rs:Bk V g 68 old) (be:Below w.heap.size w V) (h:w.heap.size<=g) (ho:old.size=n.arr.size:=by rfl) :
  Hb 68 (.pointer (some ⟨q,0,none⟩)) V=.ok (.agg n.arr) V/\storeN 68 (.pointer (some ⟨g,0,none⟩)) (.agg n.arr) V=.ok () (V.setRow g n.arr)/\Hid (Bk (V.setRow g n.arr) g 68 n.arr/\Below w.heap.size w (V.setRow g n.arr)) :=
 ⟨Ah n re,Be (ty:=68) (cs:=n.arr) rs (by kernel_rfl) ho (Eb _),Hd ⟨Bj rs n.arr,Aq be h n.arr⟩⟩
theorem Je {tmps:Array Value} {w:World} {g:Nat} {n:Ab} (hp:tmps.getD 6 undef=.pointer (some ⟨g,0,none⟩)) (hg:Bk w g 68 n.arr):(results Tryz.f115 tmps).run Tryz.prog w=.ok (.tuple #[.agg n.arr,tmps.getD 7 undef]) w :=
 Hm (fn:=Tryz.f115) (p:=6) (q:=7) rfl hp hg rfl Tryz.underlying68 (by kernel_rfl)
theorem said1_any (f:FrD) (n:Ab) (w:World):Calls Tryz.prog 115 #[f.val,.int .i64 1,.agg n.arr] w (SaidP f 1 n w):=by
 unfold FrD.val;obtain ⟨W,hW,hsz,l1,s1,hU⟩:=said_pre f n w;have HW:=Hd hW;clear hW;go_enter Tryz.func115,Tryz.ntmps115;go_upto_region 1 with fail
 rw [HW.out];clear HW;go_upto_region 2 with fail
 clear l1 s1;generalize (W.alloc _).setRow _ _=U at *;clear hsz;have l2:=Ah n hU.nt;have HU:=Hd hU;have HC:=Hd (Ft 1 n U);rw [show Fb 1 n=.iface 281 (.agg #[.int .i64 n.hlo,.int .i64 n.hhi]) from by unfold Fb;rfl] at HC
 clear hU;go_upto_region 7 with (go_at_call 160;refine HC.out.mono ?_;rintro e w1 ⟨rfl,hb1⟩)
 have H1:=HU.out;have fr:=(H1.fr.keep hb1).alloc (.cells #[.int .i64 n.hlo,.int .i64 n.hhi] 281);have nt:=(H1.nt.keep hb1).alloc (.cells #[.int .i64 n.hlo,.int .i64 n.hhi] 281);have rs:=(H1.rs.keep hb1).alloc (.cells #[.int .i64 n.hlo,.int .i64 n.hhi] 281);have re:=(H1.re.keep hb1).alloc (.cells #[.int .i64 n.hlo,.int .i64 n.hhi] 281);have hq:w.heap.size+3<w1.heap.size:=(H1.re.keep hb1).lt;have be:=(H1.be.trans (hb1.mono H1.be.size)).alloc (by omega) (.cells #[.int .i64 n.hlo,.int .i64 n.hhi] 281)
 have bx:Bk (w1.alloc (.cells #[.int .i64 n.hlo,.int .i64 n.hhi] 281)) w1.heap.size 281 #[.int .i64 n.hlo,.int .i64 n.hhi]:=Aa rfl;clear H1 HU HC l2 hb1;obtain ⟨q,hqq⟩:∃ q,w1.heap.size=q:=⟨_,rfl⟩;rw [hqq] at hq bx ⊢;generalize w1.alloc _=V at *;clear hqq;have hlt:=re.lt;have hlq:=bx.lt;have z8:=re.fz 8;have y8:=re.cell 8;have z9:=re.fz 9;have y9:=re.cell 9;simp [Ab.arr] at y8 y9;have hk:∀ (k t:Nat) (cs:Array Value),k≠w.heap.size+3->Bk V k t cs->Bk ((V.setCell ⟨w.heap.size+3,8,none⟩ (.int .i64 0)).setCell ⟨w.heap.size+3,9,none⟩ (.int .i64 0)) k t cs:=fun k t cs h b=>((b.far (p:=⟨_,8,none⟩) h _).far (p:=⟨_,9,none⟩) h _)
 have re':=((re.put 8 (.int .i64 0)).put 9 (.int .i64 0));have be':=((be.setCell (p:=⟨w.heap.size+3,8,none⟩) (by simp) (.int .i64 0)).setCell (p:=⟨w.heap.size+3,9,none⟩) (by simp) (.int .i64 0))
 have HF:=Hd (Ai (hk _ _ _ (by omega) fr) (Ai (hk _ _ _ (by omega) nt) (Ai (hk _ _ _ (by omega) rs) (Ai re' (Ai be' (hk _ _ _ (by omega) bx))))))
 clear fr nt rs re be bx hk re' be';go_upto_region 8 with fail
 obtain ⟨fr,nt,rs,re,be,bx⟩:=HF.out;generalize ((V.setCell ⟨_,8,none⟩ _).setCell ⟨_,9,none⟩ _)=V2 at *;have re:Bk V2 (w.heap.size+3) 68 ({ n with hlo:=0,hhi:=0 }).arr:=re
 clear HF z8 y8 z9 y9 hlt hlq;have x0:=bx.cell 0;have x1:=bx.cell 1;simp at x0 x1;go_upto_region 25 with (go_at_call 65;refine (Jf _ _ _ _ _).mono ?_;rintro e w3 ⟨rfl,hb3⟩)
 clear x0 x1;have rs:=rs.keep hb3;have re:=re.keep hb3;have be:=be.trans (hb3.mono be.size);clear fr nt bx hb3;obtain ⟨l3,s3,HE⟩:=Ev re rs be (by omega)
 clear rs re be;go_wp2_with fail;refine bodyPost_ret (v:=.tuple #[.agg ({ n with hlo:=0,hhi:=0 }).arr,.bool (Cf n.hlo n.hhi 1 255)]) (Je rfl HE.out.1) rfl ?_
 have hN:Az 1 n = { n with hlo:=0,hhi:=0 }:=rfl
 have hBv:Dd f 1 n=(Cf n.hlo n.hhi 1 255):=rfl;exact ⟨by rw [hN,hBv],HE.out.2⟩
theorem said2_any (f:FrD) (n:Ab) (w:World):Calls Tryz.prog 115 #[f.val,.int .i64 2,.agg n.arr] w (SaidP f 2 n w):=by
 unfold FrD.val;obtain ⟨W,hW,hsz,l1,s1,hU⟩:=said_pre f n w;have HW:=Hd hW;clear hW;go_enter Tryz.func115,Tryz.ntmps115;go_upto_region 1 with fail
 rw [HW.out];clear HW;go_upto_region 2 with fail
 clear l1 s1;generalize (W.alloc _).setRow _ _=U at *;clear hsz;have l2:=Ah n hU.nt;have HU:=Hd hU;have HC:=Hd (Ft 2 n U);rw [show Fb 2 n=.iface 283 (.agg #[.int .i64 n.turns]) from by unfold Fb;rfl] at HC
 clear hU;go_upto_region 11 with (go_at_call 160;refine HC.out.mono ?_;rintro e w1 ⟨rfl,hb1⟩)
 have H1:=HU.out;have fr:=(H1.fr.keep hb1).alloc (.cells #[.int .i64 n.turns] 283);have nt:=(H1.nt.keep hb1).alloc (.cells #[.int .i64 n.turns] 283);have rs:=(H1.rs.keep hb1).alloc (.cells #[.int .i64 n.turns] 283);have re:=(H1.re.keep hb1).alloc (.cells #[.int .i64 n.turns] 283);have hq:w.heap.size+3<w1.heap.size:=(H1.re.keep hb1).lt;have be:=(H1.be.trans (hb1.mono H1.be.size)).alloc (by omega) (.cells #[.int .i64 n.turns] 283)
 have bx:Bk (w1.alloc (.cells #[.int .i64 n.turns] 283)) w1.heap.size 283 #[.int .i64 n.turns]:=Aa rfl;clear H1 HU HC l2 hb1;obtain ⟨q,hqq⟩:∃ q,w1.heap.size=q:=⟨_,rfl⟩;rw [hqq] at hq bx ⊢;generalize w1.alloc _=V at *;clear hqq;have hlt:=re.lt;have hlq:=bx.lt;have z7:=re.fz 7;have y7:=re.cell 7;simp [Ab.arr] at y7;have hk:∀ (k t:Nat) (cs:Array Value),k≠w.heap.size+3->Bk V k t cs->Bk (V.setCell ⟨w.heap.size+3,7,none⟩ (.int .i64 0)) k t cs:=fun k t cs h b=>(b.far (p:=⟨_,7,none⟩) h _)
 have re':=(re.put 7 (.int .i64 0));have be':=(be.setCell (p:=⟨w.heap.size+3,7,none⟩) (by simp) (.int .i64 0))
 have HF:=Hd (Ai (hk _ _ _ (by omega) fr) (Ai (hk _ _ _ (by omega) nt) (Ai (hk _ _ _ (by omega) rs) (Ai re' (Ai be' (hk _ _ _ (by omega) bx))))))
 clear fr nt rs re be bx hk re' be';go_upto_region 12 with fail
 obtain ⟨fr,nt,rs,re,be,bx⟩:=HF.out;generalize (V.setCell ⟨_,7,none⟩ _)=V2 at *;have re:Bk V2 (w.heap.size+3) 68 ({ n with turns:=0 }).arr:=re
 clear HF z7 y7 hlt hlq;have x0:=bx.cell 0;simp at x0;go_upto_region 25 with (go_at_call 36;refine (Bm _ _ _ _).mono ?_;rintro e w3 ⟨rfl,rfl⟩)
 clear x0;clear fr nt bx;obtain ⟨l3,s3,HE⟩:=Ev re rs be (by omega)
 clear rs re be;go_wp2_with fail;refine bodyPost_ret (v:=.tuple #[.agg ({ n with turns:=0 }).arr,.bool (inB n.turns 1 10000)]) (Je rfl HE.out.1) rfl ?_
 have hN:Az 2 n = { n with turns:=0 }:=rfl
 have hBv:Dd f 2 n=(inB n.turns 1 10000):=rfl;exact ⟨by rw [hN,hBv],HE.out.2⟩
theorem said5_any (f:FrD) (n:Ab) (w:World):Calls Tryz.prog 115 #[f.val,.int .i64 5,.agg n.arr] w (SaidP f 5 n w):=by
 unfold FrD.val;obtain ⟨W,hW,hsz,l1,s1,hU⟩:=said_pre f n w;have HW:=Hd hW;clear hW;go_enter Tryz.func115,Tryz.ntmps115;go_upto_region 1 with fail
 rw [HW.out];clear HW;go_upto_region 2 with fail
 clear l1 s1;generalize (W.alloc _).setRow _ _=U at *;clear hsz;have l2:=Ah n hU.nt;have HU:=Hd hU;have HC:=Hd (Ft 5 n U);rw [show Fb 5 n=.iface 289 (.agg #[.int .i64 n.rh,.int .i64 n.rn]) from by unfold Fb;rfl] at HC
 clear hU;go_upto_region 23 with (go_at_call 160;refine HC.out.mono ?_;rintro e w1 ⟨rfl,hb1⟩)
 have H1:=HU.out;have fr:=(H1.fr.keep hb1).alloc (.cells #[.int .i64 n.rh,.int .i64 n.rn] 289);have nt:=(H1.nt.keep hb1).alloc (.cells #[.int .i64 n.rh,.int .i64 n.rn] 289);have rs:=(H1.rs.keep hb1).alloc (.cells #[.int .i64 n.rh,.int .i64 n.rn] 289);have re:=(H1.re.keep hb1).alloc (.cells #[.int .i64 n.rh,.int .i64 n.rn] 289);have hq:w.heap.size+3<w1.heap.size:=(H1.re.keep hb1).lt;have be:=(H1.be.trans (hb1.mono H1.be.size)).alloc (by omega) (.cells #[.int .i64 n.rh,.int .i64 n.rn] 289)
 have bx:Bk (w1.alloc (.cells #[.int .i64 n.rh,.int .i64 n.rn] 289)) w1.heap.size 289 #[.int .i64 n.rh,.int .i64 n.rn]:=Aa rfl;clear H1 HU HC l2 hb1;obtain ⟨q,hqq⟩:∃ q,w1.heap.size=q:=⟨_,rfl⟩;rw [hqq] at hq bx ⊢;generalize w1.alloc _=V at *;clear hqq;have hlt:=re.lt;have hlq:=bx.lt;have z16:=re.fz 16;have y16:=re.cell 16;have z17:=re.fz 17;have y17:=re.cell 17;simp [Ab.arr] at y16 y17;have hk:∀ (k t:Nat) (cs:Array Value),k≠w.heap.size+3->Bk V k t cs->Bk ((V.setCell ⟨w.heap.size+3,16,none⟩ (.int .i64 0)).setCell ⟨w.heap.size+3,17,none⟩ (.int .i64 0)) k t cs:=fun k t cs h b=>((b.far (p:=⟨_,16,none⟩) h _).far (p:=⟨_,17,none⟩) h _)
 have re':=((re.put 16 (.int .i64 0)).put 17 (.int .i64 0));have be':=((be.setCell (p:=⟨w.heap.size+3,16,none⟩) (by simp) (.int .i64 0)).setCell (p:=⟨w.heap.size+3,17,none⟩) (by simp) (.int .i64 0))
 have HF:=Hd (Ai (hk _ _ _ (by omega) fr) (Ai (hk _ _ _ (by omega) nt) (Ai (hk _ _ _ (by omega) rs) (Ai re' (Ai be' (hk _ _ _ (by omega) bx))))))
 clear fr nt rs re be bx hk re' be';go_upto_region 24 with fail
 obtain ⟨fr,nt,rs,re,be,bx⟩:=HF.out;generalize ((V.setCell ⟨_,16,none⟩ _).setCell ⟨_,17,none⟩ _)=V2 at *;have re:Bk V2 (w.heap.size+3) 68 ({ n with rh:=0,rn:=0 }).arr:=re
 clear HF z16 y16 z17 y17 hlt hlq;have x0:=bx.cell 0;have x1:=bx.cell 1;simp at x0 x1;go_upto_region 25 with (go_at_call 116;refine (Gt _ _ _).mono ?_;rintro e w3 ⟨rfl,hb3⟩)
 clear x0 x1;have rs:=rs.keep hb3;have re:=re.keep hb3;have be:=be.trans (hb3.mono be.size);clear fr nt bx hb3;obtain ⟨l3,s3,HE⟩:=Ev re rs be (by omega)
 clear rs re be;go_wp2_with fail;refine bodyPost_ret (v:=.tuple #[.agg ({ n with rh:=0,rn:=0 }).arr,.bool (inB n.rh 1 8 && inB n.rn 1 400)]) (Je rfl HE.out.1) rfl ?_
 have hN:Az 5 n = { n with rh:=0,rn:=0 }:=rfl
 have hBv:Dd f 5 n=(inB n.rh 1 8 && inB n.rn 1 400):=rfl;exact ⟨by rw [hN,hBv],HE.out.2⟩
theorem said6_any (f:FrD) (n:Ab) (w:World):Calls Tryz.prog 115 #[f.val,.int .i64 6,.agg n.arr] w (SaidP f 6 n w):=by
 unfold FrD.val;obtain ⟨W,hW,hsz,l1,s1,hU⟩:=said_pre f n w;have HW:=Hd hW;clear hW;go_enter Tryz.func115,Tryz.ntmps115;go_upto_region 1 with fail
 rw [HW.out];clear HW;go_upto_region 2 with fail
 clear l1 s1;generalize (W.alloc _).setRow _ _=U at *;clear hsz;have l2:=Ah n hU.nt;have HU:=Hd hU;have HC:=Hd (Ft 6 n U);rw [show Fb 6 n=.iface 289 (.agg #[.int .i64 n.rh,.int .i64 n.rn]) from by unfold Fb;rfl] at HC
 clear hU;go_upto_region 23 with (go_at_call 160;refine HC.out.mono ?_;rintro e w1 ⟨rfl,hb1⟩)
 have H1:=HU.out;have fr:=(H1.fr.keep hb1).alloc (.cells #[.int .i64 n.rh,.int .i64 n.rn] 289);have nt:=(H1.nt.keep hb1).alloc (.cells #[.int .i64 n.rh,.int .i64 n.rn] 289);have rs:=(H1.rs.keep hb1).alloc (.cells #[.int .i64 n.rh,.int .i64 n.rn] 289);have re:=(H1.re.keep hb1).alloc (.cells #[.int .i64 n.rh,.int .i64 n.rn] 289);have hq:w.heap.size+3<w1.heap.size:=(H1.re.keep hb1).lt;have be:=(H1.be.trans (hb1.mono H1.be.size)).alloc (by omega) (.cells #[.int .i64 n.rh,.int .i64 n.rn] 289)
 have bx:Bk (w1.alloc (.cells #[.int .i64 n.rh,.int .i64 n.rn] 289)) w1.heap.size 289 #[.int .i64 n.rh,.int .i64 n.rn]:=Aa rfl;clear H1 HU HC l2 hb1;obtain ⟨q,hqq⟩:∃ q,w1.heap.size=q:=⟨_,rfl⟩;rw [hqq] at hq bx ⊢;generalize w1.alloc _=V at *;clear hqq;have hlt:=re.lt;have hlq:=bx.lt;have z16:=re.fz 16;have y16:=re.cell 16;have z17:=re.fz 17;have y17:=re.cell 17;simp [Ab.arr] at y16 y17;have hk:∀ (k t:Nat) (cs:Array Value),k≠w.heap.size+3->Bk V k t cs->Bk ((V.setCell ⟨w.heap.size+3,16,none⟩ (.int .i64 0)).setCell ⟨w.heap.size+3,17,none⟩ (.int .i64 0)) k t cs:=fun k t cs h b=>((b.far (p:=⟨_,16,none⟩) h _).far (p:=⟨_,17,none⟩) h _)
 have re':=((re.put 16 (.int .i64 0)).put 17 (.int .i64 0));have be':=((be.setCell (p:=⟨w.heap.size+3,16,none⟩) (by simp) (.int .i64 0)).setCell (p:=⟨w.heap.size+3,17,none⟩) (by simp) (.int .i64 0))
 have HF:=Hd (Ai (hk _ _ _ (by omega) fr) (Ai (hk _ _ _ (by omega) nt) (Ai (hk _ _ _ (by omega) rs) (Ai re' (Ai be' (hk _ _ _ (by omega) bx))))))
 clear fr nt rs re be bx hk re' be';go_upto_region 24 with fail
 obtain ⟨fr,nt,rs,re,be,bx⟩:=HF.out;generalize ((V.setCell ⟨_,16,none⟩ _).setCell ⟨_,17,none⟩ _)=V2 at *;have re:Bk V2 (w.heap.size+3) 68 ({ n with rh:=0,rn:=0 }).arr:=re
 clear HF z16 y16 z17 y17 hlt hlq;have x0:=bx.cell 0;have x1:=bx.cell 1;simp at x0 x1;go_upto_region 25 with (go_at_call 116;refine (Gt _ _ _).mono ?_;rintro e w3 ⟨rfl,hb3⟩)
 clear x0 x1;have rs:=rs.keep hb3;have re:=re.keep hb3;have be:=be.trans (hb3.mono be.size);clear fr nt bx hb3;obtain ⟨l3,s3,HE⟩:=Ev re rs be (by omega)
 clear rs re be;go_wp2_with fail;refine bodyPost_ret (v:=.tuple #[.agg ({ n with rh:=0,rn:=0 }).arr,.bool (inB n.rh 1 8 && inB n.rn 1 400)]) (Je rfl HE.out.1) rfl ?_
 have hN:Az 6 n = { n with rh:=0,rn:=0 }:=rfl
 have hBv:Dd f 6 n=(inB n.rh 1 8 && inB n.rn 1 400):=rfl;exact ⟨by rw [hN,hBv],HE.out.2⟩
theorem said4_any (f:FrD) (n:Ab) (w:World) (hf:f.Ok) (hs:n.At w) (hn:n.strokes.length<=9223372036854775807):Calls Tryz.prog 115 #[f.val,.int .i64 4,.agg n.arr] w (SaidP f 4 n w):=by
 have hr0:=hf.r0;have hr1:=hf.r1;have hrw:=IntWalk.i64_in (f.rings - 1) (by omega)
 have HST:=Hd (fun (X:World) (h:Below w.heap.size w X)=>fstrokes_any f hf n.sA n.sc n.strokes X (hs.below h) hn)
 unfold FrD.val at HST;have HVV:Hid (Dd f 4 n=(inB n.stone 0 1 && (inB n.ring 0 (f.rings - 1) && Fx f n.strokes))):=rfl;clear hf hs hn;unfold FrD.val;obtain ⟨W,hW,hsz,l1,s1,hU⟩:=said_pre f n w;have HW:=Hd hW;clear hW;go_enter Tryz.func115,Tryz.ntmps115;go_upto_region 1 with fail
 rw [HW.out];clear HW;go_upto_region 2 with fail
 clear l1 s1;generalize (W.alloc _).setRow _ _=U at *;clear hsz;have l2:=Ah n hU.nt;have HU:=Hd hU;have HC:=Hd (Ft 4 n U);rw [show Fb 4 n=.iface 287 (.agg #[.int .i64 n.stone,.int .i64 n.ring]) from by unfold Fb;rfl] at HC
 clear hU;go_upto_region 19 with (go_at_call 160;refine HC.out.mono ?_;rintro e w1 ⟨rfl,hb1⟩)
 have H1:=HU.out;have fr:=(H1.fr.keep hb1).alloc (.cells #[.int .i64 n.stone,.int .i64 n.ring] 287);have nt:=(H1.nt.keep hb1).alloc (.cells #[.int .i64 n.stone,.int .i64 n.ring] 287);have rs:=(H1.rs.keep hb1).alloc (.cells #[.int .i64 n.stone,.int .i64 n.ring] 287);have re:=(H1.re.keep hb1).alloc (.cells #[.int .i64 n.stone,.int .i64 n.ring] 287);have hq:w.heap.size+3<w1.heap.size:=(H1.re.keep hb1).lt;have be:=(H1.be.trans (hb1.mono H1.be.size)).alloc (by omega) (.cells #[.int .i64 n.stone,.int .i64 n.ring] 287)
 have bx:Bk (w1.alloc (.cells #[.int .i64 n.stone,.int .i64 n.ring] 287)) w1.heap.size 287 #[.int .i64 n.stone,.int .i64 n.ring]:=Aa rfl;clear H1 HU HC l2 hb1;obtain ⟨q,hqq⟩:∃ q,w1.heap.size=q:=⟨_,rfl⟩;rw [hqq] at hq bx ⊢;generalize w1.alloc _=V at *;clear hqq;have hlt:=re.lt;have hlq:=bx.lt;have z5:=re.fz 5;have y5:=re.cell 5;have z14:=re.fz 14;have y14:=re.cell 14;have z15:=re.fz 15;have y15:=re.cell 15;simp [Ab.arr] at y5 y14 y15;have hk:∀ (k t:Nat) (cs:Array Value),k≠w.heap.size+3->Bk V k t cs->Bk (((V.setCell ⟨w.heap.size+3,5,none⟩ (.int .i64 0)).setCell ⟨w.heap.size+3,14,none⟩ (.int .i64 0)).setCell ⟨w.heap.size+3,15,none⟩ (.slice none 0 0)) k t cs:=fun k t cs h b=>(((b.far (p:=⟨_,5,none⟩) h _).far (p:=⟨_,14,none⟩) h _).far (p:=⟨_,15,none⟩) h _)
 have re':=(((re.put 5 (.int .i64 0)).put 14 (.int .i64 0)).put 15 (.slice none 0 0));have be':=(((be.setCell (p:=⟨w.heap.size+3,5,none⟩) (by simp) (.int .i64 0)).setCell (p:=⟨w.heap.size+3,14,none⟩) (by simp) (.int .i64 0)).setCell (p:=⟨w.heap.size+3,15,none⟩) (by simp) (.slice none 0 0))
 have HF:=Hd (Ai (hk _ _ _ (by omega) fr) (Ai (hk _ _ _ (by omega) nt) (Ai (hk _ _ _ (by omega) rs) (Ai re' (Ai be' (hk _ _ _ (by omega) bx))))))
 clear fr nt rs re be bx hk re' be';go_upto_region 20 with fail
 obtain ⟨fr,nt,rs,re,be,bx⟩:=HF.out;generalize (((V.setCell ⟨_,5,none⟩ _).setCell ⟨_,14,none⟩ _).setCell ⟨_,15,none⟩ _)=V2 at *;have re:Bk V2 (w.heap.size+3) 68 ({ n with stone:=0,ring:=0,strokes:=[],sA:=none,sc:=0 }).arr:=re
 clear HF z5 y5 z14 y14 z15 y15 hlt hlq;have x0:=bx.cell 0;have x1:=bx.cell 1;have f0:=fr.cell 0;have f1:=fr.cell 1;have f2:=fr.cell 2;have t15:=nt.cell 15;simp [Ab.arr] at x0 x1 f0 f1 f2 t15;cases q1:inB n.stone 0 1 with
 | false =>
  have HQ:Hid (Dd f 4 n=false):=by refine Hd ?_;rw [HVV.out,q1];rfl
  go_upto_region 25 with (go_at_call 36;refine (Bm _ _ _ _).mono ?_;rintro e w3 ⟨rfl,rfl⟩;rw [q1])
  clear x0 x1 f0 f1 f2 t15 q1;clear fr nt bx;obtain ⟨l3,s3,HE⟩:=Ev re rs be (by omega)
  clear rs re be;go_wp2_with fail;refine bodyPost_ret (v:=.tuple #[.agg ({ n with stone:=0,ring:=0,strokes:=[],sA:=none,sc:=0 }).arr,.bool (false)]) (Je rfl HE.out.1) rfl ?_
  have hN:Az 4 n = { n with stone:=0,ring:=0,strokes:=[],sA:=none,sc:=0 }:=rfl
  exact ⟨by rw [hN,HQ.out],HE.out.2⟩
 | true =>
  cases q2:inB n.ring 0 (f.rings - 1) with
  | false =>
   have HQ:Hid (Dd f 4 n=false):=by refine Hd ?_;rw [HVV.out,q1,q2];rfl
   go_upto_region 25 with (go_at_call 36;refine (Bm _ _ _ _).mono ?_;rintro e w3 ⟨rfl,rfl⟩;first | rw [q1] | rw [q2])
   clear x0 x1 f0 f1 f2 t15 q1 q2;clear fr nt bx;obtain ⟨l3,s3,HE⟩:=Ev re rs be (by omega)
   clear rs re be;go_wp2_with fail;refine bodyPost_ret (v:=.tuple #[.agg ({ n with stone:=0,ring:=0,strokes:=[],sA:=none,sc:=0 }).arr,.bool (false)]) (Je rfl HE.out.1) rfl ?_
   have hN:Az 4 n = { n with stone:=0,ring:=0,strokes:=[],sA:=none,sc:=0 }:=rfl
   exact ⟨by rw [hN,HQ.out],HE.out.2⟩
  | true =>
   have HQ:Hid (Dd f 4 n=Fx f n.strokes):=by refine Hd ?_;rw [HVV.out,q1,q2];rfl
   go_upto_region 25 with (first | (go_at_call 36;refine (Bm _ _ _ _).mono ?_;rintro e w3 ⟨rfl,rfl⟩;first | rw [q1] | rw [q2]) | (go_at_call 162;refine (HST.out _ be).mono ?_;rintro e w4 ⟨rfl,hb3⟩))
   clear x0 x1 f0 f1 f2 t15 q1 q2;replace rs:=rs.keep hb3;replace re:=re.keep hb3;replace be:=be.trans (hb3.mono be.size);clear fr nt bx;obtain ⟨l3,s3,HE⟩:=Ev re rs be (by omega)
   clear rs re be;go_wp2_with fail;refine bodyPost_ret (v:=.tuple #[.agg ({ n with stone:=0,ring:=0,strokes:=[],sA:=none,sc:=0 }).arr,.bool (Fx f n.strokes)]) (Je rfl HE.out.1) rfl ?_
   have hN:Az 4 n = { n with stone:=0,ring:=0,strokes:=[],sA:=none,sc:=0 }:=rfl
   exact ⟨by rw [hN,HQ.out],HE.out.2⟩
theorem said3_any (f:FrD) (n:Ab) (w:World) (hf:f.Ok):Calls Tryz.prog 115 #[f.val,.int .i64 3,.agg n.arr] w (SaidP f 3 n w):=by
 have HCE:=Hd (fun (X:World) (m:Int)=>fcell_any f hf m X)
 unfold FrD.val at HCE;have HVV:Hid (Dd f 3 n=(inB n.stone 0 1 && (inB n.a 0 (f.rings*f.sec - 1) && ((decide (n.b = -1) || inB n.b 0 (f.rings*f.sec - 1)) && (decide (n.a≠n.b) && Cf n.dlo n.dhi (-1000000000) 1000000000))))):=rfl
 clear hf;unfold FrD.val;obtain ⟨W,hW,hsz,l1,s1,hU⟩:=said_pre f n w;have HW:=Hd hW;clear hW;go_enter Tryz.func115,Tryz.ntmps115;go_upto_region 1 with fail
 rw [HW.out];clear HW;go_upto_region 2 with fail
 clear l1 s1;generalize (W.alloc _).setRow _ _=U at *;clear hsz;have l2:=Ah n hU.nt;have HU:=Hd hU;have HC:=Hd (Ft 3 n U);rw [show Fb 3 n=.iface 285 (.agg #[.int .i64 n.stone,.int .i64 n.a,.int .i64 n.b]) from by unfold Fb;rfl] at HC
 clear hU;go_upto_region 15 with (go_at_call 160;refine HC.out.mono ?_;rintro e w1 ⟨rfl,hb1⟩)
 have H1:=HU.out;have fr:=(H1.fr.keep hb1).alloc (.cells #[.int .i64 n.stone,.int .i64 n.a,.int .i64 n.b] 285);have nt:=(H1.nt.keep hb1).alloc (.cells #[.int .i64 n.stone,.int .i64 n.a,.int .i64 n.b] 285);have rs:=(H1.rs.keep hb1).alloc (.cells #[.int .i64 n.stone,.int .i64 n.a,.int .i64 n.b] 285);have re:=(H1.re.keep hb1).alloc (.cells #[.int .i64 n.stone,.int .i64 n.a,.int .i64 n.b] 285);have hq:w.heap.size+3<w1.heap.size:=(H1.re.keep hb1).lt;have be:=(H1.be.trans (hb1.mono H1.be.size)).alloc (by omega) (.cells #[.int .i64 n.stone,.int .i64 n.a,.int .i64 n.b] 285)
 have bx:Bk (w1.alloc (.cells #[.int .i64 n.stone,.int .i64 n.a,.int .i64 n.b] 285)) w1.heap.size 285 #[.int .i64 n.stone,.int .i64 n.a,.int .i64 n.b]:=Aa rfl;clear H1 HU HC l2 hb1;obtain ⟨q,hqq⟩:∃ q,w1.heap.size=q:=⟨_,rfl⟩;rw [hqq] at hq bx ⊢;generalize w1.alloc _=V at *;clear hqq;have hlt:=re.lt;have hlq:=bx.lt;have z5:=re.fz 5;have y5:=re.cell 5;have z12:=re.fz 12;have y12:=re.cell 12;have z13:=re.fz 13;have y13:=re.cell 13;have z10:=re.fz 10;have y10:=re.cell 10;have z11:=re.fz 11;have y11:=re.cell 11;simp [Ab.arr] at y5 y12 y13 y10 y11;have hk:∀ (k t:Nat) (cs:Array Value),k≠w.heap.size+3->Bk V k t cs->Bk (((((V.setCell ⟨w.heap.size+3,5,none⟩ (.int .i64 0)).setCell ⟨w.heap.size+3,12,none⟩ (.int .i64 0)).setCell ⟨w.heap.size+3,13,none⟩ (.int .i64 0)).setCell ⟨w.heap.size+3,10,none⟩ (.int .i64 0)).setCell ⟨w.heap.size+3,11,none⟩ (.int .i64 0)) k t cs:=fun k t cs h b=>(((((b.far (p:=⟨_,5,none⟩) h _).far (p:=⟨_,12,none⟩) h _).far (p:=⟨_,13,none⟩) h _).far (p:=⟨_,10,none⟩) h _).far (p:=⟨_,11,none⟩) h _)
 have re':=(((((re.put 5 (.int .i64 0)).put 12 (.int .i64 0)).put 13 (.int .i64 0)).put 10 (.int .i64 0)).put 11 (.int .i64 0));have be':=(((((be.setCell (p:=⟨w.heap.size+3,5,none⟩) (by simp) (.int .i64 0)).setCell (p:=⟨w.heap.size+3,12,none⟩) (by simp) (.int .i64 0)).setCell (p:=⟨w.heap.size+3,13,none⟩) (by simp) (.int .i64 0)).setCell (p:=⟨w.heap.size+3,10,none⟩) (by simp) (.int .i64 0)).setCell (p:=⟨w.heap.size+3,11,none⟩) (by simp) (.int .i64 0))
 have HF:=Hd (Ai (hk _ _ _ (by omega) fr) (Ai (hk _ _ _ (by omega) nt) (Ai (hk _ _ _ (by omega) rs) (Ai re' (Ai be' (hk _ _ _ (by omega) bx))))))
 clear fr nt rs re be bx hk re' be';go_upto_region 16 with fail
 obtain ⟨fr,nt,rs,re,be,bx⟩:=HF.out;generalize (((((V.setCell ⟨_,5,none⟩ _).setCell ⟨_,12,none⟩ _).setCell ⟨_,13,none⟩ _).setCell ⟨_,10,none⟩ _).setCell ⟨_,11,none⟩ _)=V2 at *;have re:Bk V2 (w.heap.size+3) 68 ({ n with stone:=0,a:=0,b:=0,dlo:=0,dhi:=0 }).arr:=re
 clear HF z5 y5 z12 y12 z13 y13 z10 y10 z11 y11 hlt hlq;have x0:=bx.cell 0;have x1:=bx.cell 1;have x2:=bx.cell 2;have f0:=fr.cell 0;have f1:=fr.cell 1;have f2:=fr.cell 2;have t10:=nt.cell 10;have t11:=nt.cell 11;simp [Ab.arr] at x0 x1 x2 f0 f1 f2 t10 t11;have hl1:=nt.lt;have hl2:=bx.lt;have hl0:w.heap.size<V2.heap.size:=by omega
 have HCA:=Hd (HCE.out V2 n.a);cases q1:inB n.stone 0 1 with
 | false =>
  have HQ:Hid (Dd f 3 n=false):=by refine Hd ?_;rw [HVV.out,q1];rfl
  go_upto_region 25 with (go_at_call 36;refine (Bm _ _ _ _).mono ?_;rintro e w3 ⟨rfl,rfl⟩;rw [q1])
  clear x0 x1 x2 f0 f1 f2 t10 t11 q1;clear fr nt bx;obtain ⟨l3,s3,HE⟩:=Ev re rs be (by omega)
  clear rs re be;go_wp2_with fail;refine bodyPost_ret (v:=.tuple #[.agg ({ n with stone:=0,a:=0,b:=0,dlo:=0,dhi:=0 }).arr,.bool (false)]) (Je rfl HE.out.1) rfl ?_
  have hN:Az 3 n = { n with stone:=0,a:=0,b:=0,dlo:=0,dhi:=0 }:=rfl
  exact ⟨by rw [hN,HQ.out],HE.out.2⟩
 | true =>
  cases q2:inB n.a 0 (f.rings*f.sec - 1) with
  | false =>
   rw [q2] at HCA;have HQ:Hid (Dd f 3 n=false):=by refine Hd ?_;rw [HVV.out,q1,q2];rfl
   go_upto_region 25 with (first | (go_at_call 36;refine (Bm _ _ _ _).mono ?_;rintro e w3 ⟨rfl,rfl⟩;rw [q1]) | (go_at_call 161;refine HCA.out.mono ?_;rintro e w4 ⟨rfl,hb3⟩))
   clear x0 x1 x2 f0 f1 f2 t10 t11 q1 q2;replace rs:=rs.keep hb3;replace re:=re.keep hb3;replace be:=be.trans (hb3.mono be.size);clear fr nt bx;obtain ⟨l3,s3,HE⟩:=Ev re rs be (by omega)
   clear rs re be;go_wp2_with fail;refine bodyPost_ret (v:=.tuple #[.agg ({ n with stone:=0,a:=0,b:=0,dlo:=0,dhi:=0 }).arr,.bool (false)]) (Je rfl HE.out.1) rfl ?_
   have hN:Az 3 n = { n with stone:=0,a:=0,b:=0,dlo:=0,dhi:=0 }:=rfl
   exact ⟨by rw [hN,HQ.out],HE.out.2⟩
  | true =>
   rw [q2] at HCA;have HVW:Hid (Dd f 3 n=((decide (n.b = -1) || inB n.b 0 (f.rings*f.sec - 1)) && (decide (n.a≠n.b) && Cf n.dlo n.dhi (-1000000000) 1000000000))):=by refine Hd ?_;rw [HVV.out,q1,q2];rfl
   clear HVV
   by_cases q3:n.b = -1
   ·have q3b:(n.b == -1)=true:=by simpa using q3
    have HVX:Hid (Dd f 3 n=(decide (n.a≠n.b) && Cf n.dlo n.dhi (-1000000000) 1000000000)):=by refine Hd ?_;rw [HVW.out,decide_eq_true q3];rfl
    clear HVW q3
    by_cases q5:n.a=n.b
    ·have q5b:(n.a != n.b)=false:=by simpa using q5
     have HQ:Hid (Dd f 3 n=false):=by refine Hd ?_;rw [HVX.out,decide_eq_false (fun h=>h q5)];rfl
     clear HVX q5;go_upto_region 25 with (first | (go_at_call 36;refine (Bm _ _ _ _).mono ?_;rintro e w3 ⟨rfl,rfl⟩;rw [q1]) | (go_at_call 161;refine HCA.out.mono ?_;rintro e w4 ⟨rfl,hb3⟩;obtain ⟨hcc,hff⟩:=bcell hb3))
     clear x0 x1 x2 f0 f1 f2 t10 t11 q1 q2 q3b q5b hcc hff;replace rs:=rs.keep hb3;replace re:=re.keep hb3;replace be:=be.trans (hb3.mono be.size);clear fr nt bx;obtain ⟨l3,s3,HE⟩:=Ev re rs be (by omega)
     clear rs re be;go_wp2_with fail;refine bodyPost_ret (v:=.tuple #[.agg ({ n with stone:=0,a:=0,b:=0,dlo:=0,dhi:=0 }).arr,.bool (false)]) (Je rfl HE.out.1) rfl ?_
     have hN:Az 3 n = { n with stone:=0,a:=0,b:=0,dlo:=0,dhi:=0 }:=rfl
     exact ⟨by rw [hN,HQ.out],HE.out.2⟩
    ·have q5b:(n.a != n.b)=true:=by simpa using q5
     have HQ:Hid (Dd f 3 n=Cf n.dlo n.dhi (-1000000000) 1000000000):=by refine Hd ?_;rw [HVX.out,decide_eq_true q5];rfl
     clear HVX q5;go_upto_region 25 with (first | (go_at_call 36;refine (Bm _ _ _ _).mono ?_;rintro e w3 ⟨rfl,rfl⟩;rw [q1]) | (go_at_call 161;refine HCA.out.mono ?_;rintro e w4 ⟨rfl,hb3⟩;obtain ⟨hcc,hff⟩:=bcell hb3) | (go_at_call 65;refine (Jf _ _ _ _ _).mono ?_;rintro e w5 ⟨rfl,hb5⟩))
     clear x0 x1 x2 f0 f1 f2 t10 t11 q1 q2 q3b q5b hcc hff;replace rs:=(rs.keep hb3).keep hb5;replace re:=(re.keep hb3).keep hb5;replace be:=(be.trans (hb3.mono be.size)).trans (hb5.mono (be.trans (hb3.mono be.size)).size);clear fr nt bx;obtain ⟨l3,s3,HE⟩:=Ev re rs be (by omega)
     clear rs re be;go_wp2_with fail;refine bodyPost_ret (v:=.tuple #[.agg ({ n with stone:=0,a:=0,b:=0,dlo:=0,dhi:=0 }).arr,.bool (Cf n.dlo n.dhi (-1000000000) 1000000000)]) (Je rfl HE.out.1) rfl ?_
     have hN:Az 3 n = { n with stone:=0,a:=0,b:=0,dlo:=0,dhi:=0 }:=rfl
     exact ⟨by rw [hN,HQ.out],HE.out.2⟩
   ·have q3b:(n.b == -1)=false:=by simpa using q3
    cases q4:inB n.b 0 (f.rings*f.sec - 1) with
    | false =>
     have HQ:Hid (Dd f 3 n=false):=by refine Hd ?_;rw [HVW.out,decide_eq_false q3,q4];rfl
     clear HVW q3;go_wp2_with (first | (go_at_call 36;refine (Bm _ _ _ _).mono ?_;rintro e w3 ⟨rfl,rfl⟩;rw [q1]))
     refine HCA.out.mono ?_;rintro e w4 ⟨rfl,hb3⟩;obtain ⟨hcc,hff⟩:=bcell hb3;have HCB:=Hd (HCE.out w4 n.b);rw [q4] at HCB;go_upto_region 25 with (go_at_call 161;refine HCB.out.mono ?_;rintro e w5 ⟨rfl,hb5⟩)
     clear x0 x1 x2 f0 f1 f2 t10 t11 q1 q2 q3b q4 hcc hff;replace rs:=(rs.keep hb3).keep hb5;replace re:=(re.keep hb3).keep hb5;replace be:=(be.trans (hb3.mono be.size)).trans (hb5.mono (be.trans (hb3.mono be.size)).size);clear fr nt bx;obtain ⟨l3,s3,HE⟩:=Ev re rs be (by omega)
     clear rs re be;go_wp2_with fail;refine bodyPost_ret (v:=.tuple #[.agg ({ n with stone:=0,a:=0,b:=0,dlo:=0,dhi:=0 }).arr,.bool (false)]) (Je rfl HE.out.1) rfl ?_
     have hN:Az 3 n = { n with stone:=0,a:=0,b:=0,dlo:=0,dhi:=0 }:=rfl
     exact ⟨by rw [hN,HQ.out],HE.out.2⟩
    | true =>
     have HVX:Hid (Dd f 3 n=(decide (n.a≠n.b) && Cf n.dlo n.dhi (-1000000000) 1000000000)):=by refine Hd ?_;rw [HVW.out,q4,Bool.or_true];rfl
     clear HVW q3;have q5:(n.a != n.b)=decide (n.a≠n.b):=by by_cases h:n.a=n.b<;>simp [h]
     go_wp2_with (first | (go_at_call 36;refine (Bm _ _ _ _).mono ?_;rintro e w3 ⟨rfl,rfl⟩;rw [q1]))
     refine HCA.out.mono ?_;rintro e w4 ⟨rfl,hb3⟩;obtain ⟨hcc,hff⟩:=bcell hb3;have HCB:=Hd (HCE.out w4 n.b);rw [q4] at HCB;have hz3:=hb3.size;have hl3:w.heap.size<w4.heap.size:=by omega
     have hl4:w.heap.size+1<w4.heap.size:=by omega
     have hl5:q<w4.heap.size:=by omega
     clear q5
     by_cases q5:n.a=n.b
     ·have q5b:(n.a != n.b)=false:=by simpa using q5
      have HQ:Hid (Dd f 3 n=false):=by refine Hd ?_;rw [HVX.out,decide_eq_false (fun h=>h q5)];rfl
      clear HVX q5;go_upto_region 25 with (go_at_call 161;refine HCB.out.mono ?_;rintro e w5 ⟨rfl,hb5⟩;obtain ⟨hcd,hfd⟩:=bcell hb5)
      clear x0 x1 x2 f0 f1 f2 t10 t11 q1 q2 q3b q4 hcc hff hcd hfd q5b;replace rs:=(rs.keep hb3).keep hb5;replace re:=(re.keep hb3).keep hb5;replace be:=(be.trans (hb3.mono be.size)).trans (hb5.mono (be.trans (hb3.mono be.size)).size);clear fr nt bx;obtain ⟨l3,s3,HE⟩:=Ev re rs be (by omega)
      clear rs re be;go_wp2_with fail;refine bodyPost_ret (v:=.tuple #[.agg ({ n with stone:=0,a:=0,b:=0,dlo:=0,dhi:=0 }).arr,.bool (false)]) (Je rfl HE.out.1) rfl ?_
      have hN:Az 3 n = { n with stone:=0,a:=0,b:=0,dlo:=0,dhi:=0 }:=rfl
      exact ⟨by rw [hN,HQ.out],HE.out.2⟩
     ·have q5b:(n.a != n.b)=true:=by simpa using q5
      have HQ:Hid (Dd f 3 n=Cf n.dlo n.dhi (-1000000000) 1000000000):=by refine Hd ?_;rw [HVX.out,decide_eq_true q5];rfl
      clear HVX q5;go_upto_region 25 with (first | (go_at_call 161;refine HCB.out.mono ?_;rintro e w5 ⟨rfl,hb5⟩;obtain ⟨hcd,hfd⟩:=bcell hb5) | (go_at_call 65;refine (Jf _ _ _ _ _).mono ?_;rintro e w6 ⟨rfl,hb6⟩))
      clear x0 x1 x2 f0 f1 f2 t10 t11 q1 q2 q3b q4 hcc hff hcd hfd q5b;replace rs:=((rs.keep hb3).keep hb5).keep hb6;replace re:=((re.keep hb3).keep hb5).keep hb6;replace be:=(be.trans (hb3.mono be.size)).trans (hb5.mono (be.trans (hb3.mono be.size)).size);replace be:=be.trans (hb6.mono be.size);clear fr nt bx;obtain ⟨l3,s3,HE⟩:=Ev re rs be (by omega)
      clear rs re be;go_wp2_with fail;refine bodyPost_ret (v:=.tuple #[.agg ({ n with stone:=0,a:=0,b:=0,dlo:=0,dhi:=0 }).arr,.bool (Cf n.dlo n.dhi (-1000000000) 1000000000)]) (Je rfl HE.out.1) rfl ?_
      have hN:Az 3 n = { n with stone:=0,a:=0,b:=0,dlo:=0,dhi:=0 }:=rfl
      exact ⟨by rw [hN,HQ.out],HE.out.2⟩
theorem said0_any (f:FrD) (n:Ab) (w:World) (kd:Int) (hk:kd<1\/6<kd):Calls Tryz.prog 115 #[f.val,.int .i64 kd,.agg n.arr] w (SaidP f kd n w):=by
 unfold FrD.val;obtain ⟨W,hW,hsz,l1,s1,hU⟩:=said_pre f n w;have HW:=Hd hW;clear hW;go_enter Tryz.func115,Tryz.ntmps115;go_upto_region 1 with fail
 rw [HW.out];clear HW;go_upto_region 2 with fail
 clear l1 s1;generalize (W.alloc _).setRow _ _=U at *;clear hsz;have l2:=Ah n hU.nt;have HU:=Hd hU;have HC:=Hd (Ft kd n U);rw [show Fb kd n=.nilIface from cont_nil hk] at HC
 clear hU;go_upto_region 25 with (go_at_call 160;refine HC.out.mono ?_;rintro e w1 ⟨rfl,hb1⟩)
 have H1:=HU.out;have rs:=H1.rs.keep hb1;have re:=H1.re.keep hb1;have be:=H1.be.trans (hb1.mono H1.be.size);clear H1 HU HC l2 hb1;have hN:Az kd n=n:=by unfold Az;rw [if_neg (by omega),if_neg (by omega),if_neg (by omega),if_neg (by omega),if_neg (by omega)]
 have HQ:Hid (Dd f kd n=false):=by unfold Dd;refine Hd ?_;rw [if_neg (by omega),if_neg (by omega),if_neg (by omega),if_neg (by omega),if_neg (by omega)]
 have HN:=Hd hN;clear hN;obtain ⟨l3,s3,HE⟩:=Ev re rs be (by omega)
 clear rs re be;go_wp2_with fail;refine bodyPost_ret (v:=.tuple #[.agg (n).arr,.bool (false)]) (Je rfl HE.out.1) rfl ?_;exact ⟨by rw [HN.out,HQ.out],HE.out.2⟩
theorem said_any (f:FrD) (kd:Int) (n:Ab) (w:World) (hf:f.Ok) (hs:n.At w) (hn:n.strokes.length<=9223372036854775807):Calls Tryz.prog 115 #[f.val,.int .i64 kd,.agg n.arr] w (SaidP f kd n w):=by
 by_cases k1:kd=1
 ·subst k1;exact said1_any f n w
 by_cases k2:kd=2
 ·subst k2;exact said2_any f n w
 by_cases k3:kd=3
 ·subst k3;exact said3_any f n w hf
 by_cases k4:kd=4
 ·subst k4;exact said4_any f n w hf hs hn
 by_cases k5:kd=5
 ·subst k5;exact said5_any f n w
 by_cases k6:kd=6
 ·subst k6;exact said6_any f n w
 exact said0_any f n w kd (by omega)
end Go.Proofs.YteihcodicfoiaaaGreat
