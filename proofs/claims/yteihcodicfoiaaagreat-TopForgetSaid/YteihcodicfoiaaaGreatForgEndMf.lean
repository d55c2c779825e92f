/-
  What is proved: TopForget, the row: when a reading is withdrawn, the heights are those that are told without it, and no height becomes narrower by that; whatever the arguments: true is returned.
-/
import Derived.Test.YteihcodicfoiaaaGreatForgFMf
import Derived.Test.YteihcodicfoiaaaGreat54Mf
import Derived.Test.YteihcodicfoiaaaGreat0Mf
namespace Go.Proofs.YteihcodicfoiaaaGreat
set_option maxRecDepth 100000
open Go Go.RowKit
open Go.ChangeShapes Go.WideShapes Go.ChangeAt Go.RowKit Go.Joins
theorem forget_lifted (os:Os) (started:os.Started) (H:Type) (enc:TypeId×Value->H) :
  ReturnsInHanded {} Tryz.checked os 4 .any (Rows.topForgetSpec.pre6 enc Tryz.prog Tryz.f4 Rows.topForgetRow.domain false) (Rows.topForgetSpec.post enc Tryz.prog Tryz.f4 false true false false):=by
 refine returnsInHanded_of_change (C:=Tryz.checked) Tryz.own started (by kernel_rfl) Tryz.func4
  (ChangeSpec.witness6 (enc:=enc) (C:=Tryz.checked) false ⟨#[],#[.agg #[.int .i64 0,.int .i64 0,.int .i64 0,.slice none 0 0,.int .i64 0,.int .i64 0,.int .i64 0,.slice none 0 0,.slice none 0 0,.int .i64 0,.int .i64 0,.slice none 0 0,.int .i64 0,.int .i64 0,.slice none 0 0,.slice none 0 0,.slice none 0 0,.slice none 0 0,.int .i64 0,.int .i64 0,.int .i64 0,.slice none 0 0,.slice none 0 0,.slice none 0 0,.slice none 0 0,.int .i64 0,.slice none 0 0,.int .i64 0],.slice none 0 0,.int .i64 0,.int .i64 0],[]⟩ 8 (by kernel_rfl) (by kernel_rfl) (by kernel_rfl) (by kernel_rfl)) ?_
 intro W base args ds gs before hval0 hW _ _;have hval:∀ (j:Nat) t v,Tryz.f4.params[j]?=some t->args[j]?=some v->Value.okWide Tryz.prog W .any base t v:=hval0;have hW':=hW;obtain ⟨p,q,hA0,hV,rfl,_,_⟩:=hW;have hA:DataW.TrodAll enc Tryz.prog W 0 (fun _=>true) true Tryz.f4.params.toList args.toList ds p:=hA0
 rw [Tryz.params4] at hA hval;obtain ⟨v0,vs0,d0,ds0,p0,q0,e0,rfl,rfl,h0,r0⟩:=trodAll_cons hA;obtain ⟨v1,vs1,d1,ds1,p1,q1,rfl,rfl,rfl,h1,r1⟩:=trodAll_cons r0;obtain ⟨v2,vs2,d2,ds2,p2,q2,rfl,rfl,rfl,h2,r2⟩:=trodAll_cons r1;obtain ⟨v3,vs3,d3,ds3,p3,q3,rfl,rfl,rfl,h3,r3⟩:=trodAll_cons r2;obtain ⟨rfl,rfl,rfl⟩:=trodAll_nil r3;obtain ⟨rfl,rfl⟩:=trodVars_none hV;have ea:args=#[v0,v1,v2,v3]:=by rw [<- Array.toList_inj,e0]
 subst ea;obtain ⟨b,z,rfl,hB,hr,hd,hrr,hdd⟩:=arg_base h0 (hval 0 41 _ rfl rfl);obtain ⟨A,c,l,rfl,hl,hn,hs⟩:=arg_notes h1 (hval 1 42 _ rfl rfl);obtain ⟨n2,rfl⟩:=okWide_int Tryz.underlying3 (hval 2 3 _ rfl rfl);obtain ⟨n3,rfl⟩:=okWide_int Tryz.underlying3 (hval 3 3 _ rfl rfl);refine (forget_any b z A c l n2 n3 W hB hl hn hs hr hd hrr hdd).mono fun e' W' ⟨he,hb⟩=>?_
 subst he;exact ⟨_,rfl,law_post Tryz.laidOut (by decide) rfl Tryz.underlying4 rfl rfl rfl rfl hW' hb⟩
theorem forget_holds:Rows.TopForgetSaid :=
 OpenClaim.holds_of_wide 4 Tryz.f4 rfl rfl rfl rfl rfl rfl rfl ⟨rfl,rfl,rfl,rfl,rfl⟩ rfl rfl rfl rfl rfl (by kernel_rfl) Tryz.func4 (by kernel_rfl)
  (of_decide_eq_true (by kernel_rfl)) (by unfold Func.isWrapper;first | (rw [if_pos (by decide +kernel)];kernel_rfl) | (rw [if_neg (by decide +kernel)];exact ⟨rfl,rfl⟩))
  (fun os started H enc _=>forget_lifted os started H enc)
end Go.Proofs.YteihcodicfoiaaaGreat
