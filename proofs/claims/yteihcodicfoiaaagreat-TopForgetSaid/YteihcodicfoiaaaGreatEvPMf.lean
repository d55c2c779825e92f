/-
  What is proved: plain facts: what notes count for, and the register, do not hang on where strokes lie; what is sorted stands in the order of taking effect.
-/
import Derived.Test.YteihcodicfoiaaaGreat25Mf
namespace Go.Proofs.YteihcodicfoiaaaGreat
open Go Go.RowKit
theorem best_plain:∀ l:List Ab,best (l.map Ab.plain)=(best l).map Ab.plain
 | []=>rfl
 | x :: l=>by
  simp only [List.map_cons,best,best_plain l];cases best l with
  | none=>rfl
  | some y =>
   simp only [Option.map_some]
   by_cases h:Hf y x<0
   ·have h':Hf y.plain x.plain<0:=h;rw [if_pos h,if_pos h'];rfl
   ·have h':¬ Hf y.plain x.plain<0:=h;rw [if_neg h,if_neg h'];rfl
theorem countsN_plain (r j:Ab):Eq r.plain j.plain=(Eq r j).plain:=by
 unfold Eq
 by_cases h:j.fix=2
 ·have h':j.plain.fix=2:=h;rw [if_pos h,if_pos h'];rfl
 ·have h':¬ j.plain.fix=2:=h;rw [if_neg h,if_neg h'];rfl
theorem eff_plain (N:List Ab) (n:Ab):eff (N.map Ab.plain) n.plain=(eff N n).map Ab.plain:=by
 unfold eff;have e:(N.map Ab.plain).filter (cand n.plain)=(N.filter (cand n)).map Ab.plain:=by
  rw [List.filter_map];rfl
 rw [e,best_plain]
 show (if Gw n then _ else _)=_
 split
 ·cases best (N.filter (cand n)) with
  | none=>rfl
  | some j =>
   simp only [Option.map_some,effOf]
   show (if j.kind=6 then _ else _)=_
   split
   ·rfl
   ·rw [countsN_plain];rfl
 ·rfl
theorem evs_plain (N:List Ab):∀ M:List Ab,(M.map Ab.plain).filterMap (eff (N.map Ab.plain))=(M.filterMap (eff N)).map Ab.plain
 | []=>rfl
 | x :: M=>by
  rw [List.map_cons,List.filterMap_cons,List.filterMap_cons,eff_plain,evs_plain N M];cases eff N x<;>rfl
theorem evsOf_plain (N:List Ab):Jv (N.map Ab.plain)=(Jv N).map Ab.plain:=evs_plain N N
theorem Gd (l:List Ab):(l.map Ab.plain).map Ab.name=l.map Ab.name:=by rw [List.map_map];rfl
theorem regStep_plain (s:List Ab×List Ab) (x:Ab):Co (s.1.map Ab.plain,s.2.map Ab.plain) x.plain=((Co s x).1.map Ab.plain,(Co s x).2.map Ab.plain):=by
 unfold Co
 by_cases h1:x.kind=1
 ·have h1':x.plain.kind=1:=h1;rw [if_pos h1',if_pos h1]
  by_cases h8:s.1.length=8
  ·rw [if_pos h8,if_pos (by simpa using h8)]
  ·rw [if_neg h8,if_neg (by simpa using h8)]
   simp
 ·have h1':¬ x.plain.kind=1:=h1;rw [if_neg h1',if_neg h1]
  by_cases h2:x.kind=2
  ·have h2':x.plain.kind=2:=h2;rw [if_pos h2',if_pos h2]
   by_cases hm:x.ref∈s.1.map Ab.name
   ·have hm':x.plain.ref∈(s.1.map Ab.plain).map Ab.name:=by rw [Gd];exact hm
    rw [if_pos hm,if_pos hm'];simp
   ·have hm':¬ x.plain.ref∈(s.1.map Ab.plain).map Ab.name:=by rw [Gd];exact hm
    rw [if_neg hm,if_neg hm']
  ·have h2':¬ x.plain.kind=2:=h2;rw [if_neg h2',if_neg h2];simp
theorem regFold_plain:∀ (L:List Ab) (s:List Ab×List Ab),(L.map Ab.plain).foldl Co (s.1.map Ab.plain,s.2.map Ab.plain)=((L.foldl Co s).1.map Ab.plain,(L.foldl Co s).2.map Ab.plain)
 | [],_=>rfl
 | x :: L,s=>by rw [List.map_cons,List.foldl_cons,regStep_plain,regFold_plain L,List.foldl_cons]
theorem regOf_plain (L:List Ab):regOf (L.map Ab.plain)=((regOf L).1.map Ab.plain,(regOf L).2.map Ab.plain):=regFold_plain L ([],[])
theorem pairwise_when {L:List Ab} (h:L.Pairwise fun x y=>ltOf whenC y x=false) (hn:(L.map Ab.name).Nodup):L.Pairwise Dk:=by
 rw [List.nodup_iff_pairwise_ne,List.pairwise_map] at hn;refine (h.and hn).imp fun {a b} hab=>?_
 obtain ⟨h1,h2⟩:=hab;rw [ltWhen_f] at h1;rcases whenLt_tri a b with g | g | g
 ·exact g
 ·exact absurd g h2
 ·exact absurd g h1
def Hv (l D L:List Ab):Prop:=L.map Ab.plain=(D.filterMap (eff l)).map Ab.plain
theorem Hv.nil (l:List Ab):Hv l [] []:=rfl
theorem Hv.skip {l D L:List Ab} (h:Hv l D L) {n:Ab} (hn:eff l n=none):Hv l (D ++ [n]) L:=by
 unfold Hv at *;rw [List.filterMap_append,h];simp [hn]
theorem Hv.push {l D L:List Ab} (h:Hv l D L) {n m x:Ab} (hn:eff l n=some m) (hx:x.plain=m.plain):Hv l (D ++ [n]) (L ++ [x]):=by
 unfold Hv at *;rw [List.filterMap_append,List.map_append,h];simp [hn,hx]
theorem Hv.len {l D L:List Ab} (h:Hv l D L):L.length<=D.length:=by
 have:=congrArg List.length h;rw [List.length_map,List.length_map] at this;rw [this];exact List.length_filterMap_le _ _
theorem Hv.sorted {l D L L':List Ab} (h:Hv l D L) (hp:D.Perm l) (hn:(l.map Ab.name).Nodup) (hL:L'.Perm L) (hs:L'.Pairwise fun x y=>ltOf whenC y x=false) :
  (L'.map Ab.plain).Perm (Jv (l.map Ab.plain))/\L'.Pairwise Dk:=by
 have h1:(L'.map Ab.plain).Perm (Jv (l.map Ab.plain)):=by
  rw [evsOf_plain];refine (hL.map _).trans ?_;rw [show L.map Ab.plain=_ from h]
  exact (hp.filterMap _).map _
 refine ⟨h1,pairwise_when hs ?_⟩;have h2:=h1.map Ab.name;rw [Gd] at h2;refine h2.nodup_iff.2 ?_;have h3:=evs_names (N:=l.map Ab.plain) (l.map Ab.plain);rw [Gd] at h3;exact h3.nodup hn
end Go.Proofs.YteihcodicfoiaaaGreat
