/-
  What is proved: slices.SortFunc of the library laid at the program's two calls; its contracts there, a nil slice too.
-/
import Derived.Test.YteihcodicfoiaaaGreatEvPMf
import Derived.Shelf.SlSortCmp.NoneTotal
namespace Go.Proofs.YteihcodicfoiaaaGreat
open Go Go.RowKit
section
open Go.Shelf
def layNotes_ren:Go.Shelf.Ren:=⟨fun | 6=>135 | 15=>139 | 14=>172 | 28=>181 | 29=>182 | 20=>200 | 21=>201 | 22=>202 | 23=>203 | 24=>204 | 25=>205 | 26=>206 | 27=>207 | 46=>227 | 47=>209 | 48=>210 | 49=>228 | 50=>229 | 57=>234 | n=>n,fun | 22=>42 | 24=>68 | 25=>193 | 3=>3 | 39=>221 | 0=>0 | 53=>307 | 55=>309 | 4=>4 | 46=>300 | 45=>299 | 50=>304 | 5=>5 | 9=>9 | 66=>343 | 70=>347 | 76=>363 | 77=>295 | n=>n,fun | n=>n⟩
theorem layNotes:Go.Proofs.SlLaysF0.n6 Tryz.prog layNotes_ren:={
 mixed:=by kernel_rfl
 f6:=⟨Tryz.f135.name,by decide,Tryz.func135.trans (congrArg some (by kernel_rfl))⟩
 f14:=⟨Tryz.f172.name,by decide,Tryz.func172.trans (congrArg some (by kernel_rfl))⟩
 f15:=Tryz.func139.trans (congrArg some (by kernel_rfl))
 f20:=⟨Tryz.f200.name,by decide,Tryz.func200.trans (congrArg some (by kernel_rfl))⟩
 f21:=⟨Tryz.f201.name,by decide,Tryz.func201.trans (congrArg some (by kernel_rfl))⟩
 f22:=⟨Tryz.f202.name,by decide,Tryz.func202.trans (congrArg some (by kernel_rfl))⟩
 f23:=⟨Tryz.f203.name,by decide,Tryz.func203.trans (congrArg some (by kernel_rfl))⟩
 f24:=⟨Tryz.f204.name,by decide,Tryz.func204.trans (congrArg some (by kernel_rfl))⟩
 f25:=⟨Tryz.f205.name,by decide,Tryz.func205.trans (congrArg some (by kernel_rfl))⟩
 f26:=⟨Tryz.f206.name,by decide,Tryz.func206.trans (congrArg some (by kernel_rfl))⟩
 f27:=⟨Tryz.f207.name,by decide,Tryz.func207.trans (congrArg some (by kernel_rfl))⟩
 f28:=Tryz.func181.trans (congrArg some (by kernel_rfl))
 f29:=Tryz.func182.trans (congrArg some (by kernel_rfl))
 f46:=⟨Tryz.f227.name,by decide,Tryz.func227.trans (congrArg some (by kernel_rfl))⟩
 f47:=Tryz.func209.trans (congrArg some (by kernel_rfl))
 f48:=Tryz.func210.trans (congrArg some (by kernel_rfl))
 f49:=⟨Tryz.f228.name,by decide,Tryz.func228.trans (congrArg some (by kernel_rfl))⟩
 f50:=⟨Tryz.f229.name,by decide,Tryz.func229.trans (congrArg some (by kernel_rfl))⟩
 f57:=⟨Tryz.f234.name,by decide,Tryz.func234.trans (congrArg some (by kernel_rfl))⟩
 t0:=Tryz.underlying0
 a0:=Tryz.isAgg0
 z0:=Tryz.sizeOf0
 v0:=Tryz.zeroValue0
 t3:=Tryz.underlying3
 a3:=Tryz.isAgg3
 z3:=Tryz.sizeOf3
 v3:=Tryz.zeroValue3
 t4:=Tryz.underlying4
 a4:=Tryz.isAgg4
 z4:=Tryz.sizeOf4
 v4:=Tryz.zeroValue4
 t5:=Tryz.underlying5
 a5:=Tryz.isAgg5
 z5:=Tryz.sizeOf5
 v5:=Tryz.zeroValue5
 t9:=Tryz.underlying9
 a9:=Tryz.isAgg9
 z9:=Tryz.sizeOf9
 v9:=Tryz.zeroValue9
 t22:=Tryz.underlying42
 a22:=Tryz.isAgg42
 z22:=Tryz.sizeOf42
 v22:=Tryz.zeroValue42
 t25:=Tryz.underlying193
 a25:=Tryz.isAgg193
 z25:=Tryz.sizeOf193
 v25:=Tryz.zeroValue193
 t39:=Tryz.underlying221
 a39:=Tryz.isAgg221
 z39:=Tryz.sizeOf221
 v39:=Tryz.zeroValue221
 t45:=Tryz.underlying299
 a45:=Tryz.isAgg299
 z45:=Tryz.sizeOf299
 v45:=Tryz.zeroValue299
 t46:=Tryz.underlying300
 a46:=Tryz.isAgg300
 z46:=Tryz.sizeOf300
 v46:=Tryz.zeroValue300
 t50:=Tryz.underlying304
 a50:=Tryz.isAgg304
 z50:=Tryz.sizeOf304
 v50:=Tryz.zeroValue304
 t53:=Tryz.underlying307
 a53:=Tryz.isAgg307
 z53:=Tryz.sizeOf307
 v53:=Tryz.zeroValue307
 t55:=Tryz.underlying309
 a55:=Tryz.isAgg309
 z55:=Tryz.sizeOf309
 v55:=Tryz.zeroValue309
 t66:=Tryz.underlying343
 a66:=Tryz.isAgg343
 z66:=Tryz.sizeOf343
 v66:=Tryz.zeroValue343
 t70:=Tryz.underlying347
 a70:=Tryz.isAgg347
 z70:=Tryz.sizeOf347
 v70:=Tryz.zeroValue347
 t76:=Tryz.underlying363
 a76:=Tryz.isAgg363
 z76:=Tryz.sizeOf363
 v76:=Tryz.zeroValue363
 t77:=Tryz.underlying295
 a77:=Tryz.isAgg295
 z77:=Tryz.sizeOf295
 v77:=Tryz.zeroValue295 }
def layNames_ren:Go.Shelf.Ren:=⟨fun | 6=>89 | 15=>139 | 14=>138 | 28=>181 | 29=>182 | 20=>173 | 21=>174 | 22=>175 | 23=>176 | 24=>177 | 25=>178 | 26=>179 | 27=>180 | 46=>208 | 47=>209 | 48=>210 | 49=>211 | 50=>212 | 57=>230 | n=>n,fun | 22=>47 | 24=>66 | 25=>202 | 3=>3 | 39=>221 | 0=>0 | 53=>307 | 55=>309 | 4=>4 | 46=>300 | 45=>299 | 50=>304 | 5=>5 | 9=>9 | 66=>343 | 70=>347 | 76=>363 | 77=>295 | n=>n,fun | n=>n⟩
theorem layNames:Go.Proofs.SlLaysF0.n6 Tryz.prog layNames_ren:={
 mixed:=by kernel_rfl
 f6:=⟨Tryz.f89.name,by decide,Tryz.func89.trans (congrArg some (by kernel_rfl))⟩
 f14:=⟨Tryz.f138.name,by decide,Tryz.func138.trans (congrArg some (by kernel_rfl))⟩
 f15:=Tryz.func139.trans (congrArg some (by kernel_rfl))
 f20:=⟨Tryz.f173.name,by decide,Tryz.func173.trans (congrArg some (by kernel_rfl))⟩
 f21:=⟨Tryz.f174.name,by decide,Tryz.func174.trans (congrArg some (by kernel_rfl))⟩
 f22:=⟨Tryz.f175.name,by decide,Tryz.func175.trans (congrArg some (by kernel_rfl))⟩
 f23:=⟨Tryz.f176.name,by decide,Tryz.func176.trans (congrArg some (by kernel_rfl))⟩
 f24:=⟨Tryz.f177.name,by decide,Tryz.func177.trans (congrArg some (by kernel_rfl))⟩
 f25:=⟨Tryz.f178.name,by decide,Tryz.func178.trans (congrArg some (by kernel_rfl))⟩
 f26:=⟨Tryz.f179.name,by decide,Tryz.func179.trans (congrArg some (by kernel_rfl))⟩
 f27:=⟨Tryz.f180.name,by decide,Tryz.func180.trans (congrArg some (by kernel_rfl))⟩
 f28:=Tryz.func181.trans (congrArg some (by kernel_rfl))
 f29:=Tryz.func182.trans (congrArg some (by kernel_rfl))
 f46:=⟨Tryz.f208.name,by decide,Tryz.func208.trans (congrArg some (by kernel_rfl))⟩
 f47:=Tryz.func209.trans (congrArg some (by kernel_rfl))
 f48:=Tryz.func210.trans (congrArg some (by kernel_rfl))
 f49:=⟨Tryz.f211.name,by decide,Tryz.func211.trans (congrArg some (by kernel_rfl))⟩
 f50:=⟨Tryz.f212.name,by decide,Tryz.func212.trans (congrArg some (by kernel_rfl))⟩
 f57:=⟨Tryz.f230.name,by decide,Tryz.func230.trans (congrArg some (by kernel_rfl))⟩
 t0:=Tryz.underlying0
 a0:=Tryz.isAgg0
 z0:=Tryz.sizeOf0
 v0:=Tryz.zeroValue0
 t3:=Tryz.underlying3
 a3:=Tryz.isAgg3
 z3:=Tryz.sizeOf3
 v3:=Tryz.zeroValue3
 t4:=Tryz.underlying4
 a4:=Tryz.isAgg4
 z4:=Tryz.sizeOf4
 v4:=Tryz.zeroValue4
 t5:=Tryz.underlying5
 a5:=Tryz.isAgg5
 z5:=Tryz.sizeOf5
 v5:=Tryz.zeroValue5
 t9:=Tryz.underlying9
 a9:=Tryz.isAgg9
 z9:=Tryz.sizeOf9
 v9:=Tryz.zeroValue9
 t22:=Tryz.underlying47
 a22:=Tryz.isAgg47
 z22:=Tryz.sizeOf47
 v22:=Tryz.zeroValue47
 t25:=Tryz.underlying202
 a25:=Tryz.isAgg202
 z25:=Tryz.sizeOf202
 v25:=Tryz.zeroValue202
 t39:=Tryz.underlying221
 a39:=Tryz.isAgg221
 z39:=Tryz.sizeOf221
 v39:=Tryz.zeroValue221
 t45:=Tryz.underlying299
 a45:=Tryz.isAgg299
 z45:=Tryz.sizeOf299
 v45:=Tryz.zeroValue299
 t46:=Tryz.underlying300
 a46:=Tryz.isAgg300
 z46:=Tryz.sizeOf300
 v46:=Tryz.zeroValue300
 t50:=Tryz.underlying304
 a50:=Tryz.isAgg304
 z50:=Tryz.sizeOf304
 v50:=Tryz.zeroValue304
 t53:=Tryz.underlying307
 a53:=Tryz.isAgg307
 z53:=Tryz.sizeOf307
 v53:=Tryz.zeroValue307
 t55:=Tryz.underlying309
 a55:=Tryz.isAgg309
 z55:=Tryz.sizeOf309
 v55:=Tryz.zeroValue309
 t66:=Tryz.underlying343
 a66:=Tryz.isAgg343
 z66:=Tryz.sizeOf343
 v66:=Tryz.zeroValue343
 t70:=Tryz.underlying347
 a70:=Tryz.isAgg347
 z70:=Tryz.sizeOf347
 v70:=Tryz.zeroValue347
 t76:=Tryz.underlying363
 a76:=Tryz.isAgg363
 z76:=Tryz.sizeOf363
 v76:=Tryz.zeroValue363
 t77:=Tryz.underlying295
 a77:=Tryz.isAgg295
 z77:=Tryz.sizeOf295
 v77:=Tryz.zeroValue295 }
end
open Go.RowKit Go.Sort
theorem isAgg68 (w:World):(isAgg 68).run Tryz.prog w=.ok true w:=by kernel_rfl
theorem isAgg66 (w:World):(isAgg 66).run Tryz.prog w=.ok true w:=by kernel_rfl
theorem sizeOf68 (w:World):(Go.sizeOf 68).run Tryz.prog w=.ok 19 w:=by kernel_rfl
theorem sizeOf66 (w:World):(Go.sizeOf 66).run Tryz.prog w=.ok 2 w:=by kernel_rfl
theorem sortNotes_any (L:List Ab) (A:Option Addr) (c base:Nat) (w:World) (ho:w.ownsRow base 68 19 (.slice A L.length c) L.length (Aw L)) (hn:L.length<=400) :
  Calls Tryz.prog 135 #[.slice A L.length c,.func (.func 136) #[] #[]] w fun e w'=>e=.returned (.tuple #[])/\∃ L':List Ab,L'.Perm L/\(L'.Pairwise fun x y=>ltOf whenC y x=false)/\w'.ownsRow base 68 19 (.slice A L.length c) L.length (Aw L')/\w.grownBy w' (Value.slice A L.length c).ownBlock:=by
 cases L with
 | nil =>
  refine (AnyF.slices_SortFunc_none layNotes A c (.func (.func 136) #[] #[]) w).mono ?_;rintro e w' ⟨rfl,rfl⟩;exact ⟨rfl,[],List.Perm.refl _,List.Pairwise.nil,ho,World.grownBy_refl _ _⟩
 | cons x l =>
  generalize hL:x :: l=L at *;have hpos:0<L.length:=by rw [<- hL];simp
  clear hL;obtain ⟨g,rfl,hg⟩:∃ g,A=some ⟨g,0,none⟩/\g<w.heap.size:=by
   rcases ho.2 with ⟨hv,h0⟩ | ⟨g,cap,cur,hv,hb,hg,_⟩
   ·omega
   ·injection hv with hv
    exact ⟨g,hv,(Array.getElem?_eq_some_iff.1 hg).1⟩
  have eg:∀ args w,(callFunc 136 args).run Tryz.prog w=.ok (.enter 136 args) w:=enters_of Tryz.func136 (by kernel_rfl) rfl
  have hcmp:CmpLays Tryz.prog 136 #[] noteEnc 19 whenC g 0 L.toArray.size w:=fun m os dk _ a b =>
   (when_anyD a b _).mono fun _ _ ⟨he,hb⟩=>⟨he,hb.grown⟩
  have hcon:=AnyQ.slices_SortFunc layNotes 19 isAgg68 sizeOf68 noteEnc noteEnc_len (fun n v hv=>by
   have h:=Eb n;rw [<- Array.all_toList,List.all_eq_true] at h;exact h v hv) whenC swo_when 136 #[] g 0 c L.toArray w eg hcmp (holdsK_of_own noteEnc noteEnc_len ho) hg (by simp;omega)
  refine hcon.mono ?_;rintro e w' ⟨rfl,d',n,os,hp,hs,rfl⟩;have hP:=permIn_list hp;have hl:=hP.length_eq;refine ⟨rfl,d'.toList,hP,sortedIn_list (by simpa using hl) hs,?_,grownBy_sortK _ _ _⟩
  have:=ownsRow_sortK (n:=n) (os:=os) noteEnc noteEnc_len (l':=d'.toList) hl ho;rw [noteEnc_cells] at this
  simpa using this
theorem sortNames_any (L:List (Int×Int)) (A:Option Addr) (c base:Nat) (w:World) (ho:w.ownsRow base 66 2 (.slice A L.length c) L.length (L.flatMap Dl)) (hn:L.length<=65536) :
  Calls Tryz.prog 89 #[.slice A L.length c,.func (.func 90) #[] #[]] w fun e w'=>e=.returned (.tuple #[])/\∃ L':List (Int×Int),L'.Perm L/\w'.ownsRow base 66 2 (.slice A L.length c) L.length (L'.flatMap Dl)/\w.grownBy w' (Value.slice A L.length c).ownBlock:=by
 cases L with
 | nil =>
  refine (AnyF.slices_SortFunc_none layNames A c (.func (.func 90) #[] #[]) w).mono ?_;rintro e w' ⟨rfl,rfl⟩;exact ⟨rfl,[],List.Perm.refl _,ho,World.grownBy_refl _ _⟩
 | cons x l =>
  generalize hL:x :: l=L at *;have hpos:0<L.length:=by rw [<- hL];simp
  clear hL;obtain ⟨g,rfl,hg⟩:∃ g,A=some ⟨g,0,none⟩/\g<w.heap.size:=by
   rcases ho.2 with ⟨hv,h0⟩ | ⟨g,cap,cur,hv,hb,hg,_⟩
   ·omega
   ·injection hv with hv
    exact ⟨g,hv,(Array.getElem?_eq_some_iff.1 hg).1⟩
  have eg:∀ args w,(callFunc 90 args).run Tryz.prog w=.ok (.enter 90 args) w:=enters_of Tryz.func90 (by kernel_rfl) rfl
  have hcmp:CmpLays Tryz.prog 90 #[] Dl 2 Dt g 0 L.toArray.size w:=fun m os dk _ a b =>
   (compareNames_anyD a b _).mono fun _ _ ⟨he,hb⟩=>⟨he,hb.grown⟩
  have hcon:=AnyQ.slices_SortFunc layNames 2 isAgg66 sizeOf66 Dl nameEnc_len (fun n v hv=>by simp [Dl] at hv;rcases hv with rfl | rfl<;>rfl) Dt swo_name 90 #[] g 0 c L.toArray w eg hcmp (holdsK_of_own Dl nameEnc_len ho) hg (by simp;omega)
  refine hcon.mono ?_;rintro e w' ⟨rfl,d',n,os,hp,hs,rfl⟩;have hP:=permIn_list hp;have hl:=hP.length_eq;refine ⟨rfl,d'.toList,hP,?_,grownBy_sortK _ _ _⟩;have:=ownsRow_sortK (n:=n) (os:=os) Dl nameEnc_len (l':=d'.toList) hl ho
  simpa using this
end Go.Proofs.YteihcodicfoiaaaGreat
