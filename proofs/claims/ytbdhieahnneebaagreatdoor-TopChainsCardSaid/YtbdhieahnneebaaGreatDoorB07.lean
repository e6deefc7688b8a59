/- TopChains holds, as Rows.TopChainsCardSaid states it, for all arguments; no further condition. -/
import Derived.Test.YtbdhieahnneebaaGreatDoorB06
import Derived.LaidMore
import Derived.Lay
import Derived.SevenTiedAt
import Derived.Stop.Joined
import Derived.Test.YtbdhieahnneebaaGreatDoorCards
import Derived.Test.YtbdhieahnneebaaGreatDoorTie
set_option maxRecDepth 100000
set_option maxHeartbeats 32000000
set_option linter.all false
open Go.Proofs.Tryz
open Bool renaming false->av,true->aB
open Go renaming DataW->M6,TypeId->aR,Value->aq,World->T,laidMetH->NU
open Go.DataW renaming trod->kQ,trod_bool->yq,trod_int->iH,trod_struct->pK
open Go.OpenSpec renaming ofChange->Bp
open Go.Proofs.Tryz renaming prog->aE,underlying3->bJ,underlying32->Bj,underlying4->jD
open Go.Proofs.YtbdhieahnneebaaGreatDoor.Rows renaming topChainsRow->aZ,topChainsSpec->dN
open List renaming drop_eq_nil_of_le->fU,drop_zero->eo,getElem?_eq_getElem->aA,getElem?_eq_none->de,getElem?_map->bN
open Option renaming none->S,some->M
open Option.some renaming inj->fB,injEq->bq
namespace Go.Proofs.YtbdhieahnneebaaGreatDoor
open Go.RowKit
section
open Go.ChangeAt Go.ChangeShapes Go.WideShapes
def jf0:(aZ.wf (Bp dN))=aB:=dK
def jf1:(laidOutB aE)=aB:=dK
def jf2:(mapsRowed aE)=aB:=dK
def jf3:(Tryz.f3.params.all (aE.readableRec ·))=aB:=dK
def jf4:(namedTie aE aZ.named dN.vars)=aB:=dK
def jf5:((aZ.stops==[]))=aB:=dK
def jf6:((aE.stops==[]))=aB:=dK
def jf7:((aZ.knobs==[]))=aB:=dK
def jf8:((aE.stopKnobs==[]))=aB:=dK
def jf9:((aZ.inPlace==aE.inPlace 3))=aB:=dK
def Ahv:((aZ.unfollowed==aE.unfollowed 3))=aB:=dK
def Ahu:((aZ.recurses==aE.recurses 3))=aB:=dK
def Aht:((aZ.named==aE.varsNamed 3))=aB:=dK
def Ahs:((aZ.maps==(Tryz.f3.params.toList++dN.plain.varTypes aE).any (aE.mapsRec ·)))=aB:=dK
def Ahr:((aZ.ifaces==(Tryz.f3.params.toList++dN.plain.varTypes aE).any (aE.ifacesRec ·)))=aB:=dK
def Ahq:((aZ.mapsOut==aE.mapsAmong Tryz.f3.resultTypes.toList))=aB:=dK
def Ahp:((aZ.loops==(Tryz.f3.params.toList++dN.plain.varTypes aE).any (aE.loopsFrom ·)))=aB:=dK
def Aho:((aZ.wideKeys==(Tryz.f3.params.toList++dN.plain.varTypes aE++Tryz.f3.resultTypes.toList).any (aE.wideKeysFrom ·)))=aB:=dK
def Ahn:(dN.vars.all (aE.varReadable ·))=aB:=dK
def Ahm:(Tryz.f3.resultTypes.all (fun a=>aE.readableRec a&&decide (a<aE.types.size)))=aB:=dK
def Ahl:((aZ.ifacesOut==Tryz.f3.resultTypes.toList.any (aE.ifacesRec ·)))=aB:=dK
def Ahk:((aZ.loopsOut==Tryz.f3.resultTypes.toList.any (aE.loopsFrom ·)))=aB:=dK
def Ahj:((aZ.plainKeys==aE.plainKeys))=aB:=dK
def Ahi:(aZ.shortTexts.isNone)=aB:=dK
def Ahh:(aE.stopsHeard)=aB:=dK
def Ahg:(aE.mayEnter)=aB:=dK
def Ahf:((aZ.lifted==aE.liftsFinal))=aB:=dK
def Ahe:((aE.make==M aZ.make))=aB:=dK
def Ahd:((aZ.kinds==(if aZ.domain.isEmpty then[] else Tryz.f3.params.toList.map fun a=>match aE.underlying a with|some (.int b)=>M b|_=>S)))=aB:=dK
def Ahc:((aZ.pinned==aZ.pinnedBy))=aB:=dK
def Ahb:((aZ.veiled==(Tryz.f3.params.toList++dN.plain.varTypes aE++Tryz.f3.resultTypes.toList).any (aE.veiledRec ·)))=aB:=dK
def Aha:(aZ.veiledFits aE Tryz.f3.params.toList (Tryz.f3.params.toList++dN.plain.varTypes aE++Tryz.f3.resultTypes.toList))=aB:=dK
def jK{a b}(c:a=aB)(d:b=aB):(a&&b)=aB:=by rw[c,d];rfl
def Ab3:joinedFacts aE 3 Tryz.f3 dN aZ=aB:=by
 unfold joinedFacts;exact(jK (jK (jK (jK (jK (jK (jK (jK (jK (jK (jK (jK (jK (jK (jK (jK (jK (jK (jK (jK (jK (jK (jK (jK (jK (jK (jK (jK (jK (jK (jK jf0 jf1) jf2) jf3) jf4) jf5) jf6) jf7) jf8) jf9) Ahv) Ahu) Aht) Ahs) Ahr) Ahq) Ahp) Aho) Ahn) Ahm) Ahl) Ahk) Ahj) Ahi) Ahh) Ahg) Ahf) Ahe) Ahd) Ahc) Ahb) Aha)
def Xi:aB=aE.looks []:=dK
def Abb:av=aZ.goesBy aE:=dK
def Oy:aE.funcNamed "cutroom/cutroomtop.TopChains"=M 3:=dK
def ZY:Tryz.f3.isWrapper aE aZ.wrapper aZ.mainSum:=by unfold Func.isWrapper;first|(rw[if_pos (by decide+kernel)];kernel_rfl)|(rw[if_neg (by decide+kernel)];exact⟨rfl,rfl⟩)
def Ab5:Tryz.f3.isInstance aE aZ.origin aZ.targs:=of_decide_eq_true dK
def Aax:aE.mainIs=M (aB,"a45df2f5511ce1a2bbc722363321cac49e466667bf0364541f7867aa7087e208".toList):=dK
def Ah9:aZ.wfByText (Bp dN)=aB:=dK
def Wd:([32,32].all fun a=> !aE.wantsStandIn a)=aB:=dK
end
section
open Go.ChangeAt Go.ChangeShapes Go.Deep Go.Joins Go.WideShapes
def KX{a}{i:aR×aq->a}{l n b o p c f d e}
  (g:Value.okWide aE l c b 32 f)(h:DataW.Trod i aE l n o p 32 f d e):
  ∃(q:Sq)(r s:aq)(t u v:Bool)(w:Int)(x:List (FV×Fr))(y:List Int),f=.agg (pD q r s t u v w)/\JJ q/\Dw l r s x y:=by
 obtain⟨a,rfl,b⟩:=okWide_struct Bj g;let ⟨c⟩:=a;let ⟨a,d⟩:=h;have a:aE.cellsOf 32=141:=by kernel_rfl
 have e:aE.cellsOf 26=135:=by kernel_rfl
 have f:aE.cellsOf 27=1:=by kernel_rfl
 have g:aE.cellsOf 28=1:=by kernel_rfl
 have h:aE.cellsOf 30=3:=by kernel_rfl
 have q:aE.cellsOf 3=1:=by kernel_rfl
 have r:aE.cellsOf 4=1:=by kernel_rfl
 let ⟨s,t,_,_,u,v,w⟩:=pK Bj d;have d:c.length=141:=b.trans a;have a:s.length=5:=v;have a:∀b,b<5->∃d,s[b]?=M d:=fun u v=>⟨_,aA O⟩
 let ⟨b,d⟩:=a 0 dD;let ⟨b,u⟩:=a 1 dD;let ⟨b,v⟩:=a 2 dD;let ⟨b,x⟩:=a 3 dD;let ⟨b,y⟩:=a 4 dD;have a:kQ i aE l n o p t 26 ((c.drop 0).take (aE.cellsOf 26))=s[0]?:=w 0 _ rfl;have b:kQ i aE l n o p t 27 ((c.drop 135).take (aE.cellsOf 27))=s[1]?:=w 1 _ rfl;have z:kQ i aE l n o p t 28 ((c.drop 136).take (aE.cellsOf 28))=s[2]?:=w 2 _ rfl;have H:kQ i aE l n o p t 30 ((c.drop 137).take (aE.cellsOf 30))=s[3]?:=w 3 _ rfl;have U:kQ i aE l n o p t 3 ((c.drop 140).take (aE.cellsOf 3))=s[4]?:=w 4 _ rfl
 have i:∀l,l<141->∃n,(c.drop l).take 1=[n]:=fun o p=>by
  have l:((c.drop o).take 1).length=1:=by simp;omega
  exact List.length_eq_one_iff.1 l
 rw[e,d] at a;rw[f,u] at b;rw[g,v] at z;rw[h,x] at H;rw[q,y] at U;let ⟨d,e,f⟩:=KD a;let ⟨a,g⟩:=i 135 dD;let ⟨l,n⟩:=i 136 dD;rw[g] at b;rw[n] at z;let ⟨i,o,p,q,s⟩:=Li b;let ⟨b,t,u,v,w⟩:=Km z;let ⟨x,y,_,_⟩:=iH bJ U;let ⟨z,U,_,_,_,V,W⟩:=pK underlying30 H;have H:z.length=3:=V;have H:=W 0 _ rfl;have U:=W 1 _ rfl;have V:=W 2 _ rfl;simp only[r,aA (show 0<z.length by omega),aA (show 1<z.length by omega),aA (show 2<z.length by omega)] at H U V;let ⟨z,W,_⟩:=yq jD H;let ⟨H,Y,_⟩:=yq jD U;let ⟨U,a0,_⟩:=yq jD V
 have V:(c.drop 137).take 3=[.bool z,.bool H,.bool U]:=by
  have a1:=iM ((c.drop 137).take 3) 0 1;have a2:=iM ((c.drop 137).take 3) 1 1;have a3:=iM ((c.drop 137).take 3) 2 1;have a4:((c.drop 137).take 3).drop 3=[]:=fU eB;rw[eo] at a1;rw[a1];have a1:((c.drop 137).take 3).take 1=[.bool z]:=by simpa[r,h] using W
  have W:(((c.drop 137).take 3).drop 1).take 1=[.bool H]:=by simpa[r,h] using Y
  have Y:(((c.drop 137).take 3).drop 2).take 1=[.bool U]:=by simpa[r,h] using a0
  rw[a1,a2,W,a3,Y,a4];rfl
 have h:c=(c.drop 0).take 135++((c.drop 135).take 1++((c.drop 136).take 1++((c.drop 137).take 3++((c.drop 140).take 1++c.drop 141)))):=by
  rw[<-iM c 140 1,<-iM c 137 3,<-iM c 136 1,<-iM c 135 1,<-iM c 0 135,eo]
 have r:c.drop 141=[]:=fU O;refine⟨d,a,l,z,H,U,x,p,u,?_,e,⟨⟨i,o,q⟩,s,⟨b,t,v⟩,w⟩⟩;congr 1;apply Array.toList_inj.1;show c=_;rw[h,r,show(c.drop 0).take 135=_ from f,g,n,V,show(c.drop 140).take 1=_ from y];simp[pD]
def Fg{o d p e a x z}(q:aE.globalNamed d=M p)(b:(aE.globals[p]?).map (·.type)=M e)(s:aE.underlying e=M (.array 64 a))(w:aE.underlying a=M (.int x))(v:aE.cellsOf a=1)(u:aE.cellsOf e=64)(c:z.length=64)
  {f y g}{h:aR×aq->Unit}{i l n}(r:o.var? aE d=M y)(t:kQ h aE o i l n f e y.toList=M (.agg (z.map fun H=>.lit (.int x H)),g)):Gn x o p z:=by
 have a:∃b c,o.heap[p]?=M (.cells y b c):=by
  unfold World.var? at r;rw[q,Option.bind_some] at r;split at r
  ·rename_i b c d e
   injection r with b;subst b;exact⟨c,d,e⟩
  ·cases r
 let ⟨b,c,d⟩:=a;let ⟨a,e,_,f,g,h,i⟩:=DataW.trod_array s t;rw[u] at g;refine⟨b,c,?_⟩;rw[d];congr 2;apply Array.toList_inj.1;apply List.ext_getElem?;intro b
 by_cases c:b<64
 ·have d:=i b c
  rw[v,Nat.mul_one,aA O] at d;let ⟨c,e,g,_⟩:=iH w d;have d:(a.map (·.1))=z.map fun h=>.lit (.int x h):=(DataW.agg.inj (Prod.mk.inj f).1).symm
  have f:(a.map (·.1))[b]?=(z.map fun h=>(DataW.lit (.int x h):M6 Unit))[b]?:=by rw[d]
  rw[bN,bN,aA (by omega:b<a.length),aA (by omega:b<z.length),g] at f;simp only[Option.map_some,bq,DataW.lit.injEq,Lit.int.injEq,true_and] at f;have a:((y.toList.drop b).take 1)[0]?=M (.int x c):=by rw[e];rfl
  have d:y.toList[b]?=M (.int x c):=by simpa using a
  rw[d,aS,bN,aA (by omega:b<z.length),f];rfl
 ·rw[de O,de (by simp[aS];omega)]
def Ab2:(Rows.laid_cutroom_quant_alternateScan:M6 Unit)=.agg (ND.map fun a=>.lit (.int .i64 a)):=by kernel_rfl
def Ab1:(Rows.laid_cutroom_quant_defaultIntra:M6 Unit)=.agg (Nu.map fun a=>.lit (.int .u8 a)):=by kernel_rfl
def Ji{a}(b:NU aE aZ.laid a):fD a:=by
 rw[MakeChecks.laidMetH_plain _ _ _ (by kernel_rfl)] at b;constructor
 ·have a:=Lib.laidMet.reads b (.head _)
  rw[Ab2] at a;let ⟨c,d,e,f,g,h,i,l,n⟩:=a;obtain rfl:=fB ((show aE.globalNamed "cutroom/quant.alternateScan"=M 1 by kernel_rfl).symm.trans h);obtain rfl:=fB ((show(aE.globals[(1:Nat)]?).map (·.type)=M 277 by kernel_rfl).symm.trans i);exact Fg h i underlying277 bJ (by kernel_rfl) (by kernel_rfl) rfl l n
 ·have a:=Lib.laidMet.reads b (.tail _ (.head _))
  rw[Ab1] at a;let ⟨b,c,d,e,f,g,h,i,l⟩:=a;obtain rfl:=fB ((show aE.globalNamed "cutroom/quant.defaultIntra"=M 0 by kernel_rfl).symm.trans g);obtain rfl:=fB ((show(aE.globals[(0:Nat)]?).map (·.type)=M 24 by kernel_rfl).symm.trans h);exact Fg g h underlying24 underlying5 (by kernel_rfl) (by kernel_rfl) rfl i l
def Bu(a)(b:a.Started)(c)(d:aR×aq->c):
  ReturnsInHanded {} checked a 3 .any (fun e f=>(dN.pre d aE Tryz.f3 aZ.domain av e f/\NU aE aZ.laid e)/\sizedMet d aE Tryz.f3 (Bp dN) av e f)
   (dN.post d aE Tryz.f3 av aB av av):=by
 refine returnsInHanded_of_change_and (C:=checked) (X:=fun e _=>NU aE aZ.laid e) (fun _ _ _ f g=>g.of_heap f) Aef b (by kernel_rfl) func3
  (ChangeSpec.witness_shaped (enc:=d) (C:=checked) (os:=a) (X:=fun e _=>NU aE aZ.laid e) av (World.laidAll aE a aZ.laid) #[.agg (pD jt (.slice S 0 0) (.slice S 0 0) av av av 0),.agg (pD jt (.slice S 0 0) (.slice S 0 0) av av av 0)] 8 (World.laidAll_os _ _ _)
   (World.shaped_of_ZipB (by kernel_rfl) (by kernel_rfl)) (by kernel_rfl) (by kernel_rfl) (by kernel_rfl)
   (by rw[MakeChecks.laidMetH_plain _ _ _ (by kernel_rfl)];exact laidMet_laidAll _ (by kernel_rfl) (by kernel_rfl))) ?_
 intro e f g h i l n o _ _ p _;have q:∀(r:Nat) s t,Tryz.f3.params[r]?=M s->g[r]?=M t->Value.okWide aE e .any f s t:=n;have r:=o;obtain⟨s,t,u,v,rfl,_,_⟩:=o;have o:DataW.TrodAll d aE e 0 (fun _=>aB) aB Tryz.f3.params.toList g.toList h s:=u;rw[params3] at o q;obtain⟨rfl,rfl⟩:=trodVars_none v;obtain⟨w,x,y,z,H,U,rfl,rfl,rfl,V,W⟩:=trodAll_two o;obtain⟨Y,a0,a1,a2,a3,a4,a5,a6,a7,rfl,a8,a9⟩:=KX (q 0 _ w rfl rfl) V;obtain⟨aa,ab,ac,ad,ae,ag,ah,ai,aj,rfl,al,am⟩:=KX (q 1 _ x rfl rfl) W;refine(MH Y aa a8 al a2 a3 a4 ad ae ag a5 ah a6 ai a7 aj a0 a1 ab ac e a9 am (Ji p)).mono fun ap ar ⟨ax,ay⟩=>?_
 subst ax;exact⟨_,rfl,Tq Re rfl (by kernel_rfl) (by kernel_rfl) jD r rfl ay⟩
def Dc:Rows.TopChainsSaid:=
 OpenClaim.holds_of_wide 3 Tryz.f3 rfl rfl rfl rfl rfl rfl rfl ⟨rfl,rfl,rfl,rfl,rfl⟩ rfl rfl rfl rfl rfl Oy func3 Ab3 Ab5 ZY
  (fun a b c d _=>Bu a b c d)
theorem topChains_card_holds:Rows.TopChainsCardSaid:=
 Claim7.holds_tied_plain_at .later [] [.data,.data] aB (aB,"a45df2f5511ce1a2bbc722363321cac49e466667bf0364541f7867aa7087e208") aB Dc (fun _ a=>by cases a) Ah9 (fun _ b=>by cases b) topChains_row_tie rfl ⟨rfl,rfl⟩ Aax rfl
  (fun a b c d=>by
   obtain rfl:a=3:=fB (Oy.symm.trans c) |>.symm;obtain rfl:b=Tryz.f3:=(fB (Tryz.func3.symm.trans d)).symm
   exact⟨Xi,fun a b c=>by
    rw[params3] at c;have a:b∈[32,32]:=by simpa using Array.mem_of_getElem? c
    exact(show aE.wantsStandIn b=av by simpa using List.all_eq_true.1 Wd b a)⟩)
  Abb
end
end Go.Proofs.YtbdhieahnneebaaGreatDoor
