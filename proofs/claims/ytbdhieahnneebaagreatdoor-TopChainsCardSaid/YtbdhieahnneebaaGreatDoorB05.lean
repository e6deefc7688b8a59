/- Laws that TopChains leans on. -/
import Derived.Test.YtbdhieahnneebaaGreatDoorB04
import Derived.Deep.OwnRows
import Derived.LoopIn
import Derived.LoopNIn
import Derived.OwnWalkIn
import Derived.RangeFuncBound
import Derived.RangeFuncCalls
import Derived.RangeFuncLeaves
import Derived.RangeFuncNested
import Derived.Shelf.Abstract
import Derived.TacticsInMore
set_option maxRecDepth 100000
set_option maxHeartbeats 32000000
set_option linter.all false
open Go.Proofs.Tryz
open And renaming intro->bZ
open Array renaming all_toList->ZQ,extract_extract->K1,getElem?_eq_getElem->pJ,getElem?_eq_some_iff->eJ,getElem?_extract->iL,length_toList->cj,replicate_succ->Vb,replicate_zero->Va,toArray_toList->oT,toList_inj->ue
open Bool renaming and_eq_true->bT,false->av,true->aB
open Function renaming comp->zQ,comp_def->vH
open Go renaming Calls->aT,Oper->cQ,Operand->Gc,Program->nt,TypeId->aR,Value->aq,World->T,bodyPost_ret->dY,callsIn_wide->JX,execOp->VI,loadVar->oA,madeCells->th,results->Ih,run_loadVar_row->tm,setRow_other->iD,size_setRow->kB,undef->sJ,wpIn_wide->YS,wpList->cG,wpListIn->NT,wpList_make_full->zG,wpQuiet_nil->aN,yielded->xZ
open Go.Act renaming put->ak
open Go.BigFrame renaming wpListIn_want->xY,wpList_want->eI
open Go.Ending renaming returned->aK
open Go.Fn renaming func->kP
open Go.Great renaming bodyPost_end0->gI,wpList_allocTo->xp
open Go.Instr renaming build->fk,makeFunc->DE,sureAddr->nO
open Go.IntKind renaming i64->E
open Go.IntWalk renaming i64_in->an,wrap64_in->kE
open Go.Obj renaming cells->az
open Go.Operand renaming tmp->aI
open Go.Proofs.Tryz renaming ntmps151->Aml,prog->aE,results151->Agt,underlying121->Acw,underlying130->H6,underlying137->VD,underlying158->Kg,underlying166->VC,underlying198->zP,underlying26->ik,underlying27->oa,underlying280->mG,underlying283->Bi,underlying3->bJ,underlying324->kR,underlying330->H5,underlying35->nC,underlying4->jD,underlying48->ZS,underlying63->db,underlying93->zV,underlying97->NR,zeroCells135->uY,zeroCells153->er,zeroCells198->bW,zeroCells280->vE,zeroCells99->fJ
open Go.Proofs.YtbdhieahnneebaaGreatDoor.FV renaming cells->au,noU8->iq,size->fA,zero->aC
open Go.Proofs.YtbdhieahnneebaaGreatDoor.Mb renaming size->da
open Go.Proofs.YtbdhieahnneebaaGreatDoor.Sq renaming size->jB
open Go.Proofs.YtbdhieahnneebaaGreatDoor.St renaming start->bH
open Go.Result renaming andThen_ok->dv,ok->vF
open Go.RowKit renaming Below->bj
open Go.RowKit.Below renaming refl->aM,setCell->iu,trans->mf
open Go.Sem renaming run_bind->fT,run_pure->iT
open Go.Value renaming agg->aG,bool->ao,int->J,oneCell'->cJ,pointer->aD,slice->af,tuple->fE
open Go.World renaming block_lt_of_cell?->dH,cell?->mV,grownBy_alloc->Bo,setCell->gS,size_alloc->dA
open List renaming all_append->uU,all_toArray->O0,append_assoc->aW,append_toArray->YR,cons_append->Db,drop->zF,drop_drop->gK,drop_eq_getElem_cons->nD,drop_eq_nil_of_le->fU,eq_of_mem_replicate->iK,flatMap_cons->gL,getElem?_append_left->bo,getElem?_append_right->aU,getElem?_cons_succ->qb,getElem?_cons_zero->fF,getElem?_eq_getElem->aA,getElem?_eq_some_iff->aP,getElem?_map->bN,getElem?_toArray->bw,getElem_map->NZ,length->mZ,length_append->aJ,length_cons->eu,length_drop->jO,length_eq_one_iff->yL,length_map->cX,length_nil->eK,length_replicate->bp,length_singleton->cW,mem_append->dG,mem_cons->oU,mem_of_getElem?->bg,mem_singleton->dJ,nil_append->js,not_mem_nil->sW,push_toArray->ZR,range->dI,replicate->aF,replicate_succ->lo,setIfInBounds_toArray->iU,set_append_right->jT,set_cons_succ->nX,set_cons_zero->mo,size_toArray->qY,toArray->sK,toList_toArray->ln
open Nat renaming add_sub_cancel->xl,eq_zero_or_pos->ns,le_of_lt->M5,le_refl->aw,le_trans->aY,lt_of_lt_of_le->dX,mul_assoc->nB,mul_le_mul_right->fH,reduceAdd->Ka,reduceSub->Adm,sub_self->oC,succ_mul->kW,zero_le->qo
open Option renaming map_map->Bm,none->S,some->M
open Option.some renaming inj->fB,injEq->bq
namespace Go.Proofs.YtbdhieahnneebaaGreatDoor
open Go.RowKit Go.Top
def Sq.runs(a:Sq)(b:Int)(c:List Un):Option Int:=vU a.cap (a.arr 2) a.bit b (c.map (·.bits))
def Tm(a b:Int):Array aq:=#[J E a,J E b]
def OE(a b):(Tm a b).all (·.oneCell')=aB:=by simp[Tm,cJ]
def Ai6(a:T)(c:Sq)(d:Int)(e:List Un)(f:Ending)(b:T):Prop:=bD a b/\
 ((∃g h i,c.runs d e=M g/\f=aK (fE #[h,J E (-1)])/\jW b a.heap.size 171 2 h i/\i.length=e.length/\(e≠[]->∃l,i[e.length-1]?=M (Tm l g)))\/
  (c.runs d e=S/\∃a:Nat,a<e.length/\f=aK (fE #[af S 0 0,J E a])))
def LQ:(aE.info? 171).map (fun i=>(i.zero,i.size,i.bytes))=M (M (aG (Tm 0 0)),2,16):=dK
def RnW(a:Sq)(b:Int)(c:List Un)(f:Nat)(g:T->Prop)(h d e:aq)(wr:T):Prop:=
 ∃(i:Nat)(l:Int)(n:List (Array aq)),i<=c.length/\d=J E l/\e=J E (i:Int)/\a.runs b c=vU a.cap (a.arr 2) a.bit l ((c.map (·.bits)).drop i)/\0<=l/\l<=a.cap+a.arr 2/\(i<c.length->l<=a.cap)/\
  jW wr f 171 2 h n/\n.length=i/\(i≠0->∃a,n[i-1]?=M (Tm a l))/\g wr
def Aa0(a:Sq)(b:jV a)(c d e:Nat)(f:List Un)(g:Int)(h:0<=g)(i:g<=a.cap)(l:f.length<=256)(n:∀q∈f,Rc q)(o:T)(p:E0 o c d f):
  aT aE 123 #[aG a.cells,af (M ⟨c,d,S⟩) f.length e,J E g] o (Ai6 o a g f):=by
 let ⟨q,r⟩:=aX o.heap.size;let ⟨s,t⟩:=aX (o.alloc (az a.cells 105));have u:=aH (show sE s q 105 a by rw[t];exact sE.new o q _ a b r);have v:=GL t;obtain⟨w,x,y,z,H,U⟩:=ej (p.ext v.o) (fun V=>pR a b V) (fun W=>yT a b W) (fun Y a0 a1 a2=>Ab a Y b a0 a1 a2) n l;obtain⟨V,W,Y⟩:=bh b (show s.heap.size=q+1/\c<q by rw[t,r];exact⟨by simp,mE.lt p⟩) r;let ⟨a0,a1⟩:=aX a.cap;let ⟨a2,a3⟩:=aX (a.arr 2)
 have a4:=aH (fun a5 a6 a7 a8 a9 wr=>show RnW a g f a5 a6 a7 a8 a9 wr=∃(aa:Nat)(ab:Int)(ac:List (Array aq)),aa<=f.length/\a8=J E ab/\a9=J E (aa:Int)/\a.runs g f=vU a0 a2 a.bit ab ((f.map (·.bits)).drop aa)/\0<=ab/\ab<=a0+a2/\(aa<f.length->ab<=a0)/\
  jW wr a5 171 2 a7 ac/\ac.length=aa/\(aa≠0->∃ad,ac[aa-1]?=M (Tm ad ab))/\a6 wr by rw[a1,a3];rfl)
 obtain⟨a5,a6⟩:=aQ (show 0<=a0/\a0<=17592186044416/\0<=a2/\a2<=2199023255552 by rw[a1,a3];exact⟨b.qA.1,b.qA.2,b.V5⟩) (show a.runs g f=vU a0 a2 a.bit g (f.map (·.bits))/\0<=g/\g<=a0 by rw[a1,a3];exact⟨rfl,h,i⟩);rw[<-a1] at x;rw[<-a3] at y;have a7:E.wrap ((f.length:Int)-1)=(f.length:Int)-1:=an _ O;clear a1 a3;go_enter func123,ntmps123;go_upto_region 1 with fail;rw[<-t,<-r];clear t r;go_wp2_with fail
 go_loopw [6,8,16] (fun r t a1 wr=>RnW a g f (q+1) (fun wr=>bj (q+1) s wr) r t a1 wr) (fun _ _ a3 _=>f.length-(intOf a3).toNat)
 case atStart=>
  rw[a4.o];exact⟨0,g,[],by omega,rfl,rfl,a6.o.1,a6.o.2.1,by have:=a6.o;have:=a5.o;omega,fun _=>a6.o.2.2,jW.nil _ _ _ _,rfl,fun r=>absurd rfl r,aM _ _⟩
 case round=>
  rw[a4.o] at hrel;obtain⟨r,t,a1,a3,rfl,rfl,a8,a9,aa,ab,ac,ad,ae,ag⟩:=hrel;have ah:=W.o;obtain⟨ai,aj,al,am,ap,ar⟩:=ej (show sE wr q 105 a from⟨u.o.j.below ag O,V.o⟩) (show E0 wr c d f from mE.below w.o ag O) ag a8 ac ad;obtain⟨ax,ay⟩:=aQ ae (show 0<=t/\t<=a0+a2/\(r<f.length->t<=a0) from⟨a9,aa,ab⟩)
  by_cases aV:r<f.length
  ·have b0:f[r]?=M f[r]:=aA aV
   generalize f[r]=b1 at*
   have b2:=aH (H.o b1 (bg b0));let ⟨b3,b4,b5,b6⟩:=b1;have b7:=aH b0;have b8:b6=2:=b2.o.2.2;subst b8;have b8:=aH (V.o.Ea b2.o.1 b2.o.2.1);let ⟨b9,ba⟩:=aX (a.cost b5);have bb:=aH (show a.bit*b5=b9 by rw[ba];rfl);rw[<-ba] at b8;have bc:=aH (fun bd=>z.o b5 b2.o.1 b2.o.2.1 bd);rw[<-ba] at bc
   have bd:=aH (show(f.map (·.bits)).drop r=b5::(f.map (·.bits)).drop (r+1) by
    rw[nD (jP aV),NZ];have:f[r]=⟨b3,b4,b5,2⟩:=by have:=aA aV;rw[b7.o] at this;exact(fB this).symm
    rw[this])
   have be:E.wrap ((r:Int)+1)=((r+1:Nat):Int):=by rw[show((r+1:Nat):Int)=(r:Int)+1 by omega];exact an _ (dU U.o)
   have bf:E.wrap (t-b9)=t-b9:=an _ (uL a5.o ay.o b8.o);have bi:E.wrap (t-b9+a2)=t-b9+a2:=an _ (uL a5.o ay.o b8.o);clear b0 ba;go_wp2_with (first|(refine Bq dW (aI 19) rfl c d _ r O rfl aj.o b7.o ?_)|(refine gY dW (aI 3) rfl rfl (ai.o.ext (jd)) ?_));let ⟨b0,ba⟩:=aX wr.heap.size;rw[<-ba];obtain⟨bk,bl,bn⟩:=bh (show bD wr (wr.alloc (az #[J E b3,J E b4,J E b5,J E 2] 102)) from jd) (show Bx (wr.alloc (az #[J E b3,J E b4,J E b5,J E 2] 102)) b0 102 #[J E b3,J E b4,J E b5,J E 2] from Bx.D _ _ _ _ ba) (show q+1<=b0 by rw[ba];have:=al.o.size;have:=W.o;omega);clear ba;generalize wr.alloc (az #[J E b3,J E b4,J E b5,J E 2] 102)=ba at*
   refine mR (bc.o _) fun br bs=>?_
   have bt:bD wr br:=bk.o.trans bs;have bu:=mX bs bl;let ⟨bv,bx,bz⟩:=gO bt ai ap aj;have bC:=aH (show bj (q+1) s br from al.o.trans (bt.mono (gC al.o.size W.o)));have bK:=bu.o.cell 3 rfl;go_wp2_with ((refine gY dW (aI 3) rfl rfl bv.o ?_));refine mR (y.o _) fun bL bR=>?_
   let ⟨bU,bV,bY⟩:=gO bR bv bx bz;have c0:=aH (show bj (q+1) s bL from bC.o.trans (bR.mono (gC bC.o.size W.o)))
   by_cases c1:t<b9
   ·have c2:decide (t<b9)=aB:=by simp;omega
    have c3:=aH (show a.runs g f=S by
     rw[am.o,bd.o];unfold vU;rw[bb.o,if_pos (.inl c1)])
    go_wp2;go_ret2;refine⟨?_,.inr ⟨c3.o,r,aV,rfl⟩⟩;exact v.o.trans (c0.o.mono (dU W.o.1))
   ·have c2:decide (t<b9)=av:=by simp;omega
    by_cases c3:r<f.length-1
    ·have c4:decide ((r:Int)<(f.length:Int)-1)=aB:=by simp;omega
     go_wp2_with ((refine gY dW (aI 3) rfl rfl bU.o ?_));refine mR (x.o _) fun c5 c6=>?_
     have c7:=mX c6 bV;have c8:=aH (show bj (q+1) s c5 from c0.o.trans (c6.mono (gC c0.o.size W.o.1)))
     by_cases c9:a0<t-b9+a2
     ·have ca:decide (a0<t-b9+a2)=aB:=by simp;omega
      have cb:=aH (show a.runs g f=S by
       rw[am.o,bd.o];unfold vU
       have cc:(f.map (·.bits)).drop (r+1)≠[]:=fun cd=>by
        have:=congrArg mZ cd;rw[jO,cX] at this;simp only[eK] at this;omega
       rw[bb.o,if_pos (.inr ⟨cc,by omega⟩)])
      go_wp2;go_ret2;exact⟨v.o.trans (c8.o.mono (dU W.o.1)),.inr ⟨cb.o,r,aV,rfl⟩⟩
     ·have ca:decide (a0<t-b9+a2)=av:=by simp;omega
      have cb:=aH (show a.runs g f=vU a0 a2 a.bit (t-b9+a2) ((f.map (·.bits)).drop (r+1)) by
       rw[am.o,bd.o]
       conv=>lhs;unfold vU
       rw[bb.o,if_neg (by rintro(cc|⟨_,cc⟩)<;> omega)])
      clear ca;have ca:decide (a0<t-b9+a2)=av:=by simp;omega
      go_wp2_with (first|(at_builtin;go_must (refine mN rfl (aI 50) (aI 54) 166 rfl 171 (aG (Tm 0 0)) 2 16 VC LQ rfl dD dD rfl (c7.o.alloc _) (by rw[ar.o];have:=U.o;omega) (by have:=c8.o.size;have:=W.o.1;simp;omega) _ (Tm t (t-b9+a2)) rfl (Bx.new _ _ _) rfl (OE _ _) ?_;intro cc w9 ho9 hb9 cd)));obtain⟨cc,cd⟩:=aQ (show bj (q+1) s w9 from(c8.o.alloc (gC c8.o.size W.o.1) _).trans hb9) ho9;go_wp2;rw[a4.o];exact⟨⟨r+1,t-b9+a2,_,by omega,rfl,by go_num,cb.o,by have:=a5.o;omega,by have:=a5.o;have:=ay.o.2.2 aV;have:=b8.o;omega,fun _=>by omega,cd.o,by rw[aJ,ar.o];rfl,fun _=>⟨t,by rw[xl,aU (iJ ar.o),ar.o,oC];rfl⟩,cc.o⟩,by simp[intOf];omega⟩
    ·have c4:decide ((r:Int)<(f.length:Int)-1)=av:=by simp;omega
     have c5:=aH (show a.runs g f=vU a0 a2 a.bit (t-b9+a2) ((f.map (·.bits)).drop (r+1)) by
      rw[am.o,bd.o]
      conv=>lhs;unfold vU
      rw[bb.o,if_neg (by
       rintro(c6|⟨c6,_⟩)
       ·omega
       ·refine c6 ?_
        rw[fU eB])])
     go_wp2_with (first|(at_builtin;go_must (refine mN rfl (aI 50) (aI 54) 166 rfl 171 (aG (Tm 0 0)) 2 16 VC LQ rfl dD dD rfl (bV.o.alloc _) (by rw[ar.o];have:=U.o;omega) (by have:=c0.o.size;have:=W.o.1;simp;omega) _ (Tm t (t-b9+a2)) rfl (Bx.new _ _ _) rfl (OE _ _) ?_;intro c6 w9 ho9 hb9 c7)));obtain⟨c6,c7⟩:=aQ (show bj (q+1) s w9 from(c0.o.alloc (gC c0.o.size W.o.1) _).trans hb9) ho9;go_wp2;rw[a4.o];exact⟨⟨r+1,t-b9+a2,_,by omega,rfl,by go_num,c5.o,by have:=a5.o;omega,by have:=a5.o;have:=ay.o.2.2 aV;have:=b8.o;omega,fun _=>by omega,c7.o,by rw[aJ,ar.o];rfl,fun _=>⟨t,by rw[xl,aU (iJ ar.o),ar.o,oC];rfl⟩,c6.o⟩,by simp[intOf];omega⟩
  ·have b0:r=f.length:=O
   have b1:=aH (show a.runs g f=M t by rw[am.o,fU eB];rfl);have b2:decide ((r:Int)<(f.length:Int))=av:=by simp;omega
   clear b0;go_wp2;go_ret2;refine⟨v.o.trans (al.o.mono (dU W.o.1)),.inl ⟨t,_,a1,b1.o,rfl,⟨iX ap.o.own (dU Y.o),ap.o.k⟩,by rw[ar.o];omega,fun b0=>?_⟩⟩;let ⟨b3,b4⟩:=ax.o (by rintro rfl;exact b0 (List.eq_nil_of_length_eq_zero O));exact⟨b3,by rw[show f.length-1=r-1 by omega];exact b4⟩
def Ai5(a:T)(c:Sq)(d:Int)(e:List Un)(f:Ending)(b:T):Prop:=bD a b/\
 ((∃g h i,c.runs d e=M g/\f=aK (fE #[h,J E 0])/\jW b a.heap.size 171 2 h i/\i.length=e.length/\(e≠[]->∃l,i[e.length-1]?=M (Tm l g)))\/
  (c.runs d e=S/\f=aK (fE #[af S 0 0,J E 9])))
def jW.mono{a b c d e f g}(h:jW a b d e f g)(i:c<=b):jW a c d e f g:=⟨iX h.own i,h.k⟩
def Aa1(q:Sq)(a:jV q)(b c d:Nat)(e:List Un)(f:Int)(g:0<=f)(h:f<=q.cap)(i:e.length<=256)(l:∀r∈e,Rc r)(n:T)(o:E0 n b c e)(p:e.length<=d):
  aT aE 81 #[aG q.cells,af (M ⟨b,c,S⟩) e.length d,J E f] n (Ai5 n q f e):=by
 let ⟨r,s⟩:=aX n.heap.size;let ⟨t,u⟩:=aX ((n.alloc (az q.cells 26)).alloc (az q.cells 105));obtain⟨v,w⟩:=aQ (show sE t (r+1) 105 q by rw[u];exact sE.new _ _ _ q a (uM s)) (show bD n t by rw[u];exact(jd).alloc dS _);obtain⟨t,x,y,z,H⟩:=dZ (o.ext w.o) (sE.new n r 26 q a s) (fun U V=>Bt q a b c d e f g h i l U V p) (fun W Y=>Aa0 q a b c d e f g h i l W Y) a;go_enter func81,ntmps81;go_upto_region 1 with fail;refine wp_region_list ?_;simp only[ln];rw[<-s];refine mJ rfl (aI 3) rfl rfl x.o ?_;simp only[sZ,ak];refine gV rfl 105 #[(0,aI 11)] rfl #[(0,aG q.cells)] dK (aG q.cells) (xQ q H.o _) ?_;simp only[sZ,ak];refine vL rfl (M 8) rfl rfl ?_;simp only[sZ,ak];refine dd rfl 105 (aI 8) (aI 12) rfl _ rfl (eZ (jB H.o) nc) (by rw[jB H.o];kernel_rfl) (Sq.one q) rfl rfl ?_;simp only[ak,iU,nX,mo,dA];rw[<-u,<-s];clear u s;go_wp2_with ((refine gY dW (aI 8) rfl rfl v.o ?_));refine mR (y.o _ t.o) fun a b=>?_
 let ⟨a,c,d⟩:=gO b v t w;go_wp2_with ((refine gY dW (aI 8) rfl rfl a.o ?_));refine(z.o _ c.o).mono ?_;rintro a b ⟨c,e⟩;have a:=mX c d;have b:=aH d.o.size;rcases e with⟨c,d,f,g,rfl,h,i,l⟩|⟨g,n,o,rfl⟩
 ·have e:=aH (bZ g (bZ h (bZ i l)))
  go_wp2;go_ret2;exact⟨a.o,.inl ⟨c,d,f,e.o.1,rfl,e.o.2.1.mono b.o,e.o.2.2.1,e.o.2.2.2⟩⟩
 ·have b:decide ((0:Int)<=(n:Int))=aB:=by simp
  have b:=aH g;go_wp2;go_ret2;exact⟨a.o,.inr ⟨b.o,rfl⟩⟩
def Sq.tV(a:Sq)(b:Int)(c:List Un):Option (List Int):=qv a.cap (a.cost 8) (a.arr 2) a.bit b (c.map (·.bits))
def Aie(a:T)(c:Sq)(d:Int)(e:List Un)(f:Ending)(b:T):Prop:=bD a b/\
 ((∃g h,c.tV d e=M g/\f=aK (fE #[af (M ⟨h,0,S⟩) e.length e.length,J E 0])/\a.heap.size<=h/\Bn E b 2 h g)\/
  (c.tV d e=S/\f=aK (fE #[af S 0 0,J E 9])))
def Ri:(aE.info? 2).map (fun i=>(i.zero,i.size,i.bytes))=M (M (J E 0),1,8):=dK
def tH(a:List Int)(b:Nat):List Int:=a++aF b 0
def KW(a b c):(tH a (b+1)).set a.length c=tH (a++[c]) b:=by
 unfold tH;rw[jT _ _ (aw _),oC,lo,mo,aW];rfl
def Hu(a b):tH a (b+1)=tH (a++[0]) b:=by
 unfold tH;rw[lo,aW];rfl
structure PdX(a:Sq)(b:Int)(g:List Un)(e c d:Int)(l:T)(n:Nat)(h:Nat)(f:Int)(i:List Int)(wr:T):Prop where
 eq:a.tV b g=(qv e c d a.bit f ((g.map (·.bits)).drop h)).map (i++·)
 x0:0<=f
 x1:f<=e+d
 x2:h<g.length->f<=e
 len:i.length=h
 row:Bn E wr 2 n (tH i (g.length-h))
 F:bj n l wr
def PdW(a:Sq)(b:Int)(c:List Un)(d e f:Int)(g:T)(h:Nat)(i l:aq)(wr:T):Prop:=
 ∃(n:Nat)(o:Int)(p:List Int),n<=c.length/\i=J E o/\l=J E (n:Int)/\PdX a b c d e f g h n o p wr
def PdX.ext{a b c d e f g h i l n wr o}(p:PdX a b c d e f g h i l n wr)(q:bD wr o):PdX a b c d e f g h i l n o:=
 ⟨p.eq,p.x0,p.x1,p.x2,p.len,p.row.ext q,p.F.trans (q.mono (M5 p.row.lt))⟩
instance {w w' x0 x1 x2 x3 x4 x5 x6 x7 x8 x9 x10}:Tr w w' (PdX x0 x1 x2 x3 x4 x5 x6 x7 x8 x9 x10 w) (PdX x0 x1 x2 x3 x4 x5 x6 x7 x8 x9 x10 w'):=⟨fun hb h=>PdX.ext h hb⟩
def S9(o:Sq)(a:jV o)(b c d:Nat)(q:List Un)(p:Int)(e:0<=p)(f:p<=o.cap)(g:q.length<=256)(h:∀r∈q,Rc r)(i:T)(l:E0 i b c q)(n:q.length<=d):
  aT aE 13 #[aG o.cells,af (M ⟨b,c,S⟩) q.length d,J E p] i (Aie i o p q):=by
 let ⟨r,s⟩:=aX i.heap.size;let ⟨t,u⟩:=aX ((i.alloc (az o.cells 26)).alloc (az o.cells 105));obtain⟨v,w⟩:=aQ (show sE t (r+1) 105 o by rw[u];exact sE.new _ _ _ o a (uM s)) (show bD i t by rw[u];exact(jd).alloc dS _);obtain⟨x,y,z,H,U,V⟩:=ej (l.ext w.o) (sE.new i r 26 o a s) (fun W Y=>Bt o a b c d q p e f g h W Y n) (fun a0=>pR o a a0) (fun a1=>Ab o 8 a O O a1) (fun a2=>yT o a a2);obtain⟨W,Y,a0,a1⟩:=dq (fun a2 a3 a4 a5=>Ab o a2 a a3 a4 a5) h g a;let ⟨a2,a3⟩:=aX o.cap;let ⟨a4,a5⟩:=aX (o.cost 8);let ⟨a6,a7⟩:=aX (o.arr 2);obtain⟨a8,a9,aa⟩:=bh (show o.tV p q=qv a2 a4 a6 o.bit p (q.map (·.bits))/\0<=p/\p<=a2 by rw[a3,a5,a7];exact⟨rfl,e,f⟩) (show a4<=a2/\a6+a4<=a2/\0<a4/\a4=8*o.bit by rw[a3,a5,a7];exact a.Ig) (show 0<=a2/\a2<=17592186044416/\0<=a6/\a6<=2199023255552 by rw[a3,a7];exact⟨a.qA.1,a.qA.2,a.V5⟩);rw[<-a3] at H;rw[<-a5] at U;rw[<-a7] at V;have ab:E.wrap ((q.length:Int)-1)=(q.length:Int)-1:=an _ O;have ac:=fun ad=>run_make_row' (P:=aE) 50 2 (J E 0) 8 underlying50 Ri rfl E E q.length O O ad
 have ad:¬a4=0:=by have:=a9.o;omega
 clear a3 a5 a7;go_enter func13,ntmps13;go_upto_region 1 with fail;refine wp_region_list ?_;simp only[ln];rw[<-s];refine mJ rfl (aI 3) rfl rfl y.o ?_;simp only[sZ,ak];refine gV rfl 105 #[(0,aI 16)] rfl #[(0,aG o.cells)] dK (aG o.cells) (xQ o a1.o _) ?_;simp only[sZ,ak];refine vL rfl (M 8) rfl rfl ?_;simp only[sZ,ak];refine dd rfl 105 (aI 8) (aI 17) rfl _ rfl (eZ (jB a1.o) nc) (by rw[jB a1.o];kernel_rfl) (Sq.one o) rfl rfl ?_;simp only[ak,iU,nX,mo,dA];rw[<-u,<-s];clear u s;go_wp2_with ((refine gY dW (aI 8) rfl rfl v.o ?_));refine mR (z.o _ x.o) fun s u=>?_
 let ⟨a3,a5,a7⟩:=gO u v x w;go_upto_region 6 with fail;let ⟨ae,ag⟩:=aX s.heap.size
 have ah:=aH (show Bn E (s.alloc (az (th #[J E 0] q.length) 2)) 2 ae (tH [] q.length) by
  have ai:th #[J E 0] q.length=aS E (tH [] q.length):=by
   apply ue.1;rw[toList_madeCells_one];simp[aS,tH]
  rw[ai];exact Bn.D _ _ _ _ _ ag)
 have ai:=aH (show bD s (s.alloc (az (th #[J E 0] q.length) 2)) from jd);rw[<-ag];obtain⟨aj,al,am,ap⟩:=dq (a3.o.ext ai.o) (a5.o.ext ai.o) (show r+1<ae/\b<ae/\i.heap.size<=ae by rw[ag];exact⟨a3.o.lt,mE.lt a5.o,a7.o.size⟩) (a7.o.trans ai.o);clear ag;generalize s.alloc (az (th #[J E 0] q.length) 2)=ag at*
 go_wp2_with fail
 go_loopw [10,29] (fun ar ax wr=>PdW o p q a2 a4 a6 ag ae ar ax wr) (fun _ ay _=>q.length-(intOf ay).toNat)
 case atStart=>exact⟨0,p,[],by omega,rfl,rfl,⟨by rw[a8.o.1];simp,a8.o.2.1,by have:=a8.o;have:=aa.o;omega,fun _=>a8.o.2.2,rfl,ah.o,aM _ _⟩⟩
 case round=>
  obtain⟨ar,ax,ay,aV,rfl,rfl,b0⟩:=hrel;obtain⟨b1,b2,b3⟩:=bh (show sE wr (r+1) 105 o from⟨aj.o.j.below b0.F am.o.1,a1.o⟩) (show E0 wr b c q from mE.below al.o b0.F am.o.2.1) b0
  by_cases b4:ar<q.length
  ·have b5:q[ar]?=M q[ar]:=aA b4
   generalize q[ar]=b6 at*
   have b7:=aH (Y.o b6 (bg b5));let ⟨b8,b9,ba,bb⟩:=b6;have bc:=aH b5;have bd:bb=2:=b7.o.2.2;subst bd;have bd:=aH (a1.o.Ea b7.o.1 b7.o.2.1);let ⟨be,bf⟩:=aX (o.cost ba);have bi:=aH (show o.bit*ba=be by rw[bf];rfl);rw[<-bf] at bd;have bk:=aH (fun bl=>W.o ba b7.o.1 b7.o.2.1 bl);rw[<-bf] at bk
   have bl:=aH (show(q.map (·.bits)).drop ar=ba::(q.map (·.bits)).drop (ar+1) by
    rw[nD (jP b4),NZ];have:q[ar]=⟨b8,b9,ba,2⟩:=by have:=aA b4;rw[bc.o] at this;exact(fB this).symm
    rw[this])
   have bn:=aH (show 0<=ax/\ax<=a2 from⟨b3.o.x0,b3.o.x2 b4⟩);have br:E.wrap ((ar:Int)+1)=((ar+1:Nat):Int):=by rw[show((ar+1:Nat):Int)=(ar:Int)+1 by omega];exact an _ (dU a0.o)
   clear b5 bf;go_wp2_with (first|(refine Bq dW (aI 32) rfl b c _ ar O rfl b2.o bc.o ?_)|(refine gY dW (aI 8) rfl rfl (b1.o.ext (jd)) ?_));let ⟨b5,bf⟩:=aX wr.heap.size;rw[<-bf];obtain⟨bs,bt⟩:=aQ (show bD wr (wr.alloc (az #[J E b8,J E b9,J E ba,J E 2] 102)) from jd) (show Bx (wr.alloc (az #[J E b8,J E b9,J E ba,J E 2] 102)) b5 102 #[J E b8,J E b9,J E ba,J E 2] from Bx.D _ _ _ _ bf);clear bf;generalize wr.alloc (az #[J E b8,J E b9,J E ba,J E 2] 102)=bf at*
   refine mR (bk.o _) fun a b=>?_
   have c:bD wr a:=bs.o.trans b;have a:=mX b bt;let ⟨b,d⟩:=di c b1 b3
   by_cases c:ax<be
   ·have e:decide (ax<be)=aB:=by simp;omega
    have e:=aH (show o.tV p q=S by
     rw[d.o.eq,bl.o];unfold qv;rw[bi.o,if_pos c];rfl)
    go_wp2;go_ret2;exact⟨mf ap.o (d.o.F.mono am.o.2.2),.inr ⟨e.o,rfl⟩⟩
   ·have c:decide (ax<be)=av:=by simp;omega
    have c:=a.o.cell 3 rfl;have a:E.wrap (a6-be)=a6-be:=an _ (gC aa.o bd.o);have a:E.wrap (ax+(a6-be))=ax+(a6-be):=an _ (uL aa.o bn.o bd.o);let ⟨a,c⟩:=aX (ax+(a6-be)-a2);have e:E.wrap (ax+(a6-be)-a2)=a:=by rw[c];exact an _ (uL aa.o bn.o bd.o)
    have e:=aH c;clear c;go_wp2_with ((refine gY dW (aI 8) rfl rfl b.o ?_));refine mR (V.o _) fun c f=>?_
    let ⟨c,g⟩:=di f b d;go_wp2_with ((refine gY dW (aI 8) rfl rfl c.o ?_));refine mR (H.o _) fun b d=>?_
    let ⟨b,f⟩:=di d c g
    by_cases c:0<a
    ·have c:decide (0<a)=aB:=by simp;omega
     by_cases c:ar<q.length-1
     ·have c:decide ((ar:Int)<(q.length:Int)-1)=aB:=by simp;omega
      go_wp2_with ((refine gY dW (aI 8) rfl rfl b.o ?_));refine mR (U.o _) fun b c=>?_
      have b:=mX c f;have c:=aH (AM (x:=a) a9.o.2.2.1);have d:(a+a4-1).tdiv a4=(a+a4-1)/a4:=Int.tdiv_eq_ediv_of_nonneg (dU a9.o);let ⟨g,h⟩:=aX ((a+a4-1)/a4);let ⟨i,l⟩:=aX (g*a4);rw[<-h,<-l] at c;rw[<-h] at d
      have d:=aH (show 0<=g/\g<=i by
       have n:=a9.o;have n:0<=g:=by rw[h];exact Int.ediv_nonneg O O
       refine⟨n,?_⟩;rw[l];have:=Int.mul_le_mul_of_nonneg_left (show(1:Int)<=a4 by omega) n;omega)
      have n:=aH (show a<=2199023255552 by have:=e.o;have:=aa.o;have:=bn.o;have:=bd.o;omega);have r:E.wrap (a+a4)=a+a4:=an _ (uL aa.o a9.o n.o);have r:E.wrap (a+a4-1)=a+a4-1:=an _ (uL aa.o a9.o n.o);have wc:E.wrap g=g:=an _ (by have:=aa.o;have:=a9.o;have:=n.o;have:=d.o;have:=c.o;omega);have r:E.wrap (g*a4)=i:=by rw[<-l];exact an _ (by have:=aa.o;have:=a9.o;have:=n.o;have:=d.o;have:=c.o;omega)
      have r:E.wrap (ax+(a6-be)-i)=ax+(a6-be)-i:=an _ (by have:=aa.o;have:=a9.o;have:=n.o;have:=d.o;have:=c.o;have:=bn.o;have:=bd.o;omega)
      have d:=aH (show o.tV p q=(qv a2 a4 a6 o.bit (ax+(a6-be)-i) ((q.map (·.bits)).drop (ar+1))).map ((ay++[g])++·) by
       rw[b.o.eq,bl.o]
       conv=>lhs;unfold qv
       rw[bi.o,if_neg O,if_pos (show 0<ax+(a6-be)-a2/\(q.map (·.bits)).drop (ar+1)≠[] by
        refine⟨by have:=e.o;omega,fun n=>?_⟩;have:=congrArg mZ n;rw[jO,cX] at this;simp only[eK] at this;omega),<-e.o,<-h,<-l]
       simp[Bm,vH])
      have n:=aH (show 0<=ax+(a6-be)-i/\ax+(a6-be)-i<=a2 by have:=e.o;have:=c.o;have:=a9.o;omega)
      have c:(aS E (tH ay (q.length-ar)))[ar]?=M (J E 0):=by
       rw[show q.length-ar=(q.length-(ar+1))+1 by omega];unfold tH;simp only[aS,bw,bN];rw[aU (eZ b.o.len (aw _)),b.o.len,oC];rfl
      clear h l;have h:=Bx.cell b.o.row ar c;have c:=Bx.frozen b.o.row ar;have c:=b.o.row.lt;go_wp2_with fail;refine⟨⟨ar+1,ax+(a6-be)-i,ay++[g],by omega,rfl,by go_num,⟨d.o,n.o.1,by have:=aa.o;have:=n.o;omega,fun _=>n.o.2,by rw[aJ,b.o.len];rfl,?_,b.o.F.setCell (by show ae<=ae;omega) _⟩⟩,by simp[intOf];omega⟩;have c:=Bn.L b.o.row ar g;rw[show q.length-ar=(q.length-(ar+1))+1 by omega] at c;have d:=KW ay (q.length-(ar+1)) g;rw[b.o.len] at d;rw[d] at c;exact c
     ·have b:decide ((ar:Int)<(q.length:Int)-1)=av:=by simp;omega
      have b:=aH (show o.tV p q=(qv a2 a4 a6 o.bit (ax+(a6-be)) ((q.map (·.bits)).drop (ar+1))).map ((ay++[0])++·) by
       rw[f.o.eq,bl.o]
       conv=>lhs;unfold qv
       rw[bi.o,if_neg O,if_neg (by
        rintro⟨_,c⟩;refine c ?_;rw[fU eB])]
       simp[Bm,vH])
      have c:=aH (show 0<=ax+(a6-be) by have:=aa.o;omega);go_wp2_with fail;refine⟨⟨ar+1,ax+(a6-be),ay++[0],by omega,rfl,by go_num,⟨b.o,c.o,by have:=aa.o;have:=bn.o;have:=bd.o;omega,fun d=>by omega,by rw[aJ,f.o.len];rfl,?_,f.o.F⟩⟩,by simp[intOf];omega⟩;have:=f.o.row;rw[show q.length-ar=(q.length-(ar+1))+1 by omega,Hu] at this;exact this
    ·have b:decide (0<a)=av:=by simp;omega
     have a:=aH (show o.tV p q=(qv a2 a4 a6 o.bit (ax+(a6-be)) ((q.map (·.bits)).drop (ar+1))).map ((ay++[0])++·) by
      rw[f.o.eq,bl.o]
      conv=>lhs;unfold qv
      rw[bi.o,if_neg O,if_neg (by rintro⟨b,_⟩;have:=e.o;omega)];simp[Bm,vH])
     have b:ax+(a6-be)<=a2:=by have:=e.o;omega
     have c:0<=ax+(a6-be):=by have:=aa.o;omega
     let ⟨d,e⟩:=aQ b c;go_wp2_with fail;refine⟨⟨ar+1,ax+(a6-be),ay++[0],by omega,rfl,by go_num,⟨a.o,e.o,by have:=aa.o;have:=bn.o;have:=bd.o;omega,fun b=>d.o,by rw[aJ,f.o.len];rfl,?_,f.o.F⟩⟩,by simp[intOf];omega⟩;have:=f.o.row;rw[show q.length-ar=(q.length-(ar+1))+1 by omega,Hu] at this;exact this
  ·have a:ar=q.length:=O
   have b:=aH (show o.tV p q=M ay by rw[b3.o.eq,fU eB];simp[qv]);have c:decide ((ar:Int)<(q.length:Int))=av:=by simp;omega
   have c:=aH a;clear a;go_wp2;go_ret2;refine⟨mf ap.o (b3.o.F.mono am.o.2.2),.inl ⟨ay,ae,b.o,rfl,am.o.2.2,?_⟩⟩;have:=b3.o.row;rw[show q.length-ar=0 by have:=c.o;omega] at this;unfold tH at this;rw[List.replicate_zero,List.append_nil] at this;exact this
section
def uG{G a b}(c:G[a]?=M b):bF G=bF (G.take a)++(b.its++bF (G.drop (a+1))):=by
 have d:=List.take_append_drop a G
 have e:G.drop a=b::G.drop (a+1):=by
  have a:=(aP.1 c).1;rw[nD a];congr 1;have:=aA a;rw[c] at this;exact(fB this).symm
 conv=>lhs;rw[<-d,e]
 unfold bF;rw[List.flatMap_append,gL]
def Aba{G a b}(d:G[a]?=M b){c}(e:c<b.its.length):(bF G)[offG G a+c]?=b.its[c]?:=by
 rw[uG d];unfold offG;rw[aU O,Nat.add_sub_cancel_left,bo e]
def Sj{a:List (eQ×Int)}{b i}(c:a[b]?=M i):pn (a.take (b+1))=pn (a.take b)+Hh i:=by
 rw[List.take_add_one,c,Ix];simp[pn]
structure Vw(i:eQ×Int):Prop where
 p0:0<=i.2
 p1:i.2<=1048576
 len:i.1.bytes.length<=400000
def Vw.bd{i}(a:Vw i):0<=Hh i/\Hh i<=1448576:=by
 have:=a.p0;have:=a.p1;have:=a.len;unfold Hh;omega
def Sk:∀{l:List (eQ×Int)},(∀i∈l,Vw i)->0<=pn l/\pn l<=1448576*l.length
 |[],_=>by simp[pn]
 |a::b,c=>by
  have d:=Sk (l:=b) fun e f=>c e (by simp[f])
  have d:=(c a dS).bd;have c:pn (a::b)=Hh a+pn b:=by simp[pn]
  rw[c,eu];omega
def Ts(i:eQ):(i.kind==4)=av:=by cases i<;> rfl
def SzW(a:List (eQ×Int))(gs:Nat)(b:Nat)(c:T)(d:aq)(wr:T):Prop:=
 ∃e:Nat,e<=a.length/\d=J E e/\Bn E wr 3 gs (tH ((a.take e).map Hh) (a.length-e))/\bj b c wr
structure JI(G:List Gr)(w0:T)(gs r cu:Nat)(L:List (Array aq))(wr:T):Prop where
 ow:jW wr (gs+1) 102 4 (af (M ⟨r,0,S⟩) G.length cu) L
 k:Bn E wr 3 gs ((bF G).map Hh)
 F:bD w0 wr
section
variable {G:List Gr} {w0:T} {gs r cu:Nat} {L:List (Array aq)} {wr w':T}
def JI.ext(a:JI G w0 gs r cu L wr)(b:bD wr w'):JI G w0 gs r cu L w':=⟨a.ow.ext b,a.k.ext b,a.F.trans b⟩
instance {w w' x0 x1 x2 x3 x4 x5}:Tr w w' (JI x0 x1 x2 x3 x4 x5 w) (JI x0 x1 x2 x3 x4 x5 w'):=⟨fun hb h=>JI.ext h hb⟩
def JI.lt(a:JI G w0 gs r cu L wr)(b:L≠[]):gs<r/\r<wr.heap.size/\mE wr r 0 4 L/\wr.frozen? ⟨r,0,S⟩=av:=by
 let ⟨c,d,e,f,_,g⟩:=a.ow.rows b;simp only[Value.slice.injEq,bq,Addr.mk.injEq,and_true] at e;obtain⟨rfl,_,rfl⟩:=e;let ⟨a,b,c,_⟩:=g;exact⟨f,c.lt,⟨a,b,c,by assumption⟩,c.frozen 0⟩
def JI.cell(b:JI G w0 gs r cu L wr){k m}(c:L[k]?=M m){j v}(d:m[j]?=M v){off}(a:off=4*k+j):wr.cell? ⟨r,off,S⟩=M v/\wr.frozen? ⟨r,off,S⟩=av/\r<wr.heap.size:=by
 let ⟨_,_,a,_⟩:=b.lt (by intro e;rw[e] at c;simp at c);have b:=a.cell c d off O;let ⟨c,d,e,_⟩:=a;exact⟨b,e.frozen off,e.lt⟩
def JI.set(d:JI G w0 gs r cu L wr)(a:w0.heap.size<=gs){b c}(e:L[b]?=M c){j}(f:j<4)(g){off}(h:off=4*b+j):JI G w0 gs r cu (L.set b (c.setIfInBounds j g)) (wr.setCell ⟨r,off,S⟩ g):=by
 let ⟨a,_⟩:=d.lt (by intro b;rw[b] at e;simp at e);exact⟨d.ow.setCell e f g h,d.k.C (by show gs≠r;omega) _,d.F.setCell (by show w0.heap.size<=r;omega) _⟩
end
def MP{G}(a:∀b∈G,GS b):(qf (bF G) (bF G).length).map IL=xt G 0 0 0:=by
 rw[Wn a,Og G 0 a,List.map_map];unfold xt;refine List.map_congr_left fun a _=>?_
 simp[IL,Bd,zQ]
def AG:∀{G:List Gr},(∀a∈G,GS a)->G.length<=(bF G).length
 |[],_=>by simp
 |a::G,b=>by
  have c:=AG (G:=G) fun d e=>b d (by simp[e])
  have d:=Gr.pos (b a dS);simp only[bF,gL,aJ,eu] at*;omega
def U3W(G:List Gr)(a:T)(gs r cu:Nat)(i:aq)(wr:T):Prop:=
 ∃b:Nat,b+1<=G.length/\i=J E ((b:Int)+1)/\JI G a gs r cu (xt G (b+1) 0 G.length) wr
def FI(G:List Gr)(a:Nat)(b:Int):List (Array aq):=(xt G G.length a G.length).set a ((Bd G G.length a G.length a).cells.setIfInBounds 2 (J E b))
def QZ{G a}(b:a<G.length):FI G a 0=xt G G.length a G.length:=by
 unfold FI xt;refine xC (fun a b=>rfl) ?_;simp[Bd,Un.cells]
def P4{G a}(c:a<G.length)(b):(FI G a b)[a]?=M #[J E (offG G a:Nat),J E (lstG G a:Nat),J E b,J E 2]:=by
 unfold FI;rw[List.getElem?_set_self (eZ Ad c)];simp[Bd,Un.cells,c]
def Uy{G a}(b c):(FI G a b).set a ((#[J E (offG G a:Nat),J E (lstG G a:Nat),J E b,J E 2]:Array aq).setIfInBounds 2 (J E c))=(xt G G.length a G.length).set a (#[J E (offG G a:Nat),J E (lstG G a:Nat),J E c,J E 2]:Array aq):=by
 unfold FI;rw[List.set_set];rfl
def Yo{G a}(c:a<G.length)(b):FI G a b=(xt G G.length a G.length).set a (#[J E (offG G a:Nat),J E (lstG G a:Nat),J E b,J E 2]:Array aq):=by
 unfold FI;simp[Bd,Un.cells,c]
def Uz{G a}(b:a<G.length){x}(c:x=qy G a):FI G a x=xt G G.length (a+1) G.length:=by
 unfold FI;exact VX (c:=G.length) b c
def U5W(G:List Gr)(a:T)(gs r cu:Nat)(i:aq)(wr:T):Prop:=
 ∃b:Nat,b<=G.length/\i=J E (b:Int)/\JI G a gs r cu (xt G G.length b G.length) wr
def U6W(G:List Gr)(a:Gr)(b:Nat)(c:T)(gs r cu:Nat)(i:aq)(wr:T):Prop:=
 ∃d:Nat,d<=a.its.length/\i=J E (d:Int)/\JI G c gs r cu (FI G b (8*pn (a.its.take d))) wr
end
def Abq:Prop:=∀(a b:Nat)(c:Mk)(d:List (eQ×Int))(e:List (Array aq))(f g h i:Nat)(l:List (FV×Fr))(n:List Int)(o:Int)(p:FV)(q:Fr)(r:T),Gp r c f g h l n->n[i]?=M o->l[i]?=M (p,q)->∀(s:FV)(t:Fr)(u:T),jY u a c->a<b->b<=u.heap.size->bD r u->r.heap.size<=a->pI u b c.it d e->d.length<=90->((o=1/\s=aC)\/(o=2/\Fv u s t/\Dm f g t/\dF (iC c.it b) u s.val t))->∀v:Int,v=(i:Int)-c.first->0<=v->v<=1023->
 aT aE 67 #[aD (M ⟨a,0,S⟩),J E (i:Int),aG (cq s aC aC)] u (Pd u a b c d e f g h q o v)
structure FQ(a:Gr):Prop where
 x:GS a
 z:∀b∈a.its,b.2=0
 p2:a.pre.length<=2
 pb:∀b∈a.pre,(∃c,b.1=.seq c)\/(∃d e,b.1=.G7 d e)
 tb:∀b∈a.tl,∃c d,b.1=.qh c d/\d.length<=4/\∀e∈d,UT e
def FQ.mk'{a b c d e f g h}(p:TlX a b c d e f g h){l}(n:l.length<=2)(o:∀i∈l,i.2=0/\((∃q,i.1=.seq q)\/(∃r s,i.1=.G7 r s))):FQ ⟨l,h⟩:=by
 refine⟨⟨fun a b=>?_,p.g⟩,fun a b=>?_,n,fun c d=>(o c d).2,p.b⟩
 ·rcases(o a b).2 with⟨c,d⟩|⟨e,f,d⟩<;> rw[d]<;> simp[eQ.kind]
 ·rcases dG.1 b with c|c
  ·exact(o a c).1
  ·exact p.z a c
def I0(a:eQ)(b:(∃c,a=.seq c)\/(∃d e,a=.G7 d e)):a.bytes.length<=1000:=by
 rcases b with⟨a,rfl⟩|⟨c,d,rfl⟩
 ·have b:=q8 179 (kX (Od a++[aB]))
  have b:=(oQ (kX (Od a++[aB]))).2;have b:=lJ (Od a) 1171 (IC a);simp only[eQ.bytes];omega
 ·have a:=q8 184 (kX (OK c av d++[aB]))
  have a:=(oQ (kX (OK c av d++[aB]))).2;have a:=lJ (OK c av d) 26 (Jj c av d);simp only[eQ.bytes];omega
def FQ.itx{a}(b:FQ a):∀i∈a.its,Vw i:=by
 intro a c;have d:=b.z a c;refine⟨by omega,by omega,?_⟩;rcases dG.1 c with d|d
 ·have:=I0 a.1 (b.pb a d);omega
 ·let ⟨c,e,f,g,h⟩:=b.tb a d
  have:=DV a.1 (fun b c d=>by rw[f] at d;cases d;exact⟨g,h⟩);omega
def byL(a:List (eQ×Int)):Nat:=(a.map fun b=>b.1.bytes.length).sum
def P2(a b):byL (a++b)=byL a+byL b:=by simp[byL,List.sum_append]
def Ut{l K}(a:∀i∈l,i.1.bytes.length<=K):byL l<=l.length*K:=by
 induction l with
 |nil=>simp[byL]
 |cons b c d=>
  have e:=a b dS;have e:=d fun f g=>a f (by simp[g])
  have a:byL (b::c)=b.1.bytes.length+byL c:=by simp[byL]
  rw[a,eu,kW];omega
def FQ.by{b}(a:FQ b):byL b.its<=322200:=by
 have c:=Ut fun d e=>I0 d.1 (a.pb d e)
 have c:=Ut (K:=160100) (l:=b.tl) fun d e=>by
  let ⟨c,f,g,h,i⟩:=a.tb d e;exact DV d.1 (fun c e f=>by rw[g] at f;cases f;exact⟨h,i⟩)
 have c:=a.p2;have d:=a.x.tl.ne.2;rw[Gr.its,P2];have a:b.pre.length*1000<=2*1000:=fH _ c;have a:b.tl.length*160100<=2*160100:=fH _ d;omega
def xJ:∀{G:List Gr},(∀a∈G,FQ a)->byL (bF G)<=G.length*322200/\(bF G).length<=G.length*4
 |[],_=>by simp[bF,byL]
 |a::b,c=>by
  let ⟨d,e⟩:=xJ (G:=b) fun f g=>c f (by simp[g])
  have d:=(c a dS).by;have d:=(c a dS).p2;have d:=(c a dS).x.tl.ne.2;have c:bF (a::b)=a.its++bF b:=by simp[bF]
  have b:a.its.length=a.pre.length+a.tl.length:=by simp[Gr.its]
  rw[c,P2,aJ,eu,kW,kW];omega
structure RF(a:Mk)(b c d:Nat)(e:List (FV×Fr))(f:Nat)(h:List (eQ×Int)):Prop where
 z:f=0->h=[(.seq a.s,0)]
 g:1<=f->∃i,h=bF i/\i.length=f/\∀g∈i,FQ g
 one:f=1->a.fl=av->∃(i:List (Int×List Int))(l:FV×Fr),e[0]?=M l/\h=[(.seq a.s,0),(.G7 aB 0,0),(.qh ⟨1,3,0,a.top,av,a.alt⟩ i,0)]/\i.length=c/\Vs a.s ⟨1,3,0,a.top,av,a.alt⟩ av d b l.2 i
structure EnS(o:T)(a g p:Nat)(h:aR)(l:Nat)(c:Mk)(q r d:Nat)(e:List (FV×Fr))(s:Nat)(f:List (eQ×Int))(b:List (Array aq))(t:Mk)(n:Array aq)(u:Fr)(wr:T):Prop where
 eq:∃v w x y,t={c with it:=v,Ru:=w,new:=x,first:=y}
 f0:0<=t.first
 f1:t.first<=s
 mb:jY wr a t
 it:pI wr p t.it f b
 i:RF c q r d e s f
 rr:Bx wr g h n
 rs:n.size=l*5
 ex:bD o wr
 k:p<=wr.heap.size
 n0:s=0->t.new=aC
 n1:1<=s->dF (iC t.it p) wr t.new.val u/\eH t.new.val/\Dm q r u
def Gp.same{a b c d e f g}(o:Gp a b c d e f g)(h i l n):Gp a {b with it:=h,Ru:=i,new:=l,first:=n} c d e f g:=
 ⟨o.sq,o.a1,o.a2,o.B1,o.B2,o.sw,o.sh,o.mq,o.q1,o.q2,o.fr,o.ty,o.dm,o.len,o.tx,o.B,o.gl⟩
def Y7(a b c:Addr)(d:T):
  CallsD aE 64 #[aD (M a),aD (M b),aD (M c)] .returning d fun e f g=>e=aK (fE #[])/\f=.returning/\g=d:=by
 refine callsD_of_wpS func64 rfl fun a b c=>?_
 apply wpS_seq;apply wpS_region;simp[wpOpsS,go_sem,recoverD,c,ntmps64,Exit.thenS];refine wpS_cond (t:=false) (by simp[Act.eval,Array.replicate]) ?_;simp only[Bool.false_eq_true,if_false];refine wpS_of_wp (wp_skip ?_);cases a
 simp_all [bodyPostS,Ih,results64]
def Gp.re{a b c d e f g}(i:Gp a b c d e f g)(h):Gp a {b with re:=h} c d e f g:=
 ⟨i.sq,i.a1,i.a2,i.B1,i.B2,i.sw,i.sh,i.mq,i.q1,i.q2,i.fr,i.ty,i.dm,i.len,i.tx,i.B,i.gl⟩
def zo(a:Sq):Array aq:=(J E 1::(a.cells.toList++([ao av,ao av,J E 0]++(fR Hp (af S 0 0)).toList++[J E 0]))).toArray
def QG{a}(b:jV a):(zo a).size=148:=by
 unfold zo;rw[qY,eu,aJ,cj,jB b];rfl
def L9{a}:(zo a).all (·.oneCell')=aB:=by
 unfold zo;rw[O0,List.all_cons,uU,<-ZQ.symm,Sq.one a];rfl
def Tx{a}(b:jV a):(zo a)[147]?=M (J E 0):=by
 unfold zo;rw[bw,qb,aU (by rw[cj,jB b];decide),cj,jB b];rfl
def Tw{a}(b:jV a):(zo a).extract 1 (1+135)=a.cells:=by
 have:=jv [J E 1] a.cells.toList ([ao av,ao av,J E 0]++(fR Hp (af S 0 0)).toList++[J E 0]) 1 135 rfl (eZ cj (jB b));rw[oT] at this;exact this
def Xz:(aE.info? 99).bind (·.zero)=M (aG fJ):=dK
def Xp:(fJ).toList.drop 136=[ao av,ao av,J E 0]++(fR Hp (af S 0 0)).toList++[J E 0]:=dK
def Tv:(fJ).size=148:=dK
def Wz(c:Sq)(a:jV c)(b:T):(fk 99 #[(0,J E 1),(1,aG c.cells)]).run aE b=.ok (aG (zo c)) b:=by
 have d:=Tv
 have e:=JE (P:=aE) (t:=99) (pl:=[(0,1),(1,135),(136,3),(139,8),(147,1)]) underlying99 Xz dK #[(0,J E 1),(1,aG c.cells)]
  (by
   have f:=jB a;intro g h;simp only[oU,sW,or_false] at h;rcases h with rfl|rfl
   ·exact⟨_,rfl,rfl,by rw[show(aG (fJ)).cells=fJ from rfl,d];decide⟩
   ·exact⟨_,rfl,f,by rw[show(aG (fJ)).cells=fJ from rfl,d];decide⟩) b
 refine e.trans ?_;have d:c.cells.toList.length=135:=by rw[cj];exact jB a
 have a:fu (fJ).toList 0 [J E 1]=[J E 1]++(fJ).toList.drop 1:=rfl
 have e:fu (fu (fJ).toList 0 [J E 1]) 1 c.cells.toList=[J E 1]++c.cells.toList++([ao av,ao av,J E 0]++(fR Hp (af S 0 0)).toList++[J E 0]):=by
  rw[a,iB (off:=1) rfl,gK,d,Xp]
 show vF (aG (sK (rj _ _ _))) b=vF (aG (sK _)) b;rw[show rj [(0,1),(1,135),(136,3),(139,8),(147,1)] (aG (fJ)).cells.toList #[(0,J E 1),(1,aG c.cells)].toList=_ from e];rfl
def tY(a:Sq)(b c d:Bool)(e:Int)(f g h:aq):Mk:=⟨a,b,c,d,e,f,g,af S 0 0,h,aC,aC,0⟩
def Xx:(aE.info? 153).bind (·.zero)=M (aG er):=dK
def Aw:(er).size=154:=dK
def Adu:(er).toList.drop 141=af S 0 0::(er).toList.drop 142:=dK
def Adt:(er).toList.drop 143=FV.l aC++FV.l aC++[J E 0]:=dK
def MR(c:Sq)(a:jV c)(d e f:Bool)(g:Int)(h i l:Option Addr)(n o p q r s:Nat)(b:T):(fk 153 #[(0,aG c.cells),(1,aG #[ao d,ao e,ao f]),(2,J E g),(3,af h n o),(4,af i p q),(6,af l r s)]).run aE b=.ok (aG (tY c d e f g (af h n o) (af i p q) (af l r s)).cells) b:=by
 have t:=Aw;have u:=jB a
 have v:=JE (P:=aE) (t:=153) (pl:=[(0,135),(135,3),(138,1),(139,1),(140,1),(141,1),(142,1),(143,5),(148,5),(153,1)]) underlying153 Xx dK #[(0,aG c.cells),(1,aG #[ao d,ao e,ao f]),(2,J E g),(3,af h n o),(4,af i p q),(6,af l r s)]
  (by
   intro w x;simp only[oU,sW,or_false] at x;rcases x with rfl|rfl|rfl|rfl|rfl|rfl
   ·exact⟨_,rfl,u,by rw[show(aG (er)).cells=er from rfl,t];decide⟩
   all_goals exact⟨_,rfl,rfl,by rw[show(aG (er)).cells=er from rfl,t];decide⟩) b
 refine v.trans ?_;have t:c.cells.toList.length=135:=by rw[cj];exact jB a
 have a:fu (er).toList 0 c.cells.toList=c.cells.toList++(er).toList.drop 135:=by
  have:=iB (A:=[]) (Z:=(er).toList) (off:=0) (v:=c.cells.toList) rfl;rw[t] at this;exact this
 have u:fu (fu (fu (fu (fu (fu (er).toList 0 c.cells.toList) 135 [ao d,ao e,ao f]) 138 [J E g]) 139 [af h n o]) 140 [af i p q]) 142 [af l r s]=c.cells.toList++(tY c d e f g (af h n o) (af i p q) (af l r s)).tail:=by
  rw[a,iB (off:=135) t,iB (off:=138) (by rw[aJ,t];rfl),iB (off:=139) (by rw[aJ,aJ,t];rfl),iB (off:=140) (by rw[aJ,aJ,aJ,t];rfl)];simp only[gK,eu,eK];rw[show 135+(0+1+1+1)+(0+1)+(0+1)+(0+1)=141 from rfl,Adu];rw[show(af S 0 0::zF 142 (er).toList)=[af S 0 0]++zF 142 (er).toList from rfl,CO (off:=142) (by simp only[aJ,t];rfl)];rw[gK,show 142+[af l r s].length=143 from rfl,Adt];simp only[tY,Mk.tail,FV.l,aW,Db,js]
 show vF (aG (sK (rj _ _ _))) b=vF (aG (sK _)) b;rw[show rj [(0,135),(135,3),(138,1),(139,1),(140,1),(141,1),(142,1),(143,5),(148,5),(153,1)] (aG (er)).cells.toList #[(0,aG c.cells),(1,aG #[ao d,ao e,ao f]),(2,J E g),(3,af h n o),(4,af i p q),(6,af l r s)].toList=_ from u];rfl
def RF.next{g m a b c d h its tl fs e f}(n:RF g a b c d h its)(l:m.fl=g.fl/\m.top=g.top/\m.alt=g.alt/\m.s=g.s){src}(i:d[h]?=M (src,fs))(o:TlX m a b c fs e f tl):
  (e=1->f=0->h<1000->RF g a b c d (h+1) (its++[(.G7 aB h,0)]++tl))/\(1<=h->RF g a b c d (h+1) (its++tl)):=by
 refine⟨fun a b c=>⟨fun d=>by omega,fun _=>?_,fun d e=>?_⟩,fun c=>⟨fun d=>by omega,fun _=>?_,fun f=>by omega⟩⟩
 ·by_cases d:h=0
  ·refine⟨[⟨[(.seq g.s,0),(.G7 aB h,0)],tl⟩],?_,by rw[d];rfl,?_⟩
   ·rw[n.z d];simp[bF,Gr.its]
   ·intro d f
    rw[dJ.1 f];refine FQ.mk' o dS fun d f=>?_
    simp only[oU,sW,or_false] at f;rcases f with rfl|rfl
    ·exact⟨rfl,.inl ⟨_,rfl⟩⟩
    ·exact⟨rfl,.inr ⟨_,_,rfl⟩⟩
  ·let ⟨d,f,g,p⟩:=n.g O
   refine⟨d++[⟨[(.G7 aB h,0)],tl⟩],?_,by simp[g],?_⟩
   ·rw[f];simp[bF,Gr.its]
   ·intro d f
    rcases dG.1 f with g|g
    ·exact p d g
    ·rw[dJ.1 g]
     refine FQ.mk' o dS fun d f=>?_
     rw[dJ.1 f];exact⟨rfl,.inr ⟨_,_,rfl⟩⟩
 ·have d:h=0:=O
  subst d;let ⟨d,f,g,h⟩:=o.w (eZ l.1 e);refine⟨d,(src,fs),i,?_,g,?_⟩
  ·rw[n.z rfl,f,a,b,l.2.1,l.2.2.1];rfl
  ·rw[a,b,l.2.1,l.2.2.1,l.2.2.2] at h;exact h
 ·let ⟨a,b,d,e⟩:=n.g c
  refine⟨a++[⟨[],tl⟩],?_,by simp[d],?_⟩
  ·rw[b];simp[bF,Gr.its]
  ·intro a b
   rcases dG.1 b with c|c
   ·exact e a c
   ·rw[dJ.1 c]
    exact FQ.mk' o dS fun a b=>by simp at b
section
def S2{a b c d e f w}(g:Fv w a c)(h:Fv w b d)(i:Dm e f c)(l:Dm e f d)(n:1<=e)(o:e<=4)(p:1<=f)(q:f<=2):
  aT aE 105 #[a.val,b.val] w fun r w'=>∃(s:FV)(t:Fr),r=aK (fE #[s.val,J E 0])/\eH s.val/\dF (w.heap.size<=·) w' s.val t/\bD w w'/\Dm e (2*f) t:=by
 have r:=i.formed n o p O;have s:=l.formed n o p O;unfold jl at r s;simp only[bT] at r s;let ⟨t,u,v,x,y⟩:=c;let ⟨z,H,U,V,W⟩:=d;let ⟨Y,a0,a1,a2,a3⟩:=i;let ⟨a4,a5,a6,a7,a8⟩:=l;dsimp only at Y a0 a1 a2 a3 a4 a5 a6 a7 a8;have a9:t=((2*(8*e):Nat):Int):=O;have aa:u=((2*(8*f):Nat):Int):=O;have ab:z=((2*(8*e):Nat):Int):=O;have ac:H=((2*(8*f):Nat):Int):=O;have ad:2*(8*f)*(2*(8*e))=16*f*(16*e):=by rw[show 2*(8*f)=16*f by omega,show 2*(8*e)=16*e by omega]
 subst a9 aa ab ac;refine(uZ a.val b.val (8*e) (8*f) v x y U V W w g.1 h.1 g.2 h.2 r.1.1 s.1.1 O O O O (by rw[a1,ad]) a2 a3 (by rw[a6,ad]) a7 a8).mono ?_;rintro a9 w' ⟨aa,rfl,ab,ac,ae⟩;obtain⟨ag,rfl⟩:=ac.fv;refine⟨ag,_,rfl,ab,ac,ae,?_,?_,?_,?_,?_⟩
 ·show(((2*(8*e):Nat)):Int)=_;omega
 ·show(((4*(8*f):Nat)):Int)=_;omega
 ·show(gW v U (2*(8*e)) (2*(8*f))).length=_
  rw[nZ (h:=2*(8*f)) (by rw[a1,ad]) (by rw[a6,ad]) _ (aw _),show 2*(2*(8*e))=2*(16*e) by omega,<-nB];congr 1;omega
 ·show(gW x V (8*e) (8*f)).length=_
  rw[nZ (h:=8*f) a2 a7 _ (aw _),<-nB];congr 1;omega
 ·show(gW y W (8*e) (8*f)).length=_
  rw[nZ (h:=8*f) a3 a8 _ (aw _),<-nB];congr 1;omega
structure Kp(p:Nat->Prop)(w w':T):Prop where
 size:w.heap.size<=w'.heap.size
 blk:∀a,p a->a<w.heap.size->w'.heap[a]?=w.heap[a]?
section
variable {p:Nat->Prop} {w w1 w2 w':T}
def Kp.refl(p w):Kp p w w:=⟨aw _,fun _ _ _=>rfl⟩
def Kp.ext(a:Kp p w w1)(b:bD w1 w2):Kp p w w2:=⟨aY a.size b.size,fun c d e=>(b.block c (dX e a.size)).trans (a.blk c d e)⟩
instance {w w' x0 x1}:Tr w w' (Kp x0 x1 w) (Kp x0 x1 w'):=⟨fun hb h=>Kp.ext h hb⟩
def Kp.G(c:Kp p w w1){a b}(d:fO w1 w2 a b)(e:∀f,f<w.heap.size->p f->f≠a/\b≠M f):Kp p w w2:=
 ⟨aY c.size d.size,fun a b f=>(d.block a (dX f c.size) (e a f b).1 (e a f b).2).trans (c.blk a b f)⟩
def zL.kept{a b c}(d:zL p w a b c)(e:Kp p w w'){f}(g:∀h,h<w.heap.size->p h->f h):zL f w' a b c:=d.K e.size e.blk g
def dF.kept{a b}(c:dF p w a b)(d:Kp p w w'):dF p w' a b:=c.K d.blk
end
def pI.Afa{w h l a n f q b}(s:pI w l n q b)(r:fO w h a n.ownBlock)(c:a<l)(g:f.ownBlock=n.ownBlock\/∀u,f.ownBlock=M u->w.heap.size<=u){d e}(o:e.length=d.length)(p:jW h l 99 148 f (b++e))(t:∀(v:Nat)(i:eQ×Int)(x:Array aq),d[v]?=M i->e[v]?=M x->zL (iC f l) h x i.1 i.2):pI h l f (q++d) (b++e):=by
 have a:∀b,b<w.heap.size->iC n l b->iC f l b:=fun c d e=>⟨fun u=>by
  rcases g with b|b
  ·exact e.1 (D8 b u)
  ·have:=b c u;omega,e.2⟩
 have b:∀c,iC n l c->c<w.heap.size->h.heap[c]?=w.heap[c]?:=fun d e f=>r.block d f (dU e.2) e.1
 refine⟨p,by simp[s.len,o],fun c d e f g=>?_⟩
 by_cases h:c<q.length
 ·rw[bo h] at f
  rw[bo (eZ s.len h)] at g;exact(s.it c d e f g).K r.size b a
 ·rw[aU O] at f
  rw[aU (iJ s.len),s.len] at g;exact t _ d e f g
structure E7(f:T)(c d g:Nat)(e:Mk)(a b:FV)(h:Pc)(i:T):Prop where
 r:Bx i c 158 (cq a aC b)
 o:Bx i (c+1) 63 (au aC)
 bk:∃a,jY i d (e.lh a)
 ex:bD f i
 p:Bx i g 93 (gJ h)
def E7.ext{a b c d e f g h i l}(n:E7 a b c d e f g h i)(o:bD i l):E7 a b c d e f g h l:=
 ⟨n.r.ext o,n.o.ext o,let ⟨a,b⟩:=n.bk;⟨a,b.ext o⟩,n.ex.trans o,n.p.ext o⟩
instance {w w' x0 x1 x2 x3 x4 x5 x6 x7}:Tr w w' (E7 x0 x1 x2 x3 x4 x5 x6 x7 w) (E7 x0 x1 x2 x3 x4 x5 x6 x7 w'):=⟨fun hb h=>E7.ext h hb⟩
def E7.G0{a b c d e f g h i l n o p q}(r:E7 a b c d e f g ⟨h,i,l,n,o,p⟩ q){st}(s:b≠d)(t:b+1≠d)(u:c≠d)(v:a.heap.size<=d):E7 a b c d e f g ⟨h,st,l,n,o,p⟩ (q.setCell ⟨d,1,S⟩ (J E st)):=
 ⟨r.r.C s _,r.o.C t _,let ⟨a,b⟩:=r.bk;⟨a,b.j.C u _,b.ok⟩,r.ex.setCell v _,r.p.L 1 _⟩
def Vr(a b:FV):Array aq:=#[J E a.W,J E a.H,af a.ya a.yn a.yc,af a.ua a.un a.uc,af a.va a.vn a.vc,J E b.W,J E b.H,af b.ya b.yn b.yc,af b.ua b.un b.uc,af b.va b.vn b.vc]
def E7.Af1{a b c d e f g h i l n}(q:E7 a b c d e f g h i)(r:fO i l c n){v}(s:jY l c (e.lh v))(o:c<b)(p:c<d)(t:a.heap.size<=c)(u:∀w,n=M w->a.heap.size<=w/\w≠b/\w≠b+1/\w≠d):E7 a b c d e f g h l:=
 ⟨q.r.G r O (fun a=>(u _ a).2.1 rfl),q.o.G r O (fun b=>(u _ b).2.2.1 rfl),⟨v,s⟩,r.yG q.ex t (fun c d=>(u c d).1),q.p.G r O (fun e=>(u _ e).2.2.2 rfl)⟩
def E7.C{a b c d e f g h i}(r:E7 a b c d e f g h i){k}(l:c<k)(n:d<k)(o:b+1<k)(p:a.heap.size<=c)(q):E7 a b c d e f g h (i.setRow k q):=
 ⟨r.r.m O,r.o.m O,let ⟨a,b⟩:=r.bk;⟨a,b.j.m O,b.ok⟩,aO r.ex O,r.p.m O⟩
def E7.Aii{a b c d e f g h i}(q:E7 a b c d e f g h i)(l:c<b)(n:b+1<d)(o:a.heap.size<=c)(p):E7 a b c d e f p h (i.setRow b (cq f aC p)):=
 ⟨q.r.row _,q.o.m O,let ⟨a,b⟩:=q.bk;⟨a,b.j.m O,b.ok⟩,aO q.ex O,q.p.m O⟩
def Gk(a:Nat)(b c:FV):Array aq:=if a=0 then Vr b c else Vr c b
def Ae5{c}(a:c<2)(b):jH (Vr aC aC) (c*5) (au b)=Gk c b aC:=by
 have:c=0\/c=1:=O;rcases this with rfl|rfl<;> rfl
def Ae4{a b}(e:(a=0/\b=1)\/(a=1/\b=0))(c d):jH (Gk a c aC) (b*5) (au d)=Gk a c d:=by
 rcases e with⟨rfl,rfl⟩|⟨rfl,rfl⟩<;> rfl
def U3(a b c):(Gk a b c).size=10:=by unfold Gk;split<;> rfl
def Abg{b}(a:b<2)(c d):(Gk b c d).extract (b*5) (b*5+5)=au c/\b*5+5<=(Gk b c d).size:=by
 have:b=0\/b=1:=O;have a:=U3 b c d;rcases this with rfl|rfl<;> exact⟨rfl,by omega⟩
def fO.Abz{w w1 a k b}(d:fO w w1 a b)(c:w.heap.size<=k)(e f):fO w (w1.setCell ⟨k,e,S⟩ f) a b:=
 ⟨d.os,d.tape,d.output,by simpa[gS] using d.size,fun a b c g=>(Below.heap_setCell w1 ⟨k,e,S⟩ f a (by show a≠k;omega)).trans (d.block a b c g)⟩
def PI{n o p w a b f t d v1 vk}(e:p.eval a=ao t)(g:f.op=.assign (.const v1))(h:f.dst=M d)(i:f.guard=S)(c:t=av->p.put (M d) vk=p)(l:t=aB->vk=v1)(q:o .normal (p.put (M d) vk) w):(Code.cond a (Code.region b #[f] av) Code.skip).wp n o p w:=by
 cases t
 ·refine wp_cond_false e (wp_skip ?_)
  rw[<-c rfl];exact q
 ·refine wp_cond_true e (wp_region_list ?_)
  let ⟨a,b,c,e,r,guard⟩:=f;dsimp only at g h i;subst g h i;rw[l rfl] at q
  have a:cG n #[{dst:=M d,op:=.assign (.const v1),type:=c,pos:=e,after:=r,guard:=S}] o [{dst:=M d,op:=.assign (.const v1),type:=c,pos:=e,after:=r,guard:=S}] p w:=by
   simp[cG,go_sem];exact .inl q
  exact a
def U1(a b c d e f)(g:(b=1/\c=2)\/(b=2/\c=1)):nE ⟨a,b,d,e,av,f⟩ ⟨a,c,d,e,av,f⟩=aB:=by
 rcases g with⟨rfl,rfl⟩|⟨rfl,rfl⟩<;> simp[nE]
end
def QC(a2 a4:Nat)(a5:Mk)(H:List (eQ×Int))(U:List (Array aq))(a3 t Y x:Nat)(u:List (FV×Fr))(v:List Int)(a7:Int)(z:FV)(V:Fr)(a0:T)(hF:Gp a0 a5 a3 t Y u v)(a:v[x]?=M a7)(c:u[x]?=M (z,V))(d:a5.fl=aB)(W:FV)(w:Fr)(a1:T)(e:jY a1 a2 a5)(f:a2<a4)(h:a4<=a1.heap.size)(i:bD a0 a1)(l:a0.heap.size<=a2)(n:pI a1 a4 a5.it H U)(o:H.length<=90)
  (p:(a7=1/\W=aC)\/(a7=2/\Fv a1 W w/\Dm a3 t w/\dF (iC a5.it a4) a1 W.val w))(a6:Int)(q:a6=(x:Int)-a5.first)(r:0<=a6)(s:a6<=1023):
  aT aE 67 #[aD (M ⟨a2,0,S⟩),J E (x:Int),aG (cq W aC aC)] a1 (Pd a1 a2 a4 a5 H U a3 t Y V a7 a6):=by
 let ⟨a8,HIO,HF,a9⟩:=dq e n hF p;have aa:=(aP.1 a).1;have HBB:=aH (show a2<a4/\a4<=a1.heap.size/\H.length<=90/\a0.heap.size<=a2/\x<v.length/\v.length<=2 from⟨f,h,o,l,aa,hF.tx.n2⟩);have HGM:=aH e.j.lt;have ab:=aH i;let ⟨ac,ad,ae,ag,ah,ai⟩:=hF.ty;let ⟨bf,of_,cf,aj,al,am,ap⟩:=hF.fr
 have ar:=aH (show∀ax,bD a0 ax->ax.cell? ⟨ac,ad+x,S⟩=M (J E a7) from fun ay aV=>by
  have ax:=ai x a7 a;have ay:=dH a0 ⟨ac,ad+x,S⟩ ax;unfold mV at ax ⊢;rw[aV.block ac ay];exact ax)
 obtain⟨HRM,HRW,HSR⟩:=bh (show(u.map fun ax=>au ax.1)[x]?=M (au z) by rw[bN,c];rfl) am (show Fv a0 z V/\Dm a3 t V from⟨ap _ (bg c),hF.dm _ (bg c)⟩);have ax:=am.lt;have ay:=dH a0 ⟨ac,ad+x,S⟩ (ai x a7 a);let ⟨N,aV⟩:=aX v.length;have b0:=aH (show x<N/\N<=ae/\N<=cf by rw[aV];exact⟨aa,ah,by rw[<-hF.len];exact al⟩);rw[<-aV] at ag;rw[hF.len,<-aV] at aj;obtain⟨HTY,b1⟩:=aQ (bZ ag aj) (show Go.RowKit.wrap64 ((x:Int)-a5.first)=a6 by rw[<-q];exact kE _ O);let ⟨b2,b3⟩:∃b4:Pc,b4=⟨a7,3,a6,a5.top,av,a5.alt⟩:=⟨_,rfl⟩;let ⟨b4,HFL⟩:=aQ b3 d
 have b5:a5.s.B=aB:=by
  rcases hF.B with b6|⟨b6,_⟩
  ·exact b6
  ·rw[d] at b6;cases b6
 let ⟨b,b6⟩:∃b,t=2*b:=⟨t/2,by have b7:=hF.sq.B b5;have b8:=hF.sh;omega⟩;have HBb:=aH (show 1<=b/\b<=2/\t=2*b by have:=hF.B1;have:=hF.B2;omega);have b7:a7=1\/a7=2:=hF.tx.r a7 (bg a);have HTY2:=aH b7
 have HPX:=aH (show∀(b8:T)(b9:Int)(ba:Bool)(y bb:FV)(bc:Nat)(bd:Fr),bD a0 b8->(a7=2->Fv b8 W w)->(b9=1\/b9=2)->Fv b8 y (fw V bc)->((ba=av/\bb=aC)\/(ba=aB/\Fv b8 bb bd/\Dm a3 b bd))->JM a5.s ⟨a7,b9,a6,a5.top,av,a5.alt⟩ ba a3 t b Y y W bb (fw V bc) w bd b8 from fun b8 b9 ba y bb bc bd be bi bk bl bn=>by
  have br:=hF.dm _ (bg c);dsimp only at br;rw[b6] at br;refine⟨⟨hF.sq,⟨by show 1<=a7;omega,by show a7<=3;omega,by show 1<=b9;omega,by show b9<=3;omega,r,s⟩,.inl b5,fun _=>by show b9≠3;omega⟩,hF.a1,hF.a2,HBb.o.1,by have:=HBb.o.2.1;omega,hF.B2,hF.sw,hF.sh,.inr ⟨by show b9≠3;omega,b6⟩,hF.q1,hF.q2,bl,br.field bc,?_,bn,hF.gl.ext be⟩;exact p.imp id (fun⟨br,_,bs,_⟩=>⟨br,bi br,bs⟩))
 have HPC:=aH (show∀br:Int,br=1\/br=2->YC ⟨a7,br,a6,a5.top,av,a5.alt⟩ from fun bs bt=>⟨by show 1<=a7;omega,by show a7<=3;omega,by show 1<=bs;omega,by show bs<=3;omega,r,s⟩)
 have HRX:=aH (show∀br,fO a1 br a2 a5.it.ownBlock->a7=2->Fv br W w from fun bs bt bu=>by
  rcases p with⟨br,_⟩|⟨_,bs,_,bu⟩
  ·omega
  ·exact⟨(bu.kept ((Kp.refl _ _).G bt fun br _ bv=>⟨by have:=bv.2;omega,bv.1⟩)).mono (fun _ _ _=>trivial),bs.2⟩)
 have HFD:=aH (show∀br:Nat,br<=1->pE V (br:Int)=(fw V br,0) from fun bs bt=>by
  have br:=hF.dm _ (bg c);dsimp only at br;unfold pE;rw[if_pos (br.okF hF.a1 hF.a2 hF.B1 hF.B2 O)];rfl)
 let ⟨g,br,bs,bt,bu,bv,bx,bz,bC,bK,bL⟩:=Jo a1 (cq W aC aC) 158 (au aC) 63;clear b5 b6 b7 b3 e n hF p a c f h i l o ai am ap q r s d ag aj ah al aa aV;go_enter func67,ntmps67;go_upto_region 1 with fail
 try simp only[sZ,ak]
 refine mr bu ?_
 try simp only[dA]
 rw[<-bt];clear bu;have HGW:=aH bt;clear bt;obtain⟨a,c⟩:=aQ (show Bx bs g 158 (cq W aC aC)/\Bx bs (g+1) 63 (au aC)/\jY bs a2 a5/\bD a0 bs from⟨bK.o _ bz.o,bL.o _ bz.o,a8.o.ext (bC.o _ bz.o),ab.o.trans (bC.o _ bz.o)⟩) (bC.o _ bz.o);have lM:=a.o.2.2.1.j.lt;have d:=b0.o.1;refine aL 25 (fun e=>Bx e g 158 (cq W aC aC)/\Bx e (g+1) 63 (au aC)/\jY e a2 a5/\bD a0 e) rfl (fun f h=>?_);let ⟨e,i⟩:=di h a c;clear lM;refine gN 0 24 2 ?_;simp only[sZ,ak];iterate 3 (go_big_quiet_step (fail))
 refine lC a 28 13 a2 140 (af (M ⟨ac,ad,S⟩) N ae) (fun _ l=>(HTY.o.1▸l.2.2.1.t 5 rfl)) underlying28 ?_;simp only[sZ,ak];iterate 2 (go_big_quiet_step (fail))
 refine lC a 3 16 ac (ad+x) (J E a7) (fun _ l=>ar.o _ l.2.2.2) bJ ?_;simp only[sZ,ak];iterate 4 (go_big_quiet_step (fail))
 refine lC a 3 21 a2 153 (J E a5.first) (fun _ l=>l.2.2.1.t 18 rfl) bJ ?_;simp only[sZ,ak];iterate 5 (go_big_quiet_step (fail))
 refine lC a 4 27 a2 137 (ao a5.top) (fun _ l=>l.2.2.1.t 2 rfl) jD ?_;simp only[sZ,ak];iterate 4 (go_big_quiet_step (fail))
 refine lC a 4 32 a2 136 (ao a5.alt) (fun _ l=>l.2.2.1.t 1 rfl) jD ?_;refine ei rfl (aG (gJ b2)) (fun l=>iW (qs:=#[(0,J E a7),(1,J E 3),(2,J E (Go.RowKit.wrap64 ((x:Int)-a5.first))),(3,ao a5.top),(5,ao a5.alt)]) rfl dK (by rw[b1.o,b4.o];exact KF a7 3 a6 a5.top a5.alt l)) ?_;refine aN (fK 24 1 e fun l n=>?_);simp only[sZ,ak];let ⟨o,p⟩:=di n e i;clear n e i;go_wp2_with fail;let ⟨gp,e,i,n,q,r⟩:=mY l (gJ Hp) 93;let ⟨s,aa⟩:=di q o p;have HGP:=aH (show a1.heap.size+2<=gp by rw[i];have:=o.o.2.1.lt;have:=HGW.o;omega);refine tf n ?_;rw[<-i];clear n i q o p;refine fK 25 0 s fun i n=>?_
 simp only[sZ,ak];let ⟨o,p,q⟩:=gO n s aa r;clear n s aa r;refine bm rfl 93 (aI 7) (aI 34) rfl gp (gJ b2) rfl rfl q.o ja rfl (by simp[gJ,cJ]) ?_;obtain⟨n,r,s⟩:=bh (show Bx (i.setRow gp (gJ b2)) g 158 (cq W aC aC)/\Bx (i.setRow gp (gJ b2)) (g+1) 63 (au aC)/\(∃aa,jY (i.setRow gp (gJ b2)) a2 (a5.lh aa))/\bD a0 (i.setRow gp (gJ b2))/\Bx (i.setRow gp (gJ b2)) gp 93 (gJ b2) from⟨o.o.1.m (gC HGP.o HGW.o),o.o.2.1.m (gC HGP.o HGW.o),⟨a5.it,⟨o.o.2.2.1.j.m (gC HGP.o HGM.o),o.o.2.2.1.ok⟩⟩,aO o.o.2.2.2 (uL HGP.o HBB.o HGM.o),q.o.row _⟩) (show jY (i.setRow gp (gJ b2)) a2 a5 from⟨o.o.2.2.1.j.m (gC HGP.o HGM.o),o.o.2.2.1.ok⟩) (show bD a1 (i.setRow gp (gJ b2)) from aO p.o (dU HGP.o));clear o p q a;refine mn ⟨rfl,pX fun a o=>?_⟩;have p:=aH (show Bx a g 158 (cq W aC aC)/\Bx a (g+1) 63 (au aC)/\(∃q,jY a a2 (a5.lh q))/\bD a0 a/\Bx a gp 93 (gJ b2) from⟨n.o.1.ext o,n.o.2.1.ext o,(let ⟨aa,ag⟩:=n.o.2.2.1;⟨aa,ag.ext o⟩),n.o.2.2.2.1.trans o,n.o.2.2.2.2.ext o⟩);let ⟨q,aa⟩:=di o r s;clear o n r s
 try simp only[ak]
 have n:=q.o.t 0 (v:=ao a5.fl) rfl;rw[HFL.o] at n;have lM:=q.o.j.lt;go_upto_region 4 with fail;clear n lM;let ⟨gs,n⟩:=aX a.heap.size;obtain⟨o,r,s,ag⟩:=dq (show Bx (a.alloc (az #[J E 0,J E 0] 217)) a.heap.size 217 #[J E 0,J E 0] from Bx.new _ _ _) (show(aE.info? 217).map (·.size)=M (#[J E 1,J E 2]:Array aq).size by kernel_rfl) (show(#[J E 0,J E 0]:Array aq).size=(#[J E 1,J E 2]:Array aq).size from rfl) (show(#[J E 1,J E 2]:Array aq).all (·.oneCell')=aB by simp[cJ]);go_upto_region 6 with(refine bm rfl 217 (aI 8) (aI 52) rfl a.heap.size #[J E 1,J E 2] rfl rfl o.o r.o s.o ag.o ?_);let ⟨ah,ai⟩:=aX ((a.alloc (az #[J E 0,J E 0] 217)).setRow a.heap.size #[J E 1,J E 2]);have aj:bD a ah:=by rw[ai];exact aO (jd) (aw _)
 obtain⟨al,am⟩:=aQ (show Bx ah gs 217 #[J E 1,J E 2] by rw[ai,n];exact o.o.row _) (show E7 a0 g a2 gp a5 W aC ⟨a7,3,a6,a5.top,av,a5.alt⟩ ah from E7.ext ⟨p.o.1,p.o.2.1,p.o.2.2.1,p.o.2.2.2.1,by rw[<-b4.o];exact p.o.2.2.2.2⟩ aj);let ⟨ap,aV⟩:=di aj q aa;have HGS:=aH (show gp<gs/\a2<gs/\g+1<gs by have b3:=p.o.2.2.2.2.lt;have b5:=q.o.j.lt;have b6:=p.o.2.1.lt;rw[n];exact⟨b3,b5,b6⟩);rw[<-ai,<-n];clear ai n aj p q aa o r s ag
 obtain⟨k,k2,n⟩:∃k k2:Nat,(a5.top=aB/\k=0/\k2=1)\/(a5.top=av/\k=1/\k2=0):=by
  cases a5.top
  ·exact⟨1,0,.inr ⟨rfl,rfl,rfl⟩⟩
  ·exact⟨0,1,.inl ⟨rfl,rfl,rfl⟩⟩
 obtain⟨o,p,q⟩:=bh n (show(!a5.top)=av->J E (k:Int)=J E 0 from fun r=>by rcases n with⟨_,s,_⟩|⟨aa,_⟩;rw[s];rfl;rw[aa] at r;cases r) (show(!a5.top)=aB->J E (k:Int)=J E 1 from fun ag=>by rcases n with⟨ai,_⟩|⟨_,aj,_⟩;rw[ai] at ag;cases ag;rw[aj];rfl);have hk1:k<2:=O;have r:k2<2:=O;clear n;have n:=am.o.p.cell 3 (v:=ao a5.top) rfl;have s:=am.o.p.lt;go_upto_region 8 with(refine PI (t:= !a5.top) (d:=9) (v1:=J E 1) (vk:=J E (k:Int)) rfl rfl rfl rfl (fun aa=>by rw[p.o aa];rfl) (fun ag=>q.o ag) ?_);clear n s;simp only[sZ,ak];go_upto_region 9 with fail;let ⟨gf,n,s,aa,ag,ai⟩:=mY ah (Vr aC aC) 218;have HGF:=aH (show gs<gf by rw[s];exact al.o.lt);change Code.wp _ _ _ _ (ah.alloc (az (Vr aC aC) 218))
 try simp only[dA]
 rw[<-aa,<-s];clear aa s;let ⟨s,aa,aj,b3⟩:=nj ag am ap al aV;clear ag
 obtain⟨st1,st2,ag⟩:∃st1 st2:Int,(k=0/\k2=1/\st1=1/\st2=2)\/(k=1/\k2=0/\st1=2/\st2=1):=by
  rcases o.o with⟨_,b5,b6⟩|⟨_,b5,b6⟩
  ·exact⟨1,2,.inl ⟨b5,b6,rfl,rfl⟩⟩
  ·exact⟨2,1,.inr ⟨b5,b6,rfl,rfl⟩⟩
 have HST:=aH ag
 have HCS:=aH (show∀o,Bx o gs 217 #[J E 1,J E 2]->o.cell? ⟨gs,k,S⟩=M (J E st1)/\o.cell? ⟨gs,k2,S⟩=M (J E st2) from fun b5 b6=>by
  rcases ag with⟨o,b5,b7,bt⟩|⟨o,b5,b7,bt⟩<;> subst o b5 b7 bt<;> exact⟨b6.cell _ rfl,b6.cell _ rfl⟩)
 clear ag;let ⟨o,_⟩:=HCS.o n aj.o;have ag:=s.o.p.cell 1 (v:=J E 3) rfl;have b5:=s.o.p.frozen 1;have b6:=s.o.p.lt;go_upto_region 10 with fail;clear o ag b5 b6;obtain⟨o,ag,b5,b6,b7⟩:=dZ (s.o.G0 (st:=st1) (gC HGP.o HGW.o) (gC HGP.o HGW.o) (gC HGP.o HGM.o) (uL HGP.o HBB.o HGM.o)) (show jY (n.setCell ⟨gp,1,S⟩ (J E st1)) a2 a5 from⟨aa.o.j.C (by show a2≠gp;have:=HGP.o;have:=HGM.o;omega) _,aa.o.ok⟩) (show bD a1 (n.setCell ⟨gp,1,S⟩ (J E st1)) from b3.o.setCell (by show a1.heap.size<=gp;have:=HGP.o;omega) _) (aj.o.C (a:=⟨gp,1,S⟩) (by show gs≠gp;have:=HGS.o;omega) (J E st1)) (ai.o.C (a:=⟨gp,1,S⟩) (by show gf≠gp;have:=HGS.o;have:=HGF.o;omega) (J E st1));clear s aa b3 aj ai;generalize n.setCell ⟨gp,1,S⟩ (J E st1)=s at*
 have lM:=ag.o.j.lt;have a:=b0.o.1;refine aL 18 (E7 a0 g a2 gp a5 W aC ⟨a7,st1,a6,a5.top,av,a5.alt⟩) rfl (fun a c=>?_);have HDD:=o;let ⟨a,d,e,f,h⟩:=tN c o ag b6 b7 b5;clear c o ag b6 b7 b5;refine gN 0 11 8 ?_;simp only[sZ,ak];iterate 2 (go_big_quiet_step (fail))
 refine lR HDD 93 7 gp 0 6 (gJ ⟨a7,st1,a6,a5.top,av,a5.alt⟩) (fun _ c=>qg c.p rfl) zV ja ?_;simp only[sZ,ak];iterate 3 (go_big_quiet_step (fail))
 refine lC HDD 27 65 a2 139 (af (M ⟨bf,of_,S⟩) N cf) (fun _ c=>(let ⟨i,l⟩:=c.bk;HTY.o.2▸l.t 4 rfl)) oa ?_;simp only[sZ,ak];iterate 2 (go_big_quiet_step (fail))
 refine s7 rfl 63 (aI 68) rfl bf (of_+x*5) 5 rfl (au z) _ (fun c i=>by obtain⟨l,rfl⟩:=i;exact(HRW.o.ext (iQ (C:=E7 a0 g a2 gp a5 W aC ⟨a7,st1,a6,a5.top,av,a5.alt⟩) HDD.o l).ex).row HRM.o) rfl db bM ?_;simp only[sZ,ak];go_big_quiet_step (fail);refine aN (gN 15 1 7 ?_);simp only[sZ,ak];refine lR HDD 158 5 g 0 15 (cq W aC aC) (fun _ c=>qg c.r rfl) Kg kK ?_;refine aN (fK 11 6 a fun c i=>?_);simp only[sZ,ak];let ⟨l,n,o,p,q⟩:=tN i a d e f h;clear i a d e f h;go_wp2_with fail;have a:=mP z.val V (k:Int) c (HSR.o.1.ext l.o.ex).1 (HSR.o.1.ext l.o.ex).2;rw[HFD.o k O] at a;refine a.mono ?_;clear a;rintro a c d;obtain⟨y,rfl,a,c⟩:=d.fx;have e:=aH a;clear a d;let ⟨a,d,f,h,i⟩:=tN c l n o p q;clear c l n o p q;go_wp2_with fail;refine gT 12 2 4 ?_;refine fK 14 3 a fun c l=>?_
 simp only[sZ,ak];let ⟨n,o,p,q,r,s⟩:=rM l a d f h i e;clear l a d f h i e;go_wp2_with fail;refine mR (iR y c) fun a d=>?_
 let ⟨a,c,e,f,h,i⟩:=rM d n o p q r s;clear d n o p q r s;go_wp2_with fail;refine fK 16 2 a fun wpf d=>?_
 simp only[sZ,ak];let ⟨HDpf,HMpf,HTpf,HFpf,HEpf,HYpf⟩:=rM d a c e f h i;clear d a c e f h i;go_wp2_with fail;obtain⟨a,c,d⟩:=bh (show∀e,a5.it.ownBlock=M e->a4<=e/\e<a1.heap.size from fun f h=>HIO.o.ow.gQ h) (show fO a1 wpf a2 a5.it.ownBlock from fO.bS a2 _ HEpf.o) (show g+1<gp/\gp<gs/\gs<gf/\gf<wpf.heap.size/\a2<g/\g=a1.heap.size/\a0.heap.size<=a2/\a2<a4/\a4<=g from⟨by have:=HGP.o;have:=HGW.o;omega,HGS.o.1,HGF.o,HFpf.o.lt,by have:=HGM.o;have:=HGW.o;omega,HGW.o,HBB.o.2.2.2.1,HBB.o.1,by have:=HGW.o;have:=HBB.o.2.1;omega⟩);have e:(st1=1\/st1=2)/\(st2=1\/st2=2):=by rcases HST.o with f|f<;> omega
 have f:=aH e;clear e lM;refine(zi a2 a4 a5 H U ⟨a7,st1,a6,a5.top,av,a5.alt⟩ (HPC.o st1 f.o.1) av Y a3 b HBb.o.1 (dU HBb.o.2.1) y W aC aC (fw V k) wpf HMpf.o HBB.o.1 (gC HEpf.o.size HBB.o) (HIO.o.ext HEpf.o) (dU HBB.o) (fun e h=>by rw[HF.o.mq];exact BY (HPX.o e st1 av y aC k V (HDpf.o.ex.trans h) (HRX.o e (c.o.ext h)) f.o.1 (HYpf.o.ext h) (.inl ⟨rfl,rfl⟩)))).mono ?_;rintro e h ⟨i,l,n,o,p,rfl,q,r,s,a8,a9,aa,ab,ac,ad,ae⟩;let ⟨ag,ah⟩:=aX wpf.heap.size;rw[<-ah] at q aa ae;obtain⟨ai,aj,al⟩:=bh (show gf<ag/\a1.heap.size<=ag/\ag<=h.heap.size from⟨by rw[ah];exact d.o.2.2.2.1,by rw[ah];exact HEpf.o.size,by rw[ah];exact ad.size⟩) (bZ q aa) (bZ r (bZ s (bZ ab ac)))
 have am:=aH (show∀ap,n.ownBlock=M ap->(a5.it.ownBlock=M ap/\a4<=ap/\ap<a1.heap.size)\/ag<=ap from fun ar ax=>by
  rcases ae with ap|ap
  ·have ay:=ap.symm.trans ax;exact .inl ⟨ay,a.o ar ay⟩
  ·exact .inr (ap ar ax))
 obtain⟨ap,ar⟩:=aQ (show n.ownBlock=a5.it.ownBlock\/∀ax,n.ownBlock=M ax->a1.heap.size<=ax from ae.imp id (fun ay aV b0=>aY ai.o.2.1 (ay aV b0))) (show∀b1,a5.it.ownBlock=M b1->a0.heap.size<=b1/\b1≠g/\b1≠g+1/\b1≠gp from fun b2 b3=>by have:=a.o b2 b3;have:=d.o;omega);obtain⟨ax,ay,aV,b0,b1,b2⟩:=ej (HDpf.o.Af1 ad a8 d.o.2.2.2.2.1 (dU d.o) d.o.2.2.2.2.2.2.1 ar.o) a8 (HTpf.o.G ad (dU d.o) (fun b3=>by have:=a.o _ b3;have:=d.o;omega)) (HFpf.o.G ad (dU d.o) (fun b4=>by have:=a.o _ b4;have:=d.o;omega)) (show fO a1 h a2 a5.it.ownBlock from(fO.bS a2 S HEpf.o).join ad) a9;have b3:=aH (Kp.refl (fun b4=>ag<=b4/\n.ownBlock≠M b4) h);clear q aa r s ab ac ae a8 a9 ad ah HDpf HMpf HTpf HFpf HEpf HYpf c HDD;go_wp2_with fail;refine gT 17 1 1 ?_;refine fK 18 0 ax fun wr c=>?_
 simp only[sZ,ak];let ⟨q,r,s,a8,a9,aa⟩:=rM c ax ay aV b0 b1 b2;have ab:=mX c b3;clear c ax ay aV b0 b1 b2 b3;refine cD rfl 63 (aI 77) (aI 76) rfl gf (k*5) (au i) rfl rfl _ _ (Gk k i aC) a8.o (Ae5 hk1 i) bM (by rw[fA];show k*5+5<=10;omega) (FV.one i) ?_;have c:fO wr (wr.setRow gf (Gk k i aC)) gf S:=(fO.refl _ _ _).Bb _;obtain⟨ac,ad,ae,ah,ax,ay⟩:=ej (q.o.C (k:=gf) (dU d.o) (dU d.o) (dU d.o) d.o.2.2.2.2.2.2.1 (Gk k i aC)) (show jY (wr.setRow gf (Gk k i aC)) a2 (a5.lh n) from⟨r.o.j.m (dU d.o),r.o.ok⟩) (s.o.G c (dU d.o) dS) (a8.o.row (Gk k i aC)) (a9.o.G5 (k:=gf) (dU d.o) (Gk k i aC)) (aa.o.G c (fun aV=>by have:=am.o _ aV;have:=d.o;have:=ai.o;omega));have aV:=aH (ab.o.G c (fun b0 _ b1=>⟨by have:=b1.1;have:=ai.o;omega,by simp⟩));clear c;refine mn ⟨rfl,pX fun c b0=>?_⟩;let ⟨b1,b2,b3,b4,b5,b6⟩:=rM b0 ac ad ae ah ax ay;have b7:=mX b0 aV;clear b0 ac ad ae ah ax ay aV
 try simp only[ak]
 obtain⟨ac,ad,ae,ah⟩:=dq (Abg hk1 i aC) (show(aE.info? 63).map (·.size)=M (au i).size from bM) (show jH (cq W aC aC) 10 (au i)=cq W aC i from rfl) (show 10+(au i).size<=(cq W aC aC).size from aw 15);go_upto_region 12 with(first|(refine lS 63 79 gf (k*5) b4.o ac.o.1 ac.o.2 ?_)|(refine cD dW 63 (aI 81) (aI 80) rfl g 10 (au i) rfl rfl _ _ (cq W aC i) b1.o.r ae.o ad.o ah.o (FV.one i) ?_));have ax:fO c (c.setRow g (cq W aC i)) g S:=(fO.refl _ _ _).Bb _;obtain⟨ay,aV,b0,b8,b9,ba⟩:=ej (b1.o.Aii (dU d.o) d.o.1 d.o.2.2.2.2.2.2.1 i) (show jY (c.setRow g (cq W aC i)) a2 (a5.lh n) from⟨b2.o.j.m (dU d.o),b2.o.ok⟩) (b3.o.G ax (dU d.o) dS) (b4.o.G ax (dU d.o) dS) (b5.o.G5 (k:=g) (dU d.o) (cq W aC i)) (b6.o.G ax (fun bb=>by have:=am.o _ bb;have:=d.o;have:=ai.o;omega));have bb:=aH (b7.o.G ax (fun bc _ bd=>⟨by have:=bd.1;have:=ai.o;have:=d.o;omega,by simp⟩));clear ax;generalize c.setRow g (cq W aC i)=ax at*
 have bc:=aH (show 1-(k:Int)=(k2:Int) by rcases HST.o with bd|bd<;> omega);have bd:E.wrap (1-(k:Int))=(k2:Int):=by rw[show 1-(k:Int)=(k2:Int) by rcases HST.o with be|be<;> omega];exact an _ O
 let ⟨_,be⟩:=HCS.o ax b0.o;have bi:=ay.o.p.cell 1 (v:=J E st1) rfl;have bk:=ay.o.p.frozen 1;have bl:=ay.o.p.lt;go_upto_region 13 with fail;clear be bi bk bl bd;have bd:=aH (ay.o.G0 (st:=st2) (dU d.o) (dU d.o) (dU d.o) (dU d.o));have be:fO ax (ax.setCell ⟨gp,1,S⟩ (J E st2)) gp S:=(fO.refl ax gp S).set (a:=⟨gp,1,S⟩) (.inl rfl) _;obtain⟨bi,bk,bl,bn,br⟩:=dZ (show jY (ax.setCell ⟨gp,1,S⟩ (J E st2)) a2 (a5.lh n) from⟨aV.o.j.G be (dU d.o) dS,aV.o.ok⟩) (b8.o.G be (dU d.o) dS) (b9.o.Abz (k:=gp) (dU d.o) 1 (J E st2)) (ba.o.G be (fun bs=>by have:=am.o _ bs;have:=d.o;have:=ai.o;omega)) (bb.o.G be (fun bt _ bu=>⟨by have:=bu.1;have:=ai.o;have:=d.o;omega,by simp⟩));clear be;generalize ax.setCell ⟨gp,1,S⟩ (J E st2)=be at*
 have lM:=bi.o.j.lt;refine aL 20 (E7 a0 g a2 gp a5 W i ⟨a7,st2,a6,a5.top,av,a5.alt⟩) rfl (fun a c=>?_);have HDD:=bd;let ⟨a,e,q,r,s,t⟩:=rM c bd bi bk bl bn br;clear c bd bi bk bl bn br;refine gN 0 13 8 ?_;simp only[sZ,ak];iterate 3 (go_big_quiet_step (fail))
 refine lR HDD 93 7 gp 0 6 (gJ ⟨a7,st2,a6,a5.top,av,a5.alt⟩) (fun _ c=>qg c.p rfl) zV ja ?_;simp only[sZ,ak];iterate 3 (go_big_quiet_step (fail))
 refine lC HDD 27 93 a2 139 (af (M ⟨bf,of_,S⟩) N cf) (fun _ c=>(let ⟨u,v⟩:=c.bk;HTY.o.2▸v.t 4 rfl)) oa ?_;simp only[sZ,ak];iterate 2 (go_big_quiet_step (fail))
 refine s7 rfl 63 (aI 96) rfl bf (of_+x*5) 5 rfl (au z) _ (fun c u=>by obtain⟨v,rfl⟩:=u;exact(HRW.o.ext (iQ (C:=E7 a0 g a2 gp a5 W i ⟨a7,st2,a6,a5.top,av,a5.alt⟩) HDD.o v).ex).row HRM.o) rfl db bM ?_;simp only[sZ,ak];iterate 2 (go_big_quiet_step (fail))
 refine aN ?_;rw[bc.o];refine gN 17 1 7 ?_;simp only[sZ,ak];refine lR HDD 158 5 g 0 15 (cq W aC i) (fun _ c=>qg c.r rfl) Kg kK ?_;refine aN (fK 13 6 a fun c u=>?_);simp only[sZ,ak];let ⟨v,w,x,a8,a9,aa⟩:=rM u a e q r s t;clear u a e q r s t;go_wp2_with fail;have a:=mP z.val V (k2:Int) c (HSR.o.1.ext v.o.ex).1 (HSR.o.1.ext v.o.ex).2;rw[HFD.o k2 O] at a;refine a.mono ?_;clear a;rintro a c e;obtain⟨y,rfl,a,c⟩:=e.fx;have q:=aH a;clear a e;let ⟨a,e,r,s,t,u⟩:=rM c v w x a8 a9 aa;clear c v w x a8 a9 aa;go_wp2_with fail;refine gT 14 2 4 ?_;refine fK 16 3 a fun c v=>?_
 simp only[sZ,ak];let ⟨w,x,z,a8,a9,aa⟩:=rM v a e r s t u;have ab:=mX v q;clear v a e r s t u q;go_wp2_with fail;refine mR (iR y c) fun a e=>?_
 let ⟨a,c,q,r,s,t⟩:=rM e w x z a8 a9 aa;have u:=mX e ab;clear e w x z a8 a9 aa ab;go_wp2_with fail;refine fK 18 2 a fun e v=>?_
 simp only[sZ,ak];let ⟨w,x,z,a8,a9,aa⟩:=rM v a c q r s t;have ab:=mX v u;clear v a c q r s t u;go_wp2_with fail;have a:=aH (show ag<=e.heap.size from aY ai.o.2.2 aa.o.size);clear lM
 refine(zi a2 a4 (a5.lh n) (H++[(eQ.qh (⟨a7,st1,a6,a5.top,av,a5.alt⟩:Pc) o,(0:Int))]) (U++[p]) ⟨a7,st2,a6,a5.top,av,a5.alt⟩ (HPC.o st2 f.o.2) aB Y a3 b HBb.o.1 (dU HBb.o.2.1) y W aC i (fw V k2) e x.o HBB.o.1 (gC a8.o.size HBB.o)
  (HIO.o.join a8.o HBB.o.1 ap.o (i:=(eQ.qh (⟨a7,st1,a6,a5.top,av,a5.alt⟩:Pc) o,(0:Int))) a9.o (aj.o.2.kept aa.o (fun c _ q=>⟨q.2,by have:=q.1;have:=d.o;have:=ai.o;omega⟩)))
  (by rw[aJ];have:=HBB.o;simp only[cW];omega)
  (fun c q=>by
   rw[show(a5.lh n).q=(Y:Int) from HF.o.mq];exact BY (HPX.o c st2 aB y i k2 l (w.o.ex.trans q) (HRX.o c (a8.o.ext q)) f.o.2 (ab.o.ext q) (.inr ⟨rfl,⟨((aj.o.1.kept aa.o).ext q).mono (fun _ _ _=>trivial),al.o.1⟩,al.o.2.1⟩)))).mono ?_
 rintro c f ⟨q,r,s,t,u,rfl,v,H,U,V,W,Y,ac,ad,ae,ah⟩;let ⟨c,ar⟩:=aX e.heap.size;rw[<-ar] at v Y ah a;obtain⟨e,ax,ay⟩:=bh (show c<=f.heap.size by rw[ar];exact ae.size) (bZ v Y) (bZ H (bZ U (bZ ac ad)))
 have aV:=aH (show∀b0,s.ownBlock=M b0->(a5.it.ownBlock=M b0/\a4<=b0/\b0<a1.heap.size)\/ag<=b0 from fun b1 b2=>by
  rcases ah with b0|b0
  ·exact am.o b1 (b0.symm.trans b2)
  ·exact .inr (aY a.o (b0 b1 b2)))
 have b0:=aH (show s.ownBlock=a5.it.ownBlock\/∀b1,s.ownBlock=M b1->a1.heap.size<=b1 from by
  rcases ah with b1|b1
  ·exact ap.o.imp (fun b2=>b1.trans b2) (fun b3 b4 b5=>b3 b4 (b1.symm.trans b5))
  ·exact .inr fun ap b2=>aY ai.o.2.1 (aY a.o (b1 ap b2)))
 have ap:=aH (show∀b1,ag<=b1->b1<c->n.ownBlock≠M b1->s.ownBlock≠M b1 from fun b2 _ b3 b4 b5=>by
  rcases ah with b1|b1
  ·exact b4 (b1.symm.trans b5)
  ·have:=b1 b2 b5;omega)
 have b1:∀b2,n.ownBlock=M b2->a0.heap.size<=b2/\b2≠g/\b2≠g+1/\b2≠gp:=fun b3 b4=>by
  have a0:=d.o;have a0:=ai.o;rcases am.o b3 b4 with a0|a0<;> omega
 obtain⟨a0,b2,b3⟩:=bh (w.o.Af1 ae (v:=s) V d.o.2.2.2.2.1 (dU d.o) d.o.2.2.2.2.2.2.1 b1) (show jY f a2 (a5.lh s) from V) (z.o.G ae (dU d.o) (fun b4=>by have:=am.o _ b4;have:=d.o;have:=ai.o;omega))
 have b4:=aH (show fO a1 f a2 a5.it.ownBlock from a8.o.trans ae (fun b5 b6 b7 b8=>by
  rcases am.o b5 b8 with a1|a1
  ·exact b7 a1.1
  ·have:=ai.o;omega))
 obtain⟨a1,am,b5,b6⟩:=dq W (aa.o.G ae (fun b7 _ b8=>⟨by have:=b8.1;have:=d.o;have:=ai.o;omega,b8.2⟩)) (Kp.refl (fun b9=>c<=b9/\s.ownBlock≠M b9) f) (show h.heap.size<=c by rw[ar];exact aa.o.size);clear b1 v Y H U ac ad ah V W ae ar w x z a8 a9 aa ab HDD;go_wp2_with fail;refine gT 19 1 1 ?_;refine fK 20 0 a0 fun v w=>?_
 simp only[sZ,ak];let ⟨x,z,H,U,V,W⟩:=rM w a0 b2 b3 b4 a1 am;have Y:=mX w b5;clear w a0 b2 b3 b4 a1 am b5;refine cD rfl 63 (aI 106) (aI 105) rfl gf (k2*5) (au q) rfl rfl _ _ (Gk k i q) H.o (Ae4 (by rcases HST.o with w|w<;> omega) i q) bM (by rw[fA,U3];omega) (FV.one q) ?_;have w:fO v (v.setRow gf (Gk k i q)) gf S:=(fO.refl _ _ _).Bb _;obtain⟨a0,a1,a8,a9,aa,ab⟩:=ej (x.o.C (k:=gf) (dU d.o) (dU d.o) (dU d.o) d.o.2.2.2.2.2.2.1 (Gk k i q)) (show jY (v.setRow gf (Gk k i q)) a2 (a5.lh s) from⟨z.o.j.m (dU d.o),z.o.ok⟩) (H.o.row (Gk k i q)) (U.o.G5 (k:=gf) (dU d.o) (Gk k i q)) (V.o.G w (fun ac=>by have:=aV.o _ ac;have:=d.o;have:=ai.o;omega)) (W.o.G w (fun ad _ ae=>⟨by have:=ae.1;have:=ai.o;omega,by simp⟩));have v:=aH (Y.o.G w (fun x _ z=>⟨by have:=z.1;have:=ai.o;have:=a.o;omega,by simp⟩));clear w;refine mn ⟨rfl,pX fun w x=>?_⟩;let ⟨z,H,U,V,W,Y⟩:=rM x a0 a1 a8 a9 aa ab;have a2:=mX x v;clear x a0 a1 a8 a9 aa ab v
 try simp only[ak]
 obtain⟨v,x,a0,a1,a8,a9,aa,ab⟩:∃(ac ad:FV)(ae ah:Fr),Gk k i q=Vr ac ad/\(∀am,Kp (fun ar=>ag<=ar/\n.ownBlock≠M ar) h am->Kp (fun b1=>c<=b1/\s.ownBlock≠M b1) f am->Fv am ac ae/\Fv am ad ah)/\Dm a3 b ae/\Dm a3 b ah:=by
  have a0:∀a1,Kp (fun a3=>ag<=a3/\n.ownBlock≠M a3) h a1->Kp (fun ac=>c<=ac/\s.ownBlock≠M ac) f a1->Fv a1 i l/\Fv a1 q r:=fun ad ae ah=>⟨⟨(aj.o.1.kept ae).mono (fun _ _ _=>trivial),al.o.1⟩,⟨(ax.o.1.kept ah).mono (fun _ _ _=>trivial),ay.o.1⟩⟩
  by_cases c:k=0
  ·exact⟨i,q,l,r,by unfold Gk;rw[if_pos c],a0,al.o.2.1,ay.o.2.1⟩
  ·exact⟨q,i,r,l,by unfold Gk;rw[if_neg c],fun f h n=>(a0 f h n).symm,ay.o.2.1,al.o.2.1⟩
 rw[a8] at U;obtain⟨c,f,h⟩:=bh (show(Vr v x).extract 0 (0+5)=au v/\0+5<=(Vr v x).size from⟨rfl,show 0+5<=10 by decide⟩) (show(Vr v x).extract 5 (5+5)=au x/\5+5<=(Vr v x).size from⟨rfl,show 5+5<=10 by decide⟩) (fun i l n=>S2 (w:=i) (a9 i l n).1 (a9 i l n).2 aa ab HF.o.a1 HF.o.a2 HBb.o.1 HBb.o.2.1);clear a8 a9 aa ab;have i:=aH (show∀l,s.ownBlock=M l->l<w.heap.size from fun n q=>(W.o.gQ q).2);have l:=aH d.o;have n:=aH (show g+1<w.heap.size from dX (dU4 d.o ai.o a.o e.o) a2.o.size);go_wp2_with (first|(refine lS 63 107 gf 0 U.o c.o.1 c.o.2 ?_)|(refine lS 63 109 gf 5 U.o f.o.1 f.o.2 ?_));refine(h.o w Y.o a2.o).mono ?_;rintro c f ⟨h,q,rfl,r,v,w,x⟩;obtain⟨c,U⟩:=aQ (bZ r x) v;let ⟨a0,a1,a3,a8,a9,aa⟩:=rM w z H V W Y a2;clear r x v;go_wp2_with fail;refine mR (iR h f) fun r v=>?_
 let ⟨f,w,x,z,H,V⟩:=rM v U a0 a1 a3 a8 a9;have U:=mX v aa;clear v a0 a1 a3 a8 a9 aa;have v:=aH (show(au aC).size=5 from rfl);go_wp2_with (refine bI dW (aI 6) (aI 114) rfl (g+1) h rfl rfl w.o.o v.o ?_);have v:fO r (r.setRow (g+1) (au h)) (g+1) S:=(fO.refl _ _ _).Bb _;have r:=n.o;refine rR results67 (w.o.o.row _) db bM ?_;have n:∀r,ag<=r->s.ownBlock≠M r->iC s a4 r:=fun w W Y=>⟨Y,by have:=d.o;have:=ai.o;omega⟩
 refine⟨h,q,s,[(eQ.qh (⟨a7,st1,a6,a5.top,av,a5.alt⟩:Pc) o,(0:Int)),(eQ.qh (⟨a7,st2,a6,a5.top,av,a5.alt⟩:Pc) t,(0:Int))],[p,u],rfl,?_,c.o.1,by rw[HBb.o.2.2];exact c.o.2,⟨x.o.j.G v (dU d.o) dS,x.o.ok⟩,?_,?_,z.o.G5 (dU d.o) _,b0.o⟩
 ·exact(f.o.G v (fun c h=>by omega)).mono fun p _ q=>⟨fun r=>by have:=i.o p r;omega,by have:=d.o;have:=ai.o;have:=a.o;have:=e.o;have:=l.o;omega⟩
 ·refine HIO.o.Afa (z.o.G5 (k:=g+1) (dU d.o) _) d.o.2.2.2.2.2.2.2.1 b0.o rfl ?_ ?_
  ·have:=H.o.G v (fun c=>by have:=aV.o _ c;have:=d.o;have:=ai.o;omega)
   rw[aW] at this;exact this
  ·intro c e f h i
   have e:c=0\/c=1:=by have:=(aP.1 h).1;simp only[eu,eK] at this;omega
   rcases e with rfl|rfl
   ·simp only[fF,bq] at h i
    subst h i;refine aj.o.2.kept (V.o.G v (fun c _ e=>⟨by have:=e.1;have:=d.o;have:=ai.o;omega,by simp⟩)) (fun f l p=>n f p.1 ?_);have c:=b6.o;exact ap.o f p.1 O p.2
   ·simp only[qb,fF,bq] at h i
    subst h i;exact ax.o.2.kept (U.o.G v (fun c _ e=>⟨by have:=e.1;have:=d.o;have:=ai.o;have:=a.o;omega,by simp⟩)) (fun f h i=>n f (uL i.1 a.o ai.o) i.2)
 ·have a:=U1 a7 st1 st2 a6 a5.top a5.alt (by rcases HST.o with c|c<;> omega)
  have c:a7≠3:=by rcases HTY2.o with d|d<;> omega
  have d:b<=4:=by have:=HBb.o.2.1;omega
  refine⟨.two a rfl c,fun e f=>?_,fun e f=>?_,fun h=>by rw[HFL.o] at h;cases h⟩
  ·rcases oU.1 f with rfl|a
   ·rfl
   ·rw[dJ.1 a]
  ·rcases oU.1 f with rfl|a
   ·exact⟨_,o,rfl,by rw[al.o.2.2.1];exact d,al.o.2.2.2.x⟩
   ·rw[dJ.1 a];exact⟨_,t,rfl,by rw[ay.o.2.2.1];exact d,ay.o.2.2.2.x⟩
def OM:Abq:=by
 intro a b c d e f g h i l n o p q r hF s t u v w x y z H U V W Y a0 a1 a2 a3;cases hfl:c.fl
 ·exact QB a b c d e f g h i l n o p q r hF s t hfl u v w x y z H U V W (Y.imp id fun⟨a4,a5,a6,_⟩=>⟨a4,a5,a6⟩) a0 a1 a2 a3
 ·exact QC a b c d e f g h i l n o p q r hF s t hfl u v w x y z H U V W Y a0 a1 a2 a3
def jt:Sq:={w:=16,h:=16,num:=25,den:=1,B:=false,br:=100000,bu:=100000,X:=aF 64 16,R:=aF 64 16}
def O8(a b:Nat)(c:Bool):Array aq:=#[J E 8,J E 0,J E 0,J E 0,J E 0,J E 0,J E 0,J E 0,aD (M ⟨a,0,S⟩),J E 1,J E 3,ao av,ao av,aD (M ⟨b,0,S⟩),ao c]
def mI1:Mb:={iA with kind:=1}
def mI:Mb:={iA with kind:=1,P:=true6}
def Tk:mI1.A:=⟨rfl,rfl,rfl,rfl,bp⟩
def oN:mI.A:=⟨rfl,rfl,rfl,rfl,bp⟩
def Xf:iA.cells.setIfInBounds 0 (J E 1)=mI1.cells:=dK
def Aay:jH mI1.cells 18 (oI true6)=mI.cells:=dK
def TM:(aE.info? 276).map (·.size)=M 6:=dK
structure sD(c:T)(e a f:Nat)(b:Bool)(d:Mb):Prop where
 j:Bx c e 356 (O8 a f b)
 mx:Mx c f d
 ne:e≠f
def sD.ext{a b c d e f g}(h:sD a c d e f g)(i:bD a b):sD b c d e f g:=⟨h.j.ext i,h.mx.ext i,h.ne⟩
instance {w w' x1 x2 x3 x4 x5}:Tr w w' (sD w x1 x2 x3 x4 x5) (sD w' x1 x2 x3 x4 x5):=⟨fun hb h=>sD.ext h hb⟩
def sD.ud{a b c d e f g G}(h:sD a c d e f g)(i:Ud a b G)(l:¬G c)(n:¬G e):sD b c d e f g:=⟨h.j.ud i l,⟨h.mx.j.ud i n,h.mx.ok⟩,h.ne⟩
def Sg(e b c:Nat)(d:T)(a:sD d e b c av iA):
  aT aE 257 #[aD (M ⟨e,0,S⟩)] d fun f g=>f=aK (fE #[])/\sD g e b c aB mI/\Ud d g (fun h=>h=e\/h=c):=by
 have f:=aH a;have g:=a.j.cell 13 (v:=aD (M ⟨c,0,S⟩)) rfl;have h:d.cell? ⟨c,0,S⟩=M (J E 0):=a.mx.c0;have i:=a.mx.j.frozen 0;have l:=a.mx.lt;have n:=a.j.lt;go_enter func257,ntmps257;go_upto_region 1 with fail;obtain⟨o,p⟩:=aQ (show Ud d (d.setCell ⟨c,0,S⟩ (J E 1)) (fun q=>q=e\/q=c) from(Ud.refl _ _).set (a:=⟨c,0,S⟩) (.inr rfl) _) (show sD (d.setCell ⟨c,0,S⟩ (J E 1)) e b c av mI1 from⟨f.o.j.C f.o.ne _,⟨by rw[<-Xf];exact f.o.mx.j.L 0 _,Tk⟩,f.o.ne⟩);generalize d.setCell ⟨c,0,S⟩ (J E 1)=q at*
 clear h;refine aL 7 (fun a=>sD a e b c av mI1) rfl (fun f g=>?_);have a:=p;have f:=mX g p;have h:=aH (o.o.trans (Ud.bS _ g (fun i l n=>by omega)));refine gN 0 4 4 ?_;simp only[sZ,ak];iterate 3 (go_big_quiet_step (fail))
 refine lC a 330 10 e 13 (aD (M ⟨c,0,S⟩)) (fun _ g=>g.j.cell 13 rfl) H5 ?_;refine aN (fK 4 3 f fun a g=>?_);simp only[sZ,ak];have i:=mX g f;have f:=aH (h.o.trans (Ud.bS _ g (fun l n o=>by omega)));go_wp2_with fail;refine mR (Az a) fun g h=>?_
 have a:=mX h i;have g:=aH (f.o.trans (Ud.bS _ h (fun i l n=>by omega)));go_wp2_with fail;refine gT 5 2 1 ?_;refine fK 7 0 a fun f h=>?_
 simp only[sZ,ak];have i:=mX h a;have a:=aH (g.o.trans (Ud.bS _ h (fun l n o=>by omega)));refine cD rfl 276 (aI 14) (aI 12) rfl c 18 (oI true6) rfl rfl _ _ mI.cells i.o.mx.j Aay TM (yD (da Tk)) dK ?_;obtain⟨g,h⟩:=aQ (show sD (f.setRow c mI.cells) e b c av mI from⟨i.o.j.m i.o.ne,⟨i.o.mx.j.row _,oN⟩,i.o.ne⟩) (show Ud d (f.setRow c mI.cells) (fun l=>l=e\/l=c) from a.o.trans ⟨rfl,rfl,rfl,by rw[kB];exact aw _,fun n o p=>iD _ _ _ _ (fun q=>p (.inr q))⟩);refine mn ⟨rfl,pX fun a b=>?_⟩;have a:=mX b g;have c:=aH (h.o.trans (Ud.bS _ b (fun d f g=>by omega)))
 try simp only[ak]
 have b:=a.o.j.cell 14 (v:=ao av) rfl;have b:=a.o.j.frozen 14;have b:=a.o.j.lt;go_wp2;refine gI rfl rfl ⟨rfl,?_,?_⟩
 ·exact⟨a.o.j.L 14 (ao aB),⟨a.o.mx.j.C (fun b=>a.o.ne b.symm) _,a.o.mx.ok⟩,a.o.ne⟩
 ·exact c.o.trans ((Ud.refl _ _).set (a:=⟨e,14,S⟩) (.inl rfl) _)
def Gw(b a c:Nat)(d:T)(e:sD d b a c aB mI):
  aT aE 221 #[aD (M ⟨b,0,S⟩)] d fun f g=>f=aK (J E 0)/\g=d:=by
 have a:=e.j.cell 13 (v:=aD (M ⟨c,0,S⟩)) rfl;have a:d.cell? ⟨c,0,S⟩=M (J E 1):=e.mx.c0;have a:=e.mx.lt;have a:=e.j.lt;go_enter func221,ntmps221;go_wp2;go_ret;exact⟨rfl,rfl⟩
def Sh(b a c:Nat)(d:T)(e:sD d b a c aB mI):
  aT aE 223 #[aD (M ⟨b,0,S⟩)] d fun f g=>f=aK (J E 0)/\g=d:=by
 have a:=e.j.cell 13 (v:=aD (M ⟨c,0,S⟩)) rfl;have a:d.cell? ⟨c,0,S⟩=M (J E 1):=e.mx.c0;have a:=e.mx.lt;have a:=e.j.lt;go_enter func223,ntmps223;go_wp2;go_ret;exact⟨rfl,rfl⟩
def MI(b d a:Nat)(e:List Bool)(f:T)(c:sD f b d a aB mI)(g:Rd f d ([aB]++e)):
  aT aE 266 #[aD (M ⟨b,0,S⟩),J E 0,J E 4095] f fun h i=>h=aK (fE #[J E 0,J E 0])/\Rd i d e/\Ud f i (·=d):=by
 have a:=c.j.cell 8 (v:=aD (M ⟨d,0,S⟩)) rfl;have a:=c.j.lt;have a:=aH (r7 d 0 e f g dD dD);go_enter func266,ntmps266;go_wp2_with fail;refine mR a.o fun b ⟨c,d⟩=>?_
 have a:=aH (bZ c d);go_wp2_with fail;refine sQ (ou 0 4095 dD dD dD dD b) ?_;go_wp2;go_ret2;exact⟨rfl,a.o.1,a.o.2⟩
def Wa(a b c:Nat)(d:T)(e:sD d a b c av iA):
  aT aE 220 #[aD (M ⟨a,0,S⟩)] d fun f g=>f=aK (J E 0)/\sD g a b c aB mI/\Ud d g (fun h=>h=a\/h=c):=by
 have f:=e.j.cell 9 (v:=J E 1) rfl;have f:=e.j.lt;have f:=aH (Sg a b c d e);go_enter func220,ntmps220;go_wp2_with fail;refine mR f.o fun a ⟨b,c⟩=>?_
 have a:=aH (bZ b c);go_wp2;go_ret;exact⟨rfl,a.o.1,a.o.2⟩
def FC{a b c d}(e:Bx a b c d){i f}(g:d.setIfInBounds i f=d):Bx (a.setCell ⟨b,i,S⟩ f) b c d:=by have:=e.L i f;rw[g] at this;exact this
def Adz:mI.cells.setIfInBounds 17 (J E 0)=mI.cells:=dK
def Q3(f g h:Nat)(i:List Bool)(e:T)(a:sD e f g h aB mI)(b:Rd e g ([aB]++i))(c:g<f)(d:g<h):
  aT aE 222 #[aD (M ⟨f,0,S⟩)] e fun l n=>l=aK (J E 0)/\sD n f g h aB mI/\Rd n g i/\Ud e n (fun o=>o=g\/o=f\/o=h):=by
 have l:=a.j.cell 14 (v:=ao aB) rfl;have l:=a.j.lt;obtain⟨l,n,o,p⟩:=dq a b (bZ c d) (show(O8 g h aB).extract 9 (9+4)=#[J E 1,J E 3,ao av,ao av]/\9+4<=(O8 g h aB).size from⟨rfl,show 13<=15 by decide⟩);go_enter func222,ntmps222;go_wp2_with (refine bA dW 283 (aI 10) rfl f 9 4 rfl _ _ _ _ l.o.j p.o.1 p.o.2 rfl Bi dK ?_);refine mR (oM ⟨1,3,av,av⟩ e) fun a b=>?_
 let ⟨c,d⟩:=di b l n;have l:=aH (show Ud e a (fun n=>n=g\/n=f\/n=h) from Ud.bS _ b (fun p q r=>by omega));have a:rq ⟨1,3,av,av⟩=av:=rfl;rw[a];go_upto_region 7 with fail;refine aL 14 (fun a=>sD a f g h aB mI) rfl (fun b n=>?_);have a:=c;let ⟨b,p⟩:=di n c d;have c:=aH (l.o.trans (Ud.bS _ n (fun d q r=>by omega)));refine gN 0 8 8 ?_;simp only[sZ,ak];iterate 3 (go_big_quiet_step (fail))
 refine lC a 330 30 f 13 (aD (M ⟨h,0,S⟩)) (fun _ d=>d.j.cell 13 rfl) H5 ?_;simp only[sZ,ak];iterate 3 (go_big_quiet_step (fail))
 refine lC a 303 34 f 8 (aD (M ⟨g,0,S⟩)) (fun _ d=>d.j.cell 8 rfl) underlying303 ?_;refine aN (fK 8 7 b fun a d=>?_);simp only[sZ,ak];let ⟨l,n⟩:=di d b p;have b:=aH (c.o.trans (Ud.bS _ d (fun p q r=>by omega)));go_wp2_with fail;refine mR (r7 g 0 i a n.o dD dD) fun c ⟨d,p⟩=>?_
 obtain⟨a,n,q⟩:=bh (l.o.ud p (by have:=o.o;show¬f=g;omega) (by have:=o.o;show¬h=g;omega)) d (show Ud e c (fun r=>r=g\/r=f\/r=h) from b.o.trans (p.mono (fun s _ t=>.inl t)));go_wp2_with fail;refine gT 9 5 2 ?_;refine fK 14 1 a fun b c=>?_
 simp only[sZ,ak];let ⟨d,e⟩:=di c a n;have a:=aH (q.o.trans (Ud.bS _ c (fun l n p=>by omega)));have c:=d.o.mx.Rx;have c:=d.o.mx.j.frozen 17;have c:=d.o.mx.lt;go_wp2_with fail;have c:Ud b (b.setCell ⟨h,17,S⟩ (J E 0)) (fun l=>l=g\/l=f\/l=h):=(Ud.refl _ _).set (a:=⟨h,17,S⟩) (.inr (.inr rfl)) _;obtain⟨l,n,p⟩:=bh (show sD (b.setCell ⟨h,17,S⟩ (J E 0)) f g h aB mI from⟨d.o.j.C d.o.ne _,⟨FC d.o.mx.j Adz,oN⟩,d.o.ne⟩) (show Rd (b.setCell ⟨h,17,S⟩ (J E 0)) g i from e.o.ud (G:=(·=h)) ((Ud.refl b (·=h)).set (a:=⟨h,17,S⟩) rfl _) (fun q r=>by have:=o.o;omega)) (a.o.trans c);clear c;refine gT 15 1 0 ?_;refine pX fun a b=>?_
 let ⟨a,c⟩:=di b l n;have d:=aH (p.o.trans (Ud.bS _ b (fun e l n=>by omega)))
 try simp only[ak]
 go_upto_region 10 with fail;refine aL 16 (fun b=>sD b f g h aB mI) rfl (fun e l=>?_);have b:=a;let ⟨e,n⟩:=di l a c;have a:=aH (d.o.trans (Ud.bS _ l (fun c p q=>by omega)));refine gN 0 13 4 ?_;simp only[sZ,ak];iterate 4 (go_big_quiet_step (fail))
 refine lC b 3 47 f 0 (J E 8) (fun _ c=>c.j.cell 0 rfl) bJ ?_;simp only[sZ,ak];iterate 3 (go_big_quiet_step (fail))
 refine lC b 330 51 f 13 (aD (M ⟨h,0,S⟩)) (fun _ c=>c.j.cell 13 rfl) H5 ?_;simp only[sZ,ak];iterate 2 (go_big_quiet_step (fail))
 refine lC b 3 54 h 17 (J E 0) (fun _ c=>c.mx.Rx) bJ ?_;simp only[sZ,ak];go_big_quiet_step (fail);refine aN (gT 13 3 1 ?_);refine fK 16 0 e fun b c=>?_
 simp only[sZ,ak];let ⟨d,l⟩:=di c e n;have e:=aH (a.o.trans (Ud.bS _ c (fun n p q=>by omega)));have a:=d.o.j.cell 0 (v:=J E 8) rfl;have a:=d.o.j.frozen 0;have a:=d.o.j.lt;go_wp2_with fail;have a:Ud b (b.setCell ⟨f,0,S⟩ (J E 8)) (fun c=>c=g\/c=f\/c=h):=(Ud.refl _ _).set (a:=⟨f,0,S⟩) (.inr (.inl rfl)) _;obtain⟨c,n,p⟩:=bh (show sD (b.setCell ⟨f,0,S⟩ (J E 8)) f g h aB mI from⟨FC d.o.j rfl,⟨d.o.mx.j.C (fun q=>d.o.ne q.symm) _,oN⟩,d.o.ne⟩) (show Rd (b.setCell ⟨f,0,S⟩ (J E 8)) g i from l.o.ud (G:=(·=f)) ((Ud.refl b (·=f)).set (a:=⟨f,0,S⟩) rfl _) (fun r s=>by have:=o.o;omega)) (e.o.trans a);clear a;refine pX fun a b=>?_
 let ⟨d,e⟩:=di b c n;have c:=aH (p.o.trans (Ud.bS _ b (fun f g h=>by omega)))
 try simp only[ak]
 have b:=d.o.j.cell 0 (v:=J E 8) rfl;have b:=d.o.j.lt;go_wp2_with fail;refine sQ (mh 8 dD dD a) ?_;go_wp2;go_ret;exact⟨rfl,d.o,e.o,c.o⟩
def Zk:List Int:=aF 64 0
def Adv{b}(a:b<6):jH mI.cells (24+b*64) (aS E Zk)=mI.cells:=by
 have:b=0\/b=1\/b=2\/b=3\/b=4\/b=5:=O;rcases this with rfl|rfl|rfl|rfl|rfl|rfl
 all_goals (show _=_;kernel_rfl)
def Adx{b}(a:b<6):mI.cells.setIfInBounds (24+b*64) (J E 0)=mI.cells:=by
 have:b=0\/b=1\/b=2\/b=3\/b=4\/b=5:=O;rcases this with rfl|rfl|rfl|rfl|rfl|rfl
 all_goals (show _=_;kernel_rfl)
def Adw{b}(a:b<6):mI.cells[24+b*64]?=M (J E 0):=by
 have:b=0\/b=1\/b=2\/b=3\/b=4\/b=5:=O;rcases this with rfl|rfl|rfl|rfl|rfl|rfl
 all_goals (show _=_;kernel_rfl)
def Ady:mI.cells.extract 18 (18+6)=oI true6/\18+6<=mI.cells.size:=⟨by kernel_rfl,by rw[da oN];decide⟩
def Adr{gr gm b}(a:b<3):(O8 gr gm aB)[1+b]?=M (J E 0)/\(O8 gr gm aB).setIfInBounds (1+b) (J E 0)=O8 gr gm aB:=by
 have:b=0\/b=1\/b=2:=O;rcases this with rfl|rfl|rfl<;> exact⟨rfl,rfl⟩
def Aee:blk 1 (Zk.drop 1)=[aB]:=by decide
def Aak{c:Nat}(a:c<6)(b):(Instr.index 276 (aG (oI true6)) (J E (c:Int))).run aE b=.ok (ao aB) b:=by
 have:c=0\/c=1\/c=2\/c=3\/c=4\/c=5:=O;rcases this with rfl|rfl|rfl|rfl|rfl|rfl
 all_goals (show _=_;kernel_rfl)
def cd6{b}(a:b<6):(oI true6)[b]?=M (ao aB):=by
 have:b=0\/b=1\/b=2\/b=3\/b=4\/b=5:=O;rcases this with rfl|rfl|rfl|rfl|rfl|rfl<;> rfl
def Q2(f g h:Nat)(a:List Bool)(i:T)(b:sD i f g h aB mI)(c:Rd i g (aF 12 aB++a))(d:g<f)(e:g<h):
  aT aE 224 #[aD (M ⟨f,0,S⟩)] i fun l n=>l=aK (J E 0)/\sD n f g h aB mI/\Rd n g a/\Ud i n (fun o=>o=g\/o=f\/o=h):=by
 obtain⟨l,n,o⟩:=bh b c (bZ d e);have p:=b.ne;have q:=b.j.cell 13 (v:=aD (M ⟨h,0,S⟩)) rfl;have r:=b.j.lt;have s:=b.mx.lt;have t:=aH Ady;go_enter func224,ntmps224;go_upto_region 2 with(refine bA dW 276 (aI 12) rfl h 18 6 rfl _ _ _ _ l.o.mx.j t.o.1 t.o.2 rfl underlying276 TM ?_)
 go_loopw [14] (fun u wr=>∃v:Nat,v<=6/\u=J E (v:Int)/\sD wr f g h aB mI/\Rd wr g (aF (2*(6-v)) aB++a)/\Ud i wr (fun w=>w=g\/w=f\/w=h)) (fun x _=>6-(intOf x).toNat)
 case atStart=>exact⟨0,by decide,rfl,l.o,n.o,Ud.refl _ _⟩
 case round=>
  obtain⟨u,v,rfl,w,x,y⟩:=hrel;let ⟨z,H,U⟩:=bh w y x
  by_cases V:u<6
  ·have W:=fun Y=>Aak V Y
   have Y:=z.o.mx.c0;have a0:=z.o.j.cell 13 (v:=aD (M ⟨h,0,S⟩)) rfl;go_upto_region 5 with fail;have a1:=aH V;let ⟨a2,a3⟩:=aX (u-3);have a4:=aH (show a2<3 from by omega);have a5:a2<3:=a4.o
   have a6:aF (2*(6-u)) aB++a=[aB]++([aB]++(aF (2*(6-(u+1))) aB++a)):=by
    rw[show 2*(6-u)=(2*(6-(u+1))+1)+1 by omega,lo,lo];rfl
   rw[a6] at U;go_upto_region 12 with fail;refine aL 99 (fun a7=>sD a7 f g h aB mI) rfl (fun a8 a9=>?_);have a7:=z;let ⟨aa,ab⟩:=di a9 z U;have ac:=aH (H.o.trans (Ud.bS _ a9 (fun ad ae ag=>by omega)));refine gT 0 2 6 ?_;refine gT 3 3 3 ?_;refine fK 2 2 aa fun ad ae=>?_
   simp only[sZ,ak];let ⟨ag,ah⟩:=di ae aa ab;have ai:=aH (ac.o.trans (Ud.bS _ ae (fun aj al am=>by omega)));go_wp2_with fail;refine sQ (Ay u V ad) ?_;rw[<-a3];go_wp2_with fail;refine gT 6 2 0 ?_;refine zI ag fun aj al=>?_
   let ⟨am,ap⟩:=di al ag ah;have ar:=aH (ai.o.trans (Ud.bS _ al (fun ax ay aV=>by omega)))
   try simp only[ak]
   try rw[<-a3]
   have ax:=(Adr (gr:=g) (gm:=h) a5);have ay:=am.o.j.cell (1+a2) ax.1;have aV:=am.o.j.frozen (1+a2);clear a3;go_wp2_with fail;refine mR (MI f g h _ aj am.o ap.o) fun a3 ⟨b0,b1⟩=>?_
   obtain⟨b2,b3,b4⟩:=bh (am.o.ud b1 (by have:=o.o;show¬f=g;omega) (by have:=o.o;show¬h=g;omega)) b0 (show Ud i a3 (fun b5=>b5=g\/b5=f\/b5=h) from ar.o.trans (b1.mono (fun b6 _ b7=>.inl b7)));have b5:=b2.o.j.cell (1+a2) ax.1;have b6:=b2.o.j.frozen (1+a2);have b7:=b2.o.j.lt;go_upto_region 14 with fail;obtain⟨b8,b9,ba⟩:=bh (show sD (a3.setCell ⟨f,1+a2,S⟩ (J E 0)) f g h aB mI from⟨FC b2.o.j ax.2,⟨b2.o.mx.j.C (fun bb=>b2.o.ne bb.symm) _,oN⟩,b2.o.ne⟩) (show Rd (a3.setCell ⟨f,1+a2,S⟩ (J E 0)) g _ from b3.o.ud (G:=(·=f)) ((Ud.refl a3 (·=f)).set (a:=⟨f,1+a2,S⟩) rfl _) (fun bc bd=>by have:=o.o;omega)) (show Ud i (a3.setCell ⟨f,1+a2,S⟩ (J E 0)) (fun be=>be=g\/be=f\/be=h) from b4.o.set (a:=⟨f,1+a2,S⟩) (.inr (.inl rfl)) _);generalize a3.setCell ⟨f,1+a2,S⟩ (J E 0)=bb at*
   have bc:=b8.o.j.cell 8 (v:=aD (M ⟨g,0,S⟩)) rfl;have bd:=b8.o.j.lt;have be:=aH (NA g Zk (aF (2*(6-(u+1))) aB++a) bp (fun bf bi=>by obtain rfl:=iK bi;exact⟨by decide,by decide⟩) 1 (.inr rfl) bb (eZ Aee b9.o));go_wp2_with fail;refine mR be.o fun bf ⟨bi,bk⟩=>?_
   obtain⟨bl,bn,br⟩:=bh (b8.o.ud bk (by have:=o.o;show¬f=g;omega) (by have:=o.o;show¬h=g;omega)) bi (show Ud i bf (fun bs=>bs=g\/bs=f\/bs=h) from ba.o.trans (bk.mono (fun bt _ bu=>.inl bu)));rw[show aF 1 0++Zk.drop 1=Zk from rfl];obtain⟨bs,bt,bu⟩:=bh (Adv a1.o) (show(aE.info? 277).map (·.size)=M (aS E Zk).size from gP) (show 24+u*64+(aS E Zk).size<=mI.cells.size by rw[da oN,bE];have:=a1.o;show 24+u*64+64<=408;omega);go_upto_region 17 with(refine cD dW 277 (aI 83) (aI 81) rfl h (24+u*64) (aS E Zk) rfl rfl _ _ mI.cells bl.o.mx.j bs.o bt.o bu.o (pT _ _) ?_);have bv:=aH (show sD (bf.setRow h mI.cells) f g h aB mI from⟨bl.o.j.m bl.o.ne,⟨bl.o.mx.j.row _,oN⟩,bl.o.ne⟩);have bx:∀bz:Nat->Prop,bz h->Ud bf (bf.setRow h mI.cells) bz:=fun bC bK=>⟨rfl,rfl,rfl,by rw[kB];exact aw _,fun bL bR bU=>iD _ _ _ _ (fun bV=>bU (bV▸bK))⟩
   obtain⟨bz,bC⟩:=aQ (show Rd (bf.setRow h mI.cells) g _ from bn.o.ud (bx (·=h) rfl) (fun bK bL=>by have:=o.o;omega)) (show Ud i (bf.setRow h mI.cells) (fun bR=>bR=g\/bR=f\/bR=h) from br.o.trans (bx _ (.inr (.inr rfl))));generalize bf.setRow h mI.cells=bK at*
   go_upto_region 19 with fail;refine aL 6 (fun a=>sD a f g h aB mI) rfl (fun b c=>?_);have a:=bv;let ⟨b,d⟩:=di c bv bz;have e:=aH (bC.o.trans (Ud.bS _ c (fun l n p=>by omega)));refine gN 0 4 3 ?_;simp only[sZ,ak];iterate 3 (go_big_quiet_step (fail))
   refine lC a 3 89 f (1+a2) (J E 0) (fun _ c=>c.j.cell (1+a2) ax.1) bJ ?_;refine aN (gT 4 2 1 ?_);refine fK 6 0 b fun a c=>?_
   simp only[sZ,ak];let ⟨l,n⟩:=di c b d;have b:=aH (e.o.trans (Ud.bS _ c (fun d p q=>by omega)));have c:=l.o.mx.j.cell (24+u*64) (Adw a1.o);have c:=l.o.mx.j.frozen (24+u*64);have c:=l.o.mx.lt;go_wp2_with fail;obtain⟨c,d,e⟩:=bh (show sD (a.setCell ⟨h,24+u*64,S⟩ (J E 0)) f g h aB mI from⟨l.o.j.C l.o.ne _,⟨FC l.o.mx.j (Adx a1.o),oN⟩,l.o.ne⟩) (show Rd (a.setCell ⟨h,24+u*64,S⟩ (J E 0)) g _ from n.o.ud (G:=(·=h)) ((Ud.refl a (·=h)).set (a:=⟨h,24+u*64,S⟩) rfl _) (fun p q=>by have:=o.o;omega)) (show Ud i (a.setCell ⟨h,24+u*64,S⟩ (J E 0)) (fun r=>r=g\/r=f\/r=h) from b.o.set (a:=⟨h,24+u*64,S⟩) (.inr (.inr rfl)) _);refine pX fun a b=>?_
   let ⟨a,f⟩:=di b c d;have c:=aH (e.o.trans (Ud.bS _ b (fun d g h=>by omega)))
   try simp only[ak]
   have b:E.wrap ((u:Int)+1)=((u+1:Nat):Int):=by rw[show((u+1:Nat):Int)=(u:Int)+1 by omega];exact an _ O
   go_wp2;exact⟨⟨u+1,by omega,by go_num,a.o,f.o,c.o⟩,by simp[intOf];omega⟩
  ·have a:u=6:=O
   have b:=aH a;clear a;go_wp2;go_ret;refine⟨rfl,z.o,?_,H.o⟩;have:=U.o;rw[b.o] at this;exact this
def Ki:vE=iA.cells:=dK
def Aa5(a b c):(fk 356 #[(0,aG (aS E (bH 8).l)),(1,aD (M ⟨a,0,S⟩)),(2,aG #[J E 1,J E 3,ao av,ao av]),(3,aD (M ⟨b,0,S⟩))]).run aE c=.ok (aG (O8 a b av)) c:=dK
def KH{a b h n q c d}(u:b.results=#[.cell h c,.cell n d,.tmp q])(r e i o f g s)
  (l:r.getD h sJ=aD (M i))(p:r.getD n sJ=aD (M o))(t:r.getD q sJ=s)(v:(oA c i).run a e=.ok f e)(w:(oA d o).run a e=.ok g e):(Ih b r).run a e=.ok (fE #[f,g,s]) e:=by
 have a:r[h]?.getD sJ=aD (M i):=by simpa using l
 have b:r[n]?.getD sJ=aD (M o):=by simpa using p
 have c:r[q]?.getD sJ=s:=by simpa using t
 simp[Ih,u,a,b,c,asAddr,v,w]
def xE:(aE.info? 280).map (·.size)=M 408:=dK
def Ab6:(aE.info? 356).map (·.size)=M 15:=dK
def tkM(a:Nat):Mb:=if a=0 then iA else mI
def tkH(a:Nat):Bool:=decide (1<=a)
def tkN(a:Nat):Nat:=if a<=2 then 13 else if a<=4 then 12 else 0
def Te(b:Nat)(c:List Bool)(d:T)(a:Rd d b (aF 13 aB++c)):
  aT aE 199 #[aD (M ⟨b,0,S⟩),aG #[J E 1,J E 3,ao av,ao av],(bH 8).val] d fun e f=>e=aK (fE #[aG mI.cells,(bH 8).val,J E 0])/\Rd f b c/\Ud d f (·=b):=by
 have e:=aH a;have f:=aH a.lt;let ⟨a,g,h,i,l,n,o,p,q,r,s,t,u⟩:=Dt d (#[J E 1,J E 3,ao av,ao av]) 283 (aS E (bH 8).l) 324 vE 280 (aS E (aF 8 0)) 324;obtain⟨n,v⟩:=aQ (show h.heap.size=a+g.length by rw[l,o.o,i];simp) i;have n:(bH 8).val=aG (aS E (bH 8).l):=rfl;go_enter func199,ntmps199;go_upto_region 1 with fail
 try simp only[sZ,ak]
 refine mr l ?_
 try simp only[dA]
 rw[<-i];have n:=aH (e.o.ext (q.o _ p.o));clear l i;obtain⟨e,i⟩:=aQ (show(#[J E 1,J E 3,ao av,ao av]:Array aq).extract 0 (0+4)=#[J E 1,J E 3,ao av,ao av]/\0+4<=(#[J E 1,J E 3,ao av,ao av]:Array aq).size from⟨rfl,aw 4⟩) (show((aS E (bH 8).l):Array aq).extract 0 (0+8)=(aS E (bH 8).l)/\0+8<=((aS E (bH 8).l):Array aq).size from⟨rfl,aw 8⟩);go_wp2_with (refine bA dW 283 (aI 4) rfl a 0 4 rfl _ _ _ _ (r.o _ p.o) e.o.1 e.o.2 rfl Bi dK ?_);refine mR (jm ⟨1,3,av,av⟩ (by constructor<;> decide) h) fun l w=>?_
 let ⟨h,x⟩:=di w p n;go_wp2_with (refine lS 324 5 (a+1) 0 (s.o _ h.o) i.o.1 i.o.2 ?_);refine mR (Kv (bH 8) (St.tT dD dD) l) fun n p=>?_
 let ⟨l,w⟩:=di p h x;go_upto_region 4 with fail;let ⟨h,p⟩:=aX n.heap.size;rw[Ki,<-p];let ⟨x,y⟩:=aX (n.alloc (az iA.cells 280));have n:=Gl y;obtain⟨z,H⟩:=aQ (show Mx x h iA by rw[y];exact Mx.new _ _ fG _ p) (show a+g.length<=h/\b<h/\b<a by rw[p];exact⟨l.o.k,w.o.lt,by rw[v.o];exact f.o⟩);rw[<-y];let ⟨f,g⟩:=di n l w;clear p y;let ⟨l,n⟩:=aX x.heap.size;obtain⟨p,w,y,U⟩:=dq (show Bx (x.alloc (az #[J E 0,J E 0,J E 0,J E 0,J E 0,J E 0,J E 0,J E 0,aD S,J E 0,J E 0,ao av,ao av,aD S,ao av] 356)) x.heap.size 356 #[J E 0,J E 0,J E 0,J E 0,J E 0,J E 0,J E 0,J E 0,aD S,J E 0,J E 0,ao av,ao av,aD S,ao av] from Bx.new _ _ _) (show(aE.info? 356).map (·.size)=M (O8 b h av).size from Ab6) (show(#[J E 0,J E 0,J E 0,J E 0,J E 0,J E 0,J E 0,J E 0,aD S,J E 0,J E 0,ao av,ao av,aD S,ao av]:Array aq).size=(O8 b h av).size from rfl) (show(O8 b h av).all (·.oneCell')=aB by simp[O8,cJ]);go_upto_region 5 with(first|(refine bA dW 283 (aI 4) rfl a 0 4 rfl _ _ _ _ (r.o _ f.o) e.o.1 e.o.2 rfl Bi dK ?_)|(refine lS 324 5 (a+1) 0 (s.o _ f.o) i.o.1 i.o.2 ?_)|(refine gV rfl 356 _ rfl #[(0,aG (aS E (bH 8).l)),(1,aD (M ⟨b,0,S⟩)),(2,aG #[J E 1,J E 3,ao av,ao av]),(3,aD (M ⟨h,0,S⟩))] dK (aG (O8 b h av)) (Aa5 b h _) ?_)|(refine bm rfl 356 (aI 10) (aI 31) rfl x.heap.size (O8 b h av) rfl rfl p.o w.o y.o U.o ?_));let ⟨e,i⟩:=aX ((x.alloc (az #[J E 0,J E 0,J E 0,J E 0,J E 0,J E 0,J E 0,J E 0,aD S,J E 0,J E 0,ao av,ao av,aD S,ao av] 356)).setRow x.heap.size (O8 b h av));have r:bD x e:=by rw[i];exact aO (jd) (aw _)
 have s:=mX r z;obtain⟨w,x⟩:=aQ (show sD e l b h av iA from⟨by rw[i,n];exact p.o.row _,s.o,by rw[n];have:=z.o.lt;omega⟩) (show h<l by rw[n];exact z.o.lt);let ⟨p,s⟩:=di r f g;rw[<-i,<-n];clear i n
 try simp only[ak]
 go_upto_region 6 with fail;let ⟨f,g,i,n,r,y⟩:=mY e (#[.func (kP 220) #[] #[],.func (kP 221) #[] #[],.func (kP 222) #[] #[],.func (kP 223) #[] #[],.func (kP 224) #[] #[]]) 357;let ⟨e,z,U⟩:=gO r w p s;obtain⟨p,r,s,V⟩:=dq (show Bx g (a+1+1) 280 vE from t.o _ z.o) (show Bx g (a+1+1+1) 324 (aS E (aF 8 0)) from u.o _ z.o) (show Ud d g (fun W=>W=b\/W=l\/W=h) from Ud.bS _ (q.o _ z.o) (fun Y a0 a1=>by omega)) (show l<f by rw[i];exact w.o.j.lt);rw[<-n,<-i];clear n i
 go_loopw [34] (fun g wr=>∃i:Nat,i<=5/\g=J E (i:Int)/\sD wr l b h (tkH i) (tkM i)/\Rd wr b (aF (tkN i) aB++c)/\Bx wr f 357 #[.func (kP 220) #[] #[],.func (kP 221) #[] #[],.func (kP 222) #[] #[],.func (kP 223) #[] #[],.func (kP 224) #[] #[]]/\Bx wr (a+1+1) 280 vE/\Bx wr (a+1+1+1) 324 (aS E (aF 8 0))/\Ud d wr (fun n=>n=b\/n=l\/n=h)) (fun q _=>5-(intOf q).toNat)
 case atStart=>exact⟨0,by decide,rfl,e.o,U.o,y.o,p.o,r.o,s.o⟩
 case round=>
  obtain⟨e,f,rfl,g,i,hF,n,p,q⟩:=hrel;let ⟨f,r,s,t,u,w⟩:=ej g i hF n p q;have g:e=0\/e=1\/e=2\/e=3\/e=4\/e=5:=O;rcases g with rfl|rfl|rfl|rfl|rfl|rfl
  ·have e:=s.o.cell 0 rfl
   have e:=s.o.lt;obtain⟨e,g⟩:=aQ (show sD wr l b h av iA from f.o) (show Rd wr b (aF 13 aB++c) from r.o);go_wp2_with fail;refine mR (Wa l b h wr e.o) fun i ⟨n,p⟩=>?_
   obtain⟨e,i,q⟩:=bh n (g.o.ud p (fun y z=>by have:=H.o;have:=x.o;omega)) (w.o.trans (p.mono (fun U _ W=>.inr W)));obtain⟨g,n,y⟩:=bh (s.o.ud p (uL V.o H.o x.o)) (t.o.ud p (dU4 V.o H.o x.o o.o)) (u.o.ud p (dU4 V.o H.o x.o o.o));go_wp2;exact⟨⟨1,by decide,by go_num,e.o,i.o,g.o,n.o,y.o,q.o⟩,by decide⟩
  ·have e:=s.o.cell 1 rfl
   have e:=s.o.lt;obtain⟨e,g⟩:=aQ (show sD wr l b h aB mI from f.o) (show Rd wr b (aF 13 aB++c) from r.o);go_wp2_with fail;refine sQ (Gw l b h wr e.o) ?_;have i:=e;have e:=g;have g:=s;have n:=t;have p:=u;have q:=w;go_wp2;exact⟨⟨2,by decide,by go_num,i.o,e.o,g.o,n.o,p.o,q.o⟩,by decide⟩
  ·have e:=s.o.cell 2 rfl
   have e:=s.o.lt;obtain⟨e,g⟩:=aQ (show sD wr l b h aB mI from f.o) (show Rd wr b ([aB]++(aF 12 aB++c)) from r.o);go_wp2_with fail;refine mR (Q3 l b h (aF 12 aB++c) wr e.o g.o (gC H.o x.o) H.o.2.1) fun i ⟨n,p,q⟩=>?_
   obtain⟨e,g,i⟩:=bh n p (w.o.trans q);obtain⟨n,p,y⟩:=bh (s.o.ud q (uL V.o H.o x.o)) (t.o.ud q (dU4 V.o H.o x.o o.o)) (u.o.ud q (dU4 V.o H.o x.o o.o));go_wp2;exact⟨⟨3,by decide,by go_num,e.o,g.o,n.o,p.o,y.o,i.o⟩,by decide⟩
  ·have e:=s.o.cell 3 rfl
   have e:=s.o.lt;obtain⟨e,g⟩:=aQ (show sD wr l b h aB mI from f.o) (show Rd wr b (aF 12 aB++c) from r.o);go_wp2_with fail;refine sQ (Sh l b h wr e.o) ?_;have i:=e;have e:=g;have g:=s;have n:=t;have p:=u;have q:=w;go_wp2;exact⟨⟨4,by decide,by go_num,i.o,e.o,g.o,n.o,p.o,q.o⟩,by decide⟩
  ·have e:=s.o.cell 4 rfl
   have e:=s.o.lt;obtain⟨e,g⟩:=aQ (show sD wr l b h aB mI from f.o) (show Rd wr b (aF 12 aB++c) from r.o);go_wp2_with fail;refine mR (Q2 l b h c wr e.o g.o (gC H.o x.o) H.o.2.1) fun i ⟨n,p,q⟩=>?_
   obtain⟨e,g,i⟩:=bh n p (w.o.trans q);obtain⟨n,p,y⟩:=bh (s.o.ud q (uL V.o H.o x.o)) (t.o.ud q (dU4 V.o H.o x.o o.o)) (u.o.ud q (dU4 V.o H.o x.o o.o));go_wp2;exact⟨⟨5,by decide,by go_num,e.o,g.o,n.o,p.o,y.o,i.o⟩,by decide⟩
  ·obtain⟨e,g⟩:=aQ (show sD wr l b h aB mI from f.o) (show Rd wr b c from r.o)
   go_upto_region 12 with fail;have f:=w.o;refine aL 99 (fun f=>sD f l b h aB mI) rfl (fun i n=>?_);have f:=e;let ⟨i,p,q,r⟩:=nj n e g t u;have e:=aH (w.o.trans (Ud.bS _ n (fun g s t=>by omega)));refine gN 0 5 4 ?_;simp only[sZ,ak];refine lR f 280 9 h 0 408 mI.cells (fun _ g=>qg g.mx.j (da oN)) mG xE ?_;simp only[sZ,ak];go_big_quiet_step (fail);refine lR f 324 47 l 0 8 (aS E (bH 8).l) (fun _ g=>⟨_,_,g.j,rfl,show 0+8<=15 by decide⟩) kR kt ?_;simp only[sZ,ak];go_big_quiet_step (fail);refine lC f 3 49 h 0 (J E 1) (fun _ g=>g.mx.c0) bJ ?_;refine aN (fK 5 3 i fun f g=>?_);simp only[sZ,ak];let ⟨n,s,t,u⟩:=nj g i p q r;have i:=aH (e.o.trans (Ud.bS _ g (fun p q r=>by omega)));go_wp2_with fail;refine mR (Ky (bH 8) (St.tT dD dD) 1 f) fun e g=>?_
   let ⟨e,f,p,q⟩:=nj g n s t u;have n:=aH (i.o.trans (Ud.bS _ g (fun r s t=>by omega)));rw[show((bH 8).after 1).val=aG (aS E (bH 8).l) from rfl];go_wp2_with fail;refine fK 6 2 e fun g i=>?_
   simp only[sZ,ak];let ⟨r,s,t,u⟩:=nj i e f p q;have e:=aH (n.o.trans (Ud.bS _ i (fun f p q=>by omega)));refine bm rfl 280 (aI 6) (aI 46) rfl (a+1+1) mI.cells rfl rfl t.o (xE.trans (by rw[da oN])) (eZ (da oN) O2) dK ?_;have f:∀i:Nat->Prop,i (a+1+1)->Ud g (g.setRow (a+1+1) mI.cells) i:=fun n p=>⟨rfl,rfl,rfl,by rw[kB];exact aw _,fun q w y=>iD _ _ _ _ (fun z=>y (z▸p))⟩
   obtain⟨i,n,p,q,w⟩:=dZ (show sD (g.setRow (a+1+1) mI.cells) l b h aB mI from r.o.ud (f (·=a+1+1) rfl) (by have:=H.o;have:=x.o;have:=o.o;show¬l=a+1+1;omega) (by have:=H.o;have:=o.o;show¬h=a+1+1;omega)) (show Rd (g.setRow (a+1+1) mI.cells) b c from s.o.ud (f (·=a+1+1) rfl) (fun y z=>by have:=H.o;omega)) (t.o.row mI.cells) (show Bx (g.setRow (a+1+1) mI.cells) (a+1+1+1) 324 (aS E (aF 8 0)) from u.o.m O) (show Ud d (g.setRow (a+1+1) mI.cells) (fun U=>U=b\/U=l\/U=h) from⟨e.o.os,e.o.tape,e.o.output,by rw[kB];exact e.o.size,fun V W Y=>(iD _ _ _ _ (dU v.o)).trans (e.o.block V W Y)⟩);have e:=i;refine mn ⟨rfl,fK 7 1 e fun f g=>?_⟩;simp only[sZ,ak];let ⟨i,r,s,t⟩:=nj g e n p q;have e:=aH (w.o.trans (Ud.bS _ g (fun n p q=>by omega)));refine bm rfl 324 (aI 7) (aI 51) rfl (a+1+1+1) (aS E (bH 8).l) rfl rfl t.o kt rfl dK ?_;have g:∀n:Nat->Prop,n (a+1+1+1)->Ud f (f.setRow (a+1+1+1) (aS E (bH 8).l)) n:=fun p q=>⟨rfl,rfl,rfl,by rw[kB];exact aw _,fun u w y=>iD _ _ _ _ (fun z=>y (z▸q))⟩
   obtain⟨n,p,q,u,w⟩:=dZ (show sD (f.setRow (a+1+1+1) (aS E (bH 8).l)) l b h aB mI from i.o.ud (g (·=a+1+1+1) rfl) (by have:=H.o;have:=x.o;have:=o.o;show¬l=a+1+1+1;omega) (by have:=H.o;have:=o.o;show¬h=a+1+1+1;omega)) (show Rd (f.setRow (a+1+1+1) (aS E (bH 8).l)) b c from r.o.ud (g (·=a+1+1+1) rfl) (fun y z=>by have:=H.o;omega)) (show Bx (f.setRow (a+1+1+1) (aS E (bH 8).l)) (a+1+1) 280 mI.cells from s.o.m O) (t.o.row (aS E (bH 8).l)) (show Ud d (f.setRow (a+1+1+1) (aS E (bH 8).l)) (fun U=>U=b\/U=l\/U=h) from⟨e.o.os,e.o.tape,e.o.output,by rw[kB];exact e.o.size,fun V W Y=>(iD _ _ _ _ (dU v.o)).trans (e.o.block V W Y)⟩);refine mn ⟨rfl,gT 8 1 0 ?_⟩;refine zI n fun b c=>?_
   let ⟨d,e,f,g⟩:=nj c n p q u;have d:=aH (w.o.trans (Ud.bS _ c (fun h i l=>by omega)))
   try simp only[ak]
   have c:(oA 280 ⟨a+1+1,0,S⟩).run aE b=.ok (aG mI.cells) b:=tm _ (a+1+1) _ _ mI.cells (0,0) _ f.o mG rfl (xE.trans (by rw[da oN]));have f:(oA 324 ⟨a+1+1+1,0,S⟩).run aE b=.ok (aG (aS E (bH 8).l)) b:=tm _ (a+1+1+1) _ _ (aS E (bH 8).l) (0,0) _ g.o kR rfl kt;go_wp2_with fail;refine dY (KH results199 _ _ _ _ _ _ _ rfl rfl rfl c f) rfl ⟨rfl,e.o,d.o.mono (fun a b g=>?_)⟩;rcases g with a|a|a
   ·exact a
   ·have:=H.o;have:=x.o;have:=v.o;omega
   ·have:=H.o;have:=v.o;omega
def AD{a b c d e f g}(h:0<d)(i:a.ownsRow b e f (af (M ⟨c,0,S⟩) d d) d g):∃l,Bx a c e l/\l.size=d*f:=by
 rcases i.2 with⟨a,b⟩|⟨c,d,e,f,_,g,_,_,h,_⟩
 ·omega
 ·cases f
  exact⟨e,g,h⟩
def Wx(a c)(d:c.op=.alloc 153)(b):(VI a c).run aE b=.ok (.value (aD (M ⟨b.heap.size,0,S⟩))) (b.alloc (az er 153)):=by
 obtain⟨a,b,e,f,g,guard⟩:=c;dsimp only at d;subst d
 kernel_rfl
def yR{a b e c f d}(g:e.guard=S)(h)(i:e.dst=h)(l:e.op=.alloc 153)
  (n:cG aE a d b (c.put h (aD (M ⟨f.heap.size,0,S⟩))) (f.alloc (az er 153))):cG aE a d (e::b) c f:=
 xp g h i _ _ (Wx _ e l f) n
def Ja:(aE.info? 153).map (·.size)=M 154:=dK
def J4(a b c d e f g h i l n o p q):(tY a b c d e (af f i l) (af g n o) (af h p q)).cells.all (·.oneCell')=aB:=by
 unfold Mk.cells;rw[O0,uU,<-ZQ.symm,Sq.one];rfl
def Kl{a b c d i e}(h:Region.wanted c (xZ a d.tmps)=aB)(f g)(o:c.op=.build 99 #[(0,f),(1,g)])(l)(n:jV l)(p:d.eval f=J E 1)(q:d.eval g=aG l.cells)(r:cG aE a e b (d.put c.dst (aG (zo l))) i):cG aE a e (c::b) d i:=
 eI h fun _ a=>by
  have b:=Wz l n i;unfold Oper.wp VI;simp only[o];simp only[List.map_toArray,List.map_cons,List.map_nil,q,p]
  first
   |(rw[b];exact a _ _ r)
   |(simp only[fT,iT,dv,b];exact a _ _ r)
def TH:(aE.info? 48).map (·.size)=M 3:=dK
def TK:(aE.info? 63).map (fun i=>(i.zero,i.size,i.bytes))=M (M aC.val,5,88):=dK
def Gp.ext{a b c d e f g h}(i:Gp a c d e f g h)(l:bD a b):Gp b c d e f g h:=
 ⟨i.sq,i.a1,i.a2,i.B1,i.B2,i.sw,i.sh,i.mq,i.q1,i.q2,i.fr.ext l,i.ty.ext l,i.dm,i.len,i.tx,i.B,i.gl.ext l⟩
instance {w w' x1 x2 x3 x4 x5 x6}:Tr w w' (Gp w x1 x2 x3 x4 x5 x6) (Gp w' x1 x2 x3 x4 x5 x6):=⟨fun hb h=>Gp.ext h hb⟩
def RF.cg{a b c d e f g h}(i:b.s=a.s/\b.fl=a.fl/\b.top=a.top/\b.alt=a.alt)(l:RF a c d e f g h):RF b c d e f g h:=by
 let ⟨a,b,c,d⟩:=i;exact⟨fun e=>by rw[a];exact l.z e,l.g,fun f g=>by rw[a,c,d];exact l.one f (D8 b g)⟩
def RF.len{a b c d e h f}(i:RF a b c d e h f)(g:h<=2):f.length<=8:=by
 rcases ns h with a|a
 ·rw[i.z a];simp
 ·let ⟨b,c,d,e⟩:=i.g a
  have:=(xJ e).2;rw[c];omega
def Aa8(a):szF a a.length=byL a:=by unfold szF byL;rw[List.take_length]
def Pf(a:T)(b:Mk)(c d e:Nat)(f:List (FV×Fr))(g:Nat)(h:Ending)(i:T):Prop:=
 ∃(l n o p:Nat)(q:List (eQ×Int))(r:List (Array aq)),h=aK (fE #[af (M ⟨n,0,S⟩) q.length o,af (M ⟨p,0,S⟩) g g,J E 0])/\pI i l (af (M ⟨n,0,S⟩) q.length o) q r/\a.heap.size<=l/\RF b c d e f g q/\bD a i
def C8(a:Abq)(c:Sq)(d e f:Bool)(g h i:Nat)(l:List (FV×Fr))(n:List Int)(o p:aq)(q:T)(b:Gp q (tY c d e f g o p .nilIface) h i g l n):
  aT aE 26 #[aG c.cells,o,p,aG #[ao d,ao e,ao f],J E (g:Int)] q (Pf q (tY c d e f g o p .nilIface) h i g l n.length):=by
 have r:∀(s:Fn)(first t:Array aq)(u:T),(DE s first t).run aE u=.ok (.func s first t) u:=fun _ _ _ _=>rfl
 obtain⟨s,t⟩:=aQ a (show jV c from b.sq);have u:=aH (jB t.o);let ⟨v,w,x,y,z,H⟩:=b.ty;let ⟨U,V,W,Y,a0,a1,a2⟩:=b.fr;have a3:o=af (M ⟨U,V,S⟩) l.length W:=Y;have a4:p=af (M ⟨v,w,S⟩) n.length x:=y;let ⟨a5,a6⟩:=aX n.length;have a7:=aH a6;rw[b.len,<-a6] at a3;rw[<-a6] at a4 ⊢;have a8:=aH (show 1<=a5/\a5<=2 by rw[a6];exact⟨b.tx.n1,b.tx.n2⟩);subst a3;subst a4;obtain⟨a3,a4⟩:=aQ b (show∀a9,aT aE 54 #[J E (g:Int)] a9 (fun aa ab=>aa=aK (ao aB)/\a9=ab) from fun ac=>yC g (dU b.q1) (dU b.q2) ac)
 have a9:=aH (show∀aa,bD q aa->aT aE 40 #[aG c.cells,af (M ⟨U,V,S⟩) a5 W,af (M ⟨v,w,S⟩) a5 x,aG #[ao d,ao e,ao f]] aa (fh aa (ao aB)) from fun ab ac=>AK c b.sq l n d e f _ _ ab (b.fr.ext ac) (b.ty.ext ac) b.tx b.len (fun ad ae=>by
  have ag:=b.dm ad ae;have ah:=ag.formed b.a1 b.a2 b.B1 b.B2;unfold jl at ah;simp only[bT] at ah;exact⟨ah.1.1,by rw[ag.W];exact b.sw.symm,by rw[ag.H];exact b.sh.symm⟩) b.B)
 have aa:=aH (show(#[ao d,ao e,ao f]:Array aq).extract 0 (0+3)=#[ao d,ao e,ao f]/\0+3<=(#[ao d,ao e,ao f]:Array aq).size from⟨rfl,aw 3⟩);let ⟨ab,ac,ad,ae,ag⟩:=info_parts TK;obtain⟨ah,ai,aj,al,am⟩:=dZ ac ad ae (show ab.bytes*a5<=281474976710656 by rw[ag];have:=a8.o;omega) (show a5<=maxLen by have:=a8.o;unfold maxLen;omega)
 have ap:=aH (show∀(ar:Nat)(ax:Int),n[ar]?=M ax->∀ay,bD q ay->ay.cell? ⟨v,w+ar,S⟩=M (J E ax) from fun aV b0 b1 b2 b3=>by
  have b4:=H aV b0 b1;have b5:=dH q ⟨v,w+aV,S⟩ b4;unfold mV at b4 ⊢;rw[b3.block v b5];exact b4)
 have ar:=dH q ⟨v,w+0,S⟩ (H 0 1 b.tx.h);obtain⟨ax,ay⟩:=aQ (show v<q.heap.size from ar) (show a5<=x/\a5<=W by rw[a6];exact⟨z,by rw[<-b.len];exact a0⟩);let ⟨aV,b0⟩:=aX q.heap.size;have b1:=aH b0;let ⟨b2,b3⟩:=aX ([(26,c.cells),(48,#[ao d,ao e,ao f]),(35,#[af S 0 0]),(27,#[af S 0 0]),(36,#[J E 0])]);let ⟨b4,b5⟩:=aX (((((q.alloc (az c.cells 26)).alloc (az #[ao d,ao e,ao f] 48)).alloc (az #[af S 0 0] 35)).alloc (az #[af S 0 0] 27)).alloc (az #[J E 0] 36));have b6:=Abd q aV b0 b3 b5;have b7:=TX b3 5;have b8:=BQ q aV b3;have b9:=Du q aV b3;have ba:=Ln q aV b3;have bb:=Jp q aV b3;have bc:=Lm q aV b3;have bd:=Ll b2 b1;obtain⟨be,bf,bi,bk⟩:=dq (show aV+b2.length=q.heap.size+5 by rw[b7.o,b0]) b0 b3 (show b4.heap.size=aV+b2.length by rw[b5,b7.o,b0];simp);have bl:=b6;have bn:=aH (show∀br,Gp b4 (tY c d e f g (af (M ⟨U,V,S⟩) a5 W) (af (M ⟨v,w,S⟩) a5 x) br) h i g l n from fun bs=>(a3.o.re bs).ext (bd.o _ b6.o))
 have br:=aH (show∀bs,bs<aV+b2.length->∀bt,Fm q aV b2 bt->bt.heap[bs]?=b4.heap[bs]? from fun bu bv bx bz=>by
  by_cases bC:bu<aV
  ·exact(bz.F.block bu bC).trans (bl.o.F.block bu bC).symm
  ·have bK:=bz.at (bu-aV) (aA O)
   have bL:=bl.o.at (bu-aV) (aA O);rw[show aV+(bu-aV)=bu by omega] at bK bL;exact bK.trans bL.symm)
 clear b3 ac ad ae ag a b H a1 a2 Y y z a0 a6 ar
 go_enter_defers func26,ntmps26
 go_upto_region 1 with fail
 try simp only[sZ,ak]
 refine mr b5 ?_
 try simp only[dA]
 rw[<-b0];clear b5 b0;go_wp2_with fail;refine(a4.o b4).mono ?_;rintro a b ⟨rfl,rfl⟩;go_wp2_with (first|(with_reducible refine bA dW 26 (aI 5) rfl aV 0 135 rfl _ _ _ _ (b8.o _ b6.o) (ij _ u.o) (yD u.o) rfl ik ew ?_)|(with_reducible refine bA dW 48 (aI 8) rfl (aV+1) 0 3 rfl _ _ _ _ (b9.o _ b6.o) aa.o.1 aa.o.2 rfl ZS TH ?_));refine(a9.o b4 (bd.o _ b6.o)).mono ?_;rintro y z ⟨rfl,H⟩;have Y:=mX H b6;clear H b6 a9 a4;go_upto_region 4 with fail;apply Hg (A:=fun H (a0 a1:Nat) (a2:Array aq)=>Fm q aV b2 H/\jY H a0 (tY c d e f (g:Int) (af (M ⟨U,V,S⟩) a5 W) (af (M ⟨v,w,S⟩) a5 x) (af (M ⟨a1,0,S⟩) a5 a5))/\Bx H a1 63 a2/\a2.size=a5*5/\a0≠a1/\aV+b2.length<=a0/\aV+b2.length<=a1)
 ·rintro(H:fj _)
  refine aL 99 (fun a0=>Fm q aV b2 a0) rfl (fun a1 a2=>?_);have a0:=Y;have a4:=mX a2 Y;clear a2;refine gN 0 6 5 ?_;simp only[sZ,ak];refine lR a0 26 5 aV 0 135 c.cells (fun _ a2=>qg (b8.o _ a2) u.o) ik ew ?_;refine lR a0 48 8 (aV+1) 0 3 #[ao d,ao e,ao f] (fun _ a2=>qg (b9.o _ a2) rfl) ZS TH ?_;simp only[sZ,ak];iterate 4 (go_big_quiet_step (fail))
  refine aN (Md 6 9 4 a4 (fun a2 a6=>?_) fun a2 a6=>?_)
  ·simp only[sZ,ak]
   have a9:=mX a6 a4;clear a6 a4;go_wp2_with fail;refine Md 7 9 3 a9 (fun wc ac=>?_) fun wc ac=>?_
   ·simp only[sZ,ak]
    have ad:=mX ac a9;clear ac a9;refine zG wc rfl (aI 38) (aI 38) 27 rfl wc.heap.size 63 ab aC.val 5 oa ah.o ai.o aj.o E E _ _ a5 rfl rfl rfl rfl al.o am.o (aw _) ?_;intro ae ag ar;let ⟨b0,b3⟩:=aX wc.heap.size;rw[<-b3] at ag ⊢;let ⟨b5,b6,bs⟩:=AD (dU a8.o) ag;let ⟨bt,bu⟩:=aQ b6 bs;have bv:=bD.grown ar;have bx:=aH (show aV+b2.length<=b0 by rw[b3];exact ad.o.k);have bz:=mX bv ad;clear b3 ag ar b6 bs bv ad;refine mn ⟨rfl,T9 8 1 2 ?_⟩;simp only[sZ,ak];refine ei rfl (aG (tY c d e f (g:Int) (af (M ⟨U,V,S⟩) a5 W) (af (M ⟨v,w,S⟩) a5 x) (af (M ⟨b0,0,S⟩) a5 a5)).cells) (fun ad=>iW (qs:=#[(0,aG c.cells),(1,aG #[ao d,ao e,ao f]),(2,J E (g:Int)),(3,af (M ⟨U,V,S⟩) a5 W),(4,af (M ⟨v,w,S⟩) a5 x),(6,af (M ⟨b0,0,S⟩) a5 a5)]) rfl dK (MR c t.o d e f g _ _ _ _ _ _ _ _ _ ad)) ?_;refine aN (fK 9 1 bz fun ad ag=>?_);simp only[sZ,ak];let ⟨ar,b3⟩:=di ag bz bt;clear ag bz bt;refine yR rfl (M 13) rfl rfl ?_;let ⟨ag,b6,bs,bt,bv,bz⟩:=mY ad er 153;obtain⟨bC,bK⟩:=aQ (show aV+b2.length<=ag by rw[bs];exact ar.o.k) (show ag≠b0 by have:=b3.o.lt;omega);rw[<-bt,<-bs];clear bt bs;let ⟨bs,bt⟩:=di bv ar b3;clear bv ar b3;refine mn ⟨rfl,fK 10 0 bs fun ar b3=>?_⟩;simp only[sZ,ak];let ⟨bv,bL,bR⟩:=gO b3 bs bz bt;clear b3 bs bz bt;refine bm rfl 153 (aI 13) (aI 40) rfl ag (tY c d e f (g:Int) (af (M ⟨U,V,S⟩) a5 W) (af (M ⟨v,w,S⟩) a5 x) (af (M ⟨b0,0,S⟩) a5 a5)).cells rfl rfl bL.o ((Ja).trans (by rw[Mk.size (m:=(tY c d e f (g:Int) (af (M ⟨U,V,S⟩) a5 W) (af (M ⟨v,w,S⟩) a5 x) (af (M ⟨b0,0,S⟩) a5 a5))) t.o])) (by rw[Mk.size (m:=(tY c d e f (g:Int) (af (M ⟨U,V,S⟩) a5 W) (af (M ⟨v,w,S⟩) a5 x) (af (M ⟨b0,0,S⟩) a5 a5))) t.o];exact Aw) (J4 ..) ?_;obtain⟨b3,bs,bt⟩:=bh (show Fm q aV b2 (ar.setRow ag (tY c d e f (g:Int) (af (M ⟨U,V,S⟩) a5 W) (af (M ⟨v,w,S⟩) a5 x) (af (M ⟨b0,0,S⟩) a5 a5)).cells) from bv.o.C (k:=ag) bC.o _) (show jY (ar.setRow ag (tY c d e f (g:Int) (af (M ⟨U,V,S⟩) a5 W) (af (M ⟨v,w,S⟩) a5 x) (af (M ⟨b0,0,S⟩) a5 a5)).cells) ag (tY c d e f (g:Int) (af (M ⟨U,V,S⟩) a5 W) (af (M ⟨v,w,S⟩) a5 x) (af (M ⟨b0,0,S⟩) a5 a5)) from⟨bL.o.row _,t.o⟩) (bR.o.m (g':=ag) (cs':=(tY c d e f (g:Int) (af (M ⟨U,V,S⟩) a5 W) (af (M ⟨v,w,S⟩) a5 x) (af (M ⟨b0,0,S⟩) a5 a5)).cells) (dU bK.o));clear bv bL bR a0;refine mn ⟨rfl,zI b3 fun bv bz=>?_⟩;have bL:=H.o bv ag b0 b5 ⟨b3.o.ext bz,bs.o.ext bz,bt.o.ext bz,bu.o,bK.o,bC.o,bx.o⟩;clear b3 bs bt bz;exact bL
   ·simp only[sZ,ak]
    have ad:=mX ac a9;clear ac a9;refine yR rfl (M 13) rfl rfl ?_;let ⟨a9,ac,ae,ag,ar,b0⟩:=mY wc er 153;have b3:=aH (show aV+b2.length<=a9 by rw[ae];exact ad.o.k);rw[<-ag,<-ae];clear ag ae;have ae:=mX ar ad;clear ar ad;refine mn ⟨rfl,fK 7 2 ae fun ad ag=>?_⟩;simp only[sZ,ak];let ⟨ar,b5⟩:=di ag ae b0;clear ag ae b0;refine zG ad rfl (aI 38) (aI 38) 27 rfl ad.heap.size 63 ab aC.val 5 oa ah.o ai.o aj.o E E _ _ a5 rfl rfl rfl rfl al.o am.o (aw _) ?_;intro ae ag b0;let ⟨b6,bs⟩:=aX ad.heap.size;rw[<-bs] at ag ⊢;let ⟨bt,bu,bv⟩:=AD (dU a8.o) ag;let ⟨bx,bz⟩:=aQ bu bv;have bC:=bD.grown b0;obtain⟨bK,bL⟩:=aQ (show aV+b2.length<=b6 by rw[bs];exact ar.o.k) (show a9≠b6 by have:=b5.o.lt;omega);let ⟨bR,bU⟩:=di bC ar b5;clear bs ag b0 bu bv bC ar b5;refine mn ⟨rfl,T9 8 1 1 ?_⟩;simp only[sZ,ak];refine ei rfl (aG (tY c d e f (g:Int) (af (M ⟨U,V,S⟩) a5 W) (af (M ⟨v,w,S⟩) a5 x) (af (M ⟨b6,0,S⟩) a5 a5)).cells) (fun ag=>iW (qs:=#[(0,aG c.cells),(1,aG #[ao d,ao e,ao f]),(2,J E (g:Int)),(3,af (M ⟨U,V,S⟩) a5 W),(4,af (M ⟨v,w,S⟩) a5 x),(6,af (M ⟨b6,0,S⟩) a5 a5)]) rfl dK (MR c t.o d e f g _ _ _ _ _ _ _ _ _ ag)) ?_;refine aN (fK 10 0 bR fun ag ar=>?_);simp only[sZ,ak];let ⟨b0,b5,bs⟩:=gO ar bR bU bx;clear ar bR bU bx;refine bm rfl 153 (aI 13) (aI 40) rfl a9 (tY c d e f (g:Int) (af (M ⟨U,V,S⟩) a5 W) (af (M ⟨v,w,S⟩) a5 x) (af (M ⟨b6,0,S⟩) a5 a5)).cells rfl rfl b5.o ((Ja).trans (by rw[Mk.size (m:=(tY c d e f (g:Int) (af (M ⟨U,V,S⟩) a5 W) (af (M ⟨v,w,S⟩) a5 x) (af (M ⟨b6,0,S⟩) a5 a5))) t.o])) (by rw[Mk.size (m:=(tY c d e f (g:Int) (af (M ⟨U,V,S⟩) a5 W) (af (M ⟨v,w,S⟩) a5 x) (af (M ⟨b6,0,S⟩) a5 a5))) t.o];exact Aw) (J4 ..) ?_;obtain⟨ar,bu,bv⟩:=bh (show Fm q aV b2 (ag.setRow a9 (tY c d e f (g:Int) (af (M ⟨U,V,S⟩) a5 W) (af (M ⟨v,w,S⟩) a5 x) (af (M ⟨b6,0,S⟩) a5 a5)).cells) from b0.o.C (k:=a9) b3.o _) (show jY (ag.setRow a9 (tY c d e f (g:Int) (af (M ⟨U,V,S⟩) a5 W) (af (M ⟨v,w,S⟩) a5 x) (af (M ⟨b6,0,S⟩) a5 a5)).cells) a9 (tY c d e f (g:Int) (af (M ⟨U,V,S⟩) a5 W) (af (M ⟨v,w,S⟩) a5 x) (af (M ⟨b6,0,S⟩) a5 a5)) from⟨b5.o.row _,t.o⟩) (bs.o.m (g':=a9) (cs':=(tY c d e f (g:Int) (af (M ⟨U,V,S⟩) a5 W) (af (M ⟨v,w,S⟩) a5 x) (af (M ⟨b6,0,S⟩) a5 a5)).cells) (dU bL.o));clear b0 b5 bs a0;refine mn ⟨rfl,zI ar fun b0 b5=>?_⟩;have bs:=H.o b0 a9 b6 bt ⟨ar.o.ext b5,bu.o.ext b5,bv.o.ext b5,bz.o,bL.o,b3.o,bK.o⟩;clear ar bu bv b5;exact bs
  ·simp only[sZ,ak]
   have a9:=mX a6 a4;clear a6 a4;refine yR rfl (M 13) rfl rfl ?_;let ⟨a4,w9,a6,ac,ad,HM9⟩:=mY a2 er 153;have ae:=aH (show aV+b2.length<=a4 by rw[a6];exact a9.o.k);rw[<-ac,<-a6];clear ac a6;have HS9:=mX ad a9;clear ad a9;refine mn ⟨rfl,fK 6 3 HS9 fun a6 a9=>?_⟩;simp only[sZ,ak];let ⟨ac,ad⟩:=di a9 HS9 HM9;clear a9 HS9 HM9;go_wp2_with fail;refine fK 7 2 ac fun a9 ag=>?_
   simp only[sZ,ak];let ⟨ar,b0⟩:=di ag ac ad;clear ag ac ad;refine zG a9 rfl (aI 38) (aI 38) 27 rfl a9.heap.size 63 ab aC.val 5 oa ah.o ai.o aj.o E E _ _ a5 rfl rfl rfl rfl al.o am.o (aw _) ?_;intro ac ad ag;let ⟨b3,b5⟩:=aX a9.heap.size;rw[<-b5] at ad ⊢;let ⟨b6,bs,bt⟩:=AD (dU a8.o) ad;let ⟨bu,bv⟩:=aQ bs bt;have bx:=bD.grown ag;obtain⟨bz,bC⟩:=aQ (show aV+b2.length<=b3 by rw[b5];exact ar.o.k) (show a4≠b3 by have:=b0.o.lt;omega);let ⟨bK,bL⟩:=di bx ar b0;clear b5 ad ag bs bt bx ar b0;refine mn ⟨rfl,T9 8 1 1 ?_⟩;simp only[sZ,ak];refine ei rfl (aG (tY c d e f (g:Int) (af (M ⟨U,V,S⟩) a5 W) (af (M ⟨v,w,S⟩) a5 x) (af (M ⟨b3,0,S⟩) a5 a5)).cells) (fun ad=>iW (qs:=#[(0,aG c.cells),(1,aG #[ao d,ao e,ao f]),(2,J E (g:Int)),(3,af (M ⟨U,V,S⟩) a5 W),(4,af (M ⟨v,w,S⟩) a5 x),(6,af (M ⟨b3,0,S⟩) a5 a5)]) rfl dK (MR c t.o d e f g _ _ _ _ _ _ _ _ _ ad)) ?_;refine aN (fK 10 0 bK fun ad ag=>?_);simp only[sZ,ak];let ⟨ar,b0,b5⟩:=gO ag bK bL bu;clear ag bK bL bu;refine bm rfl 153 (aI 13) (aI 40) rfl a4 (tY c d e f (g:Int) (af (M ⟨U,V,S⟩) a5 W) (af (M ⟨v,w,S⟩) a5 x) (af (M ⟨b3,0,S⟩) a5 a5)).cells rfl rfl b0.o ((Ja).trans (by rw[Mk.size (m:=(tY c d e f (g:Int) (af (M ⟨U,V,S⟩) a5 W) (af (M ⟨v,w,S⟩) a5 x) (af (M ⟨b3,0,S⟩) a5 a5))) t.o])) (by rw[Mk.size (m:=(tY c d e f (g:Int) (af (M ⟨U,V,S⟩) a5 W) (af (M ⟨v,w,S⟩) a5 x) (af (M ⟨b3,0,S⟩) a5 a5))) t.o];exact Aw) (J4 ..) ?_;obtain⟨ag,bs,bt⟩:=bh (show Fm q aV b2 (ad.setRow a4 (tY c d e f (g:Int) (af (M ⟨U,V,S⟩) a5 W) (af (M ⟨v,w,S⟩) a5 x) (af (M ⟨b3,0,S⟩) a5 a5)).cells) from ar.o.C (k:=a4) ae.o _) (show jY (ad.setRow a4 (tY c d e f (g:Int) (af (M ⟨U,V,S⟩) a5 W) (af (M ⟨v,w,S⟩) a5 x) (af (M ⟨b3,0,S⟩) a5 a5)).cells) a4 (tY c d e f (g:Int) (af (M ⟨U,V,S⟩) a5 W) (af (M ⟨v,w,S⟩) a5 x) (af (M ⟨b3,0,S⟩) a5 a5)) from⟨b0.o.row _,t.o⟩) (b5.o.m (g':=a4) (cs':=(tY c d e f (g:Int) (af (M ⟨U,V,S⟩) a5 W) (af (M ⟨v,w,S⟩) a5 x) (af (M ⟨b3,0,S⟩) a5 a5)).cells) (dU bC.o));clear ar b0 b5 a0;refine mn ⟨rfl,zI ag fun a0 ar=>?_⟩;have b0:=H.o a0 a4 b3 b6 ⟨ag.o.ext ar,bs.o.ext ar,bt.o.ext ar,bv.o,bC.o,ae.o,bz.o⟩;clear ag bs bt ar;exact b0
 intro H a0 a1 a2 ⟨a4,a6,a9,ac,ad,ae,ag⟩
 try dsimp only
 let ⟨ar,b0,b3,b5,b6,bs⟩:=ej a4 a6 a9 ac ad ae;have bt:=aH ag;clear a4 a6 a9 ac ad ae ag;let ⟨a4,a6⟩:=aX (tY c d e f (g:Int) (af (M ⟨U,V,S⟩) a5 W) (af (M ⟨v,w,S⟩) a5 x) (af (M ⟨a1,0,S⟩) a5 a5));rw[<-a6] at b0;obtain⟨a9,ac,ad⟩:=bh a6 (show Gp b4 a4 h i g l n by rw[a6];exact bn.o _) (show a4.it=af S 0 0/\a4.re=af (M ⟨a1,0,S⟩) a5 a5/\a4.s=c/\a4.first=0/\a4.new=aC by rw[a6];exact⟨rfl,rfl,rfl,rfl,rfl⟩);clear a6;let ⟨a6,ae⟩:=aX H.heap.size;obtain⟨ag,bu,bv,bx⟩:=dq (show a0<a6/\a1<a6/\b4.heap.size<=a0/\b4.heap.size<=a1 by rw[ae,bk.o];exact⟨b0.o.j.lt,b3.o.lt,bs.o,bt.o⟩) (show∀bz:Obj,a6<=(H.alloc bz).heap.size from fun bC=>by rw[dA,ae];omega) (QG t.o) (bd.o _ ar.o);clear ae;have c41:=b0.o.t 6 (v:=af S 0 0) (by rw[<-ad.o.1];rfl);have z41:=b0.o.j.frozen 141;have lM:=b0.o.j.lt;go_upto_region 6 with(first|(with_reducible refine bA dW 26 (aI 5) rfl aV 0 135 rfl _ _ _ _ (b8.o _ ar.o) (ij _ u.o) (yD u.o) rfl ik ew ?_)|(with_reducible refine Kl dW _ (aI 43) rfl c t.o rfl rfl ?_)|(with_reducible refine jE rfl 35 (aI 44) rfl 99 (zo c) 148 (aG fJ) nC Jb zIt bv.o dD dD _ rfl rfl ?_)|(at_builtin;go_must (refine oh (base:=a6) rfl (aI 42) (aI 45) 35 rfl 99 (aG fJ) 148 296 nC AF zIt dD dD rfl (jW.nil _ a6 99 148) dD (bu.o _) _ (zo c) rfl (Bx.new _ _ _) bv.o L9 ?_;intro ae w9 bz bC bK bL;obtain⟨A9,c9,bR,bU⟩:=bz.len;subst bR;have HM9:=aH (show jY w9 a0 a4 from⟨(b0.o.j.alloc _).below bC ag.o.1,b0.o.ok⟩);have HR9:=aH (show Bx w9 a1 63 a2 from(b3.o.alloc _).below bC ag.o.2.1);have HO9:=aH bz;have HS9:=aH ((ar.o.alloc _).Ga bC (show aV+b2.length<=a6 by have:=ag.o;have:=bs.o;omega));have HZ9:=aH (show a6<=w9.heap.size from aY (bu.o _) bC.size);clear bz bC bK bL;have c41:=HM9.o.t 6 (v:=af S 0 0) (by rw[<-ad.o.1];rfl);have z41:=HM9.o.j.frozen 141;have lM:=HM9.o.j.lt)))
 try simp only[ak]
 obtain⟨ae,bz⟩:∃bC:aq,bC=af A9 1 c9:=⟨_,rfl⟩;let ⟨bC,bK⟩:=aX (w9.setCell ⟨a0,141,S⟩ (af A9 1 c9));have bL:fO w9 bC a0 S:=by rw[bK];exact(fO.refl w9 a0 S).set (a:=⟨a0,141,S⟩) (.inl rfl) _
 obtain⟨bR,bU⟩:=aQ (show jY bC a0 {a4 with it:=ae,Ru:=a4.Ru,new:=a4.new,first:=a4.first} by rw[bK,bz];exact HM9.o.set 6 _ rfl rfl) (HR9.o.G bL (dU b6.o) dS);have bV:jW bC a6 99 148 ae [zo c]:=by rw[bz];exact(show jW w9 a6 99 148 (af A9 1 c9) [zo c] from HO9.o).G bL (fun bY=>by have:=(HO9.o.gQ bY).1;have:=ag.o;omega)
 have bY:=aH (show pI bC a6 ae [(.seq c,0)] [zo c] from⟨bV,rfl,fun c0 c1 c2 c3 c4=>by
  have c5:c0=0:=by have:=(aP.1 c3).1;simp only[cW] at this;omega
  subst c5;simp only[fF,bq] at c3 c4;subst c3 c4;exact⟨bv.o,rfl,Tx t.o,L9,fun c3 c4=>(by cases c4;exact⟨t.o,Tw t.o⟩),fun c5 c6 c7=>(by cases c7),fun c8 ca cb=>(by cases cb)⟩⟩)
 have c0:=aH (show bD b4 bC from bL.yG (by
  have c1:=HS9.o.F;refine⟨c1.os.trans bl.o.F.os.symm,c1.tape.trans bl.o.F.tape.symm,c1.output.trans bl.o.F.output.symm,by rw[bk.o];exact HS9.o.k,fun c2 c3=>?_⟩;rw[bk.o] at c3;exact br.o c2 c3 w9 HS9.o) ag.o.2.2.1 dS)
 have c1:=aH (aY HZ9.o bL.size);rw[<-bK];clear bK bL bz bV c41 z41 lM HS9 HM9 HR9 HO9 HZ9 b0 b3 ar;go_wp2_with fail
 go_loopw [14,50] (fun ar b0 wr=>ar=J E 0/\∃(b3:Nat)(bz:List (eQ×Int))(bK:List (Array aq))(bL:Mk)(bV:Array aq)(c2:Fr),b3<=a5/\b0=J E (b3:Int)/\EnS b4 a0 a1 a6 63 a5 a4 h i g l b3 bz bK bL bV c2 wr) (fun _ c3 _=>a5-(intOf c3).toNat)
 case atStart=>exact⟨rfl,0,[(.seq c,0)],[zo c],{a4 with it:=ae,Ru:=a4.Ru,new:=a4.new,first:=a4.first},a2,jJ 0 0 0 0 0,qo _,rfl,⟨_,_,_,_,rfl⟩,by show 0<=a4.first;rw[ad.o.2.2.2.1];omega,by show a4.first<=_;rw[ad.o.2.2.2.1];omega,bR.o,bY.o,⟨fun _=>by rw[ad.o.2.2.1],fun ar=>by omega,fun b0=>by omega⟩,bU.o,b5.o,c0.o,c1.o,fun _=>ad.o.2.2.2.2,fun b3=>by omega⟩
 case round=>
  obtain⟨rfl,ar,b0,b3,bz,bK,bL,bV,rfl,c2⟩:=hrel;have c3:=aH c2;clear c2;have c2:=aH c3.o.ex;have c4:=aH c3.o.mb
  by_cases c5:ar<a5
  ·have c6:=aH c5
   let ⟨c7,c8⟩:∃ca,n[ar]?=M ca:=⟨_,aA (D8 a7.o c5)⟩;let ⟨ca,cb⟩:∃cc,l[ar]?=M cc:=⟨_,aA (by rw[a3.o.len,<-a7.o];exact c5)⟩;let ⟨cc,cd⟩:=aQ c8 cb;have ce:=ap.o ar c7 c8 wr ((bd.o _ bl.o).trans c2.o);have cf:decide ((ar:Int)<(a5:Int))=aB:=decide_eq_true O
   have cg:c7=1\/(c7=2/\1<=ar):=by
    rcases a3.o.tx.r c7 (bg c8) with ch|ch
    ·exact .inl ch
    ·refine .inr ⟨ch,?_⟩
     have ci:=a3.o.tx.h;rcases ns ar with ck|ck
     ·rw[ck] at c8;rw[ci] at c8;injection c8 with cl;omega
     ·exact ck
   have ch:v<wr.heap.size:=by have:=ax.o;have:=((bd.o _ bl.o).trans c2.o).size;omega
   have ci:E.wrap ((ar:Int)-0)=(ar:Int):=by rw[Int.sub_zero];exact an _ (dU a8.o)
   have ck:E.wrap (ar:Int)=(ar:Int):=an _ (dU a8.o);have cl:E.wrap ((ar:Int)+1)=((ar+1:Nat):Int):=by rw[show((ar+1:Nat):Int)=(ar:Int)+1 by omega];exact an _ (dU a8.o)
   clear c8 cb c5 bV;rcases cg with c8|⟨cb,cn⟩
   ·subst c8
    go_wp2_with fail;let ⟨c8,cg,co,cp,cr⟩:=c3.o.eq;obtain⟨cs,ct,cu⟩:=bh cr (c3.o.i.len (gC a8.o c6.o)) (show∀cv,bz.it.ownBlock=M cv->a6<=cv from fun cw cx=>(c3.o.it.ow.gQ cx).1);refine(Ta a0 a6 bz b0 b3 ar (gC a8.o c6.o) wr c4.o ag.o.1 c3.o.k c3.o.it (dU ct.o)).mono ?_;rintro cv cw ⟨cx,cy,rfl,cz,cA,cB,cC⟩;obtain⟨cE,cF,cI,cL,cN⟩:=dZ cz cA (cB.yG c2.o ag.o.2.2.1 (fun cO cR=>by have:=cu.o cO cR;have:=ag.o;omega)) (c3.o.rr.G cB (dU b6.o) (fun cS=>by have:=cu.o _ cS;have:=ag.o;omega)) (aY c3.o.k cB.size);clear cz cA cB cC cr;go_wp2_with fail;refine(Av a0 a6 a1 63 bK a5 {bz with first:=ar,Ru:=aC,new:=aC,it:=cx} (b0++[(.G7 aB ar,0)]) (b3++[cy]) h i g ar ca.2 1 0 b4 cw cE.o ag.o.1 ag.o.2.1 (dU b6.o) cN.o cI.o ag.o.2.2.1 ag.o.2.2.2 cF.o (eZ cs.o ad.o.2.1) c6.o a8.o.2 cL.o c3.o.rs (fun cr cz=>s.o a0 a6 {bz with first:=ar,Ru:=aC,new:=aC,it:=cx} (b0++[(.G7 aB ar,0)]) (b3++[cy]) h i g ar l n 1 ca.1 ca.2 b4 (eZ cs.o (ac.o.same _ _ _ _)) cc.o (by rw[cd.o]) aC ca.2 cr (cE.o.ext cz) ag.o.1 (aY cN.o cz.size) (cI.o.trans cz) ag.o.2.2.1 (cF.o.ext cz) (by have:=ct.o;rw[aJ,cW];omega) (.inl ⟨rfl,rfl⟩) 0 (by show(0:Int)=(ar:Int)-(ar:Int);omega) O O)).mono ?_;rintro cr cz ⟨cA,cB,cC,cO,cR,rfl,cS,cT,cU,cV,cY,d0,d1,d2,d3⟩;obtain⟨d4,d5,d6,d7,d8,d9⟩:=ej (bZ cS (bZ cT cU)) cV cY d0 d1 d2;have dc:=aH d3;clear cS cT cU cV cY d0 d1 d2 d3 ce ch;go_wp2_with fail
    go_loopw [17] (fun cS cT=>cS=J E (ar:Int)/\cT=cz) (fun _ _=>0)
    case atStart=>exact⟨rfl,rfl⟩
    case round=>
     obtain⟨rfl,cS⟩:=hrel;have cT:=cS.symm;clear cS;subst cT;have cS:decide ((ar:Int)<(ar:Int))=av:=decide_eq_false O;go_wp2_with fail;exact⟨⟨rfl,ar+1,_,_,_,_,cB,c6.o,by go_num,⟨cC,aC,cA,ar,by rw[cs.o]⟩,by show 0<=(ar:Int);omega,by show(ar:Int)<=((ar+1:Nat):Int);omega,d5.o,d6.o,by have:=(c3.o.i.next (m:={bz with first:=ar,Ru:=aC,new:=aC,it:=cx}) (its:=b0) (tl:=cO) (by rw[cs.o];exact⟨rfl,rfl,rfl,rfl⟩) (src:=ca.1) (fs:=ca.2) (by rw[cd.o]) d7.o).1 rfl rfl (gC a8.o c6.o);exact this,d8.o,by rw[qT (by rw[c3.o.rs,fA];have:=c6.o;omega)];exact c3.o.rs,d9.o,aY cN.o dc.o,fun cT=>by omega,fun _=>d4.o⟩,by simp[intOf];have:=c6.o;omega⟩
   ·subst cb
    go_wp2_with fail;let ⟨c8,cb,cg,co,cp⟩:=c3.o.eq;obtain⟨cr,cs,ct⟩:=bh cp (c3.o.i.len (gC a8.o c6.o)) (show∀cu,bz.it.ownBlock=M cu->a6<=cu from fun cv cw=>(c3.o.it.ow.gQ cw).1);clear cp;have cp:=aH (c3.o.n1 cn);have cu:=aH c3.o.k;refine(Av a0 a6 a1 63 bK a5 bz b0 b3 h i g ar ca.2 2 ((ar:Int)-bz.first) b4 wr c4.o ag.o.1 ag.o.2.1 (dU b6.o) c3.o.k c2.o ag.o.2.2.1 ag.o.2.2.2 c3.o.it (eZ cr.o ad.o.2.1) c6.o a8.o.2 c3.o.rr c3.o.rs (fun cv cw=>s.o a0 a6 bz b0 b3 h i g ar l n 2 ca.1 ca.2 b4 (eZ cr.o (ac.o.same _ _ _ _)) cc.o (by rw[cd.o]) bz.new bL cv (c4.o.ext cw) ag.o.1 (aY c3.o.k cw.size) (c2.o.trans cw) ag.o.2.2.1 (c3.o.it.ext cw) (dU cs.o) (.inr ⟨rfl,⟨(cp.o.1.mono (fun _ _ _=>trivial)).ext cw,cp.o.2.1⟩,cp.o.2.2,cp.o.1.ext cw⟩) _ rfl (dU c3.o.f1) (uL c3.o.f0 a8.o c6.o))).mono ?_;rintro cv cw ⟨cx,cy,cz,cA,cB,rfl,cC,cE,cF,cI,cL,cN,cO,cR,cS⟩;obtain⟨cT,cU,cV,cY,d0,d1⟩:=ej (bZ cC (bZ cE cF)) cI cL cN cO cR;have d2:=aH cS;clear cC cE cF cI cL cN cO cR cS ce ch;go_wp2_with fail
    go_loopw [17] (fun ce ch=>ce=J E (ar:Int)/\ch=cw) (fun _ _=>0)
    case atStart=>exact⟨rfl,rfl⟩
    case round=>
     obtain⟨rfl,ce⟩:=hrel;have ch:=ce.symm;clear ce;subst ch;have ce:decide ((ar:Int)<(ar:Int))=av:=decide_eq_false O;go_wp2_with fail;exact⟨⟨rfl,ar+1,_,_,{bz with it:=cz,Ru:=bz.new,new:=cx},_,cy,c6.o,by go_num,⟨cz,cg,cx,co,by rw[cr.o]⟩,c3.o.f0,by have:=c3.o.f1;show bz.first<=((ar+1:Nat):Int);omega,cU.o,cV.o,by have:=(c3.o.i.next (m:=bz) (its:=b0) (tl:=cA) (by rw[cr.o];exact⟨rfl,rfl,rfl,rfl⟩) (src:=ca.1) (fs:=ca.2) (by rw[cd.o]) cY.o).2 cn;exact this,d0.o,by rw[qT (by rw[c3.o.rs,fA];have:=c6.o;omega)];exact c3.o.rs,d1.o,aY cu.o d2.o,fun ch=>by omega,fun _=>cT.o⟩,by simp[intOf];have:=c6.o;omega⟩
  ·obtain rfl:ar=a5:=O
   have c6:=aH (c3.o.i.g a8.o.1)
   have c7:b0≠[]:=by
    let ⟨c8,ca,cb,cc⟩:=c6.o;intro cd;have ce:=AG (fun cf cg=>(cc cf cg).x);rw[<-ca,cd,cb] at ce;have:=a8.o;simp at ce;omega
   let ⟨c8,ca,cb,cc,cd,ce⟩:=c3.o.it.itl c7;let ⟨cf,cg⟩:=aQ ce cb;let ⟨ch,ci,ck,cl,cn⟩:=c3.o.eq;have co:=aH (show bz.re=af (M ⟨a1,0,S⟩) ar ar by rw[cn];exact ad.o.2.1)
   have cp:=aH (show(∀cr∈b0,cr.2=0)/\szF b0 b0.length<=1048576/\b0.length<=256 from by
    let ⟨cr,cs,ct,cu⟩:=c6.o;have cv:=xJ cu;have cw:=a8.o;refine⟨fun cx cy=>?_,?_,?_⟩
    ·rw[cs] at cy
     let ⟨cz,cA,cB⟩:=List.mem_flatMap.1 cy;exact(cu cz cA).z cx cB
    ·rw[Aa8,cs];omega
    ·rw[cs];omega)
   have c41:=c4.o.t 6 (v:=af (M ⟨c8,0,S⟩) b0.length ca) (by rw[<-cb];rfl);have lM:=c4.o.j.lt;clear c7 cb cc cd ce cn c5 bV;go_wp2_with fail;refine(Qa b0 wr c8 0 ca cf.o cp.o.1 cp.o.2.1 cp.o.2.2 (a3.o.gl.ext ((bd.o _ bl.o).trans c2.o))).mono ?_;rintro bV c5 ⟨c7,rfl,cb⟩;let ⟨cc,cd⟩:=di cb c2 c4;have ce:=aH (c3.o.it.ext cb);clear cb c41 lM;have lM:=cd.o.j.lt;go_upto_region 24 with fail;refine aL 5 (fun cb=>jY cb a0 bz) rfl (fun cn cr=>?_);have cb:=cd;let ⟨cs,ct,cu⟩:=gO cr cd cc ce;clear cr cc ce;refine gN 0 4 3 ?_;simp only[sZ,ak];go_big_quiet_step (fail);refine lC cb 35 95 a0 141 (af (M ⟨c8,0,S⟩) b0.length ca) (fun _ cc=>(cg.o▸cc.t 6 rfl)) nC ?_;simp only[sZ,ak];go_big_quiet_step (fail);refine lC cb 27 97 a0 142 (af (M ⟨a1,0,S⟩) ar ar) (fun _ cc=>(co.o▸cc.t 7 rfl)) oa ?_;refine aN (fK 4 2 cs fun cc ce=>?_);simp only[sZ,ak];let ⟨cr,cv⟩:=di ce cs cu;have cw:=ct.o.trans ce;obtain⟨cx,cy,cz,cA⟩:=dq ((bd.o _ bl.o).trans cw) ((ba.o _ bl.o).ext cw) ((bb.o _ bl.o).ext cw) ((bc.o _ bl.o).ext cw);clear ce cw cs cu ct lM;have ce:=cy.o.cell 0 (v:=af S 0 0) rfl;have cs:=cy.o.frozen 0;have ct:=cy.o.lt;go_wp2_with fail;have cu:fO cc (cc.setCell ⟨aV+1+1,0,S⟩ (af (M ⟨c8,0,S⟩) b0.length ca)) (aV+1+1) S:=(fO.refl cc (aV+1+1) S).set (a:=⟨aV+1+1,0,S⟩) (.inl rfl) _;obtain⟨cw,cB,cC,cE,cF,cI⟩:=ej (cv.o.C cu (uL ag.o bk.o b7.o)) (show bD q (cc.setCell ⟨aV+1+1,0,S⟩ (af (M ⟨c8,0,S⟩) b0.length ca)) from cx.o.setCell (by show q.heap.size<=aV+1+1;have:=bf.o;omega) _) (show Bx (cc.setCell ⟨aV+1+1,0,S⟩ (af (M ⟨c8,0,S⟩) b0.length ca)) (aV+1+1) 35 #[af (M ⟨c8,0,S⟩) b0.length ca] from cy.o.L 0 (af (M ⟨c8,0,S⟩) b0.length ca)) (cz.o.G cu O dS) (cA.o.G cu O dS) (cr.o.j.G cu (uL ag.o bk.o b7.o) dS);have cL:=aH (show jY (cc.setCell ⟨aV+1+1,0,S⟩ (af (M ⟨c8,0,S⟩) b0.length ca)) a0 bz from⟨cI.o,cr.o.ok⟩);clear cI;have cI:=cL;clear cL;clear cu ce cs ct cr cv cx cy cz cA;refine fK 5 1 cI fun w9 ce=>?_
   simp only[sZ,ak];let ⟨HM9,cr,cs,ct,cu,cv⟩:=rM ce cI cw cB cC cE cF;clear ce cI cw cB cC cE cF;have ce:=cu.o.cell 0 (v:=af S 0 0) rfl;have cw:=cu.o.frozen 0;have cx:=cu.o.lt;go_wp2_with fail;have cy:fO w9 (w9.setCell ⟨aV+1+1+1,0,S⟩ (af (M ⟨a1,0,S⟩) ar ar)) (aV+1+1+1) S:=(fO.refl w9 (aV+1+1+1) S).set (a:=⟨aV+1+1+1,0,S⟩) (.inl rfl) _;obtain⟨cz,cA,cB,cC,cE,cF⟩:=ej (cr.o.C cy (uL ag.o bk.o b7.o)) (show bD q (w9.setCell ⟨aV+1+1+1,0,S⟩ (af (M ⟨a1,0,S⟩) ar ar)) from cs.o.setCell (by show q.heap.size<=aV+1+1+1;have:=bf.o;omega) _) (show Bx (w9.setCell ⟨aV+1+1+1,0,S⟩ (af (M ⟨a1,0,S⟩) ar ar)) (aV+1+1+1) 27 #[af (M ⟨a1,0,S⟩) ar ar] from cu.o.L 0 (af (M ⟨a1,0,S⟩) ar ar)) (ct.o.G cy O dS) (cv.o.G cy O dS) (HM9.o.j.G cy (uL ag.o bk.o b7.o) dS);have cI:=aH (show jY (w9.setCell ⟨aV+1+1+1,0,S⟩ (af (M ⟨a1,0,S⟩) ar ar)) a0 bz from⟨cF.o,HM9.o.ok⟩);clear cF;have cF:=cI;clear cI;clear cy ce cw cx HM9 cr cs ct cu cv;refine X8 6 0 fun ce cr=>?_
   simp only[sZ,ak];let ⟨cs,ct,cu,cv,cw,cx⟩:=rM cr cF cz cA cC cB cE;clear cr cF cz cA cC cB cE;have cr:=cx.o.cell 0 (v:=J E 0) rfl;have cy:=cx.o.frozen 0;have cz:=cx.o.lt;go_wp2_with fail;have cA:fO ce (ce.setCell ⟨aV+1+1+1+1,0,S⟩ (J E 0)) (aV+1+1+1+1) S:=(fO.refl ce (aV+1+1+1+1) S).set (a:=⟨aV+1+1+1+1,0,S⟩) (.inl rfl) _;obtain⟨cB,cC,cE,cF,cI,cL⟩:=ej (ct.o.C cA (uL ag.o bk.o b7.o)) (show bD q (ce.setCell ⟨aV+1+1+1+1,0,S⟩ (J E 0)) from cu.o.setCell (by show q.heap.size<=aV+1+1+1+1;have:=bf.o;omega) _) (show Bx (ce.setCell ⟨aV+1+1+1+1,0,S⟩ (J E 0)) (aV+1+1+1+1) 36 #[J E 0] from cx.o.L 0 (J E 0)) (cv.o.G cA O dS) (cw.o.G cA O dS) (cs.o.j.G cA (uL ag.o bk.o b7.o) dS);have cN:=aH (show jY (ce.setCell ⟨aV+1+1+1+1,0,S⟩ (J E 0)) a0 bz from⟨cL.o,cs.o.ok⟩);clear cL;have cL:=cN;clear cN;clear cA cr cy cz cs ct cu cv cw cx;clear cb;refine pX fun cb cr=>?_
   let ⟨cs,ct,cu,cv,cw,cx⟩:=rM cr cL cB cC cF cI cE;clear cr cL cB cC cF cI cE
   try simp only[ak]
   go_wp2_with fail;have cr:=cv.o.cell 0 (v:=af (M ⟨c8,0,S⟩) b0.length ca) rfl;have cy:=cw.o.cell 0 (v:=af (M ⟨a1,0,S⟩) ar ar) rfl;have cz:=cx.o.cell 0 (v:=J E 0) rfl;have cA:(oA 35 ⟨aV+1+1,0,S⟩).run aE cb=.ok (af (M ⟨c8,0,S⟩) b0.length ca) cb:=by simp[go_sem,cr]
   have cB:(oA 27 ⟨aV+1+1+1,0,S⟩).run aE cb=.ok (af (M ⟨a1,0,S⟩) ar ar) cb:=by simp[go_sem,cy]
   have cC:(oA 36 ⟨aV+1+1+1+1,0,S⟩).run aE cb=.ok (J E 0) cb:=by simp[go_sem,cz]
   refine leaves_cons (f:=64) (args:=#[aD (M ⟨aV+1+1,0,S⟩),aD (M ⟨aV+1+1+1,0,S⟩),aD (M ⟨aV+1+1+1+1,0,S⟩)]) dS (by simp[go_sem]) ?_;refine(Y7 _ _ _ _).mono ?_;rintro cE cF cI ⟨rfl,rfl,rfl⟩;exact⟨_,yt results26 _ _ _ _ _ _ _ _ rfl rfl rfl cA cB cC,a6,c8,ca,a1,b0,b3,rfl,by rw[<-cg.o];exact ct.o,by have:=ag.o;have:=bk.o;have:=be.o;omega,c3.o.i.cg (by rw[a9.o];exact⟨rfl,rfl,rfl,rfl⟩),cu.o⟩
def Xy:(aE.info? 280).map (fun i=>(i.zero,i.size,i.bytes))=M (M (aG vE),408,3200):=dK
def hp0:Pc:=⟨1,3,0,aB,av,av⟩
def bt0:List Bool:=jC 5 8++aF 13 aB
def EU(a:Sq)(b:RE a hp0 av)(c:a.w=16)(d:Dr a hp0=16)(e:a.B=av){f:Nat->Prop}(g:Option Addr)(h i:Nat)(l:T)(n:du f l g h (kX (bt0++[aB]))):
  aT aE 161 #[aG a.cells,aG (gJ hp0),ao av,aG #[J E 1,af g h i]] l fun o p=>∃q,o=aK (fE #[J E 8,af (M ⟨q,0,S⟩) 1 1,J E 0])/\Bx p q 280 mI.cells/\l.heap.size<=q/\bD l p:=by
 obtain⟨o,p,q,r,s,t⟩:=ej b (jB b.sq) n c e (show∀u,aT aE 193 #[aG a.cells,aG (gJ hp0),ao av] u (fh u (ao aB)) from fun v=>ET a hp0 av b v);obtain⟨u,v,w⟩:=bh (show∀x,aT aE 158 #[aG a.cells,aG (gJ hp0)] x (fh x (J E 1)) from fun y=>by have:=wD a hp0 av b y;rw[d] at this;exact this) (show∀z,aT aE 163 #[aG a.cells,aG (gJ hp0),ao av] z (fh z (aG #[J E 1,J E 3,ao av,ao av])) from fun H=>by have:=vZ a b.sq hp0 av H;rw[e] at this;exact this) (show(gJ hp0).extract 0 (0+6)=gJ hp0/\0+6<=(gJ hp0).size from⟨rfl,aw 6⟩);let ⟨x,y,z,H,U,V,W,Y,a0,a1,a2,a3⟩:=Nk l a.cells 26 (gJ hp0) 93 (#[J E 1,af g h i]) 121;obtain⟨a4,a5⟩:=aQ (show z.heap.size=x+y.length by rw[U,W.o,H];simp) H;go_enter func161,ntmps161;go_upto_region 1 with fail
 try simp only[sZ,ak]
 refine mr U ?_
 try simp only[dA]
 rw[<-H];clear U H;refine aL 99 (fun H=>Fm l x y H) rfl (fun U a6=>?_);have H:=Y;have a7:=mX a6 Y;refine gN 0 3 16 ?_;simp only[sZ,ak];refine lR H 26 4 x 0 135 a.cells (fun _ a8=>qg (a1.o _ a8) p.o) ik ew ?_;refine lR H 93 5 (x+1) 0 6 (gJ hp0) (fun _ a8=>qg (a2.o _ a8) rfl) zV ja ?_;simp only[sZ,ak];go_big_quiet_step (fail);refine aN (fK 3 15 a7 fun a8 a9=>?_);simp only[sZ,ak];have aa:=mX a9 a7;go_wp2_with fail;refine mR (t.o a8) fun ab ac=>?_
 have ad:=mX ac aa;go_wp2_with fail;refine gN 4 11 4 ?_;simp only[sZ,ak];iterate 3 (go_big_quiet_step (fail))
 refine lC H 3 24 (x+1+1) 0 (J E 1) (fun _ ae=>(a3.o _ ae).cell 0 rfl) bJ ?_;simp only[sZ,ak];iterate 4 (go_big_quiet_step (fail))
 refine lC H 3 29 (x+1+1) 0 (J E 1) (fun _ ae=>(a3.o _ ae).cell 0 rfl) bJ ?_;refine lR H 26 4 x 0 135 a.cells (fun _ ae=>qg (a1.o _ ae) p.o) ik ew ?_;refine lR H 93 5 (x+1) 0 6 (gJ hp0) (fun _ ae=>qg (a2.o _ ae) rfl) zV ja ?_;refine aN (fK 15 3 ad fun ae ag=>?_);simp only[sZ,ak];have ah:=mX ag ad;go_wp2_with fail;refine mR (u.o ae) fun ai aj=>?_
 have al:=mX aj ah;go_wp2_with fail;refine gT 16 3 0 ?_;refine zI al fun am ap=>?_
 have ar:=mX ap al
 try simp only[ak]
 have ax:=(a3.o _ ar.o).cell 1 (v:=af g h i) rfl;have ay:=(a3.o _ ar.o).lt;have aV:=aH (q.o.ext (a0.o _ ar.o));go_wp2_with fail;refine(GP g h i bt0 am aV.o dD).mono ?_;rintro b0 b1 ⟨b2,rfl,b3,b4,b5⟩;obtain⟨b6,b7⟩:=aQ (show Rd b1 b2 (jC 5 8++aF 13 aB) from b3) (show x+y.length<=b2 from aY ar.o.k b5);have b8:=mX b4 ar;go_wp2_with fail;refine mR (UA b2 (jC 5 8) (aF 13 aB) 5 b1 b6.o rfl dD) fun b9 ⟨ba,bb⟩=>?_
 obtain⟨bc,bd⟩:=aQ ba (show Fm l x y b9 from b8.o.Ga (bb.below (B:=b2) (M5 b6.o.lt) (fun be bf=>by omega)) b7.o);rw[show valB (jC 5 8)=8 from rfl];go_wp2_with (first|(refine lA 26 4 x (a1.o _ bd.o) p.o ?_)|(refine lS 93 5 (x+1) 0 (a2.o _ bd.o) w.o.1 w.o.2 ?_));refine mR (v.o b9) fun be bf=>?_
 let ⟨bi,bk⟩:=di bf bd bc;go_wp2_with fail;refine mR (Ep 8 be) fun bl bn=>?_
 let ⟨br,bs⟩:=di bn bi bk;rw[show(bH 8).val=aG (aS E (bH 8).l) from rfl];let ⟨bt,bu⟩:=aX bl.heap.size;obtain⟨bv,bx,bz,bC,bK,bL⟩:=ej (show Bx ((bl.alloc (az #[J E 0,J E 0,ao av,ao av] 283)).alloc (az #[J E 0,J E 0,J E 0,J E 0,J E 0,J E 0,J E 0,J E 0] 324)) bl.heap.size 283 #[J E 0,J E 0,ao av,ao av] from(Bx.new _ _ _).alloc _) (show Bx (((bl.alloc (az #[J E 0,J E 0,ao av,ao av] 283)).alloc (az #[J E 0,J E 0,J E 0,J E 0,J E 0,J E 0,J E 0,J E 0] 324)).setRow bl.heap.size #[J E 1,J E 3,ao av,ao av]) (bl.heap.size+1) 324 #[J E 0,J E 0,J E 0,J E 0,J E 0,J E 0,J E 0,J E 0] from(show Bx ((bl.alloc (az #[J E 0,J E 0,ao av,ao av] 283)).alloc (az #[J E 0,J E 0,J E 0,J E 0,J E 0,J E 0,J E 0,J E 0] 324)) (bl.heap.size+1) 324 #[J E 0,J E 0,J E 0,J E 0,J E 0,J E 0,J E 0,J E 0] from Bx.D _ _ _ _ dS).m O) (show(aE.info? 283).map (·.size)=M (#[J E 1,J E 3,ao av,ao av]:Array aq).size by kernel_rfl) (show(#[J E 0,J E 0,ao av,ao av]:Array aq).size=(#[J E 1,J E 3,ao av,ao av]:Array aq).size from rfl) (show(#[J E 1,J E 3,ao av,ao av]:Array aq).all (·.oneCell')=aB by simp[cJ]) (show(aE.info? 324).map (·.size)=M ((aS E (bH 8).l):Array aq).size by kernel_rfl);obtain⟨bR,bU⟩:=aQ (show(#[J E 0,J E 0,J E 0,J E 0,J E 0,J E 0,J E 0,J E 0]:Array aq).size=((aS E (bH 8).l):Array aq).size from rfl) (show((aS E (bH 8).l):Array aq).all (·.oneCell')=aB by kernel_rfl);go_upto_region 12 with(first|(refine bm rfl 283 (aI 14) (aI 59) rfl bl.heap.size #[J E 1,J E 3,ao av,ao av] rfl rfl bv.o bz.o bC.o bK.o ?_)|(refine bm rfl 324 (aI 15) (aI 62) rfl (bl.heap.size+1) (aS E (bH 8).l) rfl rfl bx.o bL.o bR.o bU.o ?_));simp only[ak];let ⟨bV,bY⟩:=aX ((((bl.alloc (az #[J E 0,J E 0,ao av,ao av] 283)).alloc (az #[J E 0,J E 0,J E 0,J E 0,J E 0,J E 0,J E 0,J E 0] 324)).setRow bl.heap.size #[J E 1,J E 3,ao av,ao av]).setRow (bl.heap.size+1) (aS E (bH 8).l));have c0:bD bl bV:=by rw[bY];exact aO (aO ((jd).alloc dS _) (aw _)) O
 obtain⟨c1,c2,c3⟩:=bh (show Bx bV bt 283 #[J E 1,J E 3,ao av,ao av] by rw[bY,bu];exact(bv.o.row _).m O) (show Bx bV (bt+1) 324 (aS E (bH 8).l) by rw[bY,bu];exact bx.o.row _) (show b2<bt by rw[bu];exact bs.o.lt);let ⟨c4,c5⟩:=di c0 br bs;rw[<-bY,<-bu];clear bY bu;have bu:=(a1.o _ c4.o).cell 0 (v:=J E 16) (by rw[<-r.o];rw[Sq.cells,bw];rfl);have bY:=(a1.o _ c4.o).lt;let ⟨c6,c7,c8,c9,ca⟩:=info_parts Xy;obtain⟨cb,cc,cd,ce⟩:=dq c7 c8 c9 (show c6.bytes*1<=281474976710656 by rw[ca];decide);go_upto_region 13 with(refine zG bV rfl (aI 65) (aI 65) 267 rfl bV.heap.size 280 c6 (aG vE) 408 underlying267 cb.o cc.o cd.o E E _ _ 1 rfl rfl rfl rfl ce.o dD (aw _) ?_;intro cf hown hgr);let ⟨cf,cg⟩:=aX bV.heap.size;rw[<-cg] at hown ⊢;let ⟨ch,ci,ck⟩:=AD dD hown;have cl:=bD.grown hgr;obtain⟨cn,co,cp⟩:=bh ci (show ch.size=408 from ck) (show bt+1<cf by rw[cg];exact c2.o.lt);clear cg;let ⟨cg,cr,cs,ct⟩:=nj cl c4 c5 c1 c2;go_upto_region 14 with fail
 go_loopw [12,69] (fun cu cv wr=>cu=J E 0/\∃cw:Nat,cw<=1/\cv=J E (cw:Int)/\Fm l x y wr/\Rd wr b2 (if cw=0 then aF 13 aB else[])/\Bx wr bt 283 #[J E 1,J E 3,ao av,ao av]/\Bx wr (bt+1) 324 (aS E (bH 8).l)/\Bx wr cf 280 (if cw=0 then ch else mI.cells)) (fun _ cx _=>1-(intOf cx).toNat)
 case atStart=>exact⟨rfl,0,by decide,rfl,cg.o,cr.o,cs.o,ct.o,cn.o⟩
 case round=>
  obtain⟨rfl,cu,cv,rfl,cw,cx,cy,cz,cA⟩:=hrel;let ⟨cB,cC,cE,cF,cI⟩:=dZ cw cx cy cz cA;have cL:cu=0\/cu=1:=O;obtain⟨cN,cO⟩:=aQ (show(#[J E 1,J E 3,ao av,ao av]:Array aq).extract 0 (0+4)=#[J E 1,J E 3,ao av,ao av]/\0+4<=(#[J E 1,J E 3,ao av,ao av]:Array aq).size from⟨rfl,aw 4⟩) (show((aS E (bH 8).l):Array aq).extract 0 (0+8)=(aS E (bH 8).l)/\0+8<=((aS E (bH 8).l):Array aq).size from⟨rfl,aw 8⟩);rcases cL with rfl|rfl
  ·obtain⟨cL,cR⟩:=aQ (show Rd wr b2 (aF 13 aB++[]) from cC.o) (show Bx wr cf 280 ch from cI.o)
   go_wp2_with (first|(refine bA dW 283 (aI 14) rfl bt 0 4 rfl _ _ _ _ cE.o cN.o.1 cN.o.2 rfl Bi dK ?_)|(refine lS 324 15 (bt+1) 0 cF.o cO.o.1 cO.o.2 ?_));refine mR (Te b2 [] wr cL.o) fun cS ⟨cT,cU⟩=>?_
   rw[show(bH 8).val=aG (aS E (bH 8).l) from rfl];obtain⟨cV,cY,d0,d1,d2⟩:=dZ (show Fm l x y cS from cB.o.Ga (cU.below (B:=b2) (M5 cL.o.lt) (fun d3 d4=>by omega)) b7.o) cT (cE.o.ud cU (dU c3.o)) (cF.o.ud cU (dU c3.o)) (cR.o.ud cU (gC c3.o cp.o));obtain⟨d3,d4,d5,d6,d7,d8⟩:=ej (show(aE.info? 280).map (·.size)=M mI.cells.size from xE.trans (by rw[da oN])) (show ch.size=mI.cells.size by rw[da oN];exact co.o) (show mI.cells.all (·.oneCell')=aB by kernel_rfl) (show(aE.info? 324).map (·.size)=M ((aS E (bH 8).l):Array aq).size by kernel_rfl) (show((aS E (bH 8).l):Array aq).size=((aS E (bH 8).l):Array aq).size from rfl) (show((aS E (bH 8).l):Array aq).all (·.oneCell')=aB by kernel_rfl);have d9:=aH (show Bx (cS.setRow cf mI.cells) (bt+1) 324 (aS E (bH 8).l) from d1.o.m (dU cp.o));go_wp2_with (first|(refine bm rfl 280 (aI 82) (aI 79) rfl cf mI.cells rfl rfl d2.o d3.o d4.o d5.o ?_)|(refine bm rfl 324 (aI 15) (aI 80) rfl (bt+1) (aS E (bH 8).l) rfl rfl d9.o d6.o rfl d8.o ?_));refine⟨⟨rfl,1,by decide,by go_num,(cV.o.C (uL c3.o cp.o b7.o) _).C (gC c3.o b7.o) _,?_,?_,d9.o.row _,?_⟩,by decide⟩
   ·rw[if_neg dD]
    have dc:∀(df:T)(dg:Nat)(dj:Array aq),b2<dg->Rd df b2 []->Rd (df.setRow dg dj) b2 []:=fun dk dl dm dn dp=>dp.ud (G:=(·=dl)) ⟨rfl,rfl,rfl,by rw[kB];exact aw _,fun dr ds dx=>iD _ _ _ _ dx⟩ (fun dy dC=>by omega)
    exact dc _ _ _ (dU c3.o) (dc _ _ _ (gC c3.o cp.o) cY.o)
   ·exact(d0.o.m (dU cp.o)).m O
   ·rw[if_neg dD]
    exact(d2.o.row _).m (dU cp.o)
  ·obtain⟨cL,cR⟩:=aQ (show Rd wr b2 [] from cC.o) (show Bx wr cf 280 mI.cells from cI.o)
   go_wp2_with fail;refine(UB b2 [] wr cL.o).mono ?_;rintro cS cT ⟨rfl,cU,rfl⟩;rw[show(([]:List Bool).length:Int)=0 from rfl];go_wp2;refine dY (v:=fE #[J E 8,af (M ⟨cf,0,S⟩) 1 1,J E 0]) (by simp only[Ih,results161];go_simp) rfl ⟨cf,rfl,cR.o.drewN cU,?_,(a0.o _ cB.o).drewN cU⟩;have:=a5.o;have:=b7.o;have:=c3.o;have:=cp.o;omega
def Kz:Sq:={w:=0,h:=0,num:=0,den:=0,B:=false,br:=0,bu:=0,X:=aF 64 0,R:=aF 64 0}
def jG:jt.cells.size=135:=dK
def By:Kz.cells.size=135:=dK
def nS(a:Sq)(b:Bool)(c:Int)(d:Bool)(e:Int):Array aq:=(a.cells.toList++[ao b,J E c,ao d,J E e]).toArray
def IB{a:Sq}(d:a.cells.size=135)(b c):((a.cells.toList++b).toArray)[135+c]?=b[c]?:=by
 rw[bw,aU (by rw[cj,d];omega),cj,d];congr 1;omega
def DH{a:Sq}(d:a.cells.size=135)(b e c):(a.cells.toList++b).toArray.setIfInBounds (135+e) c=(a.cells.toList++b.set e c).toArray:=by
 rw[iU,jT _ _ (by rw[cj,d];omega),cj,d,show 135+e-135=e by omega]
def IA{a:Sq}(b:a.cells.size=135)(c):((a.cells.toList++c).toArray).extract 0 (0+135)=a.cells/\0+135<=((a.cells.toList++c).toArray).size:=by
 refine⟨?_,by rw[qY,aJ,cj,b];omega⟩;have:=jv [] a.cells.toList c 0 135 rfl (by rw[cj,b]);rw[oT] at this;exact this
def FK{a}(b:a.cells.size=135)(c d e f g):(nS a c d e f).setIfInBounds 136 (J E g)=nS a c g e f:=DH b _ 1 _
def P5{a}(b:a.cells.size=135)(c d e f g):(nS a c d e f).setIfInBounds 137 (ao g)=nS a c d g f:=DH b _ 2 _
def P6{a}(b:a.cells.size=135)(c d e f g):(nS a c d e f).setIfInBounds 138 (J E g)=nS a c d e g:=DH b _ 3 _
def Abp{a}(b:a.cells.size=135)(c d e f g):(nS a c d e f).setIfInBounds 135 (ao g)=nS a g d e f:=DH b _ 0 _
def sC{a}(f:a.cells.size=135)(b c d e):(nS a b c d e)[135]?=M (ao b)/\(nS a b c d e)[136]?=M (J E c)/\(nS a b c d e)[137]?=M (ao d)/\(nS a b c d e)[138]?=M (J E e):=
 ⟨IB f _ 0,IB f _ 1,IB f _ 2,IB f _ 3⟩
def pZ:Array aq:=(J E 2::J E 2::(jt.cells.toList++(gJ hp0).toList++[ao aB,J E (-1)])).toArray
def WC(a):(fk 198 #[(0,J E 2),(1,J E 2),(2,aG jt.cells),(3,aG (gJ hp0)),(4,ao aB),(5,J E (-1))]).run aE a=.ok (aG pZ) a:=dK
def XA:(aE.info? 198).map (·.size)=M 145:=dK
def oO:(aE.info? 198).map (·.size)=M pZ.size:=dK
def sR:pZ.size=145:=dK
def xG:pZ.all (·.oneCell')=aB:=dK
def BP:(bW).size=145:=dK
def LM(h:Nat)(a:Sq)(b:a.cells.size=135)(c:Bool)(d:Int)(e:Bool)(f:Int)(i:T)(g:Bx i h 255 (nS a c d e f)):
  aT aE 192 #[aD (M ⟨h,0,S⟩)] i fun l n=>l=aK (fE #[])/\Bx n h 255 (nS a c d aB (-1))/\Ud i n (·=h):=by
 let ⟨a,l⟩:=aQ g b;have n:=g.cell 137 (sC b c d e f).2.2.1;have n:=g.cell 138 (sC b c d e f).2.2.2;have b:=g.frozen 137;have b:=g.frozen 138;have b:=g.lt;go_enter func192,ntmps192;go_wp2;refine gI rfl rfl ⟨rfl,?_,?_⟩
 ·have b:=(a.o.L 137 (ao aB)).L 138 (J E (-1))
  rw[P5 l.o,P6 l.o] at b;exact b
 ·exact((Ud.refl i (·=h)).set (a:=⟨h,137,S⟩) rfl _).set (a:=⟨h,138,S⟩) rfl _
def LJ(a:Nat)(b:T)(c:Bx b a 255 (nS jt aB (-1) aB (-1))):
  aT aE 216 #[aD (M ⟨a,0,S⟩),J E 2,J E 2,aG (gJ hp0)] b fun d e=>d=aK (aG pZ)/\Bx e a 255 (nS jt aB (-1) av (-1))/\Ud b e (·=a):=by
 have d:=aH c;have e:=aH c.lt;have f:=aH (IA jG [ao aB,J E (-1),ao aB,J E (-1)]);let ⟨g,h,i,l,n,o,p,q,r,s,t⟩:=Jo b (gJ hp0) 93 bW 198;obtain⟨u,v⟩:=aQ (show Fm b g h i/\Bx i a 255 (nS jt aB (-1) aB (-1)) from⟨q.o,d.o.ext (r.o _ q.o)⟩) (show a<g by rw[l];exact c.lt);go_enter func216,ntmps216;go_upto_region 1 with fail
 try simp only[sZ,ak]
 refine mr n ?_
 try simp only[dA]
 rw[<-l];clear n l;refine aL 17 (fun l=>Fm b g h l/\Bx l a 255 (nS jt aB (-1) aB (-1))) rfl (fun n w=>?_);have l:=u;have x:=mX w u;refine gN 0 16 2 ?_;simp only[sZ,ak];iterate 5 (go_big_quiet_step (fail))
 refine lR l 26 14 a 0 135 jt.cells (fun _ y=>⟨_,_,y.2,f.o.1,f.o.2⟩) ik ew ?_;refine lR l 93 7 g 0 6 (gJ hp0) (fun _ y=>qg (s.o _ y.1) rfl) zV ja ?_;simp only[sZ,ak];iterate 3 (go_big_quiet_step (fail))
 refine lC l 4 19 a 137 (ao aB) (fun _ y=>y.2.cell 137 (sC jG aB (-1) aB (-1)).2.2.1) jD ?_;simp only[sZ,ak];iterate 3 (go_big_quiet_step (fail))
 refine lC l 3 23 a 138 (J E (-1)) (fun _ y=>y.2.cell 138 (sC jG aB (-1) aB (-1)).2.2.2) bJ ?_;simp only[sZ,ak];refine ei rfl (aG pZ) (fun y=>iW (qs:=#[(0,J E 2),(1,J E 2),(2,aG jt.cells),(3,aG (gJ hp0)),(4,ao aB),(5,J E (-1))]) rfl dK (WC y)) ?_;refine aN (fK 16 1 x fun y z=>?_);simp only[sZ,ak];have H:=mX z x;go_wp2_with fail;let ⟨U,V,W,Y,a0,a1⟩:=mY y bW 198;have a2:=mX a0 H;have a3:=aH (show g+2<=U by rw[W];have:=H.o.1.k;rw[p.o] at this;exact this);refine tf Y ?_;rw[<-W];clear Y W;refine fK 17 0 a2 fun W Y=>?_
 simp only[sZ,ak];let ⟨a4,a5⟩:=di Y a2 a1;refine bm rfl 198 (aI 9) (aI 25) rfl U pZ rfl rfl a5.o oO (by rw[BP,sR]) xG ?_;have a6:=aH (show Fm b g h (W.setRow U pZ)/\Bx (W.setRow U pZ) a 255 (nS jt aB (-1) aB (-1))/\Bx (W.setRow U pZ) U 198 pZ from⟨a4.o.1.C (eZ p.o a3.o) _,a4.o.2.m (gC a3.o v.o),a5.o.row _⟩);refine mn ⟨rfl,pX fun a7 a8=>?_⟩;obtain⟨a9,aa,ab,ac⟩:=dq (r.o _ (a6.o.1.ext a8)) (t.o _ (a6.o.1.ext a8)) (a6.o.2.1.ext a8) (a6.o.2.2.ext a8)
 try simp only[ak]
 have ad:=ab.o.cell 137 (sC jG aB (-1) aB (-1)).2.2.1;have ae:=ab.o.cell 138 (sC jG aB (-1) aB (-1)).2.2.2;have ag:=ab.o.frozen 137;have ah:=ab.o.frozen 138;have ai:=ab.o.lt;go_upto_region 3 with fail
 have aj:=aH (show Bx ((a7.setCell ⟨a,137,S⟩ (ao av)).setCell ⟨a,138,S⟩ (J E (-1))) a 255 (nS jt aB (-1) av (-1)) by
  have al:=(ab.o.L 137 (ao av)).L 138 (J E (-1));rw[P5 jG,P6 jG] at al;exact al)
 obtain⟨al,am,ap⟩:=bh (show Ud b ((a7.setCell ⟨a,137,S⟩ (ao av)).setCell ⟨a,138,S⟩ (J E (-1))) (·=a) from((Ud.bS (·=a) a9.o (fun ar ax ay=>by omega)).set (a:=⟨a,137,S⟩) rfl _).set (a:=⟨a,138,S⟩) rfl _) (show Bx ((a7.setCell ⟨a,137,S⟩ (ao av)).setCell ⟨a,138,S⟩ (J E (-1))) (g+1) 198 bW from(aa.o.C (by show g+1≠a;have:=v.o;omega) _).C (by show g+1≠a;have:=v.o;omega) _) (show Bx ((a7.setCell ⟨a,137,S⟩ (ao av)).setCell ⟨a,138,S⟩ (J E (-1))) U 198 pZ from(ac.o.C (by show U≠a;have:=v.o;have:=a3.o;omega) _).C (by show U≠a;have:=v.o;have:=a3.o;omega) _);generalize ((a7.setCell ⟨a,137,S⟩ (ao av)).setCell ⟨a,138,S⟩ (J E (-1)))=ar at*
 go_wp2_with (first|(refine bA dW 198 (aI 9) rfl U 0 145 rfl _ _ _ _ ap.o (ij _ sR) (yD sR) rfl zP XA ?_)|(refine bm rfl 198 (aI 8) (aI 32) rfl (g+1) pZ rfl rfl am.o oO (by rw[BP,sR]) xG ?_));obtain⟨a,b,c⟩:=bh (am.o.row pZ) (al.o.row (b:=g+1) (iJ o.o) pZ) (aj.o.m (g':=g+1) (cs':=pZ) (dU v.o));exact rR results216 a.o zP oO ⟨rfl,c.o,b.o⟩
def Jz(a:aq)(b c:Int)(d:Bool)(e f:Int):Array aq:=#[a,J E b,J E c,ao d,J E e,J E f]
def Sz{a:Array aq}{i b}(c:a[i]?=M b):a.setIfInBounds i b=a:=by
 apply Array.ext_getElem?;intro a;rw[Array.getElem?_setIfInBounds];split
 ·rename_i a
  subst a;split
  ·exact c.symm
  ·rename_i a
   rw[Array.getElem?_eq_none O] at c;cases c
 ·rfl
def rO:Array aq:=(J E 2::J E 2::J E 1::J E (-1)::J E (-1)::J E 0::(jt.cells.toList++(gJ hp0).toList)).toArray
def GN:Array aq:=(J E 0::J E 0::J E 0::J E 0::J E 0::J E 0::(jt.cells.toList++(gJ hp0).toList)).toArray
def enE:Array aq:=#[J E 2,J E 2,J E 1,J E (-1),J E (-1),J E 0]
def WG(a):(fk 135 #[(1,aG jt.cells),(2,aG (gJ hp0))]).run aE a=.ok (aG GN) a:=dK
def WE(a):(fk 133 #[(0,J E 2),(1,J E 2),(2,J E 1),(3,J E (-1)),(4,J E (-1))]).run aE a=.ok (aG enE) a:=dK
def Yd:jH GN 0 enE=rO:=dK
def Jf:(aE.info? 135).map (·.size)=M 147:=dK
def XE:(aE.info? 135).map (·.size)=M GN.size:=dK
def XD:(aE.info? 133).map (·.size)=M enE.size:=dK
def C9:rO.size=147:=dK
def OX:GN.size=147:=dK
def Ug:GN.all (·.oneCell')=aB:=dK
def OW:rO.all (·.oneCell')=aB:=dK
def Yc:enE.all (·.oneCell')=aB:=dK
def XC:(aE.info? 135).map (fun i=>(i.zero,i.size))=M (M (aG uY),147):=dK
def XB:(aE.info? 135).map (fun i=>(i.zero,i.size,i.bytes))=M (M (aG uY),147,264):=dK
def Jy:(uY).size=147:=dK
def ON:pZ.extract 2 (2+135)=jt.cells/\2+135<=pZ.size:=⟨by kernel_rfl,by rw[sR];decide⟩
def OO:pZ.extract 137 (137+6)=gJ hp0/\137+6<=pZ.size:=⟨by kernel_rfl,by rw[sR];decide⟩
def Lj:pZ[0]?=M (J E 2)/\pZ[1]?=M (J E 2)/\pZ[137]?=M (J E 1)/\pZ[143]?=M (ao aB)/\pZ[144]?=M (J E (-1)):=⟨by kernel_rfl,by kernel_rfl,by kernel_rfl,by kernel_rfl,by kernel_rfl⟩
def xd:rO[0]?=M (J E 2)/\rO[1]?=M (J E 2)/\rO[2]?=M (J E 1)/\rO[3]?=M (J E (-1))/\rO[4]?=M (J E (-1))/\rO[5]?=M (J E 0):=⟨by kernel_rfl,by kernel_rfl,by kernel_rfl,by kernel_rfl,by kernel_rfl,by kernel_rfl⟩
def Ye(n i e:Nat)(f g h:Int)(l:T)(a:1<=e)(d:Bx l n 193 (Jz (af (M ⟨i,0,S⟩) 1 e) f g aB h 0))(c:mE l i 0 147 [rO])(b:i≠n):
  aT aE 152 #[aD (M ⟨n,0,S⟩),J E 0] l fun o p=>o=aK (fE #[])/\Bx p n 193 (Jz (af (M ⟨i,0,S⟩) 1 e) f g aB h 1)/\mE p i 0 147 [rO]/\Ud l p (fun q=>q=n\/q=i):=by
 let ⟨a,o,p⟩:=bh d c b;let ⟨b,o,q,r⟩:=c;let ⟨_,c,s⟩:=r 0 rO rfl;let ⟨s,t⟩:=aQ r q
 have r:b[5]?=M (J E 0):=by
  have u:=xd.2.2.2.2.2;rw[<-c,iL] at u;split at u
  ·exact u
  ·cases u
 have c:=aH r;have u:=d.cell 0 (v:=(af (M ⟨i,0,S⟩) 1 e)) rfl;have u:=d.cell 5 (v:=J E 0) rfl;have u:=d.frozen 5;have u:=q.cell 5 r;have u:=q.frozen 5;have u:=q.lt;have q:=d.lt;clear r;go_enter func152,ntmps152;go_upto_region 0 with fail
 go_region
 let ⟨d,q⟩:=aX ((l.setCell ⟨i,5,S⟩ (J E 0)).drew);have r:Bx d n 193 (Jz (af (M ⟨i,0,S⟩) 1 e) f g aB h 0):=by rw[q];exact a.o.C p.o.symm _
 obtain⟨a,e⟩:=aQ r (show Bx d i o b by rw[q];exact FC t.o (Sz c.o));have c:=(Ud.refl l (fun f=>f=n\/f=i)).set (a:=⟨i,5,S⟩) (.inr rfl) (J E 0);have f:=aH (show Ud l d (fun g=>g=n\/g=i) by rw[q];exact⟨c.os,c.tape,c.output,c.size,c.block⟩);rw[<-q];have c:=r.cell 5 (v:=J E 0) rfl;have c:=r.frozen 5;have c:=r.lt;clear q;go_wp2;refine gI rfl rfl ⟨rfl,?_,?_,?_⟩
 ·exact a.o.L 5 (J E 1)
 ·exact⟨b,o,e.o.C p.o _,s.o⟩
 ·exact f.o.set (a:=⟨n,5,S⟩) (.inl rfl) _
def I6(f:Nat)(a:aq)(b c d e:Int)(g:T)(h:Bx g f 193 (Jz a b c av d e)):
  aT aE 100 #[aD (M ⟨f,0,S⟩)] g fun i l=>i=aK (fE #[])/\l=g:=by
 have a:=h.cell 3 (v:=ao av) rfl;have a:=h.lt;go_enter func100,ntmps100;go_wp2;exact gI rfl rfl ⟨rfl,rfl⟩
def QN(l a b:Nat)(c d:Int)(e:T)(f:1<=b)(i:Bx e l 193 (Jz (af (M ⟨a,0,S⟩) 1 b) c 0 aB d 0))(g:mE e a 0 147 [rO])(h:a≠l):
  aT aE 100 #[aD (M ⟨l,0,S⟩)] e fun n o=>n=aK (fE #[])/\Bx o l 193 (Jz (af (M ⟨a,0,S⟩) 1 b) c 0 av d 1)/\mE o a 0 147 [rO]/\Ud e o (fun p=>p=l\/p=a):=by
 obtain⟨n,o⟩:=aQ (Ye l a b c 0 d e f i g h) h;have a:=i.cell 3 (v:=ao aB) rfl;have a:=i.cell 2 (v:=J E 0) rfl;have a:=i.lt;go_enter func100,ntmps100;go_wp2_with fail;refine mR n.o fun a ⟨b,c,d⟩=>?_
 let ⟨a,e,f⟩:=bh b c d;have c:=b.cell 3 (v:=ao aB) rfl;have c:=b.frozen 3;have c:=b.lt;go_wp2;refine gI rfl rfl ⟨rfl,a.o.L 3 (ao av),?_,f.o.set (a:=⟨l,3,S⟩) (.inl rfl) _⟩;let ⟨a,b,c,d⟩:=e.o;exact⟨a,b,c.C o.o _,d⟩
def Uh(c:Nat)(b:T)(a:Bx b c 193 (Jz (af S 0 0) (-1) (-1) av 0 0)):
  aT aE 101 #[aD (M ⟨c,0,S⟩),aG pZ] b fun d e=>d=aK (fE #[])/\∃(f g:Nat),Bx e c 193 (Jz (af (M ⟨f,0,S⟩) 1 g) (-1) 0 aB 0 0)/\b.heap.size<=f/\1<=g/\mE e f 0 147 [rO]/\Ud b e (·=c):=by
 have d:=aH a;let ⟨e,f,g,h,i,l,n,o,p,q⟩:=Abe b pZ 198;obtain⟨r,s,t⟩:=bh (show Fm b e f g/\Bx g c 193 (Jz (af S 0 0) (-1) (-1) av 0 0) from⟨o.o,d.o.ext (p.o _ o.o)⟩) (show c<e by rw[h];exact a.lt) (show g.heap.size=e+1 by rw[i,h];simp);go_enter func101,ntmps101;go_upto_region 1 with fail
 try simp only[sZ,ak]
 refine mr i ?_
 try simp only[dA]
 rw[<-h];clear i h;go_upto_region 2 with(first|(refine lS 26 6 e 2 (q.o _ o.o) ON.1 ON.2 ?_)|(refine lS 93 8 e 137 (q.o _ o.o) OO.1 OO.2 ?_)|(refine gV rfl 135 #[(1,aI 7),(2,aI 9)] rfl #[(1,aG jt.cells),(2,aG (gJ hp0))] dK (aG GN) (WG _) ?_)|(refine dd rfl 135 (aI 4) (aI 10) rfl _ rfl (vs:=GN) XE (by rw[Jy,OX]) Ug rfl rfl ?_));let ⟨a,d⟩:=aX g.heap.size;let ⟨h,i⟩:=aX (g.alloc (az GN 135));have g:=Gl i;obtain⟨o,u⟩:=aQ (show Fm b e f h/\Bx h c 193 (Jz (af S 0 0) (-1) (-1) av 0 0)/\Bx h a 135 GN from⟨r.o.1.ext g,r.o.2.ext g,by rw[i];exact Bx.D _ _ _ _ d⟩) (show a=e+1 by rw[d,t.o])
 try simp only[ak]
 rw[<-i,<-d];clear i d;refine aL 13 (fun d=>Fm b e f d/\Bx d c 193 (Jz (af S 0 0) (-1) (-1) av 0 0)/\Bx d a 135 GN) rfl (fun g h=>?_);have d:=o;have g:=mX h o;refine gN 0 13 1 ?_;simp only[sZ,ak];go_big_quiet_step (fail);refine lC d 3 11 e 0 (J E 2) (fun _ h=>(q.o _ h.1).cell 0 Lj.1) bJ ?_;simp only[sZ,ak];go_big_quiet_step (fail);refine lC d 3 13 e 1 (J E 2) (fun _ h=>(q.o _ h.1).cell 1 Lj.2.1) bJ ?_;simp only[sZ,ak];iterate 2 (go_big_quiet_step (fail))
 refine lC d 3 16 e 137 (J E 1) (fun _ h=>(q.o _ h.1).cell 137 Lj.2.2.1) bJ ?_;simp only[sZ,ak];iterate 3 (go_big_quiet_step (fail))
 refine lC d 3 20 c 2 (J E (-1)) (fun _ h=>h.2.1.cell 2 rfl) bJ ?_;simp only[sZ,ak];refine ei rfl (aG enE) (fun d=>iW (qs:=#[(0,J E 2),(1,J E 2),(2,J E 1),(3,J E (-1)),(4,J E (-1))]) rfl dK (WE d)) ?_;simp only[sZ,ak];go_big_quiet_step (fail);refine aN (fK 13 0 g fun d h=>?_);simp only[sZ,ak];have i:=mX h g;refine cD rfl 133 (aI 23) (aI 22) rfl a 0 enE rfl rfl _ _ rO i.o.2.2 Yd XD (yD OX) Yc ?_;have g:=aH (show Fm b e f (d.setRow a rO)/\Bx (d.setRow a rO) c 193 (Jz (af S 0 0) (-1) (-1) av 0 0)/\Bx (d.setRow a rO) a 135 rO from⟨i.o.1.C (by rw[n.o,u.o];exact aw _) _,i.o.2.1.m (gC u.o s.o),i.o.2.2.row _⟩);refine mn ⟨rfl,pX fun d e=>?_⟩;have f:=mX e g
 try simp only[ak]
 have e:=f.o.2.1.cell 0 (v:=af S 0 0) rfl;have e:=f.o.2.2.cell 2 xd.2.2.1;have e:=f.o.2.1.lt;have e:=f.o.2.2.lt;go_upto_region 10 with fail;obtain⟨e,g⟩:=aQ (show Bx d c 193 (Jz (af S 0 0) (-1) (-1) av 0 0)/\Bx d a 135 rO from⟨f.o.2.1,f.o.2.2⟩) (p.o _ f.o.1);refine aL 10 (fun d=>Bx d c 193 (Jz (af S 0 0) (-1) (-1) av 0 0)/\Bx d a 135 rO) rfl (fun f h=>?_);have d:=e;let ⟨f,i⟩:=di h e g;refine gN 0 6 5 ?_;simp only[sZ,ak];iterate 4 (go_big_quiet_step (fail))
 refine lC d 130 91 c 0 (af S 0 0) (fun _ e=>e.1.cell 0 rfl) H6 ?_;refine lR d 135 4 a 0 147 rO (fun _ e=>qg e.2 C9) underlying135 Jf ?_;refine aN (fK 6 4 f fun a d=>?_);simp only[sZ,ak];let ⟨e,g⟩:=di d f i;refine jE rfl 130 (aI 93) rfl 135 rO 147 (aG uY) H6 XC Jy C9 dD dD _ rfl rfl ?_;let ⟨d,f,h,i,n,o⟩:=mY a rO 135;let ⟨a,d⟩:=di n e g;rw[<-i,<-h];clear i h;refine mn ⟨rfl,fK 7 3 a fun e f=>?_⟩;simp only[sZ,ak];let ⟨g,h,i⟩:=gO f a d o;have a:=aH (jW.nil e e.heap.size 135 147);refine oh (base:=e.heap.size) (L:=[]) rfl (aI 92) (aI 94) 130 rfl 135 (aG uY) 147 264 H6 XB Jy dD dD rfl a.o dD (aw _) _ rO rfl i.o C9 OW ?_;intro a d e f i n;rw[js] at e;obtain⟨a,d,rfl,i,n,o⟩:=e.rows dS;obtain⟨e,p,q⟩:=bh (show b.heap.size<=a from aY h.o.size i) (show 1<=d from n) o;let ⟨b,i⟩:=di f g h;have f:=b;refine mn ⟨rfl,gT 8 2 1 ?_⟩;refine fK 10 0 b fun f g=>?_
 simp only[sZ,ak];have f:=aH (b.o.1.ext g);let ⟨b,h⟩:=di g i q;have g:=f.o.cell 0 (v:=af S 0 0) rfl;have g:=f.o.frozen 0;have g:=f.o.lt;have g:=aH (show a≠c by have:=e.o;have:=s.o;have:=l.o;omega);go_wp2_with fail;refine pX fun i l=>?_
 obtain⟨n,o⟩:=aQ (show Bx i c 193 (Jz (af (M ⟨a,0,S⟩) 1 d) (-1) (-1) av 0 0) from(f.o.L 0 (af (M ⟨a,0,S⟩) 1 d)).ext l) (((Ud.bS (·=c) b.o (fun q r s=>by omega)).set (a:=⟨c,0,S⟩) rfl (af (M ⟨a,0,S⟩) 1 d)).trans (Ud.bS _ l (fun t u v=>by omega)));let ⟨b,f,q,r⟩:=h.o;have h:=aH (show mE i a 0 147 [rO] from⟨b,f,(q.C g.o _).ext l,r⟩)
 try simp only[ak]
 have b:=n.o.lt;go_wp2_with fail;refine sQ (I6 c (af (M ⟨a,0,S⟩) 1 d) (-1) (-1) 0 0 i n.o) ?_;have b:=n.o.cell 2 (v:=J E (-1)) rfl;have b:=n.o.cell 1 (v:=J E (-1)) rfl;have b:=n.o.cell 3 (v:=ao av) rfl;have b:=n.o.cell 4 (v:=J E 0) rfl;have b:=n.o.frozen 1;have b:=n.o.frozen 2;have b:=n.o.frozen 3;have b:=n.o.frozen 4;go_wp2_with fail;refine gI rfl rfl ⟨rfl,a,d,?_,e.o,p.o,?_,?_⟩
 ·exact(((n.o.L 1 (J E (-1))).L 2 (J E 0)).L 3 (ao aB)).L 4 (J E 0)
 ·let ⟨a,b,d,e⟩:=h.o
  exact⟨a,b,(((d.C g.o _).C g.o _).C g.o _).C g.o _,e⟩
 ·exact(((o.o.set (a:=⟨c,1,S⟩) rfl _).set (a:=⟨c,2,S⟩) rfl _).set (a:=⟨c,3,S⟩) rfl _).set (a:=⟨c,4,S⟩) rfl _
def qx:Fr:=jJ 16 16 128 128 128
def Sm(a):Dd a a=zeros64:=by
 show(dI 64).map (fun b=>cM a b-cM a b)=zeros64;simp only[Int.sub_self];rfl
def Xg:Q1 (mO (oW zeros64) (aF 64 16) 8) av=zeros64:=by decide+kernel
def Tg:vu qx 0 0=qx:=dK
def Tl(a):K5 qx qx (aF 64 16) 8 av av a=zeros64:=by
 unfold K5;rw[Sm];exact Xg
def XP:(zJ.oS 0 zeros64).rG 0 av=zJ:=dK
def XO:(zJ.oS 1 zeros64).rG 1 av=zJ:=dK
def XN:(zJ.oS 2 zeros64).rG 2 av=zJ:=dK
def XM:(zJ.oS 3 zeros64).rG 3 av=zJ:=dK
def XL:(zJ.oS 4 zeros64).rG 4 av=zJ:=dK
def XK:(zJ.oS 5 zeros64).rG 5 av=zJ:=dK
def LN:∀a,a<=6->D9 zJ qx qx (aF 64 16) 8 av av a=zJ
 |0,_=>rfl
 |a+1,b=>by
  unfold D9;rw[LN a O,Tl];have:a=0\/a=1\/a=2\/a=3\/a=4\/a=5:=O;have a:(!decide (zeros64=zeros64))=av:=by simp
  rw[a];rcases this with rfl|rfl|rfl|rfl|rfl|rfl
  ·exact XP
  ·exact XO
  ·exact XN
  ·exact XM
  ·exact XL
  ·exact XK
def XQ(c)(d:c.X=aF 64 16)(b:c.B=av)(a):zK (GI c hp0 av 8 aC aC aC aC a) (vu qx 0 0)=mI:=by
 rw[Tg];unfold zK
 have e:AH (GI c hp0 av 8 aC aC aC aC a) qx (jJ 16 16 128 128 128)=av:=by
  unfold AH;simp[GI,b]
 rw[e];show(D9 zJ qx qx c.X 8 av av 6).vj=mI;rw[d,LN 6 (aw 6)];rfl
def QJ:IF ⟨1,3,av,av⟩ [mI] (bH 8) 1=aF 13 aB:=by decide+kernel
def TT:rP mI (aF 64 16) 8 av qx 6=qx:=dK
section
def CG:jV jt:=by
 have a:Mh (aF 64 16):=⟨by decide,fun b c=>by have:=iK c;omega⟩;exact⟨by decide,by decide,by decide,by decide,by decide,by decide,by decide,by decide,by decide,by decide,by decide,by decide,by decide,by decide,by decide,by decide,by decide,a,a⟩
structure vB(w:T)(r b c3:Nat)(A:Option Addr)(n c:Nat):Prop where
 ex:∃a d,Bx w r a d/\444<=d.size/\d[0]?=M (J E 1)/\d.extract 1 (1+135)=jt.cells/\d[148]?=M (J E 2)/\d[284]?=M (ao aB)/\d[296]?=M (J E 3)/\d.extract 435 (435+8)=fR hp0 (af (M ⟨b,0,S⟩) 1 c3)
 sl:mE w b 0 2 [#[J E 1,af A n c]]
 pl:du (fun _=>True) w A n (kX (bt0++[aB]))
 c1:1<=c3
section
variable {w w':T} {r b c3 n c:Nat} {A:Option Addr}
def vB.ext(a:vB w r b c3 A n c)(d:bD w w'):vB w' r b c3 A n c:=by
 let ⟨⟨e,f,g,h⟩,i,l,o⟩:=a;exact⟨⟨e,f,g.ext d,h⟩,i.ext d,l.ext d,o⟩
instance {w w' x1 x2 x3 x4 x5 x6}:Tr w w' (vB w x1 x2 x3 x4 x5 x6) (vB w' x1 x2 x3 x4 x5 x6):=⟨fun hb h=>vB.ext h hb⟩
def vB.k0(a:vB w r b c3 A n c):w.cell? ⟨r,0,S⟩=M (J E 1):=by obtain⟨⟨d,e,f,g,h,i,l,o,p,q⟩,_⟩:=a;exact f.cell 0 h
def vB.k1(a:vB w r b c3 A n c):w.cell? ⟨r,148,S⟩=M (J E 2):=by obtain⟨⟨d,e,f,g,h,i,l,o,p,q⟩,_⟩:=a;exact f.cell 148 l
def vB.gc(a:vB w r b c3 A n c):w.cell? ⟨r,284,S⟩=M (ao aB):=by obtain⟨⟨d,e,f,g,h,i,l,o,p,q⟩,_⟩:=a;exact f.cell 284 o
def vB.k2(a:vB w r b c3 A n c):w.cell? ⟨r,296,S⟩=M (J E 3):=by obtain⟨⟨d,e,f,g,h,i,l,o,p,q⟩,_⟩:=a;exact f.cell 296 p
def vB.sq(a:vB w r b c3 A n c):∃d e,Bx w r d e/\e.extract 1 (1+135)=jt.cells/\1+135<=e.size:=by obtain⟨⟨f,g,h,i,l,o,p,q,s,t⟩,_⟩:=a;exact⟨f,g,h,o,by omega⟩
def vB.P(a:vB w r b c3 A n c):∃d e,Bx w r d e/\e.extract 435 (435+8)=fR hp0 (af (M ⟨b,0,S⟩) 1 c3)/\435+8<=e.size:=by obtain⟨⟨f,g,h,i,l,o,p,q,s,t⟩,_⟩:=a;exact⟨f,g,h,t,by omega⟩
def vB.pc(a:vB w r b c3 A n c):∃d e,Bx w r d e/\e.extract 435 (435+6)=gJ hp0/\435+6<=e.size:=by
 let ⟨d,e,f,g,h⟩:=a.P;refine⟨d,e,f,?_,by omega⟩;have:=congrArg (·.extract 0 6) g;simp only[K1] at this;exact this
def vB.lt(a:vB w r b c3 A n c):r<w.heap.size:=by obtain⟨d,e,f,_⟩:=a.P;exact f.lt
end
def Oj(w):(fk 198 #[]).run aE w=.ok (aG bW) w:=dK
def xF:(aE.info? 198).map (·.size)=M (bW).size:=dK
def DY:(bW).all (·.oneCell')=aB:=dK
def Yt(a b c d):jH (nS Kz a b c d) 0 jt.cells=nS jt a b c d:=dK
def UF{a}(b:a.cells.size=135)(c d e f):(nS a c d e f).size=139:=by unfold nS;rw[qY,aJ,cj,b];rfl
def J9:(aE.info? 26).map (·.size)=M jt.cells.size:=dK
def Oe:jt.cells.all (·.oneCell')=aB:=dK
def UE(h:T)(i r b c3 n c a:Nat)(A:Option Addr)(w:T)(f:vB h r b c3 A n c)(e:bD h w)(d:h.heap.size<=i)(g:Bx w i 255 (nS Kz av (-1) av (-1))):
  aT aE 151 #[aD (M ⟨i,0,S⟩),af (M ⟨r,0,S⟩) 3 a,J E 0] w fun l w'=>l=aK (fE #[aG bW,ao av])/\Bx w' i 255 (nS jt aB (-1) aB (-1))/\Ud w w' (·=i):=by
 let ⟨a,l⟩:=aQ f e;have o:=aH g.lt;let ⟨o,p⟩:=aQ d g;let ⟨d,p⟩:=aX w.heap.size;have q:=aH p;let ⟨s,t⟩:=aX (w.alloc (az bW 198));have u:=Gl t;have v:=aH (Ud.bS (·=i) u (fun x y z=>by omega));have x:=DZ t p;obtain⟨y,z⟩:=aQ (e.trans u) (g.ext u);obtain⟨e,u⟩:=aQ (f.ext y.o) (show d≠i by rw[p];have:=g.lt;omega);have f:=e.o.k0;have f:=e.o.lt;have e:=z.o.cell 135 (sC By av (-1) av (-1)).1;have e:=z.o.cell 136 (sC By av (-1) av (-1)).2.1;have e:=z.o.frozen 136;have e:=z.o.lt;go_enter func151,Aml;go_upto_region 1 with fail;rw[<-t,<-p];clear t p;go_upto_region 5 with fail;let ⟨e,f⟩:=aX (s.setCell ⟨i,136,S⟩ (J E (-1)))
 have g:=aH (show Bx e i 255 (nS Kz av (-1) av (-1)) by
  rw[f];have p:=z.o.L 136 (J E (-1));rw[FK By] at p;exact p)
 obtain⟨p,s⟩:=aQ (show Ud w e (·=i) by rw[f];exact v.o.set (a:=⟨i,136,S⟩) rfl _) (show Bx e d 198 bW by rw[f];exact x.o.C u.o _);have t:=aH (show bD h e from mf l.o (p.o.below (B:=h.heap.size) l.o.size (fun v x=>by have:=o.o;omega)));have v:=aH (a.o.ext t.o);rw[<-f];clear f;have f:=v.o.k0;have f:=v.o.lt;have f:=g.o.cell 135 (sC By av (-1) av (-1)).1;have f:=g.o.lt;go_upto_region 7 with fail
 try simp only[ak]
 go_quiet (fail);let ⟨f,t⟩:=aX (e.drewN nq);obtain⟨e,v,x⟩:=bh (show Bx f i 255 (nS Kz av (-1) av (-1)) by rw[t];exact g.o.drewN nq) (show Bx f d 198 bW by rw[t];exact s.o.drewN nq) (show Ud w f (·=i) by rw[t];exact p.o.drewN nq);rw[<-t];clear t;have g:=e.o.lt;go_wp2_with fail;refine mR (LM i Kz By av (-1) av (-1) f e.o) fun g ⟨p,s⟩=>?_
 obtain⟨e,f,t⟩:=bh p (x.o.trans (s.mono (fun y _ z=>z))) (v.o.ud s u.o);have p:=aH (show bD h g from mf l.o (f.o.below (B:=h.heap.size) l.o.size (fun s v=>by have:=o.o;omega)));have h:=aH (a.o.ext p.o);go_upto_region 9 with fail
 try simp only[ak]
 refine aL 13 (fun a=>Bx a i 255 (nS Kz av (-1) aB (-1))/\vB a r b c3 A n c) rfl (fun l o=>?_);obtain⟨a,p,s⟩:=bh (show Bx g i 255 (nS Kz av (-1) aB (-1))/\vB g r b c3 A n c from⟨e.o,h.o⟩) (show Bx l i 255 (nS Kz av (-1) aB (-1))/\vB l r b c3 A n c from⟨e.o.ext o,h.o.ext o⟩) (f.o.trans (Ud.bS (·=i) o (fun v x y=>by omega)));have e:=mX o t;refine gT 0 2 15 ?_;refine gN 2 4 11 ?_;simp only[sZ,ak];iterate 3 (go_big_quiet_step (fail))
 refine lR a 26 54 r 1 135 jt.cells (fun _ f=>f.2.sq) ik ew ?_;refine aN (gT 6 3 8 ?_);refine gN 9 1 7 ?_;simp only[sZ,ak];refine lR a 26 58 r 1 135 jt.cells (fun _ f=>f.2.sq) ik ew ?_;refine aN (Ax 10 6 a.o ?_);simp only[sZ,ak];refine bO rfl 42 #[aG jt.cells] (ao aB) (fun a=>by kernel_rfl) (fun f g=>na jt CG f) ?_;refine gT 11 2 4 ?_;refine fK 13 3 p fun a f=>?_
 simp only[sZ,ak];obtain⟨g,h⟩:=aQ (p.o.1.ext f) (s.o.trans (Ud.bS (·=i) f (fun l o t=>by omega)));have l:=mX f e;refine cD rfl 26 (aI 62) (aI 55) rfl i 0 jt.cells rfl rfl _ _ (nS jt av (-1) aB (-1)) g.o (Yt av (-1) aB (-1)) J9 (by rw[UF By,jG];decide) Oe ?_;obtain⟨e,f,o⟩:=bh (show Bx (a.setRow i (nS jt av (-1) aB (-1))) i 255 (nS jt av (-1) aB (-1)) from g.o.row _) (show Ud w (a.setRow i (nS jt av (-1) aB (-1))) (·=i) from h.o.trans ⟨rfl,rfl,rfl,by rw[kB];exact aw _,fun p s t=>iD _ _ _ _ t⟩) (show Bx (a.setRow i (nS jt av (-1) aB (-1))) d 198 bW from l.o.m u.o);refine mn ⟨rfl,gT 14 2 1 ?_⟩;refine X8 16 0 fun a g=>?_
 simp only[sZ,ak];have a:=mX g e;have e:=aH (f.o.trans (Ud.bS (·=i) g (fun h l p=>by omega)));have f:=mX g o;have g:=a.o.cell 135 (sC jG av (-1) aB (-1)).1;have g:=a.o.frozen 135;have g:=a.o.lt;go_wp2_with fail;refine pX fun g h=>?_
 have l:=aH (show Bx g i 255 (nS jt aB (-1) aB (-1)) by
  have o:=a.o.L 135 (ao aB);rw[Abp jG] at o;exact o.ext h)
 obtain⟨a,o⟩:=aQ ((e.o.set (a:=⟨i,135,S⟩) rfl (ao aB)).trans (Ud.bS (·=i) h (fun p s t=>by omega))) ((f.o.C u.o (ao aB) (a:=⟨i,135,S⟩)).ext h)
 try simp only[ak]
 go_wp2_with (first|(refine gV rfl 198 #[] rfl #[] dK (aG bW) (Oj _) ?_)|(refine bm rfl 198 (aI 6) (aI 94) rfl d bW rfl rfl o.o xF rfl DY ?_));obtain⟨e,f,h⟩:=bh (o.o.row bW) (show Bx (g.setRow d bW) i 255 (nS jt aB (-1) aB (-1)) from l.o.m (fun p=>u.o p.symm)) (a.o.row (b:=d) (eZ q.o (aw _)) bW);exact rT Agt e.o zP xF ⟨rfl,f.o,h.o⟩
def UD(h:T)(i r b c3 n c a:Nat)(A:Option Addr)(w:T)(f:vB h r b c3 A n c)(e:bD h w)(d:h.heap.size<=i)(g:Bx w i 255 (nS jt aB (-1) aB (-1))):
  aT aE 151 #[aD (M ⟨i,0,S⟩),af (M ⟨r,0,S⟩) 3 a,J E 1] w fun l w'=>l=aK (fE #[aG bW,ao av])/\Bx w' i 255 (nS jt aB (-1) aB (-1))/\Ud w w' (·=i):=by
 let ⟨a,l⟩:=aQ f e;have o:=aH g.lt;let ⟨o,p⟩:=aQ d g;let ⟨d,p⟩:=aX w.heap.size;have q:=aH p;let ⟨s,t⟩:=aX (w.alloc (az bW 198));have u:=Gl t;have v:=aH (Ud.bS (·=i) u (fun x y z=>by omega));have x:=DZ t p;obtain⟨y,z⟩:=aQ (e.trans u) (g.ext u);obtain⟨e,u⟩:=aQ (f.ext y.o) (show d≠i by rw[p];have:=g.lt;omega);have f:=e.o.k1;have f:=e.o.lt;have e:=z.o.cell 136 (sC jG aB (-1) aB (-1)).2.1;have e:=z.o.frozen 136;have e:=z.o.lt;go_enter func151,Aml;go_upto_region 1 with fail;rw[<-t,<-p];clear t p;go_upto_region 5 with fail;let ⟨e,f⟩:=aX (s.setCell ⟨i,136,S⟩ (J E (-1)))
 have g:=aH (show Bx e i 255 (nS jt aB (-1) aB (-1)) by
  rw[f];have p:=z.o.L 136 (J E (-1));rw[FK jG] at p;exact p)
 obtain⟨p,s⟩:=aQ (show Ud w e (·=i) by rw[f];exact v.o.set (a:=⟨i,136,S⟩) rfl _) (show Bx e d 198 bW by rw[f];exact x.o.C u.o _);have t:=aH (show bD h e from mf l.o (p.o.below (B:=h.heap.size) l.o.size (fun v x=>by have:=o.o;omega)));have h:=aH (a.o.ext t.o);rw[<-f];clear f;have a:=h.o.k1;have a:=h.o.gc;have a:=h.o.lt;have a:=g.o.lt;go_wp2_with fail;refine mR (LM i jt jG aB (-1) aB (-1) e g.o) fun a ⟨f,h⟩=>?_
 obtain⟨e,g,l⟩:=bh f (p.o.trans (h.mono (fun o _ t=>t))) (s.o.ud h u.o);go_wp2_with (first|(refine gV rfl 198 #[] rfl #[] dK (aG bW) (Oj _) ?_)|(refine bm rfl 198 (aI 6) (aI 94) rfl d bW rfl rfl l.o xF rfl DY ?_));obtain⟨f,h,o⟩:=bh (l.o.row bW) (show Bx (a.setRow d bW) i 255 (nS jt aB (-1) aB (-1)) from e.o.m (fun p=>u.o p.symm)) (g.o.row (b:=d) (eZ q.o (aw _)) bW);exact rT Agt f.o zP xF ⟨rfl,h.o,o.o⟩
end
def TP:YC hp0:=by refine⟨?_,?_,?_,?_,?_,?_⟩<;> decide
def TQ:PcV jt hp0:=.inr ⟨rfl,rfl,rfl⟩
def OJ:RE jt hp0 av:=⟨CG,TP,TQ,fun a=>by cases a⟩
def Yr(f:T)(q g h i l n a:Nat)(o:Option Addr)(p:T)(d:vB f g h i o l n)(c:bD f p)(b:f.heap.size<=q)(e:Bx p q 255 (nS jt aB (-1) aB (-1))):
  aT aE 191 #[aD (M ⟨q,0,S⟩),af (M ⟨g,0,S⟩) 3 a,J E 2] p fun r s=>r=aK (fE #[aG pZ,ao aB])/\Bx s q 255 (nS jt aB (-1) av (-1))/\Ud p s (·=q):=by
 let ⟨a,r⟩:=aQ d c;have s:=aH e.lt;have s:=aH b;let ⟨b,t⟩:=aX p.heap.size;have u:=aH t;let ⟨v,w⟩:=aX (p.alloc (az bW 198));have x:=Gl w;have y:=aH (Ud.bS (·=q) x (fun z H U=>by omega));have z:=DZ w t;obtain⟨H,U⟩:=aQ (c.trans x) (e.ext x);obtain⟨c,x,V⟩:=bh (d.ext H.o) (show b≠q by rw[t];have:=e.lt;omega) (show q<b by rw[t];exact e.lt);have d:=c.o.lt;have d:=U.o.lt;go_enter func191,ntmps191;go_upto_region 1 with fail;rw[<-w,<-t];clear w t;have d:=aH (show Bx v q 255 (nS jt aB (-1) aB (-1))/\vB v g h i o l n/\Bx v b 198 bW from⟨U.o,c.o,z.o⟩);have c:=aH y.o;refine aL 99 (fun e=>Bx e q 255 (nS jt aB (-1) aB (-1))/\vB e g h i o l n/\Bx e b 198 bW) rfl (fun t v=>?_);have e:=d;have t:=mX v d;have d:=aH (c.o.trans (Ud.bS (·=q) v (fun w y z=>by omega)));refine gN 0 10 3 ?_;simp only[sZ,ak];iterate 5 (go_big_quiet_step (fail))
 refine lR e 93 14 g 435 6 (gJ hp0) (fun _ c=>c.2.1.pc) zV ja ?_;simp only[sZ,ak];iterate 3 (go_big_quiet_step (fail))
 refine lC e 3 18 q 136 (J E (-1)) (fun _ c=>c.1.cell 136 (sC jG aB (-1) aB (-1)).2.1) bJ ?_;refine aN (fK 10 2 t fun c e=>?_);simp only[sZ,ak];have v:=mX e t;have t:=aH (d.o.trans (Ud.bS (·=q) e (fun w y z=>by omega)));go_wp2_with fail;let ⟨d,e,w,y,z,H⟩:=mY c (gJ Hp) 93;have c:=mX z v;have e:=aH (t.o.trans (Ud.bS (·=q) z (fun U W Y=>by omega)));have t:=aH (show b<d by rw[w];exact v.o.2.2.lt);have v:=aH (show p.heap.size<=d by have:=t.o;have:=u.o;omega);have z:=aH (show d≠g/\d≠q from⟨by have:=a.o.lt;have:=r.o.size;have:=v.o;omega,by have:=t.o;have:=V.o;omega⟩);refine tf y ?_;rw[<-w];clear y w;refine fK 11 1 c fun w y=>?_
 simp only[sZ,ak];have U:=mX y c;have c:=aH (e.o.trans (Ud.bS (·=q) y (fun V W Y=>by omega)));have e:=mX y H;refine bm rfl 93 (aI 8) (aI 15) rfl d (gJ hp0) rfl rfl e.o ja rfl (by simp[gJ,cJ]) ?_;obtain⟨y,H⟩:=aQ (show bD f w from mf r.o (c.o.below (B:=f.heap.size) r.o.size (fun V W=>by have:=s.o;omega))) (c.o.row (b:=d) v.o (gJ hp0));have c:=aH (show bD f (w.setRow d (gJ hp0)) from mf r.o (H.o.below (B:=f.heap.size) r.o.size (fun v y=>by have:=s.o;omega)));obtain⟨f,r⟩:=aQ (show Bx (w.setRow d (gJ hp0)) q 255 (nS jt aB (-1) aB (-1))/\vB (w.setRow d (gJ hp0)) g h i o l n/\Bx (w.setRow d (gJ hp0)) b 198 bW from⟨U.o.1.m (fun s=>z.o.2 s.symm),a.o.ext c.o,U.o.2.2.m (dU t.o)⟩) (e.o.row (gJ hp0));refine mn ⟨rfl,gT 12 1 0 ?_⟩;refine zI f fun a c=>?_
 have e:=mX c f;have f:=aH (H.o.trans (Ud.bS (·=q) c (fun g h i=>by omega)));have g:=mX c r
 try simp only[ak]
 have c:=e.o.1.cell 136 (sC jG aB (-1) aB (-1)).2.1;have c:=e.o.1.frozen 136;have c:=e.o.1.lt;have c:=g.o.lt;go_upto_region 3 with fail;let ⟨c,h⟩:=aX (a.setCell ⟨q,136,S⟩ (J E (-1)))
 have a:=aH (show Bx c q 255 (nS jt aB (-1) aB (-1)) by
  rw[h];have i:=e.o.1.L 136 (J E (-1));rw[FK jG] at i;exact i)
 obtain⟨i,l,n⟩:=bh (show Ud p c (·=q) by rw[h];exact f.o.set (a:=⟨q,136,S⟩) rfl _) (show Bx c b 198 bW by rw[h];exact e.o.2.2.C x.o _) (show Bx c d 93 (gJ hp0) by rw[h];exact g.o.C z.o.2 _);rw[<-h];clear h;refine aL 99 (fun e=>Bx e q 255 (nS jt aB (-1) aB (-1))/\Bx e d 93 (gJ hp0)) rfl (fun f g=>?_);have e:=aH (show Bx c q 255 (nS jt aB (-1) aB (-1))/\Bx c d 93 (gJ hp0) from⟨a.o,n.o⟩);let ⟨c,f,h⟩:=gO g a n l;have a:=aH (i.o.trans (Ud.bS (·=q) g (fun l n o=>by omega)));refine gN 0 11 3 ?_;simp only[sZ,ak];iterate 3 (go_big_quiet_step (fail))
 refine lC e 4 25 q 135 (ao aB) (fun _ g=>g.1.cell 135 (sC jG aB (-1) aB (-1)).1) jD ?_;simp only[sZ,ak];iterate 5 (go_big_quiet_step (fail))
 refine lR e 26 31 q 0 135 jt.cells (fun _ g=>⟨_,_,g.1,(IA jG _).1,(IA jG _).2⟩) ik ew ?_;refine lR e 93 8 d 0 6 (gJ hp0) (fun _ g=>qg g.2 rfl) zV ja ?_;refine aN (Ax 11 2 e.o ?_);simp only[sZ,ak];refine bO rfl 153 #[aG jt.cells,aG (gJ hp0)] (ao aB) (fun e=>by kernel_rfl) (fun g i=>tE jt CG hp0 TP TQ g) ?_;refine gT 12 2 0 ?_;refine QD (fun e g=>⟨c.o.ext g,f.o.ext g⟩) fun i l=>?_
 let ⟨e,g,n⟩:=gO l c f h;have c:=aH (a.o.trans (Ud.bS (·=q) l (fun f h o=>by omega)))
 try simp only[ak]
 have a:=g.o.cell 1 (v:=J E 3) rfl;have a:=g.o.lt;have a:=aH (show(gJ hp0).extract 0 (0+6)=gJ hp0/\0+6<=(gJ hp0).size from⟨rfl,aw 6⟩);go_wp2_with refine lS 93 8 d 0 g.o a.o.1 a.o.2 ?_;refine mR (LJ q i e.o) fun a ⟨d,f⟩=>?_
 obtain⟨e,g,h⟩:=bh d (c.o.trans (f.mono (fun i _ l=>l))) (n.o.ud f x.o);go_wp2_with refine bm rfl 198 (aI 6) (aI 46) rfl b pZ rfl rfl h.o oO (by rw[BP,sR]) xG ?_;obtain⟨c,d,f⟩:=bh (h.o.row pZ) (show Bx (a.setRow b pZ) q 255 (nS jt aB (-1) av (-1)) from e.o.m (fun i=>x.o i.symm)) (g.o.row (b:=b) (eZ u.o (aw _)) pZ);exact rT results191 c.o zP oO ⟨rfl,d.o,f.o⟩
def UC(f:T)(q g h i l n o:Nat)(p:Option Addr)(b:T)(d:vB f g h i p l n)(c:bD f b)(a:f.heap.size<=q)(e:Bx b q 255 (nS jt aB (-1) aB (-1))):
  aT aE 151 #[aD (M ⟨q,0,S⟩),af (M ⟨g,0,S⟩) 3 o,J E 2] b fun r s=>r=aK (fE #[aG pZ,ao aB])/\Bx s q 255 (nS jt aB (-1) av (-1))/\Ud b s (·=q):=by
 let ⟨r,s⟩:=aQ d c;have s:=aH e.lt;have s:=aH a;let ⟨a,t⟩:=aX b.heap.size;have u:=aH t;let ⟨v,w⟩:=aX (b.alloc (az bW 198));have b:=Gl w;have x:=aH (Ud.bS (·=q) b (fun y z H=>by omega));have y:=DZ w t;obtain⟨z,H⟩:=aQ (c.trans b) (e.ext b);obtain⟨b,c,U⟩:=bh (d.ext z.o) (show a≠q by rw[t];have:=e.lt;omega) (show q<a by rw[t];exact e.lt);have d:=b.o.k2;have d:=b.o.lt;go_enter func151,Aml;go_upto_region 1 with fail;rw[<-w,<-t];clear w t;go_wp2_with fail;refine mR (Yr f q g h i l n o p v r.o z.o s.o H.o) fun b ⟨d,e⟩=>?_
 obtain⟨f,g,h⟩:=bh d (x.o.trans (e.mono (fun i _ l=>l))) (y.o.ud e c.o);go_wp2_with refine bm rfl 198 (aI 6) (aI 21) rfl a pZ rfl rfl h.o oO (by rw[BP,sR]) xG ?_;obtain⟨d,e,i⟩:=bh (h.o.row pZ) (show Bx (b.setRow a pZ) q 255 (nS jt aB (-1) av (-1)) from f.o.m (fun l=>c.o l.symm)) (g.o.row (b:=a) (eZ u.o (aw _)) pZ);exact rT Agt d.o zP oO ⟨rfl,e.o,i.o⟩
section
open Go.Maps
def Adn(a):(zeroValue 3).run aE a=.ok (J E 0) a:=dK
def D6{a b c}{d:aq->Option (DataW c×List MemPlace)}{e f g h i}(l:e.ownsMap a b d g h i)(n:bj e.heap.size e f):f.ownsMap a b d g h i:=
 l.kept (row:=S) ⟨n.os,n.tape,n.output,n.size,fun a b _=>n.block a b⟩ dS
def GF(a:Pc)(b c d g h:Nat)(i:Option Addr)(l:T)(e:mE l b 0 2 [#[J E 1,af i g h]])(f:l.ownsMap aE 3 (plainElem aE 3) d 1 (KI 1)):
  aT aE 160 #[aG (fR a (af (M ⟨b,0,S⟩) 1 c)),.map (M d),J E 0] l fun n o=>n=aK (fE #[aG #[J E 1,af i g h],ao aB])/\bD l o:=by
 let ⟨n,o⟩:=aQ e f;let ⟨p,q⟩:=aX l.heap.size;have r:=aH (show Bx ((l.alloc (az (fR a (af (M ⟨b,0,S⟩) 1 c)) 97)).alloc (az #[J E 0,af S 0 0] 121)) l.heap.size 97 (fR a (af (M ⟨b,0,S⟩) 1 c)) from(Bx.new _ _ _).alloc _);have s:=r.o.cell 7 (v:=af (M ⟨b,0,S⟩) 1 c) rfl;go_enter func160,ntmps160;go_upto_region 2 with fail
 go_loopw [15] (fun t wr=>t=J E 0/\bj l.heap.size l wr/\Bx wr (l.heap.size+1) 121 #[J E 0,af S 0 0]) (fun _ _=>0)
 case atStart=>exact⟨rfl,(jd).alloc dS _,Bx.D _ _ _ _ dS⟩
 case round=>
  obtain⟨rfl,t,u⟩:=hrel;let ⟨v,w⟩:=aQ u t;have x:=mX t n;have y:=aH (D6 o.o t);have z:=aH (show([#[J E 1,af i g h]]:List (Array aq))[0]?=M #[J E 1,af i g h] from rfl);have H:decide ((0:Int)<1)=aB:=by decide
  go_upto_region 4 with((refine xq dW 121 (aI 17) rfl b 0 _ 2 0 O rfl x.o z.o rfl Acw nK ?_));obtain⟨U,V⟩:=aQ (D6 y.o (show bD wr (wr.alloc (az #[J E 1,af i g h] 121)) from jd)) (keyOf_int_mk (P:=aE) (k:=3) (q:=E) bJ (a:=1) (ZZ O));let ⟨W,Y,a0,a1⟩:=U.o.look_ok Ae0 underlying263 (Adn _) (plainElem_int bJ dD) V.o;obtain⟨a2,rfl,a3,_⟩:=plainElem_int_inv bJ a1;rw[show Maps.has (KI 1) (Lit.int E 1)=aB from by kernel_rfl] at a0;have a4:=congrArg Prod.fst a3;rw[show(KI 1).atKey (Lit.int E 1) (.lit (.int E 0))=.lit (.int E 0) from by kernel_rfl] at a4;injection a4 with a5;injection a5 with _ a4;subst a4;obtain⟨a4,a5,a6,a7,a8,a9⟩:=ej (show Bx (wr.alloc (az #[J E 1,af i g h] 121)) wr.heap.size 121 #[J E 1,af i g h] from Bx.new _ _ _) (show Bx (wr.alloc (az #[J E 1,af i g h] 121)) (l.heap.size+1) 121 #[J E 0,af S 0 0] from v.o.alloc _) (show bD l (wr.alloc (az #[J E 1,af i g h] 121)) from w.o.alloc w.o.size _) (show(aE.info? 121).map (·.size)=M (#[J E 1,af i g h]:Array aq).size from nK) (show(#[J E 1,af i g h]:Array aq).extract 0 (0+2)=#[J E 1,af i g h]/\0+2<=(#[J E 1,af i g h]:Array aq).size from⟨rfl,aw 2⟩) (show(#[J E 1,af i g h]:Array aq).all (·.oneCell')=aB by simp[cJ]);have aa:=aH (show(#[J E 0,af S 0 0]:Array aq).size=(#[J E 1,af i g h]:Array aq).size from rfl);generalize wr.alloc (az #[J E 1,af i g h] 121)=ab at*
  have a:=a4.o.cell 0 (v:=J E 1) rfl;go_wp2_with (first|(refine lS 121 9 wr.heap.size 0 a4.o a8.o.1 a8.o.2 ?_)|(refine bm rfl 121 (aI 6) (aI 32) rfl (l.heap.size+1) #[J E 1,af i g h] rfl rfl a5.o a7.o aa.o a9.o ?_));exact rT results160 (a5.o.row _) Acw nK ⟨rfl,aO a6.o O⟩
def Tj:E6 mI:=DF rfl
def Aaz:(⟨1,3,av,av⟩:je).A:=Nv OJ
def Xe:FT ⟨1,3,av,av⟩ mI:=by
 refine .inr (.inl ⟨rfl,rfl,rfl,rfl,rfl,rfl,?_,Tj⟩);unfold YI;rw[if_pos (by rfl)];exact⟨.inr rfl,by decide,by decide⟩
def Wj:Zl qx qx 0 0=qx:=dK
def Jl:qx.Y.length=(16*1)*(16*1)/\qx.U.length=(8*1)*(8*1)/\qx.V.length=(8*1)*(8*1):=⟨by kernel_rfl,by kernel_rfl,by kernel_rfl⟩
def Hy{a b c d e f g}(h:0<d)(i:a.ownsRow b e f (af (M ⟨c,0,S⟩) d d) d g):∃l,Bx a c e l/\l.toList=g:=by
 rcases i.2 with⟨a,b⟩|⟨c,d,e,f,_,g,_,_,h,l⟩
 ·omega
 ·cases f
  exact⟨e,g,by rw[<-l,List.take_of_length_le (by rw[cj,h];exact aw _)]⟩
def DcD(a:T)(b:T->Prop)(i:aq)(wr:T):Prop:=(i=J E 0/\wr=a)\/(i=J E 1/\b wr)
def Aet(a:T)(b:Ending)(c:T):Prop:=∃(d:FV)(e:Nat),b=aK (fE #[d.val,af (M ⟨e,0,S⟩) 1 1,J E 0])/\Fv c d qx/\c.cell? ⟨e,0,S⟩=M (ao aB)/\a.heap.size<=e/\bD a c
def D5(d e f g:Nat)(h:Option Addr)(i:T)(a:mE i d 0 2 [#[J E 1,af h f g]])(b:du (fun _=>True) i h f (kX (bt0++[aB])))(c:fD i):
  aT aE 103 #[aG jt.cells,aG (fR hp0 (af (M ⟨d,0,S⟩) 1 e)),aG (cq aC aC aC),ao av] i (Aet i):=by
 obtain⟨l,n,o,p,q,r⟩:=ej a b c jG (show∀s,aT aE 156 #[aG jt.cells,aG (gJ hp0),aG (cq aC aC aC),ao av] s (fh s (J E 0)) from fun t=>yy jt hp0 av OJ aC aC aC t (kZ.zero _ _ _) (kZ.zero _ _ _) (kZ.zero _ _ _) (.inl rfl)) (show∀u,aT aE 157 #[aG jt.cells,aG (gJ hp0),aG (au aC)] u (kM u qx) from fun v=>tD jt CG hp0 dD v);obtain⟨s,t,u,v,w⟩:=dZ (show∀x,aT aE 158 #[aG jt.cells,aG (gJ hp0)] x (fh x (J E 1)) from fun y=>wD jt hp0 av OJ y) (show(cq aC aC aC).extract 0 (0+5)=au aC/\0+5<=(cq aC aC aC).size from⟨rfl,(by decide:0+5<=15)⟩) (show(cq aC aC aC).extract 0 (0+15)=(cq aC aC aC)/\0+15<=(cq aC aC aC).size from⟨rfl,aw 15⟩) (show(fR hp0 (af (M ⟨d,0,S⟩) 1 e)).extract 0 (0+6)=gJ hp0/\0+6<=(fR hp0 (af (M ⟨d,0,S⟩) 1 e)).size from⟨rfl,(by decide:0+6<=8)⟩) (show(fR hp0 (af (M ⟨d,0,S⟩) 1 e)).extract 0 (0+8)=(fR hp0 (af (M ⟨d,0,S⟩) 1 e))/\0+8<=(fR hp0 (af (M ⟨d,0,S⟩) 1 e)).size from⟨rfl,aw 8⟩);let ⟨x,y,z,H,U,V,W,Y,a0,a1,a2,a3,a4⟩:=Dt i jt.cells 26 (fR hp0 (af (M ⟨d,0,S⟩) 1 e)) 97 (cq aC aC aC) 158 (au aC) 63;clear a b c;go_enter func103,ntmps103;go_upto_region 1 with fail
 try simp only[sZ,ak]
 refine mr U ?_
 try simp only[dA]
 rw[<-H];clear U H;apply wp_scope_straight;go_wp2_with (first|(refine lA 26 4 x (a1.o _ Y.o) p.o ?_)|(refine lS 93 28 (x+1) 0 (a2.o _ Y.o) v.o.1 v.o.2 ?_)|(refine lS 158 6 (x+1+1) 0 (a3.o _ Y.o) u.o.1 u.o.2 ?_));refine mR (q.o z) fun a b=>?_
 have c:=mX b Y;clear q;go_wp2_with (first|(refine lA 26 4 x (a1.o _ c.o) p.o ?_)|(refine lS 93 39 (x+1) 0 (a2.o _ c.o) v.o.1 v.o.2 ?_)|(refine lS 63 41 (x+1+1) 0 (a3.o _ c.o) t.o.1 t.o.2 ?_));refine(r.o a).mono ?_;rintro q H ⟨U,rfl,a5,a6⟩;have a7:=mX a6 c;have a8:=aH a5;clear r a5;go_upto_region 5 with refine ix rfl (aI 12) (aI 44) rfl _ rfl dS U rfl rfl ?_
 try simp only[ak]
 let ⟨r,a5,a9,aa,ab,ac⟩:=mY H (au U) 63;have ad:=mX ab a7;have ae:=mX ab a8;have ag:=aH (show x+4<=r by rw[a9];have:=a7.o.k;rw[W.o] at this;exact this);rw[<-aa,<-a9];clear aa a9 ab a7 a8;go_wp2_with (first|(refine lA 26 4 x (a1.o _ ad.o) p.o ?_)|(refine lS 93 51 (x+1) 0 (a2.o _ ad.o) v.o.1 v.o.2 ?_));refine mR (s.o a5) fun a7 a8=>?_
 let ⟨HS4,HB4,HU4⟩:=gO a8 ad ac ae;clear s;let ⟨s,a9,aa,ab,ah⟩:=info_parts Lc;obtain⟨ai,aj,al,am⟩:=dq aa a9 ab (show s.bytes*1<=281474976710656 by rw[ah];decide);clear a9 aa ab ah;go_wp2_with refine zG a7 rfl (aI 53) (aI 53) 201 rfl a7.heap.size 4 s (ao av) 1 underlying201 aj.o ai.o al.o E E _ _ 1 rfl rfl rfl rfl am.o dD (aw _) ?_;intro a9 aa ab;let ⟨ah,ap⟩:=aX a7.heap.size;rw[<-ap] at aa ⊢;let ⟨ar,ax,ay⟩:=Hy dD aa;obtain rfl:ar=#[ao av]:=ue.1 (ay.trans dK);have aV:bD a7 a9:=bD.grown ab;let ⟨b0,b1,b2⟩:=gO aV HS4 HB4 HU4;obtain⟨b3,b4⟩:=aQ ax (show r<ah by rw[ap];exact HB4.o.lt);clear aV aa ab ax ay ap HS4 HB4 HU4 aj ai al am;have aa:=aH (show aT aE 159 #[J E 1] a9 (fun ab ai=>∃aj,ab=aK (.map (M aj))/\a9.heap.size<=aj/\ai.ownsMap aE 3 (plainElem aE 3) aj 1 (KI 1)/\bD a9 ai) from vY 1 dD a9)
 try go_wp2_with fail
 refine aa.o.mono ?_;rintro ab ai ⟨aj,rfl,_,al,am⟩;let ⟨ap,ax,ay,aV⟩:=nj am b0 b1 b2 b3;have b5:=aH al;clear al aa;go_wp2_with fail;apply wp_label;go_wp2_with fail;let ⟨aa,al⟩:=aX ai
 go_loopw [60] (fun b6 wr=>DcD ai (fun b7=>∃b8,Fm i x y b7/\Bx b7 r 63 (au b8)/\Fv b7 b8 qx/\b7.cell? ⟨ah,0,S⟩=M (ao aB)/\ah<b7.heap.size) b6 wr) (fun b9 _=>1-(intOf b9).toNat)
 case atStart=>exact .inl ⟨rfl,rfl⟩
 case round=>
  rcases hrel with⟨rfl,rfl⟩|⟨rfl,b6,b7,b8,b9,ba,bb⟩
  ·have bc:=aH (show mE wr d 0 2 [#[J E 1,af h f g]] from l.o.ext (a0.o _ ap.o))
   go_wp2_with refine lS 97 5 (x+1) 0 (a2.o _ ap.o) w.o.1 w.o.2 ?_;refine mR (GF hp0 d e aj f g h wr bc.o b5.o) fun bd hb=>?_
   let ⟨be,bf,bi,bk⟩:=nj hb ap ax ay aV;clear bc;obtain⟨bc,bl,bn⟩:=bh (show(aE.info? 121).map (·.size)=M (#[J E 1,af h f g]:Array aq).size from nK) (show(#[J E 1,af h f g]:Array aq).all (·.oneCell')=aB by simp[cJ]) (show(#[J E 1,af h f g]:Array aq).extract 0 (0+2)=#[J E 1,af h f g]/\0+2<=(#[J E 1,af h f g]:Array aq).size from⟨rfl,aw 2⟩);go_upto_region 14 with refine dd rfl 121 (aI 17) (aI 68) rfl _ rfl (vs:=#[J E 1,af h f g]) bc.o rfl bl.o rfl rfl ?_
   try simp only[ak]
   let ⟨br,bs,bt,bu,bv,bx⟩:=mY bd (#[J E 1,af h f g]) 121;let ⟨bz,bC,bK,bL⟩:=nj bv be bf bi bk;rw[<-bu,<-bt];clear bu bt;clear bv;go_wp2_with (first|(refine lA 26 4 x (a1.o _ bz.o) p.o ?_)|(refine lS 93 74 (x+1) 0 (a2.o _ bz.o) v.o.1 v.o.2 ?_)|(refine lS 121 17 br 0 bx.o bn.o.1 bn.o.2 ?_));refine(EU jt OJ rfl rfl rfl h f g bs (n.o.ext (a0.o _ bz.o))).mono ?_;rintro bt bu ⟨bv,rfl,bR,bU,hb⟩;let ⟨bV,bY,c0,c1⟩:=nj hb bz bC bK bL;obtain⟨c2,c3⟩:=aQ bR (show ah<bv from dX bL.o.lt bU);clear bR bU;clear hb bz bC bK bL;go_upto_region 17 with(first|(refine lA 63 12 r bY.o (fA _) ?_)|(refine ix rfl (aI 22) (aI 84) rfl _ rfl dS U rfl rfl ?_))
   try simp only[ak]
   let ⟨bz,bC,bK,bL,bR,bU⟩:=mY bu (au U) 63;let ⟨c4,c5,c6,c7,c8⟩:=tN bR bV bY c0 c1 c2;have c9:=aH (show bv<bz by rw[bK];exact c2.o.lt);rw[<-bL,<-bK];clear bL bK;clear bR;have bK:=aH (show∀bL,aT aE 163 #[aG jt.cells,aG (gJ hp0),ao av] bL (fh bL (aG #[J E 1,J E 3,ao av,ao av])) from fun bR=>vZ jt CG hp0 av bR)
   have bL:=aH (show∀bR,fD bR->aT aE 162 #[aG #[J E 1,J E 3,ao av,ao av],aG jt.cells,ao av,J E 8,aG mI.cells,aG (cq aC aC aC),J E 0,J E 0] bR (kM bR qx) from fun ca cb=>by
    have:=OA ⟨1,3,av,av⟩ Aaz jt CG av 8 dD dD aC aC aC mI oN Xe rfl Tj 0 0 ca cb;rw[show rP mI jt.X 8 av (jJ 16 16 128 128 128) 6=qx from TT] at this;exact this)
   have bR:=aH (show∀ca (cb cc:FV),Fv ca cb qx->Fv ca cc qx->aT aE 164 #[cb.val,J E 0,J E 0,cc.val] ca (kM ca qx) from fun ca cb cc cd ce=>by
    refine(oq cb.val cc.val qx qx 0 0 1 1 ca cd.1 ce.1 ce.2 dK dK rfl rfl rfl dD dD dD dD Jl.1 Jl.2.1 Jl.2.2).mono fun cf cg ch=>?_
    have:=ch.fx;rw[Wj] at this;exact this)
   obtain⟨cf,cg,ch,ci,ck⟩:=dZ (show mI.cells.extract 0 (0+408)=mI.cells/\0+408<=mI.cells.size from⟨ij _ (da oN),by rw[da oN];decide⟩) (show(aE.info? 280).map (·.size)=M mI.cells.size from xE.trans (by rw[da oN])) (show(vE).size=mI.cells.size by rw[Ki,da fG,da oN]) (show mI.cells.all (·.oneCell')=aB by kernel_rfl) (show mI.cells[17]?=M (J E 0) by kernel_rfl);go_upto_region 18 with fail
   go_loopw [19,87] (fun cl cn wr=>cl=J E 8/\DcD bC (fun co=>∃cp,Fm i x y co/\Bx co r 63 (au U)/\Bx co bz 63 (au cp)/\Fv co cp qx/\Bx co ah 4 #[ao av]) cn wr) (fun _ cr _=>1-(intOf cr).toNat)
   case atStart=>exact⟨rfl,.inl ⟨rfl,rfl⟩⟩
   case round=>
    obtain⟨rfl,hrel⟩:=hrel;rcases hrel with⟨rfl,rfl⟩|⟨rfl,cl,cn,co,cp,cr,cs⟩
    ·go_upto_region 20 with(first|(refine lS 280 90 bv 0 c8.o cf.o.1 cf.o.2 ?_)|(refine dd rfl 280 (aI 24) (aI 91) rfl _ rfl (vs:=mI.cells) cg.o ch.o ci.o rfl rfl ?_))
     try simp only[ak]
     let ⟨ct,cu,cv,cw,cx,cy⟩:=mY wr mI.cells 280;let ⟨cz,cA,cB,cC,cE⟩:=tN cx c4 c5 c6 c7 bU;have cF:=aH (show bz<ct by rw[cv];exact bU.o.lt);rw[<-cw,<-cv];clear cw cv;clear cx;have cv:=cy.o.cell 17 ck.o;have cw:=cy.o.lt;go_upto_region 21 with fail;clear cv cw;refine aL 99 (fun cv=>Fm i x y cv/\Bx cv ct 280 mI.cells) rfl (fun cw hb=>?_);have cv:=aH (show Fm i x y cu/\Bx cu ct 280 mI.cells from⟨cz.o,cy.o⟩);let ⟨cx,cI,cL,cN,cO,cR⟩:=rM hb cz cA cB cC cE cy;clear hb cz cA cB cC cE cy;refine gN 0 4 17 ?_;simp only[sZ,ak];refine lR cv 26 4 x 0 135 jt.cells (fun _ cy=>qg (a1.o _ cy.1) p.o) ik ew ?_;simp only[sZ,ak];go_big_quiet_step (fail);refine lR cv 93 98 (x+1) 0 6 (gJ hp0) (fun _ cy=>⟨_,_,a2.o _ cy.1,v.o⟩) zV ja ?_;simp only[sZ,ak];go_big_quiet_step (fail);refine aN (Ax 4 16 cv.o ?_);simp only[sZ,ak];refine bO rfl 163 #[aG jt.cells,aG (gJ hp0),ao av] (aG #[J E 1,J E 3,ao av,ao av]) (fun cy=>by kernel_rfl) (fun cz cA=>bK.o cz) ?_;refine gN 5 9 7 ?_;simp only[sZ,ak];refine lR cv 26 4 x 0 135 jt.cells (fun _ cy=>qg (a1.o _ cy.1) p.o) ik ew ?_;simp only[sZ,ak];iterate 2 (go_big_quiet_step (fail))
     refine lC cv 4 104 (x+1) 5 (ao av) (fun _ cy=>(a2.o _ cy.1).cell 5 rfl) jD ?_;simp only[sZ,ak];go_big_quiet_step (fail);refine lR cv 280 24 ct 0 408 mI.cells (fun _ cy=>⟨_,_,cy.2,cf.o⟩) mG xE ?_;refine lR cv 158 6 (x+1+1) 0 15 (cq aC aC aC) (fun _ cy=>⟨_,_,a3.o _ cy.1,u.o⟩) Kg kK ?_;simp only[sZ,ak];iterate 2 (go_big_quiet_step (fail))
     refine aN ?_;refine mb 14 18 6 rfl rfl rfl dK (fun _ cy cz=>⟨cx.o.ext cz,cR.o.ext cz⟩) (fun cA hb=> ?Xq22) (fun cA hb=> ?Xq23)
     case' Xq22=>
      simp only[sZ,ak];let ⟨cy,cz,cB,cC,cE,cS⟩:=rM hb cx cI cL cN cO cR;clear hb cx cI cL cN cO cR;go_wp2_with fail;refine(bL.o cA (o.o.ext (a0.o _ cy.o))).mono ?_;rintro cT cU ⟨x2,rfl,cV,hb⟩;let ⟨cY,d0,d1,d2,d3,d4⟩:=rM hb cy cz cB cC cE cS;have d5:=aH cV;clear cV;clear hb cy cz cB cC cE cS;go_wp2_with fail;refine gT 15 3 3 ?_;refine oL 18 2 (fun cy cz=>⟨cY.o.ext cz,d4.o.ext cz⟩) fun cB hb=>?_
      simp only[sZ,ak];let ⟨cy,cz,cC,cE,cS,cV⟩:=rM hb cY d0 d1 d2 d3 d4;have d6:=mX hb d5;clear hb cY d0 d1 d2 d3 d4 d5;go_wp2_with fail;let ⟨gk,cY,d0,d1,d2,HK4⟩:=mY cB (au aC) 63;let ⟨HS4,HB4,HU4,HR4,HW4,HD4⟩:=rM d2 cy cz cC cE cS cV;have HX4:=mX d2 d6;have HGK:=aH (show ct<gk by rw[d0];exact cV.o.lt);refine tf d1 ?_;rw[<-d0];clear d1 d0;clear d2
     case' Xq23=>
      simp only[sZ,ak];let ⟨cy,cz,cB,cC,cE,cS⟩:=rM hb cx cI cL cN cO cR;clear hb cx cI cL cN cO cR;go_wp2_with fail;let ⟨gk,cx,cI,cL,cN,cO⟩:=mY cA (au aC) 63;let ⟨cR,cT,cU,cV,cY,d0⟩:=rM cN cy cz cB cC cE cS;have HGK:=aH (show ct<gk by rw[cI];exact cS.o.lt);refine tf cL ?_;rw[<-cI];clear cL cI;clear cN;refine oL 14 5 (fun cI cL=>⟨cR.o.ext cL,d0.o.ext cL⟩) fun cN hb=>?_
      simp only[sZ,ak];let ⟨cI,cL,d1,d2,d3,d4⟩:=rM hb cR cT cU cV cY d0;have d5:=mX hb cO;clear hb cR cT cU cV cY d0 cO;go_wp2_with fail;refine(bL.o cN (o.o.ext (a0.o _ cI.o))).mono ?_;rintro cO cR ⟨x2,rfl,cT,hb⟩;let ⟨HS4,HB4,HU4,HR4,HW4,HD4⟩:=rM hb cI cL d1 d2 d3 d4;have HK4:=mX hb d5;have HX4:=aH cT;clear cT;clear hb cI cL d1 d2 d3 d4 d5;go_wp2_with fail;refine gT 15 3 2 ?_
     all_goals
      refine oL 19 1 (fun cx cy=>⟨HS4.o.ext cy,HD4.o.ext cy⟩) fun cz hb=>?_
      simp only[sZ,ak];let ⟨cx,cy,cB,cC,cE,cI⟩:=rM hb HS4 HB4 HU4 HR4 HW4 HD4;let ⟨cL,cN⟩:=di hb HX4 HK4;clear hb HS4 HB4 HU4 HR4 HW4 HD4 HX4 HK4;refine bI rfl (aI 25) (aI 112) rfl gk x2 rfl rfl cN.o (fA _) ?_;have cO:=aH (show r<gk/\ah<gk/\bz<gk/\ct<gk/\x+y.length<=gk from⟨by have:=b4.o;have:=c3.o;have:=c9.o;have:=cF.o;have:=HGK.o;omega,by have:=c3.o;have:=c9.o;have:=cF.o;have:=HGK.o;omega,by have:=cF.o;have:=HGK.o;omega,HGK.o,by rw[W.o];have:=ag.o;have:=b4.o;have:=c3.o;have:=c9.o;have:=cF.o;have:=HGK.o;omega⟩);obtain⟨cR,cS,cT,cU,cV,cY⟩:=ej (show Fm i x y (cz.setRow gk (au x2)) from cx.o.C cO.o.2.2.2.2 _) (show Bx (cz.setRow gk (au x2)) r 63 (au U) from cy.o.m (dU cO.o)) (show Fv (cz.setRow gk (au x2)) U qx from cB.o.row cN.o (iq _) _) (show Bx (cz.setRow gk (au x2)) ah 4 #[ao av] from cC.o.m (dU cO.o)) (show Bx (cz.setRow gk (au x2)) bz 63 (au U) from cE.o.m (dU cO.o)) (show Bx (cz.setRow gk (au x2)) ct 280 mI.cells from cI.o.m (dU cO.o));obtain⟨d0,d1⟩:=aQ (show Bx (cz.setRow gk (au x2)) gk 63 (au x2) from cN.o.row _) (show Fv (cz.setRow gk (au x2)) x2 qx from cL.o.row cN.o (iq _) _);clear cx cy cB cC cE cI cN cL;refine mn ⟨rfl,gT 20 1 0 ?_⟩;refine QD (fun cx cy=>⟨cR.o.ext cy,cY.o.ext cy⟩) fun cB hb=>?_
      let ⟨cx,cy,cC,cE,cI,cL⟩:=rM hb cR cS cT cU cV cY;let ⟨cN,d2⟩:=di hb d0 d1;clear hb cR cS cT cU cV cY d0 d1
      try simp only[ak]
      go_wp2_with (first|(refine lA 63 22 bz cI.o (fA _) ?_)|(refine lA 63 25 gk cN.o (fA _) ?_));refine(bR.o cB U x2 cC.o d2.o).mono ?_;rintro cR cS ⟨cT,rfl,cU,hb⟩;let ⟨cV,cY,d0,d1⟩:=nj hb cx cy cE cI;have d3:=aH cU;clear cU;clear hb cx cy cE cI;go_wp2_with refine bI rfl (aI 22) (aI 122) rfl bz cT rfl rfl d1.o (fA _) ?_;have cx:=aH (show r<bz/\ah<bz/\x+y.length<=bz from⟨by have:=b4.o;have:=c3.o;have:=c9.o;omega,by have:=c3.o;have:=c9.o;omega,by rw[W.o];have:=ag.o;have:=b4.o;have:=c3.o;have:=c9.o;omega⟩);exact⟨⟨rfl,.inr ⟨by go_num,cT,cV.o.C cx.o.2.2 _,cY.o.m (dU cx.o),d1.o.row _,d3.o.row d1.o (iq _) _,d0.o.m (dU cx.o)⟩⟩,by decide⟩
    ·obtain⟨ct,cu,cv,cw,cx⟩:=dZ cn co cp cr (show x+y.length<=r/\r<ah by rw[W.o];exact⟨ag.o,b4.o⟩)
     obtain⟨cy,cz,cA,cB⟩:=dq (show Bx (wr.setRow r (au cl)) ah 4 #[ao av] from cs.m (dU cx.o)) (show Fm i x y (wr.setRow r (au cl)) from ct.o.C cx.o.1 _) (show Bx (wr.setRow r (au cl)) r 63 (au cl) from cu.o.row _) (show Fv (wr.setRow r (au cl)) cl qx from cw.o.row cu.o (iq _) _);clear cn co cp cr cs;have cn:=cy.o.cell 0 (v:=ao av) rfl;have co:=cy.o.frozen 0;have cp:=cy.o.lt;go_wp2_with (first|(refine lA 63 22 bz cv.o (fA _) ?_)|(refine bI rfl (aI 12) (aI 129) rfl r cl rfl rfl cu.o (fA _) ?_));exact⟨.inr ⟨by go_num,cl,cz.o.Aby (dU cx.o) 0 (ao aB),cA.o.C (show r≠ah by have:=cx.o;omega) _,cB.o.cell cy.o dK 0 (ao aB),(cy.o.L 0 (ao aB)).cell 0 rfl,by simpa[gS] using cp⟩,by decide⟩
  ·let ⟨bc,bd,be,bf⟩:=dq b7 b8 b9 ba
   clear b7 b8 b9 ba bb;go_wp2_with (first|(refine lA 63 12 r bd.o (fA _) ?_)|(refine bI rfl (aI 8) (aI 132) rfl (x+1+1+1) b6 rfl rfl (a4.o _ bc.o) (fA _) ?_));obtain⟨b7,b8,b9⟩:=bh ((a4.o _ bc.o).row (au b6)) (show bD i (wr.setRow (x+1+1+1) (au b6)) from aO (a0.o _ bc.o) (iJ V.o)) (be.o.row (a4.o _ bc.o) (iq _) (au b6))
   have ba:=aH (show(wr.setRow (x+1+1+1) (au b6)).cell? ⟨ah,0,S⟩=M (ao aB) by
    unfold mV;rw[iD _ _ _ _ (show ah≠x+1+1+1 by have:=b4.o;have:=ag.o;omega)];exact bf.o)
   exact dY (oJ results103 _ _ (x+1+1+1) _ _ _ _ rfl rfl rfl b7.o rfl db bM) rfl ⟨b6,ah,rfl,b9.o,ba.o,by have:=b4.o;have:=ag.o;have:=V.o;omega,b8.o⟩
end
def Kx(d a e f:Nat)(c:T)(b:mE c d 0 8 [(fR hp0 (af (M ⟨e,0,S⟩) 1 f))]):
  aT aE 102 #[aG jt.cells,af (M ⟨d,0,S⟩) 1 a] c (fh c (ao aB)):=by
 let ⟨a,g⟩:=aQ b jG;let ⟨b,h⟩:=aX c.heap.size;have i:=aH h;let ⟨i,l⟩:=aX (c.alloc (az jt.cells 26));have c:=Gl l;have n:=aH c;have c:=DZ l h;obtain⟨o,p,q,r⟩:=dq (show(aE.info? 97).map (·.size)=M (fR hp0 (af (M ⟨e,0,S⟩) 1 f)).size from mu) (show(fR hp0 (af (M ⟨e,0,S⟩) 1 f)).all (·.oneCell')=aB by simp[fR,cJ]) (show(fR hp0 (af (M ⟨e,0,S⟩) 1 f)).extract 0 (0+6)=gJ hp0/\0+6<=(fR hp0 (af (M ⟨e,0,S⟩) 1 f)).size from⟨rfl,(by decide:0+6<=8)⟩) (show([(fR hp0 (af (M ⟨e,0,S⟩) 1 f))]:List (Array aq))[0]?=M (fR hp0 (af (M ⟨e,0,S⟩) 1 f)) from rfl);go_enter func102,ntmps102;go_upto_region 1 with fail;rw[<-l,<-h];clear l h;go_upto_region 2 with fail
 go_loopw [9] (fun h wr=>(h=J E 0\/h=J E 1)/\bD i wr) (fun l _=>1-(intOf l).toNat)
 case atStart=>exact⟨.inl rfl,aM _ _⟩
 case round=>
  let ⟨h,i⟩:=hrel;have l:=aH i;have s:=mX i c;have c:=aH ((a.o.ext n.o).ext i);rcases h with rfl|rfl
  ·go_upto_region 4 with(first|(refine yQ dW 97 (aI 11) rfl d 0 _ 8 0 O rfl c.o r.o rfl NR mu ?_)|(refine dd rfl 97 (aI 6) (aI 12) rfl _ rfl (vs:=(fR hp0 (af (M ⟨e,0,S⟩) 1 f))) o.o rfl p.o rfl rfl ?_))
   try simp only[ak]
   let ⟨a,h,i,o,p,r⟩:=mY wr (fR hp0 (af (M ⟨e,0,S⟩) 1 f)) 97;let ⟨t,u⟩:=di p l s;rw[<-o,<-i];clear o i;go_wp2_with (first|(refine lA 26 2 b u.o g.o ?_)|(refine lS 93 14 a 0 r.o q.o.1 q.o.2 ?_));refine mR (tE jt CG hp0 TP TQ h) fun a b=>?_
   have a:=mX b t;go_wp2_with fail;exact⟨⟨.inr (by go_num),a.o⟩,by decide⟩
  ·let ⟨a,b,g,h,i⟩:=c.o.row (k:=0) rfl
   have a:wr.cell? ⟨d,1,S⟩=M (J E 3):=by
    refine g.cell 1 ?_;have a:(fR hp0 (af (M ⟨e,0,S⟩) 1 f))[1]?=M (J E 3):=rfl;rw[<-h,iL] at a;split at a
    ·exact a
    ·cases a
   have a:=g.lt;go_wp2_with fail;go_ret;exact⟨rfl,n.o.trans l.o⟩
def Aa9(a:Nat)(c:T)(b:c.cell? ⟨a,0,S⟩=M (ao aB)):
  aT aE 104 #[af (M ⟨a,0,S⟩) 1 1] c fun d e=>d=aK (ao aB)/\e=c:=by
 have d:=dH c ⟨a,0,S⟩ b;go_enter func104,ntmps104;go_wp2_with fail
 go_loopw [7] (fun a wr=>(a=J E 0\/a=J E 1)/\wr=c) (fun b _=>1-(intOf b).toNat)
 case atStart=>exact⟨.inl rfl,rfl⟩
 case round=>
  obtain⟨a,rfl⟩:=hrel;rcases a with rfl|rfl
  ·go_wp2_with fail
   exact⟨⟨.inr (by go_num),trivial⟩,by decide⟩
  ·go_wp2_with fail
   go_ret;exact⟨rfl,rfl⟩
def Cl(a:T)(b:Nat):Prop:=a.cell? ⟨b,0,S⟩=M (ao aB)
def Cl.ext{b a c}(e:Cl b c)(d:bD b a):Cl a c:=by
 unfold Cl mV at*;rw[d.block c (dH b ⟨c,0,S⟩ e)];exact e
instance {w w' x1}:Tr w w' (Cl w x1) (Cl w' x1):=⟨fun hb h=>Cl.ext h hb⟩
def Cl.rowB{a b g c d}(f:Cl a b)(e:Bx a g 63 (au c)):Cl (a.setRow g (au d)) b:=by
 have h:b≠g:=fun i=>by
  subst i;have i:=e.cell 0 (v:=J E c.W) rfl;unfold Cl at f;rw[i] at f;cases f
 unfold Cl mV at*;rw[iD _ _ _ _ h];exact f
def Ael(a:T)(b:Ending)(c:T):Prop:=∃d:FV,b=aK (fE #[d.val,ao aB,J E 0])/\Fv c d qx/\bD a c
def SE(a):(fk 158 #[(0,aG (au aC)),(1,aG (au aC))]).run aE a=.ok (aG (cq aC aC aC)) a:=dK
def TG:(aE.info? 158).map (·.size)=M (cq aC aC aC).size:=dK
def Sp(a b c d e f:Nat)(g:Option Addr)(h:T)(i:mE h a 0 8 [(fR hp0 (af (M ⟨c,0,S⟩) 1 d))])(l:mE h c 0 2 [#[J E 1,af g e f]])(n:du (fun _=>True) h g e (kX (bt0++[aB])))(o:fD h):
  aT aE 51 #[aG jt.cells,af (M ⟨a,0,S⟩) 1 b,aG (au aC),aG (au aC)] h (Ael h):=by
 obtain⟨p,q,r,s,t,u⟩:=ej l n o i jG (show(cq aC aC aC).all (·.oneCell')=aB by kernel_rfl);have v:=aH (show(cq aC aC aC).extract 0 (0+15)=(cq aC aC aC)/\0+15<=(cq aC aC aC).size from⟨rfl,aw 15⟩);let ⟨w,y,z,H,U,V,W,Y,a0,a1,a2,a3,a4⟩:=Dt h jt.cells 26 (au aC) 63 (au aC) 63 (au aC) 63;go_enter func51,ntmps51;go_upto_region 1 with fail
 try simp only[sZ,ak]
 refine mr U ?_
 try simp only[dA]
 rw[<-H];clear U H;go_wp2_with refine lA 26 4 w (a1.o _ Y.o) t.o ?_;refine mR (Kx a b c d z (s.o.ext (a0.o _ Y.o))) fun H hb=>?_
 have U:=mX hb Y;have a5:=aH (s.o.ext (a0.o _ U.o));go_upto_region 4 with(first|(refine lA 63 6 (w+1) (a2.o _ U.o) (fA _) ?_)|(refine lA 63 7 (w+1+1) (a3.o _ U.o) (fA _) ?_)|(refine gV rfl 158 #[(0,aI 24),(1,aI 25)] rfl #[(0,aG (au aC)),(1,aG (au aC))] dK (aG (cq aC aC aC)) (SE _) ?_)|(refine dd rfl 158 (aI 11) (aI 26) rfl _ rfl (vs:=(cq aC aC aC)) TG rfl u.o rfl rfl ?_))
 try simp only[ak]
 let ⟨a6,a7,a8,a9,aa,ab⟩:=mY H (cq aC aC aC) 158;let ⟨ac,ad⟩:=di aa U a5;have ae:=aH (show w+4<=a6 by rw[a8];have:=U.o.k;rw[W.o] at this;exact this);rw[<-a9,<-a8];clear a9 a8;refine aL 99 (fun a8=>Fm h w y a8/\Bx a8 a6 158 (cq aC aC aC)/\mE a8 a 0 8 [(fR hp0 (af (M ⟨c,0,S⟩) 1 d))]) rfl (fun a9 hb=>?_);have a8:=aH (show Fm h w y a7/\Bx a7 a6 158 (cq aC aC aC)/\mE a7 a 0 8 [(fR hp0 (af (M ⟨c,0,S⟩) 1 d))] from⟨ac.o,ab.o,ad.o⟩);let ⟨ag,ah,ai⟩:=gO hb ac ab ad;refine gN 0 5 9 ?_;simp only[sZ,ak];refine lR a8 26 4 w 0 135 jt.cells (fun _ aj=>qg (a1.o _ aj.1) t.o) ik ew ?_;simp only[sZ,ak];iterate 2 (go_big_quiet_step (fail))
 refine lR a8 97 30 a 0 8 (fR hp0 (af (M ⟨c,0,S⟩) 1 d)) (fun _ aj=>by have al:=aj.2.2.row (k:=0) rfl;exact al) NR mu ?_;refine lR a8 158 11 a6 0 15 (cq aC aC aC) (fun _ aj=>⟨_,_,aj.2.1,v.o⟩) Kg kK ?_;refine aN ?_;refine mb 5 10 8 rfl rfl rfl dK (fun _ aj al=>⟨ag.o.ext al,ah.o.ext al,ai.o.ext al⟩) (fun am hb=> ?Xq24) (fun am hb=> ?Xq25)
 case' Xq24=>
  simp only[sZ,ak];let ⟨aj,al,ap⟩:=gO hb ag ah ai;go_wp2_with fail;refine(D5 c d e f g am (p.o.ext (a0.o _ aj.o)) (q.o.ext (a0.o _ aj.o)) (r.o.ext (a0.o _ aj.o))).mono ?_;rintro ar ax ⟨x,gr,rfl,ay,aV,b0,hb⟩;let ⟨b1,b2,b3⟩:=gO hb aj al ap;obtain⟨b4,b5⟩:=aQ ay (show Cl ax gr from aV);go_wp2_with fail;refine gT 6 4 4 ?_;refine oL 10 3 (fun b6 b7=>⟨b1.o.ext b7,b2.o.ext b7,b3.o.ext b7⟩) fun b8 hb=>?_
  simp only[sZ,ak];let ⟨b6,b7,b9,ba,bb⟩:=tN hb b1 b2 b3 b4 b5;go_wp2_with fail;let ⟨gk,bc,bd,be,bf,HK4⟩:=mY b8 (au aC) 63;let ⟨HS4,HQ4,HP4,HV4,HC4⟩:=tN bf b6 b7 b9 ba bb;have HGK:=aH (show a6<gk/\a<gk by rw[bd];exact⟨b7.o.lt,b9.o.lt⟩);refine tf be ?_;rw[<-bd];clear be bd
 case' Xq25=>
  simp only[sZ,ak];let ⟨aj,al,ap⟩:=gO hb ag ah ai;go_wp2_with fail;let ⟨gk,ar,ax,ay,aV,b0⟩:=mY am (au aC) 63;let ⟨b1,b2,b3⟩:=gO aV aj al ap;have HGK:=aH (show a6<gk/\a<gk by rw[ax];exact⟨al.o.lt,ap.o.lt⟩);refine tf ay ?_;rw[<-ax];clear ay ax;refine oL 5 7 (fun ax ay=>⟨b1.o.ext ay,b2.o.ext ay,b3.o.ext ay⟩) fun b4 hb=>?_
  simp only[sZ,ak];let ⟨ax,ay,b5,b6⟩:=nj hb b1 b2 b3 b0;go_wp2_with fail;refine(D5 c d e f g b4 (p.o.ext (a0.o _ ax.o)) (q.o.ext (a0.o _ ax.o)) (r.o.ext (a0.o _ ax.o))).mono ?_;rintro b7 b8 ⟨x,gr,rfl,b9,ba,bb,hb⟩;let ⟨HS4,HQ4,HP4,HK4⟩:=nj hb ax ay b5 b6;obtain⟨HV4,HC4⟩:=aQ b9 (show Cl b8 gr from ba);go_wp2_with fail;refine gT 6 4 3 ?_
 all_goals
  refine oL 11 2 (fun aj al=>⟨HS4.o.ext al,HQ4.o.ext al,HP4.o.ext al⟩) fun ap hb=>?_
  simp only[sZ,ak];let ⟨aj,al,ar,ax,ay,aV⟩:=rM hb HS4 HQ4 HP4 HV4 HC4 HK4;refine bI rfl (aI 12) (aI 34) rfl gk x rfl rfl aV.o (fA _) ?_;have b0:=aH (show a6<gk/\a<gk/\w+y.length<=gk by rw[W.o];have:=ae.o;have:=HGK.o;exact⟨by omega,by omega,by omega⟩);obtain⟨b1,b2,b3,b4,b5,b6⟩:=ej (show Fm h w y (ap.setRow gk (au x)) from aj.o.C b0.o.2.2 _) (show Bx (ap.setRow gk (au x)) a6 158 (cq aC aC aC) from al.o.m (dU b0.o)) (show mE (ap.setRow gk (au x)) a 0 8 [(fR hp0 (af (M ⟨c,0,S⟩) 1 d))] by obtain⟨b7,b8,b9,ba⟩:=ar.o;exact⟨b7,b8,b9.m (dU b0.o),ba⟩) (show Bx (ap.setRow gk (au x)) gk 63 (au x) from aV.o.row _) (show Fv (ap.setRow gk (au x)) x qx from ax.o.row aV.o (iq _) _) (show Cl (ap.setRow gk (au x)) gr from ay.o.rowB aV.o);refine mn ⟨rfl,gT 12 2 0 ?_⟩;refine QD (fun ar b7=>⟨b1.o.ext b7,b2.o.ext b7,b3.o.ext b7⟩) fun b8 hb=>?_
  let ⟨ar,b7,b9,ba,bb,bc⟩:=rM hb b1 b2 b3 b4 b5 b6
  try simp only[ak]
  go_upto_region 8 with fail
  try simp only[ak]
  refine aL 3 (fun bd=>Fm h w y bd/\Bx bd gk 63 (au x)/\Cl bd gr) rfl (fun be hb=>?_);have bd:=aH (show Fm h w y b8/\Bx b8 gk 63 (au x)/\Cl b8 gr from⟨ar.o,ba.o,bc.o⟩);let ⟨bf,bi,bk,bl⟩:=nj hb ar ba bb bc;refine gN 0 1 5 ?_;simp only[sZ,ak];refine lF bd 12 gk x (fun _ bn=>bn.2.1) ?_;refine aN (gT 1 1 4 ?_);refine Ax 2 3 bd.o ?_;simp only[sZ,ak];refine bO rfl 104 #[af (M ⟨gr,0,S⟩) 1 1] (ao aB) (fun bn=>by kernel_rfl) (fun br bs=>(Aa9 gr br bs.2.2).mono (fun bt bu bv=>⟨bv.1,by rw[bv.2];exact aM _ _⟩)) ?_;refine oL 3 2 (fun bn br=>⟨bf.o.ext br,bi.o.ext br,bl.o.ext br⟩) fun bs hb=>?_
  simp only[sZ,ak];let ⟨bn,br,bt,bu⟩:=nj hb bf bi bk bl;refine bI rfl (aI 8) (aI 44) rfl (w+1+1+1) x rfl rfl (a4.o _ bn.o) (fA _) ?_;obtain⟨bv,bx,bz⟩:=bh ((a4.o _ bn.o).row (au x)) (show bD h (bs.setRow (w+1+1+1) (au x)) from aO (a0.o _ bn.o) (iJ V.o)) (bt.o.row (a4.o _ bn.o) (iq _) (au x));refine mn ⟨rfl,gT 4 2 0 ?_⟩;refine pX fun bC hb=>?_
  let ⟨bK,bL,bR⟩:=gO hb bv bz bx
  try simp only[ak]
  go_wp2_with fail;exact dY (oJ results51 _ _ (w+1+1+1) _ _ _ _ rfl rfl rfl bK.o rfl db bM) rfl ⟨x,rfl,bL.o,bR.o⟩
section
open Go.Shelf
def Q6(a b c):aT aE 99 #[af (M ⟨a,0,S⟩) 3 b] c fun d e=>d=aK (.func (.func 150) #[] #[aD (M ⟨c.heap.size,0,S⟩)])/\e=c.alloc (az #[af (M ⟨a,0,S⟩) 3 b] 35):=by
 have a:∀(b:Fn)(first c:Array aq)(d:T),(DE b first c).run aE d=.ok (.func b first c) d:=fun _ _ _ _=>rfl
 go_enter func99,ntmps99;go_wp2_with fail;go_ret;exact⟨rfl,rfl⟩
def A8{q a b c d e f g h}(p:Region.wanted e (xZ c f.tmps)=aB)(i l)(r:e.op=.load i l)
  (n)(s:f.eval l=aD (M ⟨n,0,S⟩))(o)(t:(oA i ⟨n,0,S⟩).run b g=.ok o g)(u:NT q a b c h d (f.put e.dst o) g):NT q a b c h (e::d) f g:=
 xY p fun _ a=>by
  refine⟨fun b c=>?_,?_⟩
  ·simp[Oper.about,r] at c
  ·rw[Oper.semAt_plain q _ _ (by rw[r];intro b c;cases c)]
   unfold VI;simp only[r,s,Instr.loadAt,nO,fT,iT,dv,t];exact a _ _ u
def It{s a b c d e f g h i}(r:Region.wanted e (xZ c f.tmps)=aB)(l n o)(t:e.op=.store l n o)
  (p q)(u:f.eval n=aD (M ⟨p,0,S⟩))(v:f.eval o=q)(w:(storeVar l ⟨p,0,S⟩ q).run b g=.ok () h)(x:NT s a b c i d (f.put e.dst sJ) h):NT s a b c i (e::d) f g:=
 xY r fun _ a=>by
  refine⟨fun b c=>?_,?_⟩
  ·simp[Oper.about,t] at c
  ·rw[Oper.semAt_plain s _ _ (by rw[t];intro b c;cases c)]
   unfold VI;simp only[t,u,v,Instr.storeAt,nO,fT,iT,dv,w];exact a _ _ x
def bD.Abx{a b}(c:bD a b):a.grownBy b S:=⟨c.os,c.tape,c.output,c.size,fun d e _=>c.block d e⟩
def Ra(a):(fk 255 #[(2,J E (-1)),(4,J E (-1))]).run aE a=.ok (aG (nS Kz av (-1) av (-1))) a:=dK
def XH:(aE.info? 255).map (·.size)=M (nS Kz av (-1) av (-1)).size:=dK
def Ys:(nS Kz av (-1) av (-1)).all (·.oneCell')=aB:=dK
def Ai4:(zeroCells255).size=(nS Kz av (-1) av (-1)).size:=dK
def FrE(a:T)(b:Nat)(c:Array aq)(wr:T):Prop:=bD a wr/\Bx wr b 255 c
def FrD(a:T)(b:Nat)(c:List Unit->T->Prop)(i:aq)(wr:T):Prop:=(i=J E 0/\FrE a b (nS Kz av (-1) av (-1)) wr)\/(i=J E 1/\FrE a b (nS jt aB (-1) aB (-1)) wr)\/(i=J E 2/\FrE a b (nS jt aB (-1) aB (-1)) wr)\/(i=J E 3/\c [()] wr)
def Ni(v:Nat)(d:2<=v)(a l n o p q r b:Nat)(s:Option Addr)(t c:List Unit->T->Prop)(u:T)(e:AbidesFrom u.heap.size t)
  (f:∀w (x:Unit) y,t w y->w.length<1->YieldAt Fence.wide (v-1) aE a #[aG pZ] y fun z H=>(z=aK (ao aB)/\t (w++[x]) H/\True)\/(z=aK (ao av)/\c (w++[x]) H))
  (g:vB u l n o s p q)(i:Bx u b 35 #[af (M ⟨l,0,S⟩) 3 r])(h:t [] u):
  CallsIn Fence.wide v aE 150 #[.func (.yield a) #[] #[],aD (M ⟨b,0,S⟩)] u fun w x=>(∃y,w=aK y)/\((∃z,z=[()]/\t z x)\/(∃H,True/\c H x)):=by
 let ⟨a,b,c,w,x,y⟩:=ej e f g i h d;have d:=i.cell 0 rfl;have d:=i.lt;let ⟨d,e⟩:=aX u.heap.size;have f:=aH e;refine callsIn_of_wp func150 rfl trivial ?_ rfl;simp only[ntmps150,qY,eu,eK,Ka,Adm,Vb,Va,ZR,YR,js,Db];refine YS.2 ?_;go_upto_region 1 with(first|(refine gV rfl 255 #[(2,.const (J E (-1))),(4,.const (J E (-1)))] rfl #[(2,J E (-1)),(4,J E (-1))] dK (aG (nS Kz av (-1) av (-1))) (Ra _) ?_)|(refine dd rfl 255 (aI 3) (aI 7) rfl _ rfl (vs:=(nS Kz av (-1) av (-1))) XH Ai4 Ys rfl rfl ?_));let ⟨g,h⟩:=aX (u.alloc (az (nS Kz av (-1) av (-1)) 255));have g:=Gl h;have z:=aH g;have H:=DZ h e
 try simp only[ak]
 rw[<-h,<-e];have U:=(w.o.ext g).cell 0 rfl;have U:=(w.o.ext g).lt;clear h e;go_upto_region 2 with fail
 go_loopw [10] (fun e wr=>FrD u d t e wr) (fun g _=>3-(intOf g).toNat)
 case atStart=>exact .inl ⟨rfl,z.o,H.o⟩
 case round=>
  rcases hrel with⟨rfl,e,g⟩|⟨rfl,e,g⟩|⟨rfl,e,g⟩|⟨rfl,h⟩
  ·let ⟨z,H⟩:=aQ e g
   have U:=mX e c;have U:=(w.o.ext e).cell 0 rfl;have U:=(w.o.ext e).lt;go_wp2_with fail;refine mR (UE u d l n o p q r s wr c.o z.o (eZ f.o (aw _)) H.o) fun U ⟨V,W⟩=>?_
   obtain⟨H,Y,a0⟩:=bh (show bD u U from mf z.o (W.below (B:=u.heap.size) z.o.size (fun a1 a2=>by have:=f.o;omega))) V (show(aE.info? 198).map (·.size)=M (bW).size from xF);go_wp2_with refine dd rfl 198 (aI 5) (aI 17) rfl _ rfl (vs:=bW) a0.o rfl DY rfl rfl ?_;refine⟨.inr (.inl ⟨by go_num,H.o.trans (jd),Y.o.alloc _⟩),by decide⟩
  ·let ⟨z,H⟩:=aQ e g
   have U:=mX e c;have U:=(w.o.ext e).cell 0 rfl;have U:=(w.o.ext e).lt;go_wp2_with fail;refine mR (UD u d l n o p q r s wr c.o z.o (eZ f.o (aw _)) H.o) fun U ⟨V,W⟩=>?_
   obtain⟨H,Y,a0⟩:=bh (show bD u U from mf z.o (W.below (B:=u.heap.size) z.o.size (fun a1 a2=>by have:=f.o;omega))) V (show(aE.info? 198).map (·.size)=M (bW).size from xF);go_wp2_with refine dd rfl 198 (aI 5) (aI 17) rfl _ rfl (vs:=bW) a0.o rfl DY rfl rfl ?_;refine⟨.inr (.inr (.inl ⟨by go_num,H.o.trans (jd),Y.o.alloc _⟩)),by decide⟩
  ·let ⟨z,H⟩:=aQ e g
   have g:=mX e c;have g:=(w.o.ext e).cell 0 rfl;have g:=(w.o.ext e).lt;go_wp2_with fail;refine mR (UC u d l n o p q r s wr c.o z.o (eZ f.o (aw _)) H.o) fun e ⟨g,w⟩=>?_
   have c:=aH (show bD u e from mf z.o (w.below (B:=u.heap.size) z.o.size (fun d g=>by have:=f.o;omega)));have d:=aH (show(bW).size=pZ.size by rw[BP,sR]);go_upto_region 5 with refine dd rfl 198 (aI 5) (aI 17) rfl _ rfl (vs:=pZ) oO d.o xG rfl rfl ?_;let ⟨d,f⟩:=aX e.heap.size;let ⟨g,l⟩:=aX (e.alloc (az pZ 198));have e:=aH (show bD u g by rw[l];exact c.o.trans (jd));have c:=DZ l f;have n:(oA 198 ⟨d,0,S⟩).run aE g=.ok (aG pZ) g:=tm g d _ _ _ (0,0) _ c.o zP rfl oO
   try simp only[ak]
   rw[<-l,<-f];clear l f;have c:t [] g:=a.o [] u g S x.o e.o.Abx (fun f l=>by cases l);let ⟨a,e,f,l,o,p⟩:=b.o [] () g c dD;have a:=aH p;refine(YS (n:=v)).1 ?_;have b:=aH n;clear n
   gi_wp2_with (first|(refine A8 dW 198 (aI 5) rfl d rfl (aG pZ) b.o ?_))
   refine⟨fun _=>by have:=y.o;omega,a.o.mono ?_⟩;rintro a b (⟨rfl,c,_⟩|⟨rfl,d⟩)
   ·gi_wp2_with fail
    go_wp2_with fail;refine⟨.inr (.inr (.inr ⟨by go_num,c⟩)),by decide⟩
   ·gi_wp2_with fail
    go_wp2_with fail;refine dY (results_none rfl _ _ _) rfl ?_;exact⟨⟨_,rfl⟩,.inr ⟨_,trivial,d⟩⟩
  ·go_wp2_with fail
   exact gI rfl rfl ⟨⟨_,rfl⟩,.inl ⟨_,rfl,h⟩⟩
end
section
open Go.Shelf
attribute [local go_sem] Oper.semAt_some
def Bx.LZ{e a f B g h b}(i:Bx e f g h)(c:e.grownBy a b)(d:∀l,b=M l->B<=l/\∃n:Obj,e.heap[l]?=M n/\n.isCells=av):Bx a f g h:=
 i.grown c (fun a=>by
  let ⟨_,b,c,l⟩:=d f a.symm;have a:e.heap[f]?=M (az h g (0,0)):=i;rw[a] at c;injection c with a;subst a;cases l)
structure StI(a:T)(b:Nat)(c:List Unit)(d:T):Prop where
 F:bj a.heap.size a d
 gq:a.heap.size<=b
 gs:b<d.heap.size
 d0:c=[]->Bx d b 193 (Jz (af S 0 0) (-1) (-1) av 0 0)
 d1:c≠[]->∃e f,Bx d b 193 (Jz (af (M ⟨e,0,S⟩) 1 f) (-1) 0 aB 0 0)/\a.heap.size<=e/\e≠b/\1<=f/\mE d e 0 147 [rO]
def StI.LZ{a b c d B e f}(h:StI a d e b)(i:b.grownBy c f)(l:∀n,f=M n->B<=n/\∃o:Obj,b.heap[n]?=M o/\o.isCells=av)(g:a.heap.size<=B):StI a d e c:=by
 refine⟨h.F.grown i h.F.size (fun a b=>aY g (l a b).1),h.gq,dX h.gs i.size,fun c=>(h.d0 c).LZ i l,fun c=>?_⟩;let ⟨a,b,d,e,f,g,n,o,p,q⟩:=h.d1 c;exact⟨a,b,d.LZ i l,e,f,g,n,o,p.LZ i l,q⟩
def Ud.Abw{a b e c f g}(d:Ud e c (·=b))(h:Bx e b f g):KeepsFrom a e c:=
 ⟨d.size,fun a b _ c i=>(d.block a (eJ.1 c).1 (fun l=>by
  subst l;have b:e.heap[a]?=M (az g f (0,0)):=h;rw[b] at c;injection c with a;subst a;cases i)).trans c⟩
def Iz(a b c d e f:Nat)(g:Option Addr)(i:T)(h:vB i a b c g d e):
  aT aE 49 #[af (M ⟨a,0,S⟩) 3 f] i fun l n=>∃o p,l=aK (af (M ⟨o,0,S⟩) 1 p)/\i.heap.size<=o/\1<=p/\mE n o 0 147 [rO]/\bD i n:=by
 have l:=aH h;let ⟨n,o⟩:=aX i.heap.size;have p:=aH o;refine(JX (n:=5)).1 ?_;refine callsIn_of_wp_marks func49 rfl trivial ?_ rfl;simp only[ntmps49,qY,eu,eK,Ka,Adm,Vb,Va,ZR,YR,js,Db];refine YS.2 ?_;go_upto_region 2 with fail;let ⟨q,r⟩:=aX (i.alloc (az (Jz (af S 0 0) (-1) (-1) av 0 0) 193));have s:=Gl r;have t:=aH s;have u:=DZ r o
 try simp only[ak]
 refine mr r ?_;rw[<-o];clear r o;go_wp2_with fail;refine mR (Q6 a f q) fun o r=>?_
 let ⟨v,w⟩:=aX q.heap.size;have x:=Gl r;let ⟨y,z⟩:=di x t u;have H:=DZ r w;have U:=aH (show n<o.heap.size/\i.heap.size<=n/\i.heap.size<=o.heap.size from⟨z.o.lt,by rw[p.o];exact aw _,y.o.size⟩);rw[<-w];clear r w x t u;go_wp2_with fail;obtain⟨r,t,u⟩:=bh (show SeqStopsK Fence.wide 4 aE 150 #[aD (M ⟨v,0,S⟩)] (fun _:Unit=>#[aG pZ]) (fun _ _=>True) (fun w=>w=[()]) (fun _=>True) 1 o from fun x V W Y a0 a1 _ a2 a3=>Ni 4 O x a b c d e f v g V W Y a1 a2 ((l.o.ext y.o).ext a0) (H.o.ext a0) a3) (show StI i n [] o from⟨y.o,U.o.2.1,U.o.1,fun _=>z.o,fun a4=>absurd rfl a4⟩) (show∀a5:T,(storeVar 198 ⟨a5.heap.size,0,S⟩ (aG pZ)).run aE (a5.alloc (az bW 198))=.ok () (a5.alloc (az pZ 198)) from fun a6=>by rw[run_storeVar_row _ _ 198 _ bW pZ (heap_alloc_new a6 _) oO (by rw[BP,sR]) xG,World.setRow_alloc_new]);refine(YS (n:=5)).1 ?_
 refine wpIn_rangeFunc_ownH (F:=Fence.wide) (α:=Unit) rfl dD (gf:=150) (lb:=#[aD (M ⟨v,0,S⟩)]) rfl trivial (enters_of func150 dK rfl)
  r.o (fun _ _=>trivial) (fun _ _ _ _ _ _ _ _=>trivial) (aM _ _) (fun _=>rfl)
  (fun(w:List Unit) x=>StI i n w x) (fun _ _ _=>False) (fun V W Y a0 a1 a2 a3=>a1.LZ a2 a3 U.o.2.2) (fun _ _ _ _ _ a4 _ _=>a4) t.o
  (fun _ w x=>∃V,n<V/\Bx x V 198 pZ/\w={tmps:=#[af (M ⟨a,0,S⟩) 3 f,sJ,af S 0 0,aD (M ⟨n,0,S⟩),aD (M ⟨V,0,S⟩),aG #[af S 0 0,J E (-1),J E (-1),ao av,J E 0,J E 0],af (M ⟨a,0,S⟩) 3 f,.func (.func 150) #[] #[aD (M ⟨v,0,S⟩)],aG pZ,sJ,sJ,sJ,sJ,sJ,sJ,sJ,sJ,sJ,sJ,sJ,sJ,sJ,sJ,sJ,sJ,sJ],defers:=[]})
  (fun w x _ V W Y a0 a1 a2=>by
   let ⟨a3,a4,a5,a6⟩:=a0;exact⟨a3,a4,a5.LZ a1 a2,a6⟩) ?assign ?body ?done ?stop
 case stop=>
  intro w x V W _ _ Y _;exact Y.elim
 case assign=>
  intro w x V W Y a0 a1;let ⟨a2,a3⟩:=aQ a0 a1
  gi_wp2_with (first|(refine It dW 198 (aI 4) (aI 8) rfl W.heap.size (aG pZ) rfl rfl (u.o W) ?_))
  refine a3.o _ _ (KeepsFrom.of_grownBy (Bo W _ S) (fun a4 a5=>by cases a5)) trivial (a2.o.LZ (B:=o.heap.size) (Bo W _ S) (fun a6 a7=>by cases a7) U.o.2.2) ⟨W.heap.size,a2.o.gs,Bx.new _ _ _,rfl⟩
 case body=>
  intro w x V W Y a0 a1 a2 a3 a4;obtain⟨a5,a6,a7,rfl⟩:=a3
  obtain rfl:x=[]:=by
   cases x with
   |nil=>rfl
   |cons x a3=>simp at a4
  obtain⟨x,a3,a8,a9⟩:=dq a2 a6 a7 (a2.d0 rfl);have aa:=a7.cell 143 Lj.2.2.2.1;have ab:=a7.lt
  gi_wp2_with fail
  refine⟨trivial,(((JX (n:=2)).2 (I6 n (af S 0 0) (-1) (-1) 0 0 Y a9.o)).inRound w).mono ?_⟩;rintro ac ad ⟨rfl,rfl⟩;obtain⟨ae,rfl⟩:=aX ad;obtain⟨ag,ah,ai⟩:=bh (show Bx (((ae.setCell ⟨n,1,S⟩ (J E (-1))).setCell ⟨n,2,S⟩ (J E (-1))).setCell ⟨n,4,S⟩ (J E 0)) n 193 (Jz (af S 0 0) (-1) (-1) av 0 0) from((a9.o.L 1 (J E (-1))).L 2 (J E (-1))).L 4 (J E 0)) (show Ud ae (((ae.setCell ⟨n,1,S⟩ (J E (-1))).setCell ⟨n,2,S⟩ (J E (-1))).setCell ⟨n,4,S⟩ (J E 0)) (·=n) from(((Ud.refl ae (·=n)).set (a:=⟨n,1,S⟩) rfl _).set (a:=⟨n,2,S⟩) rfl _).set (a:=⟨n,4,S⟩) rfl _) (show Bx (((ae.setCell ⟨n,1,S⟩ (J E (-1))).setCell ⟨n,2,S⟩ (J E (-1))).setCell ⟨n,4,S⟩ (J E 0)) a5 198 pZ from((a8.o.C (by show a5≠n;have:=a3.o;omega) _).C (by show a5≠n;have:=a3.o;omega) _).C (by show a5≠n;have:=a3.o;omega) _);have aj:=aH (tm (((ae.setCell ⟨n,1,S⟩ (J E (-1))).setCell ⟨n,2,S⟩ (J E (-1))).setCell ⟨n,4,S⟩ (J E 0)) a5 _ 198 pZ (0,0) _ ai.o zP rfl oO);have al:=a9.o.cell 1 (v:=J E (-1)) rfl;have am:=a9.o.cell 2 (v:=J E (-1)) rfl;have ap:=a9.o.cell 4 (v:=J E 0) rfl;have ar:=a9.o.frozen 1;have ax:=a9.o.frozen 2;have ay:=a9.o.frozen 4;have aV:=a9.o.lt;have b0:=ai.o.cell 144 Lj.2.2.2.2;have b1:=ai.o.lt
  gi_wp2_with (first|(refine A8 dW 198 (aI 4) rfl a5 rfl (aG pZ) aj.o ?_))
  refine⟨trivial,(((JX (n:=2)).2 (Uh n (((ae.setCell ⟨n,1,S⟩ (J E (-1))).setCell ⟨n,2,S⟩ (J E (-1))).setCell ⟨n,4,S⟩ (J E 0)) ag.o)).inRound w).mono ?_⟩;rintro b2 b3 ⟨rfl,b4,b5,b6,b7,b8,b9,ba⟩;obtain⟨bb,bc,bd,be⟩:=dq b6 b9 (show 1<=b5/\ae.heap.size<=b4 from⟨b8,by simpa[gS] using b7⟩) (ah.o.trans (ba.mono (fun bf _ bi=>bi)))
  gi_wp2_with fail
  refine⟨be.o.Abw a9.o,trivial,x.o.F.trans (be.o.below (B:=i.heap.size) x.o.F.size (fun bf bi=>by have:=x.o.gq;omega)),x.o.gq,dX x.o.gs be.o.size,fun bk=>by simp at bk,fun _=>⟨b4,b5,bb.o,by have:=bd.o;have:=x.o.F.size;omega,by have:=bd.o;have:=x.o.gs;omega,bd.o.1,bc.o⟩⟩
 case done=>
  intro w x V W Y a0 a1;obtain rfl:x=[()]:=Y;let ⟨Y,a2,a3,a4,a5,a6,a7⟩:=a0.d1 dS;obtain⟨a8,a9,aa,ab,ac,ad⟩:=ej a0 W a1 a3 (show i.heap.size<=Y/\Y≠n/\1<=a2 from⟨a4,a5,a6⟩) a7;have ae:=a3.lt;go_wp2_with fail;refine mR (QN n Y a2 (-1) 0 V ac.o.2.2 ab.o ad.o ac.o.2.1) fun ag ⟨ah,ai,aj⟩=>?_
  let ⟨al,am,ap⟩:=bh ah ai aj;have ar:=ah.cell 0 (v:=af (M ⟨Y,0,S⟩) 1 a2) rfl;have ax:=ah.lt;go_wp2_with fail
  have ay:ag.heap[w]?=M (.deferred (M [])):=(ap.o.block w (eJ.1 aa.o).1 (fun aV=>by
   rcases aV with b0|b0
   ·have:=a9.o;have:=U.o.1;omega
   ·let ⟨aV,b1,b2,_⟩:=ad.o
    have b3:V.heap[Y]?=M (az aV b1 (0,0)):=b2;have b4:=aa.o;rw[b0,b3] at b4;injection b4 with b5;cases b5)).trans aa.o
  refine⟨by simp,.inl ⟨_,_,rfl,run_takeDeferred ay,?_⟩⟩;have aa:=grownBy_putObj' ag w (.deferred S)
  have aV:∀b0,M w=M b0->0<=b0/\∃b1:Obj,ag.heap[b0]?=M b1/\b1.isCells=av:=fun b2 b3=>by
   injection b3 with b4;subst b4;exact⟨qo _,_,ay,rfl⟩
  have b0:bj i.heap.size i ag:=a8.o.F.trans (ap.o.below (B:=i.heap.size) a8.o.F.size (fun b1 b2=>by
   have:=a8.o.gq;have:=ac.o;omega))
  have b1:=b0.grown aa b0.size (fun b2 b3=>by injection b3 with b4;have:=a9.o;have:=U.o.2.2;omega);let ⟨b2,b3,b4,b5⟩:=am.o;have b6:mE (ag.putObj w (.deferred S)) Y 0 147 [rO]:=⟨b2,b3,b4.LZ aa aV,b5⟩;exact⟨af (M ⟨Y,0,S⟩) 1 a2,by simp[Ih,results49,go_sem],Y,a2,rfl,ac.o.1,ac.o.2.2,b6,b1⟩
end
def Aad(a:FV)(b c d:Int)(e:Bool)(f:Int)(g:Bool):Array aq:=(a.cells.toList++([J E b,J E c,J E d,ao e,J E f,ao g]:List aq)).toArray
def nR:Array aq:=Aad aC 0 0 0 av 0 av
def zt:(aE.info? 65).map (·.size)=M nR.size:=dK
def Wt(a):(fk 65 #[]).run aE a=.ok (aG nR) a:=dK
def Ak:nR.all (·.oneCell')=aB:=dK
def Kw(a b:aq)(c:T):aT aE 50 #[J E (-1),a,b] c (fh c (aG nR)):=by
 let ⟨a,b⟩:=aX c.heap.size;have d:=aH b;let ⟨e,f⟩:=aX (c.alloc (az nR 65));have g:=DZ f b;have h:=GL f;go_enter func50,ntmps50;go_upto_region 1 with fail;refine mr f ?_;rw[<-b];clear f b;go_wp2_with (first|(refine gV rfl 65 #[] rfl #[] dK (aG nR) (Wt _) ?_)|(refine bm rfl 65 (aI 4) (aI 7) rfl a nR rfl rfl g.o zt rfl Ak ?_));obtain⟨b,f⟩:=aQ (g.o.row nR) (show bD c (e.setRow a nR) from aO h.o (eZ d.o (aw _)));exact rR results50 b.o underlying65 zt ⟨rfl,f.o⟩
def cdZ:Array aq:=fR ⟨0,0,0,av,av,av⟩ (af S 0 0)
def TL:(aE.info? 97).map (fun i=>(i.zero,i.size,i.bytes))=M (M (aG cdZ),8,80):=dK
def XG:(aE.info? 97).map (fun i=>(i.zero,i.size))=M (M (aG cdZ),8):=dK
def I5:rO[144]?=M (ao aB)/\rO[145]?=M (ao av)/\rO.extract 6 (6+135)=jt.cells/\6+135<=rO.size:=⟨by kernel_rfl,by kernel_rfl,by kernel_rfl,by rw[C9];decide⟩
def DcI(a:T)(b:aq->T->Prop)(c i:aq)(wr:T):Prop:=(i=J E 2/\c=af S 0 0/\wr=a)\/(i=J E 3/\b c wr)
def vP:nR.extract 0 (0+5)=au aC/\0+5<=nR.size:=⟨rfl,(by decide:0+5<=11)⟩
def De(a:FV):Array aq:=Aad a 2 2 1 aB 2 aB
def Zy(a:T)(b:Ending)(c:T):Prop:=∃(d:Nat)(e:FV),b=aK (af (M ⟨d,0,S⟩) 1 1)/\a.heap.size<=d/\Bx c d 65 (De e)/\Fv c e qx/\bD a c
def Wu(a b):(fk 65 #[(0,aG a.cells),(1,J E 2),(2,J E 2),(3,J E 1),(4,ao aB),(5,J E 2),(6,ao aB)]).run aE b=.ok (aG (De a)) b:=dK
def Xw(a):(aE.info? 65).map (·.size)=M (De a).size:=zt
def Sy(a):(De a).all (·.oneCell')=aB:=by simp[De,Aad,au,cJ]
def Xv:(aE.info? 65).map (fun i=>(i.zero,i.size,i.bytes))=M (M (aG nR),11,136):=dK
def Q7(d e f g h c:Nat)(i:Option Addr)(l:T)(a:vB l d e f i g h)(b:fD l):aT aE 16 #[af (M ⟨d,0,S⟩) 3 c] l (Zy l):=by
 obtain⟨n,o⟩:=aQ a b;clear a b;go_enter func16,ntmps16;go_wp2_with fail;refine(Iz d e f g h c i l n.o).mono ?_;rintro a b ⟨c,p,rfl,q,r,s,t⟩;obtain⟨a,u,v⟩:=bh (show l.heap.size<=c/\1<=p from⟨q,r⟩) s t;clear q r s t;obtain⟨a,q,r,s,t,w⟩:=mY b (#[af (M ⟨c,0,S⟩) 1 p]) 130;obtain⟨b,x⟩:=di t v u;go_upto_region 2 with fail;rw[<-s,<-r];clear s r t v u;obtain⟨r,s,t,u,v⟩:=info_parts Xv;obtain⟨y,z,H,U⟩:=dq t s u (show r.bytes*1<=281474976710656 by rw[v];decide);clear s t u v;have s:=w.o.cell 0 (v:=af (M ⟨c,0,S⟩) 1 p) rfl;have t:=w.o.lt;go_upto_region 3 with(first|(refine zG q rfl (aI 19) (aI 19) 60 rfl q.heap.size 65 r (aG nR) 11 underlying60 z.o y.o H.o E E _ _ 1 rfl rfl rfl rfl U.o dD (aw _) ?_;intro w3 hown hgr));obtain⟨r,u⟩:=aX q.heap.size;rw[<-u] at hown ⊢;obtain⟨v,V,W⟩:=Hy dD hown;obtain rfl:v=nR:=ue.1 (W.trans dK);have v:bD q w3:=bD.grown hgr;obtain⟨q,Y,a0⟩:=gO v b x w;obtain⟨a1,a2⟩:=aQ V (show l.heap.size<=r by rw[u];exact b.o.size);clear v hown hgr V W u b x w z y H U s t;obtain⟨b,s,t,u,v,w⟩:=mY w3 (#[af (M ⟨r,0,S⟩) 1 1]) 60;obtain⟨x,y,z,H⟩:=nj v q Y a0 a1;have U:=aH (show r<b by rw[t];exact a1.o.lt);rw[<-u,<-t];clear u t v q Y a0 a1;have q:=z.o.cell 0 (v:=af (M ⟨c,0,S⟩) 1 p) rfl;have p:=z.o.lt;go_upto_region 5 with fail;clear q p z;obtain⟨p,q⟩:=aQ (show(aE.info? 135).map (·.size)=M rO.size by rw[C9];exact Jf) (show([rO]:List (Array aq))[0]?=M rO from rfl)
 go_loopw [24] (fun t wr=>DcD s (fun u=>∃v:FV,Bx u b 60 #[af (M ⟨r,0,S⟩) 1 1]/\Bx u r 65 (De v)/\Fv u v qx/\bD l u) t wr) (fun z _=>1-(intOf z).toNat)
 case atStart=>exact .inl ⟨rfl,rfl⟩
 case round=>
  rcases hrel with⟨rfl,rfl⟩|⟨rfl,s,t,u,v,z⟩
  ·go_upto_region 7 with(first|(with_reducible refine yQ dW 135 (aI 26) rfl c 0 _ 147 0 O rfl y.o q.o rfl underlying135 Jf ?_)|(with_reducible refine dd rfl 135 (aI 7) (aI 27) rfl _ rfl (vs:=rO) p.o (by rw[Jy,C9]) OW rfl rfl ?_))
   try simp only[ak]
   obtain⟨c,p,q,V,W,Y⟩:=mY wr rO 135;obtain⟨a0,a1,a3⟩:=gO W x H w;have a4:=aH (show b<c by rw[q];exact w.o.lt);rw[<-V,<-q];clear V q W x H w y;have q:=Y.o.cell 0 xd.1;have w:=Y.o.lt;go_upto_region 9 with fail;clear q w;have q:=aH (show(fR hp0 (af (M ⟨e,0,S⟩) 1 f)).all (·.oneCell')=aB by simp[fR,cJ])
   go_loopw [8,9] (fun w x wr=>DcI p (fun y H=>∃V W,y=af (M ⟨V,0,S⟩) 1 W/\mE H V 0 8 [(fR hp0 (af (M ⟨e,0,S⟩) 1 f))]/\bD p H) w x wr) (fun _ a4 _=>3-(intOf a4).toNat)
   case atStart=>exact .inl ⟨rfl,rfl,rfl⟩
   case round=>
    rcases hrel with⟨rfl,rfl,rfl⟩|⟨rfl,p,w,rfl,x,y⟩
    ·have H:=Y.o.cell 1 xd.2.1
     have H:=Y.o.lt;obtain⟨H,V,W,a4,a5⟩:=(n.o.ext a0.o).P;obtain⟨H,V⟩:=aQ W (bZ a4 a5);clear W a4 a5;go_wp2_with (first|(with_reducible refine bA dW 97 (aI 42) rfl d 435 8 rfl _ _ _ _ H.o V.o.1 V.o.2 rfl NR mu ?_)|(with_reducible refine jE rfl 137 (aI 43) rfl 97 (fR hp0 (af (M ⟨e,0,S⟩) 1 f)) 8 (aG cdZ) VD XG rfl rfl dD dD _ rfl rfl ?_)|(refine oh (base:=(wr.alloc (az (fR hp0 (af (M ⟨e,0,S⟩) 1 f)) 97)).heap.size) (L:=[]) rfl (aI 38) (aI 44) 137 rfl 97 (aG cdZ) 8 80 VD TL rfl dD dD rfl (jW.nil _ _ _ _) dD (aw _) _ (fR hp0 (af (M ⟨e,0,S⟩) 1 f)) rfl (Bx.new _ _ _) rfl q.o ?_;intro W wd ho9 hb9 hg9 hd9));rw[js] at ho9;obtain⟨d,q,rfl,H,V,W⟩:=ho9.rows dS;obtain⟨a4,a5⟩:=aQ W (show bD wr wd from bD.trans (show bD wr (wr.alloc (az (fR hp0 (af (M ⟨e,0,S⟩) 1 f)) 97)) from(aM _ _).alloc (aw _) _) hb9);clear ho9 hb9 hg9 hd9 H V W;go_wp2_with fail;exact⟨.inr ⟨by go_num,d,q,rfl,a4.o,a5.o⟩,by decide⟩
    ·have d:=aH x
     obtain⟨q,H,V,W⟩:=nj y a0 a1 a3 Y;clear x y a0 a1 a3 Y;have x:=W.o.cell 1 xd.2.1;have y:=W.o.lt;go_upto_region 12 with fail;clear x y;refine aL 99 (fun x=>Bx x c 135 rO) rfl (fun y Y=>?_);have x:=aH (show Bx wr c 135 rO from W.o);obtain⟨y,a0,a1,a3,a4⟩:=tN Y W q H V d;clear Y W q H V d;refine gN 0 4 10 ?_;simp only[sZ,ak];iterate 3 (go_big_quiet_step (fail))
     refine lC x 3 48 c 3 (J E (-1)) (fun _ d=>d.cell 3 xd.2.2.2.1) bJ ?_;refine aN (zj 4 9 ?_);simp only[sZ,ak];refine bO rfl 50 #[J E (-1),aD (M ⟨b,0,S⟩),aD (M ⟨a,0,S⟩)] (aG nR) (fun d=>by kernel_rfl) (fun q H=>Kw _ _ q) ?_;refine gN 5 4 5 ?_;simp only[sZ,ak];iterate 3 (go_big_quiet_step (fail))
     refine lC x 3 53 c 4 (J E (-1)) (fun _ d=>d.cell 4 xd.2.2.2.2.1) bJ ?_;refine aN (zj 9 4 ?_);simp only[sZ,ak];refine bO rfl 50 #[J E (-1),aD (M ⟨b,0,S⟩),aD (M ⟨a,0,S⟩)] (aG nR) (fun d=>by kernel_rfl) (fun q x=>Kw _ _ q) ?_;refine Md 10 11 3 y (fun a d=> ?Xq26) fun a d=> ?Xq27
     case' Xq26=>
      simp only[sZ,ak];obtain⟨q,x,H,V,W⟩:=tN d y a0 a1 a3 a4;go_wp2_with fail;obtain⟨Y,a5,a6,a7,a8,a9⟩:=mY a nR 65;obtain⟨a5,aa,ab,ac,ad⟩:=tN a8 q x H V W;have ae:=aH (show c<Y/\r<Y/\b<Y/\p<Y/\l.heap.size<=Y by rw[a6];exact⟨q.o.lt,H.o.lt,V.o.lt,W.o.lt,x.o.size⟩);refine tf a7 ?_;rw[<-a6];clear a7 a6;clear a8 q x H V W;refine fK 11 2 a5 fun q x=>?_
      simp only[sZ,ak];obtain⟨H,V,W,a6,a7,a8⟩:=rM x a5 aa ab ac ad a9;clear x a5 aa ab ac ad a9;go_wp2_with fail;obtain⟨x,a5,a9,aa,ab,ac⟩:=mY q nR 65;obtain⟨q,a5,ad,ag,ah,ai⟩:=rM ab H V W a6 a7 a8;have aj:=aH (show c<x/\r<x/\b<x/\p<x/\l.heap.size<=x/\Y<x by rw[a9];exact⟨H.o.lt,W.o.lt,a6.o.lt,a7.o.lt,V.o.size,a8.o.lt⟩);refine tf aa ?_;rw[<-a9];clear aa a9;clear ab H V W a6 a7 a8;refine fK 12 1 q fun wc H=>?_
      simp only[sZ,ak];obtain⟨V,W,a6,a7,a8,a9⟩:=rM H q a5 ad ag ah ai;have aa:=mX H ac;clear H q a5 ad ag ah ai ac;refine bm rfl 65 (aI 10) (aI 50) rfl Y nR rfl rfl a9.o zt rfl Ak ?_;obtain⟨q,H,a5,ab,ac,ad⟩:=ej (show Bx (wc.setRow Y nR) c 135 rO from V.o.m (gC ae.o aj.o)) (show Bx (wc.setRow Y nR) r 65 nR from a6.o.m (gC ae.o aj.o)) (show Bx (wc.setRow Y nR) b 60 #[af (M ⟨r,0,S⟩) 1 1] from a7.o.m (gC ae.o aj.o)) (show mE (wc.setRow Y nR) p 0 8 [(fR hp0 (af (M ⟨e,0,S⟩) 1 f))] from a8.o.m (gC ae.o aj.o) _) (show bD l (wc.setRow Y nR) from aO W.o (gC ae.o aj.o)) (show Bx (wc.setRow Y nR) Y 65 nR from a9.o.row _);have ag:=aH (show Bx (wc.setRow Y nR) x 65 nR from aa.o.m (gC ae.o aj.o));clear V W a6 a7 a8 a9 aa;refine mn ⟨rfl,fK 13 0 q fun V W=>?_⟩;simp only[sZ,ak];obtain⟨a6,a7,a8,a9,aa,ah⟩:=rM W q ac H a5 ab ad;have ai:=mX W ag;clear W q ac H a5 ab ad ag;refine bm rfl 65 (aI 11) (aI 55) rfl x nR rfl rfl ai.o zt rfl Ak ?_;obtain⟨q,H,W,a5,ab,ac⟩:=ej (show Bx (V.setRow x nR) c 135 rO from a6.o.m (gC ae.o aj.o)) (show Bx (V.setRow x nR) r 65 nR from a8.o.m (gC ae.o aj.o)) (show Bx (V.setRow x nR) b 60 #[af (M ⟨r,0,S⟩) 1 1] from a9.o.m (gC ae.o aj.o)) (show mE (V.setRow x nR) p 0 8 [(fR hp0 (af (M ⟨e,0,S⟩) 1 f))] from aa.o.m (gC ae.o aj.o) _) (show bD l (V.setRow x nR) from aO a7.o (gC ae.o aj.o)) (show Bx (V.setRow x nR) x 65 nR from ai.o.row _);have ad:=aH (show Bx (V.setRow x nR) Y 65 nR from ah.o.m (gC ae.o aj.o));clear a6 a7 a8 a9 aa ah ai;refine mn ⟨rfl,zI q fun wg V=>?_⟩;obtain⟨HEg,HXg,HOg,HSg,HPg,HAg⟩:=rM V q ab H W a5 ad;have HBg:=mX V ac;clear V q ab H W a5 ad ac
      try simp only[ak]
      go_wp2_with (first|(with_reducible refine bA dW 26 (aI 57) rfl c 6 135 rfl _ _ _ _ HEg.o I5.2.2.1 I5.2.2.2 rfl ik ew ?_)|(with_reducible refine bA dW 63 (aI 60) rfl Y 0 5 rfl _ _ _ _ HAg.o vP.1 vP.2 rfl db bM ?_)|(with_reducible refine bA dW 63 (aI 62) rfl x 0 5 rfl _ _ _ _ HBg.o vP.1 vP.2 rfl db bM ?_))
     case' Xq27=>
      simp only[sZ,ak];obtain⟨q,x,H,V,W⟩:=tN d y a0 a1 a3 a4;go_wp2_with fail;obtain⟨d,y,Y,a0,a1,a3⟩:=mY a nR 65;obtain⟨a,y,a4,a5,a6⟩:=tN a1 q x H V W;have a7:=aH (show c<d/\r<d/\b<d/\p<d/\l.heap.size<=d by rw[Y];exact⟨q.o.lt,H.o.lt,V.o.lt,W.o.lt,x.o.size⟩);refine tf a0 ?_;rw[<-Y];clear a0 Y;clear a1 q x H V W;refine fK 10 2 a fun q x=>?_
      simp only[sZ,ak];obtain⟨H,V,W,Y,a0,a1⟩:=rM x a y a4 a5 a6 a3;clear x a y a4 a5 a6 a3;go_wp2_with fail;obtain⟨a,x,y,a3,a4,a5⟩:=mY q nR 65;obtain⟨q,x,a6,a8,a9,aa⟩:=rM a4 H V W Y a0 a1;have ab:=aH (show c<a/\r<a/\b<a/\p<a/\l.heap.size<=a/\d<a by rw[y];exact⟨H.o.lt,W.o.lt,Y.o.lt,a0.o.lt,V.o.size,a1.o.lt⟩);refine tf a3 ?_;rw[<-y];clear a3 y;clear a4 H V W Y a0 a1;refine fK 12 1 q fun wc y=>?_
      simp only[sZ,ak];obtain⟨H,V,W,Y,a0,a1⟩:=rM y q x a6 a8 a9 aa;have a3:=mX y a5;clear y q x a6 a8 a9 aa a5;refine bm rfl 65 (aI 10) (aI 50) rfl a nR rfl rfl a3.o zt rfl Ak ?_;obtain⟨q,x,y,a4,a5,a6⟩:=ej (show Bx (wc.setRow a nR) c 135 rO from H.o.m (gC a7.o ab.o)) (show Bx (wc.setRow a nR) r 65 nR from W.o.m (gC a7.o ab.o)) (show Bx (wc.setRow a nR) b 60 #[af (M ⟨r,0,S⟩) 1 1] from Y.o.m (gC a7.o ab.o)) (show mE (wc.setRow a nR) p 0 8 [(fR hp0 (af (M ⟨e,0,S⟩) 1 f))] from a0.o.m (gC a7.o ab.o) _) (show bD l (wc.setRow a nR) from aO V.o (gC a7.o ab.o)) (show Bx (wc.setRow a nR) a 65 nR from a3.o.row _);have a8:=aH (show Bx (wc.setRow a nR) d 65 nR from a1.o.m (gC a7.o ab.o));clear H V W Y a0 a1 a3;refine mn ⟨rfl,fK 13 0 q fun H V=>?_⟩;simp only[sZ,ak];obtain⟨W,Y,a0,a1,a3,a9⟩:=rM V q a5 x y a4 a8;have aa:=mX V a6;clear V q a5 x y a4 a8 a6;refine bm rfl 65 (aI 11) (aI 55) rfl d nR rfl rfl a9.o zt rfl Ak ?_;obtain⟨q,x,y,V,a4,a5⟩:=ej (show Bx (H.setRow d nR) c 135 rO from W.o.m (gC a7.o ab.o)) (show Bx (H.setRow d nR) r 65 nR from a0.o.m (gC a7.o ab.o)) (show Bx (H.setRow d nR) b 60 #[af (M ⟨r,0,S⟩) 1 1] from a1.o.m (gC a7.o ab.o)) (show mE (H.setRow d nR) p 0 8 [(fR hp0 (af (M ⟨e,0,S⟩) 1 f))] from a3.o.m (gC a7.o ab.o) _) (show bD l (H.setRow d nR) from aO Y.o (gC a7.o ab.o)) (show Bx (H.setRow d nR) d 65 nR from a9.o.row _);have b:=aH (show Bx (H.setRow d nR) a 65 nR from aa.o.m (gC a7.o ab.o));clear W Y a0 a1 a3 a9 aa;refine mn ⟨rfl,zI q fun wg H=>?_⟩;obtain⟨HEg,HXg,HOg,HSg,HPg,HAg⟩:=rM H q a4 x y V a5;have HBg:=mX H b;clear H q a4 x y V a5 b
      try simp only[ak]
      go_wp2_with (first|(with_reducible refine bA dW 26 (aI 57) rfl c 6 135 rfl _ _ _ _ HEg.o I5.2.2.1 I5.2.2.2 rfl ik ew ?_)|(with_reducible refine bA dW 63 (aI 60) rfl a 0 5 rfl _ _ _ _ HBg.o vP.1 vP.2 rfl db bM ?_)|(with_reducible refine bA dW 63 (aI 62) rfl d 0 5 rfl _ _ _ _ HAg.o vP.1 vP.2 rfl db bM ?_))
     all_goals
      refine(Sp p w e f g h i wg HPg.o (n.o.ext HXg.o).sl (n.o.ext HXg.o).pl (o.o.ext HXg.o)).mono ?_;rintro a b ⟨c,rfl,d,e⟩;have a:=aH d;obtain⟨f,g,h,i⟩:=nj e HEg HXg HOg HSg;clear e HEg HXg HOg HSg HPg HAg HBg;clear d;go_upto_region 14 with(first|(with_reducible refine ix rfl (aI 12) (aI 65) rfl _ rfl dS c rfl rfl ?_))
      try simp only[ak]
      obtain⟨d,e,n,o,p,q⟩:=mY b (au c) 63;obtain⟨b,e,w,x,y⟩:=tN p f g h i a;rw[<-o,<-n];clear o n;clear p f g h i a;have a:=b.o.cell 0 xd.1;have a:=b.o.cell 1 xd.2.1;have a:=b.o.cell 2 xd.2.2.1;have a:=b.o.cell 5 xd.2.2.2.2.2;have a:=b.o.cell 144 I5.1;have a:=b.o.cell 145 I5.2.1;have a:=x.o.cell 0 (v:=af (M ⟨r,0,S⟩) 1 1) rfl;have a:=b.o.lt;have a:=x.o.lt;go_wp2_with (first|(with_reducible refine bA dW 63 (aI 12) rfl d 0 5 rfl _ _ _ _ q.o (ij _ (fA _)) (yD fA) rfl db bM ?_)|(with_reducible refine gV rfl 65 #[(0,aI 93),(1,aI 96),(2,aI 99),(3,aI 102),(4,aI 103),(5,aI 104),(6,aI 107)] rfl #[(0,aG c.cells),(1,J E 2),(2,J E 2),(3,J E 1),(4,ao aB),(5,J E 2),(6,ao aB)] dK (aG (De c)) (Wu c _) ?_)|(with_reducible refine bm rfl 65 (aI 109) (aI 108) rfl r (De c) rfl rfl w.o (Xw c) rfl (Sy c) ?_));exact⟨.inr ⟨by go_num,c,x.o.m (dU U.o),w.o.row _,y.o.row w.o dK _,aO e.o (dU a2.o)⟩,by decide⟩
  ·have a:=t.cell 0 (v:=af (M ⟨r,0,S⟩) 1 1) rfl
   have a:=t.lt;have a:=aH (show Zy l (aK (af (M ⟨r,0,S⟩) 1 1)) wr from⟨r,s,rfl,a2.o,u,v,z⟩);clear t u v z;go_wp2_with fail;go_ret;exact a.o
def fs0:Array aq:=({jt with X:=aF 64 0,R:=aF 64 0}:Sq).cells
def fsC(i:Nat):Array aq:=(dI i).foldl (fun a b=>(a.setIfInBounds (7+b) (J .u8 16)).setIfInBounds (71+b) (J .u8 16)) fs0
def Lh(i):fsC (i+1)=((fsC i).setIfInBounds (7+i) (J .u8 16)).setIfInBounds (71+i) (J .u8 16):=by simp[fsC,List.range_succ]
def XS:fsC 64=jt.cells:=dK
def TV(i):(fsC i).size=135:=by
 induction i with
 |zero=>rfl
 |succ a b=>rw[Lh];simp[b]
def Aaj(a):(fk 26 #[(0,J E 16),(1,J E 16),(2,aG #[J E 25,J E 1]),(4,J E 100000),(5,J E 100000)]).run aE a=.ok (aG fs0) a:=dK
def Ab7:(aE.info? 26).map (·.size)=M fs0.size:=dK
def XT:fs0.all (·.oneCell')=aB:=dK
def Abf(a:T):aT aE 31 #[] a (fh a (aG jt.cells)):=by
 let ⟨b,c⟩:=aX a.heap.size;have d:=aH c;go_enter func31,ntmps31;go_upto_region 1 with fail;let ⟨e,f⟩:=aX (a.alloc (az zeroCells26 26));have g:=GL f;have h:=DZ f c;rw[<-f,<-c];clear f c;go_upto_region 3 with(first|(refine gV rfl 26 #[(0,.const (J E 16)),(1,.const (J E 16)),(2,aI 3),(4,.const (J E 100000)),(5,.const (J E 100000))] rfl #[(0,J E 16),(1,J E 16),(2,aG #[J E 25,J E 1]),(4,J E 100000),(5,J E 100000)] dK (aG fs0) (Aaj _) ?_)|(refine dd rfl 26 (aI 1) (aI 4) rfl _ rfl (vs:=fs0) Ab7 dK XT rfl rfl ?_))
 try simp only[ak]
 let ⟨c,f,i,l,n,o⟩:=mY e fs0 26;let ⟨p,q⟩:=di n g h;have r:=aH (show b<c by rw[i];exact h.o.lt);rw[<-l,<-i];clear l i
 go_loopw [2] (fun i wr=>∃l:Nat,l<=64/\i=J E (l:Int)/\Bx wr b 26 zeroCells26/\Bx wr c 26 (fsC l)/\bD a wr) (fun s _=>64-(intOf s).toNat)
 case atStart=>exact⟨0,by omega,rfl,q.o,o.o,p.o⟩
 case round=>
  obtain⟨i,l,rfl,s,t,u⟩:=hrel;let ⟨v,w,x⟩:=bh s t u;rcases Nat.lt_or_ge i 64 with y|y
  ·have z:=w.o.frozen (7+i)
   have H:=w.o.frozen (71+i);have U:=w.o.cell (7+i) (pJ (iJ TV));have V:=w.o.cell (71+i) (pJ (iJ TV));have W:=w.o.lt;go_wp2_with fail;exact⟨⟨i+1,by omega,by go_num,(v.o.C (by have:=r.o;show b≠c;omega) _).C (by have:=r.o;show b≠c;omega) _,by rw[Lh];exact(w.o.L (7+i) _).L (71+i) _,(iu (iu x.o (by show a.heap.size<=c;have:=r.o;have:=d.o;omega) _) (by show a.heap.size<=c;have:=r.o;have:=d.o;omega) _)⟩,by show 64-(intOf (J E ((i:Int)+1))).toNat<64-(intOf (J E (i:Int))).toNat;simp only[intOf];omega⟩
  ·obtain rfl:i=64:=O
   have z:=aH (show Bx wr c 26 jt.cells by have H:=w.o;rw[XS] at H;exact H);go_wp2_with (first|(refine lA 26 1 c z.o jG ?_)|(refine bm rfl 26 (aI 0) (aI 15) rfl b jt.cells rfl rfl v.o J9 dK Oe ?_));obtain⟨H,U⟩:=aQ (v.o.row jt.cells) (show bD a (wr.setRow b jt.cells) from aO x.o (eZ d.o (aw _)));exact rR results31 H.o ik J9 ⟨rfl,U.o⟩
def AI{a:Type}{b:Array a}{c d i e}(f:(b.extract c d)[i]?=M e):b[c+i]?=M e:=by
 rw[iL] at f;split at f
 ·exact f
 ·cases f
def OU{a:Type}(b:Array a){c d i e}(f:c+e<=d):(b.extract c d).extract i e=b.extract (c+i) (c+e):=by
 rw[K1,Nat.min_eq_left f]
def Ng{a:T}{b c d:Nat}{e:List (eQ×Int)}{p:List (Array aq)}{f:Mk}{i:FV}(q:pI a b (af (M ⟨c,0,S⟩) e.length d) e p)(g:RF f 1 1 8 [(i,qx)] 1 e)(l:f.s=jt)(h:f.fl=av)(n:f.top=aB)(o:f.alt=av):e.length=3/\∃r s t u v,vB a c r s t u v:=by
 obtain⟨a,b,c,d,e,hF⟩:=g.one rfl h;obtain rfl:b=(i,qx):=by simpa using c.symm
 rw[l,n,o] at d hF;subst d;obtain⟨a,rfl⟩:=yL.1 e;have b:p.length=3:=q.len;obtain⟨c,d,e,_,_,f⟩:=q.ow.rows (by intro g;rw[g] at b;cases b);simp only[Value.slice.injEq,bq,Addr.mk.injEq] at e;obtain⟨⟨rfl,_⟩,_,_⟩:=e;obtain⟨c,d,e,g⟩:=f
 match p,b with
 |[b,f,h],_=>
  have i:=q.it 0 _ b rfl rfl;have l:=q.it 1 _ f rfl rfl;have n:=q.it 2 _ h rfl rfl;obtain⟨_,o,_⟩:=g 0 b rfl;obtain⟨_,b,_⟩:=g 1 f rfl;obtain⟨_,p,q⟩:=g 2 h rfl;obtain⟨g,h,r,s,t,_,_,u,v⟩:=(n.qh _ _ rfl).2.1;have w:r.length=1:=v.len;obtain⟨r,rfl⟩:=yL.1 w;obtain⟨w,x,y,z,H⟩:=v.un 0 a r rfl rfl;have r:a.1=1:=hF.ty 0 a rfl;obtain⟨v,U⟩:=hF.X rfl 0 a rfl
  have V:a.2=kX (bt0++[aB]):=by
   rw[U];show kX (jC 5 8++IF ⟨1,3,av,av⟩ [zK (GI jt hp0 av 8 aC aC aC aC v) (vu qx 0 0)] (bH 8) 1++[aB])=_;rw[XQ jt rfl rfl v,QJ];rfl
  rw[r] at z;rw[V] at H;have a:=i.k0;have r:=l.k0;have v:=n.k0;rw[<-o] at a;rw[<-b] at r;rw[<-p] at v s;have n:=(i.seq _ rfl).2;rw[<-o,OU _ dD] at n;have i:=(l.G7 _ _ rfl).2
  have l:(c.extract (0+148*1) (0+148*1+148))[136]?=M (ao aB):=by
   have o:(f.extract 136 (136+3))[0]?=M (ao aB):=by rw[i];rfl
   rw[b];exact AI o
  rw[OU _ dD] at s;refine⟨rfl,g,h,w,x,y,⟨⟨d,c,e,q,?_,n,AI r,AI l,AI v,s⟩,?_,H.mono fun _ _ _=>trivial,t⟩⟩
  ·exact AI a
  ·rw[<-z]
   exact u
def Aas{b a c d e f g h}(o:Rq b a c d e f g h)(i:∀p∈f,0<=p/\p<=255)(l:∀q∈g,0<=q/\q<=255)(n:∀r∈h,0<=r/\r<=255):∃s:FV,c=s.val/\Fv b s ⟨d,e,f,g,h⟩:=by
 have a:dF (fun _=>True) b c ⟨d,e,f,g,h⟩:=Rq.Ail o (fun _ _=>trivial) i l n;obtain⟨b,c,d,rfl,_⟩:=o;let ⟨b,c⟩:=a.fv;have d:eH b.val:=by rw[<-c];exact eH.mk (aw _) (aw _) (aw _)
 rw[c] at a;exact⟨b,c,a,d⟩
def QI(a):aT aE 30 #[J E 16,J E 16,J .u8 128,J .u8 128,J .u8 128] a fun b c=>∃d:FV,b=aK d.val/\Fv c d qx/\bD a c:=by
 refine(SI 16 16 128 128 128 dD dD dD dD a).mono ?_;rintro a b ⟨c,rfl,d,e⟩;obtain⟨a,rfl,b⟩:=Aas d (IQ dD) (IQ dD) (IQ dD);exact⟨a,rfl,b,e⟩
def TY{a b c d}(e:Bx a c 63 (au b))(f:Fv a b qx)(g:a.cell? ⟨d,0,S⟩=M (J E 1))(h:fD a):Gp a (tY jt av av aB 8 (af (M ⟨c,0,S⟩) 1 1) (af (M ⟨d,0,S⟩) 1 1) .nilIface) 1 1 8 [(b,qx)] [1] where
 sq:=CG
 a1:=by decide
 a2:=by decide
 B1:=by decide
 B2:=by decide
 sw:=rfl
 sh:=rfl
 mq:=rfl
 q1:=by decide
 q2:=by decide
 fr:=⟨c,0,1,rfl,aw 1,⟨_,_,_,e,fun i l o=>by
  match i with
  |0=>
   obtain rfl:au b=l:=by simpa using o
   exact⟨fA _,ij _ (fA _),by rw[fA];decide⟩
  |q+1=>simp at o⟩,fun p hp=>by
   obtain rfl:p=(b,qx):=by simpa using hp
   exact f⟩
 ty:=⟨d,0,1,rfl,by decide,fun n t hn=>by
  match n with
  |0=>
   obtain rfl:1=t:=by simpa using hn
   exact g
  |n+1=>simp at hn⟩
 dm:=fun p hp=>by
  obtain rfl:p=(b,qx):=by simpa using hp
  exact⟨rfl,rfl,by kernel_rfl,by kernel_rfl,by kernel_rfl⟩
 len:=rfl
 tx:=⟨by decide,by decide,by decide,rfl⟩
 B:=.inr ⟨rfl,rfl⟩
 gl:=h
def Aac(a):(De a).extract 0 (0+5)=au a/\0+5<=(De a).size:=⟨rfl,(by decide:0+5<=11)⟩
def Lb:(aE.info? 63).map (fun i=>(i.zero,i.size))=M (M (aG (au aC)),5):=dK
def Aah(a):(fk 48 #[(2,ao aB)]).run aE a=.ok (aG #[ao av,ao av,ao aB]) a:=dK
def Bs(b:T)(a:fD b):aT aE 7 #[] b (fh b (ao aB)):=by
 have c:=aH a;go_enter func7,ntmps7;go_wp2_with fail;refine(QI b).mono ?_;rintro a b ⟨d,rfl,e,f⟩;let ⟨a,g⟩:=aQ e f;go_upto_region 2 with refine ix rfl (aI 1) (aI 6) rfl _ rfl dS d rfl rfl ?_
 try simp only[ak]
 let ⟨e,f,h,i,l,n⟩:=mY b (au d) 63;let ⟨b,o⟩:=di l g a;rw[<-i,<-h];clear i h;refine aL 99 (fun a=>Bx a e 63 (au d)) rfl (fun g h=>?_);have a:=aH (show Bx f e 63 (au d) from n.o);let ⟨f,g,i⟩:=gO h b o n;refine zj 0 12 ?_;simp only[sZ,ak];refine bO rfl 31 #[] (aG jt.cells) (fun b=>by kernel_rfl) (fun h l=>Abf h) ?_;refine gN 1 1 11 ?_;simp only[sZ,ak];refine lF a 1 e d (fun _ b=>b) ?_;refine aN (T9 4 1 10 ?_);simp only[sZ,ak];refine ei rfl (aG #[ao av,ao av,ao aB]) (fun a=>iW (qs:=#[(2,ao aB)]) rfl dK (Aah a)) ?_;refine aN (Md 2 3 9 i (fun a b=> ?Xq28) fun a b=> ?Xq29)
 case' Xq28=>
  simp only[sZ,ak];let ⟨h,l,n⟩:=gO b f g i;refine jE rfl 27 (aI 9) rfl 63 (au d) 5 (aG (au aC)) oa Lb rfl (fA _) dD dD _ rfl rfl ?_;let ⟨bf,o,p,q,r,s⟩:=mY a (au d) 63;let ⟨o,t,u⟩:=gO r h l n;rw[<-q,<-p];clear q p;refine mn ⟨rfl,fK 3 8 u fun h l=>?_⟩;simp only[sZ,ak];let ⟨n,p,q,r⟩:=nj l o t u s;go_wp2_with fail;let ⟨bt,l,o,s,t,HT7⟩:=mY h (#[J E 1]) 3;let ⟨HX7,HV7,HK7,HF7⟩:=nj t n p q r;refine tf s ?_;rw[<-o];clear s o
 case' Xq29=>
  simp only[sZ,ak];let ⟨h,l,n⟩:=gO b f g i;go_wp2_with fail;let ⟨bt,b,f,g,i,o⟩:=mY a (#[J E 1]) 3;let ⟨a,b,p⟩:=gO i h l n;refine tf g ?_;rw[<-f];clear g f;refine fK 2 8 p fun f g=>?_
  simp only[sZ,ak];let ⟨h,i,l,n⟩:=nj g a b p o;refine jE rfl 27 (aI 9) rfl 63 (au d) 5 (aG (au aC)) oa Lb rfl (fA _) dD dD _ rfl rfl ?_;let ⟨bf,a,b,g,o,HF7⟩:=mY f (au d) 63;let ⟨HX7,HV7,HK7,HT7⟩:=nj o h i l n;rw[<-g,<-b];clear g b;refine mn ⟨rfl,?_⟩
 all_goals
  refine fK 5 7 HK7 fun wc a=>?_
  simp only[sZ,ak];let ⟨b,f,g,h,i⟩:=tN a HX7 HV7 HK7 HF7 HT7;go_wp2_with fail;refine(C8 OM jt av av aB 8 1 1 [(d,qx)] [1] (af (M ⟨bf,0,S⟩) 1 1) (af (M ⟨bt,0,S⟩) 1 1) wc (TY h.o f.o (i.o.cell 0 rfl) (c.o.ext b.o))).mono ?_;rintro a h ⟨i,l,n,o,p,q,rfl,r,_,s,t⟩;let ⟨a,h,i,o,p,q,u⟩:=Ng r s rfl rfl rfl rfl;rw[a];have a:=aH u;let ⟨r,s,u⟩:=gO t b f g;go_wp2_with fail;refine gT 6 7 0 ?_;refine zI u fun b f=>?_
  let ⟨g,t,v,w⟩:=nj f r s u a
  try simp only[ak]
  go_wp2_with fail;refine(Q7 l h i p q n o b w.o (c.o.ext g.o)).mono ?_;rintro a b ⟨c,f,rfl,_,h,i,l⟩;let ⟨a,n⟩:=aQ h i;let ⟨h,i,o⟩:=gO l g t v;go_upto_region 4 with fail;refine aL 99 (fun g=>Bx g e 63 (au d)/\Bx g c 65 (De f)/\Fv g d qx/\Fv g f qx) rfl (fun l p=>?_);have g:=aH (show Bx b e 63 (au d)/\Bx b c 65 (De f)/\Fv b d qx/\Fv b f qx from⟨o.o,a.o,i.o,n.o⟩);let ⟨b,l,q,r,s⟩:=tN p h i o a n;refine gT 0 4 17 ?_;refine oL 4 16 (fun a h=>⟨q.o.ext h,r.o.ext h,l.o.ext h,s.o.ext h⟩) fun i n=>?_
  simp only[sZ,ak];let ⟨a,h,i,o,p⟩:=tN n b l q r s;go_wp2_with fail;refine gT 5 4 12 ?_;refine oL 9 11 (fun b l=>⟨i.o.ext l,o.o.ext l,h.o.ext l,p.o.ext l⟩) fun n q=>?_
  simp only[sZ,ak];let ⟨b,l,n,r,s⟩:=tN q a h i o p;go_wp2_with fail;refine gN 10 8 3 ?_;simp only[sZ,ak];iterate 6 (go_big_quiet_step (fail))
  refine lR g 63 34 c 0 5 (au f) (fun _ a=>⟨_,_,a.2.1,Aac f⟩) db bM ?_;refine lF g 1 e d (fun _ a=>a.1) ?_;refine aN (Ax 18 2 g.o ?_);simp only[sZ,ak];refine bO rfl 17 #[FV.val f,FV.val d] (ao aB) (fun a=>by kernel_rfl) (fun c e=>(Qj _ _ qx qx c e.2.2.2.1 e.2.2.1.1).mono (fun g h i=>⟨by rw[i.1,U7],i.2⟩)) ?_;refine gT 19 2 0 ?_;refine QD (fun a c=>⟨n.o.ext c,r.o.ext c,l.o.ext c,s.o.ext c⟩) fun d e=>?_
  have a:=mX e b
  try simp only[ak]
  go_wp2_with fail;go_ret;exact⟨rfl,a.o⟩
end Go.Proofs.YtbdhieahnneebaaGreatDoor
