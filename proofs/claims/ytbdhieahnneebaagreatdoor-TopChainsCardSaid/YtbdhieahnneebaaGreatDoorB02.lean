/- Laws that TopChains leans on. -/
import Derived.Test.YtbdhieahnneebaaGreatDoorB01
import Derived.Deep.WholeRow
import Derived.OwnWalk
set_option maxRecDepth 100000
set_option maxHeartbeats 32000000
set_option linter.all false
open Go.Proofs.Tryz
open Array renaming all_eq_true_iff_forall_mem->bG,getElem?_eq_some_iff->eJ
open Bool renaming and_eq_true->bT,false->av,true->aB
open Go renaming Calls->aT,Oper->cQ,Operand->Gc,Program->nt,TypeId->aR,Value->aq,World->T,bodyPost_ret->dY,execOp->VI,loadCellsFrom->yO,results->Ih,run_underlying->fI,sizeOf->K3,storeCells->Vn,typeInfo->vo,undef->sJ,wpList->cG,wpList_store_row->vA,wpQuiet->kL,wpQuiet_nil->aN,yielded->xZ
open Go.Act renaming put->ak
open Go.BigFrame renaming wpList_want->eI,wpQuiet_want->lZ
open Go.Builtin renaming append_->fW,firstCells->j9,lenOf->mC
open Go.Ending renaming returned->aK
open Go.Instr renaming build->fk,index->eT
open Go.IntKind renaming i64->E
open Go.IntWalk renaming i64_in->an
open Go.Obj renaming cells->az
open Go.Operand renaming tmp->aI
open Go.Proofs.Tryz renaming func118->Ah5,func292->RT,ntmps118->Acr,ntmps162->Zb,ntmps238->Z7,ntmps292->NV,ntmps293->Z4,prog->aE,results118->RM,results162->PF,results238->Gs,results355->Gq,underlying105->pO,underlying158->Kg,underlying26->ik,underlying27->oa,underlying272->u9q,underlying277->ji,underlying280->mG,underlying283->Bi,underlying3->bJ,underlying324->kR,underlying376->tX,underlying4->jD,underlying449->qm,underlying54->dw,underlying63->db,zeroCells105->vm
open Go.Proofs.YtbdhieahnneebaaGreatDoor.Bx renaming new->jR
open Go.Proofs.YtbdhieahnneebaaGreatDoor.FV renaming cells->au,noU8->iq,zero->aC
open Go.Proofs.YtbdhieahnneebaaGreatDoor.Mb renaming cells->qE,size->da
open Go.Proofs.YtbdhieahnneebaaGreatDoor.dF renaming alloc->gR
open Go.Region renaming wanted->bP
open Go.RowKit renaming Below->bj
open Go.RowKit.Below renaming refl->aM,setCell->iu
open Go.Sem renaming run_bind->fT,run_pure->iT
open Go.Value renaming agg->aG,bool->ao,int->J,oneCell'->cJ,pointer->aD,slice->af,tuple->fE
open Int renaming mul_comm->uT,mul_nonneg->nA,natCast_mul->cm,tdiv_eq_ediv_of_nonneg->bB,tmod_eq_emod_of_nonneg->iG
open List renaming append_assoc->aW,drop_eq_getElem_cons->nD,drop_zero->eo,eq_of_mem_replicate->iK,getD->jr,getD_cons_zero->YP,getElem?_append_right->aU,getElem?_drop->iZ,getElem?_eq_getElem->aA,getElem?_eq_some_iff->aP,getElem?_map->bN,getElem?_range->jo,getElem?_replicate->jM,getElem?_take->gH,getElem?_toArray->bw,getElem?_zipWith->Ee,getElem_mem->qG,length_append->aJ,length_map->cX,length_range->qD,length_replicate->bp,map_append->fY,map_cons->sH,map_nil->Bh,map_toArray->qR,mem_append->dG,mem_iff_getElem?->xX,mem_map->iy,mem_of_getElem?->bg,mem_range->Da,mem_singleton->dJ,mem_toArray->vD,nil_append->js,range->dI,range_succ->Cn,replicate->aF,setIfInBounds_toArray->iU,set_append_right->jT,set_cons_succ->nX,set_cons_zero->mo,take_succ_cons->cZ,take_zero->dP,toList_toArray->ln
open Nat renaming add_zero->Ck,le_of_lt->M5,le_refl->aw,le_trans->aY,mul_comm->dh,mul_le_mul->fo,mul_le_mul_left->zW,mul_le_mul_right->fH,sub_self->oC,zero_add->oD
open Option renaming bind_eq_some_iff->kO,getD_some->vl,map_eq_some_iff->mB,map_some->bX,none->S,some->M
open Option.some renaming injEq->bq
namespace Go.Proofs.YtbdhieahnneebaaGreatDoor
open Go.RowKit Go.Top
def DsW(a:Nat)(b:T)(c i:aq)(wr:T):Prop:=∃(d:Nat)(e:Int),d<=a/\i=J E (d:Int)/\c=J E e/\0<=e/\e<=4080*d/\bD b wr
def DtW(a:Int)(b:T)(c i:aq)(wr:T):Prop:=∃(d:Nat)(e:Int),d<=16/\i=J E (d:Int)/\c=J E e/\0<=e/\e<=a+255*d/\bD b wr
def UM{a b}(c:0<=a)(d:a<=255)(e:0<=b)(f:b<=255):0<=max (a-b) (-(a-b))/\max (a-b) (-(a-b))<=255:=O
def Lx(g:Option Addr)(h l:Nat)(n:List Int)(o:Nat)(a:n.length=16*o)(b:1<=o)(c:o<=16)(p q:Nat)(r:p<=48)(s:q<=48)(i:FV)(t:Fr)(u v:Nat)(d:SrF t u v)(w x y:Int)(z:-63<=w)(H:w<=63)(U:-63<=x)(V:x<=63)(W:T)
  (e:du (fun _=>True) W g h n)(f:Fv W i t):
  aT aE 334 #[aG (oy g h l p q i),aG #[J E w,J E x],J E y] W fun Y a0=>∃a1:Int,Y=aK (J E a1)/\0<=a1/\a1<=65280/\bD W a0:=by
 obtain⟨Y,a0,rfl,rfl,a1⟩:=e.ZK O;let ⟨a2,a3,a4,a5,a6,a7,a8,a9⟩:=f.srf d;let ⟨aa,ab,ac,ad,ae,ag,ah,ai,aj,al,am⟩:=i;dsimp only at a2 a3 a6 a7 a8;subst a2 a3 a6 a7;let ⟨a2,a3⟩:=aX ((W.alloc (az (oy (M ⟨Y,a0,S⟩) n.length l p q ⟨u,v,M ⟨a4,a5,S⟩,u*v,ae,ag,ah,ai,aj,al,am⟩) 445)).alloc (az #[J E w,J E x] 272));let ⟨a6,a7⟩:=aX W.heap.size;have ap:bD W a2:=by rw[a3];exact(jd).alloc dS _
 have ar:Bx a2 a6 445 (oy (M ⟨Y,a0,S⟩) n.length l p q ⟨u,v,M ⟨a4,a5,S⟩,u*v,ae,ag,ah,ai,aj,al,am⟩):=by rw[a3,a7];exact(jR _ _ _).alloc _
 have ax:Bx a2 (a6+1) 272 #[J E w,J E x]:=by rw[a3,a7];exact Bx.D _ _ _ _ dS
 have ay:a2.cell? ⟨a6,0,S⟩=M (af (M ⟨Y,a0,S⟩) n.length l):=ar.cell 0 rfl;have aV:a2.cell? ⟨a6,1,S⟩=M (J E (p:Int)):=ar.cell 1 rfl;have b0:a2.cell? ⟨a6,2,S⟩=M (J E (q:Int)):=ar.cell 2 rfl;have b1:a2.cell? ⟨a6,3,S⟩=M (J E (u:Int)):=ar.cell 3 rfl;have b2:a2.cell? ⟨a6,4,S⟩=M (J E (v:Int)):=ar.cell 4 rfl;have b3:a2.cell? ⟨a6,5,S⟩=M (af (M ⟨a4,a5,S⟩) (u*v) ae):=ar.cell 5 rfl;have b4:=ax.cell 0 rfl;have b5:=ax.cell 1 rfl;obtain⟨b6,b7,b8,b9,ba,bb⟩:=ej ar ax (a1.ext ap) (a9.ext ap) ap d;let ⟨bc,bd⟩:=aQ a a8;have be:=ax.lt;have bf:=aH d.y;have bi:=aH (show 16<=u/\u<=64/\1<=v/\v<=64 from⟨d.w1,d.w2,d.h1,d.h2⟩);let ⟨bk,bl⟩:=aX (2*(p:Int)+w);let ⟨bn,br⟩:=aX (2*(q:Int)+x);have bs:E.wrap (2*(p:Int))=2*(p:Int):=an _ O;have bt:E.wrap (2*(p:Int)+w)=bk:=by rw[bl];exact an _ O
 have bu:E.wrap (2*(q:Int))=2*(q:Int):=an _ O;have bv:E.wrap (2*(q:Int)+x)=bn:=by rw[br];exact an _ O
 have bx:E.wrap (bk+1)=bk+1:=an _ O;have bz:E.wrap (bn+1)=bn+1:=an _ O;let ⟨bC,bK⟩:=aX (bk/2);let ⟨bL,bR⟩:=aX ((bk+1)/2);let ⟨bU,bV⟩:=aX (bn/2);let ⟨bY,c0⟩:=aX ((bn+1)/2);have c1:=aH (show-100<=bC/\bC<=100/\-100<=bL/\bL<=100/\-100<=bU/\bU<=100/\-100<=bY/\bY<=100 by omega);have c2:bk/2=bC:=bK.symm;have c3:(bk+1)/2=bL:=bR.symm;have c4:bn/2=bU:=bV.symm;have c5:(bn+1)/2=bY:=c0.symm;have c6:(n.length:Int).tdiv 16=(o:Int):=by rw[a,bB O];omega
 have c7:E.wrap (o:Int)=(o:Int):=an _ O;obtain⟨c8,c9⟩:=aQ (fun ca cb cc cd ce=>Uc ca cb cc cd ce) (show 1<=o/\o<=16 from⟨b,c⟩);clear e f a9 a1 ap ar ax d a a8 bl br bK bR bV c0 b c;go_enter func334,ntmps334;go_upto_region 1 with fail;change Code.wp _ _ _ _ ((W.alloc (az (oy (M ⟨Y,a0,S⟩) n.length l p q ⟨u,v,M ⟨a4,a5,S⟩,u*v,ae,ag,ah,ai,aj,al,am⟩) 445)).alloc (az #[J E w,J E x] 272));rw[<-a3,<-a7];clear a3 a7;go_quiet (fail);go_wp2
 go_loopw [10,38] (fun a b wr=>DsW o a2 a b wr) (fun _ c _=>o-(intOf c).toNat)
 case atStart=>exact⟨0,0,by omega,rfl,rfl,by omega,by omega,(bD.refl _).drewN _⟩
 case round=>
  obtain⟨a,b,c,rfl,rfl,d,e,f⟩:=hrel;clear ay aV b0 b1 b2 b3 b4 b5 be;have a1:=aH f;clear f;have f:=b6.o.ext a1.o;have a3:=b7.o.ext a1.o;have a7:wr.cell? ⟨a6,0,S⟩=M (af (M ⟨Y,a0,S⟩) n.length l):=f.cell 0 rfl;have a8:wr.cell? ⟨a6,1,S⟩=M (J E (p:Int)):=f.cell 1 rfl;have a9:wr.cell? ⟨a6,2,S⟩=M (J E (q:Int)):=f.cell 2 rfl;have ap:wr.cell? ⟨a6,3,S⟩=M (J E (u:Int)):=f.cell 3 rfl;have ar:wr.cell? ⟨a6,4,S⟩=M (J E (v:Int)):=f.cell 4 rfl;have ax:wr.cell? ⟨a6,5,S⟩=M (af (M ⟨a4,a5,S⟩) (u*v) ae):=f.cell 5 rfl;have ay:=a3.cell 0 rfl;have aV:=a3.cell 1 rfl;have b0:=a3.lt;clear f a3
  by_cases f:a<o
  ·have a3:=c1.o
   have b1:=c9.o;have b2:E.wrap (bU+(a:Int))=bU+(a:Int):=an _ O;have b3:E.wrap (bY+(a:Int))=bY+(a:Int):=an _ O;have b4:E.wrap ((a:Int)+1)=((a+1:Nat):Int):=by rw[show((a+1:Nat):Int)=(a:Int)+1 by omega];exact an _ O
   have b5:=bi.o;let ⟨be,bl⟩:∃br:Nat,(br:Int)=QT (bU+(a:Int)) v:=⟨(QT (bU+(a:Int)) v).toNat,by have:=xe (i:=bU+(a:Int)) (n:=v) O;omega⟩;let ⟨br,bK⟩:∃bR:Nat,(bR:Int)=QT (bY+(a:Int)) v:=⟨(QT (bY+(a:Int)) v).toNat,by have:=xe (i:=bY+(a:Int)) (n:=v) O;omega⟩;obtain⟨bR,bV,c0,ca⟩:=dq (show be<v by have:=xe (i:=bU+(a:Int)) (n:=v) O;omega) (show br<v by have:=xe (i:=bY+(a:Int)) (n:=v) O;omega) (fun cb=>c8.o (bU+(a:Int)) v O O cb) (fun cc=>c8.o (bY+(a:Int)) v O O cc);rw[<-bl] at c0;rw[<-bK] at ca;clear bl bK;let ⟨bl,bK⟩:∃cb:Nat,cb=be*u:=⟨_,rfl⟩;let ⟨cb,cc⟩:∃cd:Nat,cd=br*u:=⟨_,rfl⟩;let ⟨cd,ce⟩:∃cf:Nat,cf=u*v:=⟨_,rfl⟩
   have cf:=aH (show bl+u<=cd/\cb+u<=cd/\cd<=4096 by
    have cg:(be+1)*u<=v*u:=fH u bR.o;have ch:(br+1)*u<=v*u:=fH u bV.o;have ci:u*v<=64*64:=fo b5.2.1 b5.2.2.2;rw[bK,cc,ce,dh u v];rw[Nat.add_mul,Nat.one_mul] at cg ch;rw[dh u v] at ci;omega)
   have cg:E.wrap ((be:Int)*(u:Int))=(bl:Int):=by rw[bK,cm];exact an _ (by have:=cf.o;rw[<-cm,<-bK];omega)
   have ch:E.wrap ((br:Int)*(u:Int))=(cb:Int):=by rw[cc,cm];exact an _ (by have:=cf.o;rw[<-cm,<-cc];omega)
   rw[<-ce] at ax;have ci:=aH bf.o;rw[<-ce] at ci;have ck:=aH (show u*v=cd from ce.symm);clear bK cc ce;have bK:=cf.o;have cc:=aH bd.o;rw[ck.o] at cc;have ce:=cc.o;have cl:(bl:Int)<=(cd:Int):=O;have cn:(cb:Int)<=(cd:Int):=O;have co:(u:Int)<=((ae-bl:Nat):Int):=O;have cp:(u:Int)<=((ae-cb:Nat):Int):=O;go_upto_region 7 with fail;go_quiet (exact Calls.quiet_of_same (c0.o _));go_upto_region 8 with fail;let ⟨cr,cs⟩:=aX (wr.drewN nq);rw[<-cs];have ct:=aH (show bD a2 cr by rw[cs];exact a1.o.drewN nq);clear a7 a8 a9 ap ar ax ay aV b0 cs a1;have a7:=b6.o.ext ct.o;have a8:=b7.o.ext ct.o;have a9:cr.cell? ⟨a6,0,S⟩=M (af (M ⟨Y,a0,S⟩) n.length l):=a7.cell 0 rfl;have ap:cr.cell? ⟨a6,1,S⟩=M (J E (p:Int)):=a7.cell 1 rfl;have ar:cr.cell? ⟨a6,2,S⟩=M (J E (q:Int)):=a7.cell 2 rfl;have ax:cr.cell? ⟨a6,3,S⟩=M (J E (u:Int)):=a7.cell 3 rfl;have ay:cr.cell? ⟨a6,4,S⟩=M (J E (v:Int)):=a7.cell 4 rfl;have aV:cr.cell? ⟨a6,5,S⟩=M (af (M ⟨a4,a5,S⟩) (u*v) ae):=a7.cell 5 rfl;have b0:=a8.cell 0 rfl;have cs:=a8.cell 1 rfl;rw[ck.o] at aV;have cu:=a8.lt;clear a7 a8;go_quiet (exact Calls.quiet_of_same (ca.o _));go_wp2
   go_loopw [10,74] (fun a7 a8 wr=>DtW b a2 a7 a8 wr) (fun _ cv _=>16-(intOf cv).toNat)
   case atStart=>exact⟨0,b,by omega,rfl,rfl,d,by omega,ct.o.drewN _⟩
   case round=>
    obtain⟨a7,a8,cv,rfl,rfl,cw,cx,cy⟩:=hrel;clear a9 ap ar ax ay aV b0 cs cu;have a9:=aH cy;have ap:=b6.o.ext cy;have ar:=b9.o.ext cy;have ax:=b8.o.ext cy;clear cy
    by_cases ay:a7<16
    ·have aV:E.wrap ((a7:Int)+1)=((a7+1:Nat):Int):=by rw[show((a7+1:Nat):Int)=(a7:Int)+1 by omega];exact an _ O
     have b0:E.wrap (bC+(a7:Int))=bC+(a7:Int):=an _ O;have cs:E.wrap (bL+(a7:Int))=bL+(a7:Int):=an _ O;let ⟨cu,cy⟩:∃cz:Nat,(cz:Int)=QT (bC+(a7:Int)) u:=⟨(QT (bC+(a7:Int)) u).toNat,by have:=xe (i:=bC+(a7:Int)) (n:=u) O;omega⟩;let ⟨cz,cA⟩:∃cB:Nat,(cB:Int)=QT (bL+(a7:Int)) u:=⟨(QT (bL+(a7:Int)) u).toNat,by have:=xe (i:=bL+(a7:Int)) (n:=u) O;omega⟩;have cB:cu<u:=by have:=xe (i:=bC+(a7:Int)) (n:=u) O;omega
     have cC:cz<u:=by have:=xe (i:=bL+(a7:Int)) (n:=u) O;omega
     obtain⟨cE,cF⟩:=aQ (fun cI=>c8.o (bC+(a7:Int)) u O O cI) (fun cL=>c8.o (bL+(a7:Int)) u O O cL);rw[<-cy] at cE;rw[<-cA] at cF;have cI:=aH (show t.Y.length=cd by rw[bb.o.y];exact ck.o);let ⟨cL,_,cN,cO,cR⟩:=ar.at_ (bl+cu) (iJ cI.o);let ⟨cS,_,cT,cU,cV⟩:=ar.at_ (bl+cz) (iJ cI.o);let ⟨cY,_,d0,d1,d2⟩:=ar.at_ (cb+cu) (iJ cI.o);let ⟨d3,_,d4,d5,d6⟩:=ar.at_ (cb+cz) (iJ cI.o);let ⟨d7,_,d8,d9,dc⟩:=ax.at_ (a*16+a7) (iJ bc.o);rw[<-Nat.add_assoc] at cR cV d2 d6;have df:=ar.lt;have dg:=ax.lt;have dj:=ap.lt;have dk:wr.cell? ⟨a6,0,S⟩=M (af (M ⟨Y,a0,S⟩) n.length l):=ap.cell 0 rfl;have dl:E.wrap cL=cL:=an _ O;have dm:E.wrap cS=cS:=an _ O;have dn:E.wrap cY=cY:=an _ O;have dp:E.wrap d3=d3:=an _ O;have dr:E.wrap d7=d7:=an _ O;have ds:E.wrap (cL+cS)=cL+cS:=an _ O;have dx:E.wrap (cL+cS+cY)=cL+cS+cY:=an _ O;have dy:E.wrap (cL+cS+cY+d3)=cL+cS+cY+d3:=an _ O;have dC:E.wrap (cL+cS+cY+d3+2)=cL+cS+cY+d3+2:=an _ O;let ⟨dD,dK⟩:=aX ((cL+cS+cY+d3+2)/4);have dL:0<=dD/\dD<=255:=O;have dO:(cL+cS+cY+d3+2)/4=dD:=dK.symm;have dQ:(cu:Int)<(u:Int):=O;have dU:(cz:Int)<(u:Int):=O;have dV:E.wrap ((a:Int)*16)=(a:Int)*16:=an _ O;have dW:E.wrap ((a:Int)*16+(a7:Int))=((a*16+a7:Nat):Int):=by rw[show((a*16+a7:Nat):Int)=(a:Int)*16+(a7:Int) by omega];exact an _ O
     have e0:((a*16+a7:Nat):Int)<(n.length:Int):=by rw[bc.o];omega
     have e1:(0:Int)<=((a*16+a7:Nat):Int):=O;have e2:((a*16+a7:Nat):Int).toNat=a*16+a7:=O;clear cy cA ap ar ax dK;go_wp2_with fail;refine sQ (cE.o _) ?_;go_wp2_with fail;refine sQ (cF.o _) ?_;go_upto_region 13 with fail;go_quiet (fail);go_wp2;have cy:0<=max (d7-dD) (-(d7-dD))/\max (d7-dD) (-(d7-dD))<=255:=UM d8 d9 dL.1 dL.2;exact⟨⟨a7+1,a8+max (d7-dD) (-(d7-dD)),by omega,by go_num,rfl,by omega,by omega,a9.o.drewN _⟩,by simp[intOf];omega⟩
    ·obtain rfl:a7=16:=O
     clear ap ar ax
     by_cases ap:y<=a8
     ·have ar:decide (y<=a8)=aB:=decide_eq_true ap
      clear ap;go_wp2;go_ret;exact⟨_,rfl,cw,by omega,ba.o.trans a9.o⟩
     ·have ar:decide (y<=a8)=av:=decide_eq_false ap
      clear ap;go_wp2;exact⟨⟨a+1,a8,by omega,by go_num,rfl,cw,by omega,a9.o⟩,by simp[intOf];omega⟩
  ·obtain rfl:a=o:=O
   go_wp2;go_ret;exact⟨_,rfl,d,by have:=c9.o;omega,ba.o.trans a1.o⟩
def iS:(aE.info? 272).map (·.size)=M 2:=dK
def lW:(aE.info? 449).map (·.size)=M 3:=dK
def xh:(aE.info? 445).map (·.size)=M 8:=dK
def ei{a b c d e f g}(h:bP d (xZ b e.tmps)=aB)(i)(n:∀o,(VI e.eval d).run a o=.ok (.value i) o)
  (l:kL a b f g c (e.put d.dst i)):kL a b f g (d::c) e:=
 lZ h fun _ a=>by
  refine⟨i,fun b c=>?_,a _ l⟩;unfold Oper.quietAt;rw[n b];exact⟨rfl,rfl⟩
def iW{a b}{h:Act}{c i}(g:b.op=.build c i){qs}(f:(i.map fun n=>(n.1,h.eval n.2))=qs){d e}(l:(fk c qs).run a e=.ok d e):(VI h.eval b).run a e=.ok (.value d) e:=by
 subst f;unfold VI;simp only[g];rw[fT];have a:(i.map fun(b,c)=>(b,h.eval c))=(i.map fun d=>(d.1,h.eval d.2)):=rfl;rw[a,l];rfl
def mW(a b:Int):Array aq:=#[J E a,J E b]
def oX(a b c:Int):Array aq:=#[J E a,J E b,J E c]
def LI(a b c d):(fk 449 #[(0,aG (mW a b)),(1,J E c)]).run aE d=.ok (aG (oX a b c)) d:=dK
def bm{a b c d e f g}(h:d.guard=S)(i l n)(o:d.op=.store i l n)
 (p q)(r:e.eval l=aD (M ⟨p,0,S⟩))(s:e.eval n=aG q){t u}(v:Bx f p t u)(w:(a.info? i).map (·.size)=M q.size)(x:u.size=q.size)(y:q.all (·.oneCell')=aB)
 (z:cG a b g c (e.put d.dst sJ) (f.setRow p q)):cG a b g (d::c) e f:=vA h i l n o p q r s t u v w x y z
def jF(a b):(mW a b).size=2:=rfl
def cK(a b c):(oX a b c).size=3:=rfl
def oH(a b c d e f):(oy a b c d e f).size=8:=rfl
def mw(a b c):(oX a b c).all (·.oneCell')=aB:=by simp[oX,cJ]
def jh(a b c:Int):(aE.info? 449).map (·.size)=M (oX a b c).size:=lW
structure vw(a b:Int):Prop where
 x1:-63<=a
 x2:a<=63
 y1:-63<=b
 y2:b<=63
structure Mf(a:T)(b:Option Addr)(c:Nat)(e f:Nat)(d:FV):Prop where
 ex:∃(g:List Int)(h:Nat)(i:Fr)(l n:Nat),g.length=16*h/\1<=h/\h<=16/\SrF i l n/\du (fun _=>True) a b c g/\Fv a d i
 e:e<=48
 f:f<=48
def Mf.ext{a b c d e f g}(h:Mf a c d e f g)(i:bD a b):Mf b c d e f g:=by
 let ⟨⟨a,b,c,d,e,f,g,l,n,o,p⟩,q,r⟩:=h;exact⟨⟨a,b,c,d,e,f,g,l,n,o.ext i,p.ext i⟩,q,r⟩
instance {w w' x1 x2 x3 x4 x5}:Tr w w' (Mf w x1 x2 x3 x4 x5) (Mf w' x1 x2 x3 x4 x5):=⟨fun hb h=>Mf.ext h hb⟩
def O9{b c d e f g}(a:Mf b c d e f g)(h i l n)(o:vw i l):
  aT aE 334 #[aG (oy c d h e f g),aG (mW i l),J E n] b fun p q=>∃r:Int,p=aK (J E r)/\0<=r/\r<=65280/\bD b q:=by
 let ⟨⟨p,q,r,s,t,u,v,w,x,y,z⟩,H,U⟩:=a;exact Lx c d h p q u v w e f H U g r s t x i l n o.x1 o.x2 o.y1 o.y2 b y z
def Ue(c:Option Addr)(d h:Nat)(e f:Nat)(g:FV)(i l:Int)(a:vw i l)(n:T)(b:Mf n c d e f g):
  aT aE 333 #[aG (oy c d h e f g),aG (mW i l)] n fun o p=>∃q:Int,o=aK (aG (oX i l q))/\0<=q/\q<=65280/\bD n p:=by
 let ⟨o,p⟩:=aQ b a;let ⟨a,b,q,r,s,t,u,v,w,x,y,z⟩:=Nk n (oy c d h e f g) 445 (mW i l) 272 (oX 0 0 0) 449;go_enter func333,ntmps333;go_upto_region 1 with fail;refine mr s ?_;rw[<-r];clear s r;refine aL 5 (fun q=>Fm n a b q) rfl (fun r s=>?_);have b:=aH v.o;have q:=mX s v;refine gN 0 3 3 ?_;simp only[sZ,ak];refine lR b 272 3 (a+1) 0 2 (mW i l) (fun _ r=>qg (y.o _ r) rfl) u9q iS ?_;refine lR b 445 2 a 0 8 (oy c d h e f g) (fun _ r=>qg (x.o _ r) rfl) underlying445 xh ?_;refine lR b 272 3 (a+1) 0 2 (mW i l) (fun _ c=>qg (y.o _ c) rfl) u9q iS ?_;refine aN (fK 3 2 q fun b c=>?_);simp only[sZ,ak];have b:=mX c q;go_wp2_with fail;refine(O9 (o.o.ext (w.o _ b.o)) h i l 1073741824 p.o).mono ?_;rintro c d ⟨e,rfl,f,g,h⟩;have c:=mX h b;go_wp2_with fail;refine gN 4 1 1 ?_;simp only[sZ,ak];refine ei rfl (aG (oX i l e)) (fun b=>iW (qs:=#[(0,aG (mW i l)),(1,J E e)]) rfl dK (LI i l e b)) ?_;refine aN (fK 5 0 c fun b d=>?_);simp only[sZ,ak];have h:=mX d c;refine vA rfl 449 (aI 4) (aI 9) rfl (a+1+1) (oX i l e) rfl rfl _ _ (z.o _ h.o) lW rfl (by simp[oX,cJ]) ?_;refine mn ⟨rfl,pX fun c d=>?_⟩;obtain⟨o,p⟩:=aQ (show Bx c (a+1+1) 449 (oX i l e) from((z.o _ h.o).row _).ext d) (show bD n c from(show bD n (b.setRow (a+1+1) (oX i l e)) from aO (w.o _ h.o) (iJ t.o)).trans d);go_wp2;exact rR results333 o.o qm lW ⟨e,rfl,f,g,p.o⟩
def Pe(a:T)(b:Ending)(c:T):Prop:=∃d e f,b=aK (aG (oX d e f))/\vw d e/\0<=f/\f<=65280/\bD a c
def I4(g:Option Addr)(h p:Nat)(i l:Nat)(n:FV)(s t u:Int)(c:vw s t)(d:0<=u)(e:u<=65280)(q r:Int)(a:-2000<=q/\q<=2000)(b:-2000<=r/\r<=2000)(o:T)(f:Mf o g h i l n):
  aT aE 355 #[aG (oy g h p i l n),aG (oX s t u),J E q,J E r] o (Pe o):=by
 obtain⟨a,b,v⟩:=bh f c (show 0<=u/\u<=65280 from⟨d,e⟩);have c:E.wrap (-q)=-q:=an _ O;have c:E.wrap (-r)=-r:=an _ O;let ⟨c,d,e,f,w,x,y,z,H,U,V,W⟩:=Nk o (oy g h p i l n) 445 (oX s t u) 449 (oX 0 0 0) 449;have g:=aH (fun(h i:T)(l:Array aq)(n:Fm o c d h)(y:bD (h.setRow (c+1+1) l) i)=>show bD o i from(show bD o (h.setRow (c+1+1) l) from aO (H.o _ n) (iJ x.o)).trans y);go_enter func355,ntmps355;go_upto_region 1 with fail;refine mr w ?_;rw[<-f];clear w f
 by_cases f:-63<=q/\q<=63
 rotate_left
 ·have h:decide (63<max q (-q))=aB:=decide_eq_true O
  go_wp2_with (first|(refine lA 449 5 (c+1) (V.o _ z.o) (cK ..) ?_)|(refine bm rfl 449 (aI 8) (aI 23) rfl (c+1+1) (oX s t u) rfl rfl (W.o _ z.o) (jh _ _ _) (by rw[cK,cK]) (mw _ _ _) ?_));exact rR Gq ((W.o _ z.o).row _) qm lW ⟨_,_,_,rfl,b.o,v.o.1,v.o.2,g.o _ _ _ z.o (bD.refl _)⟩
 have h:decide (63<max q (-q))=av:=decide_eq_false O
 by_cases h:-63<=r/\r<=63
 rotate_left
 ·have i:decide (63<max r (-r))=aB:=decide_eq_true O
  go_wp2_with (first|(refine lA 449 5 (c+1) (V.o _ z.o) (cK ..) ?_)|(refine bm rfl 449 (aI 8) (aI 23) rfl (c+1+1) (oX s t u) rfl rfl (W.o _ z.o) (jh _ _ _) (by rw[cK,cK]) (mw _ _ _) ?_));exact rR Gq ((W.o _ z.o).row _) qm lW ⟨_,_,_,rfl,b.o,v.o.1,v.o.2,g.o _ _ _ z.o (bD.refl _)⟩
 have i:decide (63<max r (-r))=av:=decide_eq_false O;have i:=aH (show vw q r from⟨f.1,f.2,h.1,h.2⟩);go_upto_region 4 with fail;let ⟨f,h⟩:=aX e.heap.size;let ⟨l,n⟩:=aX (e.alloc (az (mW q r) 272));have e:=aH (show Fm o c d l by rw[n];exact z.o.alloc _);have d:=DZ n h;refine mr n ?_;rw[<-h];clear n h;have h:=(V.o _ e.o).cell 2 (v:=J E u) rfl;go_wp2_with (first|(refine lA 445 4 c (U.o _ e.o) (oH ..) ?_)|(refine lA 272 9 f d.o (jF ..) ?_));refine(O9 (a.o.ext (H.o _ e.o)) p q r u i.o).mono ?_;rintro a h ⟨l,rfl,n,o,p⟩;let ⟨a,h⟩:=di p e d;have d:=aH (show 0<=l/\l<=65280 from⟨n,o⟩);have e:=(V.o _ a.o).cell 2 (v:=J E u) rfl
 by_cases e:l<u
 ·have n:decide (l<u)=aB:=decide_eq_true e
  go_wp2_with (first|(refine lA 272 9 f h.o (jF ..) ?_)|(refine gV dW 449 #[(0,aI 36),(1,aI 37)] rfl #[(0,aG (mW q r)),(1,J E l)] dK (aG (oX q r l)) (LI q r l _) ?_)|(refine bm rfl 449 (aI 8) (aI 38) rfl (c+1+1) (oX q r l) rfl rfl (W.o _ a.o) (jh _ _ _) (by rw[cK,cK]) (mw _ _ _) ?_));exact rR Gq ((W.o _ a.o).row _) qm lW ⟨_,_,_,rfl,i.o,d.o.1,d.o.2,g.o _ _ _ a.o (bD.refl _)⟩
 ·have d:decide (l<u)=av:=decide_eq_false e
  go_wp2_with (first|(refine lA 449 5 (c+1) (V.o _ a.o) (cK ..) ?_)|(refine bm rfl 449 (aI 8) (aI 39) rfl (c+1+1) (oX s t u) rfl rfl (W.o _ a.o) (jh _ _ _) (by rw[cK,cK]) (mw _ _ _) ?_));exact rR Gq ((W.o _ a.o).row _) qm lW ⟨_,_,_,rfl,b.o,v.o.1,v.o.2,g.o _ _ _ a.o (bD.refl _)⟩
end Go.Proofs.YtbdhieahnneebaaGreatDoor
namespace Go.Top
section
section
variable (C K A n:Int)
def mQ(a:Int):List Int->Option Int
 |[]=>if C-K<a then S else M a
 |b::c=>(mQ a c).bind fun d=>if C-K<n*b+max 0 (d-A) then S else M (n*b+max 0 (d-A))
def qv:Int->List Int->Option (List Int)
 |_,[]=>M []
 |a,b::c=>if a<n*b then S else if 0<a+(A-n*b)-C/\c≠[] then
   (qv (a+(A-n*b)-(a+(A-n*b)-C+K-1)/K*K) c).map ((a+(A-n*b)-C+K-1)/K::·)
  else(qv (a+(A-n*b)) c).map (0::·)
def vU:Int->List Int->Option Int
 |a,[]=>M a
 |a,b::c=>if a<n*b\/(c≠[]/\C<a-n*b+A) then S else vU (a-n*b+A) c
def sS:List Int->List Int->List Int
 |a::b,c::d=>(a+8*c)::sS b d
 |a,_=>a
end
def AM{K x:Int}(a:0<K):x<=(x+K-1)/K*K/\(x+K-1)/K*K<x+K:=by
 have b:=Int.mul_ediv_add_emod (x+K-1) K;have c:=Int.emod_nonneg (x+K-1) (Int.ne_of_gt a);have d:=Int.emod_lt_of_pos (x+K-1) a;rw[uT] at b;generalize (x+K-1)/K*K=e at*
 omega
section
variable {C K A n:Int}
def EY:∀(a:List Int)(b:Int)(c:List Int),qv C K A n b a=M c->c.length=a.length
 |[],a,b,c=>by simp[qv] at c;subst c;rfl
 |a::b,c,d,e=>by
  unfold qv at e;split at e
  ·cases e
  ·split at e
   all_goals
    obtain⟨a,c,rfl⟩:=mB.1 e;simp[EY b _ a c]
def UK:∀(a b:List Int),b.length=a.length->(sS a b=[]↔a=[])
 |[],_,_=>by simp[sS]
 |a::b,[],c=>by simp at c
 |a::b,c::d,_=>by simp[sS]
def EW(b:K=8*n)(a c):n*(a+8*c)=n*a+c*K:=by
 rw[Int.mul_add,b,uT c (8*n),<-Int.mul_assoc,uT n 8]
def IN(a:0<K)(b:K=8*n)(c:A+K<=C):∀(d:List Int)(e:Int)(f:List Int),qv C K A n e d=M f->∃g,vU C A n e (sS d f)=M g
 |[],d,e,f=>by simp[qv] at f;subst f;exact⟨d,rfl⟩
 |d::e,f,g,h=>by
  unfold qv at h;split at h
  ·cases h
  ·rename_i i
   split at h
   ·rename_i l
    obtain⟨o,p,rfl⟩:=mB.1 h;obtain⟨q,r⟩:=IN a b c e _ o p;have s:=AM (x:=f+(A-n*d)-C) a;refine⟨q,?_⟩;unfold sS vU;rw[EW b];generalize (f+(A-n*d)-C+K-1)/K*K=t at*
    generalize n*d=u at*
    rw[if_neg (by omega)];rw[show f-(u+t)+A=f+(A-u)-t by omega];exact r
   ·rename_i l
    obtain⟨o,p,rfl⟩:=mB.1 h;obtain⟨q,r⟩:=IN a b c e _ o p;refine⟨q,?_⟩;unfold sS vU;rw[EW b,Int.zero_mul,Int.add_zero,show f-n*d+A=f+(A-n*d) by omega];rw[if_neg ?_]
    ·exact r
    ·rintro(s|⟨t,s⟩)
     ·exact i s
     ·refine l ⟨by omega,fun u=>t ?_⟩
      rw[UK _ _ (EY e _ o p)];exact u
def At(a:0<K)(b):∀(c:List Int)(d e:Int),mQ C K A n b c=M e->e<=d->∃f,qv C K A n d c=M f
 |[],c,d,_,_=>⟨[],rfl⟩
 |c::d,e,f,g,h=>by
  unfold mQ at g;obtain⟨i,l,o⟩:=kO.1 g;split at o
  ·cases o
  ·simp only[bq] at o
   have p:i<=C-K:=by
    cases d with
    |nil=>
     unfold mQ at l;split at l
     ·cases l
     ·simp only[bq] at l;omega
    |cons q r=>
     unfold mQ at l;obtain⟨_,_,s⟩:=kO.1 l;split at s
     ·cases s
     ·simp only[bq] at s;omega
   have q:=AM (x:=e+(A-n*c)-C) a;unfold qv;generalize (e+(A-n*c)-C+K-1)/K*K=r at*
   generalize n*c=s at*
   rw[if_neg (by omega)];split
   ·obtain⟨t,u⟩:=At a b d (e+(A-s)-r) i l (by omega)
    exact⟨_,by rw[u];rfl⟩
   ·obtain⟨t,u⟩:=At a b d (e+(A-s)) i l (by omega)
    exact⟨_,by rw[u];rfl⟩
def Hr(a:0<K)(b c d)(e:d≠[])(f:mQ C K A n b d=M c)(g:c<=C-K):∀(h:List Int)(i l:Int),h≠[]->vU C A n i h=M l->c<=l->∃o,qv C K A n i (h++d)=M o
 |[],_,_,h,_,_=>absurd rfl h
 |h::i,l,o,_,p,q=>by
  unfold vU at p;split at p
  ·cases p
  ·rename_i r
   have s:=AM (x:=l+(A-n*h)-C) a;have t:i++d≠[]:=by simp[e]
   rw[List.cons_append];unfold qv;generalize (l+(A-n*h)-C+K-1)/K*K=u at*
   generalize n*h=v at*
   rw[if_neg (by omega)];rw[show l-v+A=l+(A-v) by omega] at p r;cases i with
   |nil=>
    simp only[vU,bq] at p;split
    ·obtain⟨i,w⟩:=At a b d (l+(A-v)-u) c f (by omega)
     exact⟨_,by rw[js,w];rfl⟩
    ·obtain⟨i,w⟩:=At a b d (l+(A-v)) c f (by omega)
     exact⟨_,by rw[js,w];rfl⟩
   |cons i w=>
    rw[if_neg (by rintro⟨x,_⟩;exact r (.inr ⟨by simp,by omega⟩))];obtain⟨x,y⟩:=Hr a b c d e f g (i::w) (l+(A-v)) o (by simp) p q;exact⟨_,by rw[y];rfl⟩
end
end
end Go.Top
namespace Go.Proofs.YtbdhieahnneebaaGreatDoor
open Go.RowKit Go.Top
section
def Sq.bit(s:Sq):Int:=2*s.num
def Sq.cap(s:Sq):Int:=2*s.num*s.bu
def Sq.arr(s:Sq)(a:Int):Int:=s.br*s.den*a
def Sq.cost(s:Sq)(a:Int):Int:=2*s.num*a
theorem jV.Ain{s}(a:jV s):E.wrap (2*s.num)=2*s.num:=by have:=a.n1;have:=a.n2;exact an _ O
theorem jV.qA{s}(a:jV s):0<=s.cap/\s.cap<=17592186044416:=by
 have b:=a.n1;have c:=a.n2;have d:=a.Q;have e:=a.b2;have a:=zh (a:=2*s.num) (b:=s.bu) (A:=2097152) (B:=8388608) O O O e;have a:0<=2*s.num*s.bu:=nA O O;unfold Sq.cap;omega
theorem jV.Aim{s}(a:jV s):E.wrap (2*s.num*s.bu)=s.cap:=by have:=a.qA;exact an _ (by unfold Sq.cap at this;omega)
theorem jV.Ea{s}(a:jV s){c}(d:0<=c)(b:c<=8388608):0<=s.cost c/\s.cost c<=17592186044416:=by
 have e:=a.n1;have f:=a.n2;have a:=zh (a:=2*s.num) (b:=c) (A:=2097152) (B:=8388608) O d O b;have a:0<=2*s.num*c:=nA O d;unfold Sq.cost;omega
theorem jV.Afb{s}(a:jV s){b}(c:0<=b)(d:b<=8388608):E.wrap (2*s.num*b)=s.cost b:=by have:=a.Ea c d;exact an _ (by unfold Sq.cost at this;omega)
theorem jV.NP{s}(a:jV s):0<=s.br*s.den/\s.br*s.den<=1099511627776:=by
 have b:=zh (a:=s.br) (b:=s.den) (A:=16777216) (B:=65536) (dU a.r1) (dU a.d1) a.r2 a.d2;exact⟨nA (dU a.r1) (dU a.d1),b⟩
theorem jV.Afe{s}(a:jV s):E.wrap (s.br*s.den)=s.br*s.den:=by have:=a.NP;exact an _ O
theorem jV.V5{s}(a:jV s):0<=s.arr 2/\s.arr 2<=2199023255552:=by have:=a.NP;unfold Sq.arr;omega
theorem jV.Afd{s}(a:jV s):E.wrap (s.br*s.den*2)=s.arr 2:=by have:=a.V5;exact an _ (by unfold Sq.arr at this;omega)
structure sE(w:T)(g:Nat)(t:aR)(s:Sq):Prop where
 j:Bx w g t s.cells
 ok:jV s
theorem sE.ext{w a g t s}(b:sE w g t s)(c:bj w.heap.size w a):sE a g t s:=⟨b.j.ext c,b.ok⟩
instance {w w' x1 x2 x3}:Tr w w' (sE w x1 x2 x3) (sE w' x1 x2 x3):=⟨fun hb h=>sE.ext h hb⟩
theorem sE.lt{w g t s}(a:sE w g t s):g<w.heap.size:=a.j.lt
theorem sE.new(w:T)(o t s)(a:jV s)(b:o=w.heap.size):sE (w.alloc (az s.cells t)) o t s:=⟨Bx.D _ _ _ _ b,a⟩
theorem sE.cell{w g t s}(a:sE w g t s)(j){v}(b:s.head[j]?=M v):w.cell? ⟨g,j,S⟩=M v:=by
 refine a.j.cell j ?_;have a:=(aP.1 b).1;rw[Sq.cells,bw,aW,List.getElem?_append_left a];exact b
theorem Sq.NQ{s}(a:jV s):s.cells.extract 0 (0+135)=s.cells:=ij _ (Sq.size a)
theorem nc:(aE.info? 105).map (·.size)=M 135:=dK
section
variable {ops:Array cQ} {rest:List cQ} {o:cQ} {a:Act} {w:T} {Q:Exit->Act->T->Prop} {g:Nat} {t:aR} {s:Sq} (hgd:bP o (xZ ops a.tmps)=true) (x:Gc)
include hgd
theorem gY(b:o.op=.load 105 x)(c:a.eval x=aD (M ⟨g,0,S⟩))(d:sE w g t s)(e:cG aE ops Q rest (a.put o.dst (aG s.cells)) w):cG aE ops Q (o::rest) a w:=
 bA hgd 105 x b g 0 135 c _ _ _ _ d.j (Sq.NQ d.ok) (iJ (Sq.size d.ok)) rfl pO nc e
theorem mJ(b:o.op=.load 26 x)(c:a.eval x=aD (M ⟨g,0,S⟩))(d:sE w g t s)(e:cG aE ops Q rest (a.put o.dst (aG s.cells)) w):cG aE ops Q (o::rest) a w:=
 bA hgd 26 x b g 0 135 c _ _ _ _ d.j (Sq.NQ d.ok) (iJ (Sq.size d.ok)) rfl ik ew e
end
theorem xQ(s)(a:jV s)(w):(fk 105 #[(0,aG s.cells)]).run aE w=.ok (aG s.cells) w:=by
 have b:=JE (P:=aE) (t:=105) (z:=aG vm) (pl:=[(0,135)]) pO dK dK #[(0,aG s.cells)] (by
  intro c d;have e:c=(0,aG s.cells):=by simpa using d
  subst e;exact⟨(0,135),rfl,Sq.size a,by show 0+135<=vm.size;rw[show vm.size=135 by kernel_rfl];decide⟩) w
 rw[b];simp only[rj,fu,Value.cells,YP,dP,js,oD,Array.length_toList,Sq.size a];rw[show List.drop 135 vm.toList=[] by kernel_rfl];simp
theorem S7(s)(a:jV s)(w):aT aE 74 #[aG s.cells] w (fh w (J E s.bit)):=by
 have b:=aH (sE.new w w.heap.size 105 s a rfl);have c:=a.Ain;have a:=b.o.cell 2 rfl;go_enter func74,ntmps74;go_wp2;go_ret;exact⟨rfl,jd⟩
theorem pR(s:Sq)(a:jV s)(w:T):aT aE 36 #[aG s.cells] w (fh w (J E s.cap)):=by
 let ⟨g,b⟩:=aX w.heap.size;let ⟨c,d⟩:=aX (w.alloc (az s.cells 105));have e:=aH (show sE c g 105 s by rw[d];exact sE.new w g _ s a b);have c:=GL d;have f:=a.Aim;have f:=aH a;go_enter func36,ntmps36;go_upto_region 1 with fail;rw[<-d,<-b];clear d b;refine aL 99 (fun a=>sE a g 105 s) rfl (fun b d=>?_);let ⟨a,b⟩:=di d e c;have c:=aH e.o;refine gN 0 1 6 ?_;simp only[sZ,ak];refine lR c 105 1 g 0 135 s.cells (fun _ d=>⟨_,_,d.j,Sq.NQ f.o,by rw[Sq.size f.o];omega⟩) pO nc ?_;refine aN (Ax 1 5 c.o ?_);simp only[sZ,ak];refine bO rfl 74 #[aG s.cells] (J E s.bit) (fun d=>by kernel_rfl) (fun e h=>S7 s f.o e) ?_;simp only[Sq.bit];refine gN 2 5 0 ?_;simp only[sZ,ak];iterate 2 (go_big_quiet_step (fail))
 refine lC c 3 6 g 6 (J E s.bu) (fun _ d=>d.cell 6 rfl) bJ ?_;simp only[sZ,ak];iterate 2 (go_big_quiet_step (fail))
 refine aN (zI a fun c d=>?_);have a:=mX d b;go_wp2;go_ret;exact⟨rfl,a.o⟩
theorem yT(s)(a:jV s)(w):aT aE 38 #[aG s.cells,J E 2] w (fh w (J E (s.arr 2))):=by
 have b:=aH (sE.new w w.heap.size 105 s a rfl);have c:=a.Afe;have c:=a.Afd;have a:=b.o.cell 3 rfl;have a:=b.o.cell 5 rfl;go_enter func38,ntmps38;go_wp2;go_ret;exact⟨rfl,jd⟩
theorem Ab(s a)(d:jV s)(b:0<=a)(c:a<=8388608)(w):aT aE 37 #[aG s.cells,J E a] w (fh w (J E (s.cost a))):=by
 obtain⟨a,e⟩:=aQ (sE.new w w.heap.size 105 s d rfl) (show bD w (w.alloc (az s.cells 105)) from jd);have f:=d.Afb b c;have b:=aH (fun w=>S7 s d w);go_enter func37,ntmps37;go_wp2_with ((refine gY dW (aI 2) rfl rfl a.o ?_));refine mR (b.o _) fun a c=>?_
 have a:=mX c e;simp only[Sq.bit];go_wp2;go_ret;exact⟨rfl,a.o⟩
theorem vN(s)(a:jV s)(w):aT aE 12 #[aG s.cells] w (fh w (J E s.cap)):=by
 obtain⟨b,c,d,e,f⟩:=dZ (sE.new w w.heap.size 26 s a rfl) (show bD w (w.alloc (az s.cells 26)) from jd) (fun w=>na s a w) (fun w=>pR s a w) a;go_enter func12,ntmps12;go_wp2_with ((refine mJ dW (aI 1) rfl rfl b.o ?_));refine mR (d.o _) fun a g=>?_
 let ⟨a,d⟩:=di g c b;go_upto_region 3 with fail;refine wp_region_list ?_;simp only[ln];refine mJ rfl (aI 1) rfl rfl d.o ?_;simp only[sZ,ak];refine gV rfl 105 #[(0,aI 6)] rfl #[(0,aG s.cells)] dK (aG s.cells) (xQ s f.o _) ?_;simp only[sZ,ak];go_wp2_with fail;refine mR (e.o _) fun b c=>?_
 have b:=mX c a;go_wp2;go_ret;exact⟨rfl,b.o⟩
end
def Dr(a:Sq)(b:Pc):Int:=if b.st=3 then a.h else a.h/2
structure RE(a:Sq)(b:Pc)(c:Bool):Prop where
 sq:jV a
 pc:YC b
 v:PcV a b
 x:c=aB->b.st≠3
def ES(b:Sq)(c:jV b)(a:Pc)(d:T):aT aE 196 #[aG b.cells,a.v] d (fh d (J E (Dr b a))):=by
 have e:b.h.tdiv 2=b.h/2:=bB (dU c.h1);have f:=c.h1;have g:=c.h2;have h:E.wrap (b.h/2)=b.h/2:=an _ O;unfold Dr;obtain⟨i,l,n,o,p,q⟩:=a;unfold Pc.v at*;dsimp only at*;obtain⟨a,e⟩:=aX ((d.alloc (az b.cells 26)).alloc (az #[J E i,J E l,J E n,ao o,ao p,ao q] 93));obtain⟨h,r,s⟩:=bh (show rH a d.heap.size b by rw[e];exact(rH.new d _ b c rfl).ext ((aM _ _).alloc (aw _) _)) (show Bx a (d.heap.size+1) 93 #[J E i,J E l,J E n,ao o,ao p,ao q] by rw[e];exact Bx.D _ _ _ _ dS) (show bj d.heap.size d a by rw[e];exact((aM _ _).alloc (aw _) _).alloc dS _);clear c f g
 by_cases a:l=3
 ·subst a
  go_enter func196,ntmps196;go_upto_region 1 with fail;rw[<-e];obtain⟨b,c⟩:=aX d.heap.size;rw[<-c] at h r ⊢;clear e c;have b:=r.o.cell 1 rfl;have b:=h.o.all.1.2.1;go_wp2;go_ret;exact⟨by simp,s.o⟩
 ·have b:(l==3)=av:=by simpa using a
  rw[if_neg a];go_enter func196,ntmps196;go_upto_region 1 with fail;rw[<-e];obtain⟨a,b⟩:=aX d.heap.size;rw[<-b] at h r ⊢;clear e b;have a:=r.o.cell 1 rfl;have a:=h.o.all.1.2.1;go_wp2;go_ret;exact⟨by first|rfl|simp,s.o⟩
def ET(c:Sq)(b:Pc)(e:Bool)(a:RE c b e)(d:T):aT aE 193 #[aG c.cells,b.v,ao e] d (fh d (ao aB)):=by
 have f:=aH (fun g=>tE c a.sq b a.pc a.v g);have g:=a.sq;have h:=a.x;clear a;obtain⟨a,i,l,n,o,p⟩:=b;unfold Pc.v at*;dsimp only at*;obtain⟨b,q⟩:=aX ((d.alloc (az c.cells 26)).alloc (az #[J E a,J E i,J E l,ao n,ao o,ao p] 93));obtain⟨r,s,t⟩:=bh (show rH b d.heap.size c by rw[q];exact(rH.new d _ c g rfl).ext ((aM _ _).alloc (aw _) _)) (show Bx b (d.heap.size+1) 93 #[J E a,J E i,J E l,ao n,ao o,ao p] by rw[q];exact Bx.D _ _ _ _ dS) (show bj d.heap.size d b by rw[q];exact((aM _ _).alloc (aw _) _).alloc dS _);clear g;go_enter func193,ntmps193;go_upto_region 1 with fail;rw[<-q];obtain⟨a,b⟩:=aX d.heap.size;rw[<-b] at r s ⊢;clear q b;have a:=s.o.cell 0 rfl;have b:=s.o.cell 1 rfl;have c:=s.o.cell 2 rfl;have d:=s.o.cell 3 rfl;have g:=s.o.cell 4 rfl;have l:=s.o.cell 5 rfl;go_wp2_with ((with_reducible refine oe dW (aI 3) rfl rfl r.o ?_));refine(f.o _).mono ?_;rintro f n ⟨rfl,o⟩;have f:=s.o.ext o;have n:=aH (t.o.trans (o.mono t.o.size));clear a b c d g l o;have a:=f.cell 1 rfl;clear f;cases e with
 |true=>
  have a:(i==3)=av:=by have:=h rfl;simpa using this
  clear h;go_wp2;go_ret;exact⟨rfl,n.o⟩
 |false=>
  clear h;go_wp2;go_ret;exact⟨rfl,n.o⟩
def wD(d:Sq)(b:Pc)(c:Bool)(a:RE d b c)(e:T):aT aE 158 #[aG d.cells,b.v] e (fh e (J E (Dr d b/16))):=by
 obtain⟨f,g⟩:=aQ (fun h=>tE d a.sq b a.pc a.v h) (fun i=>ES d a.sq b i);have h:=a.sq;have i:0<=Dr d b/\Dr d b<=64:=by have:=h.h1;have:=h.h2;unfold Dr;split<;> omega
 obtain⟨l,n⟩:=aX (Dr d b);rw[<-n] at g i ⊢;have o:l.tdiv 16=l/16:=bB i.1;have p:E.wrap (l/16)=l/16:=an _ O;clear a n;obtain⟨a,n,q,r,s,t⟩:=b;unfold Pc.v at*;dsimp only at*;obtain⟨b,c⟩:=aX ((e.alloc (az d.cells 26)).alloc (az #[J E a,J E n,J E q,ao r,ao s,ao t] 93));obtain⟨l,o,p⟩:=bh (show rH b e.heap.size d by rw[c];exact(rH.new e _ d h rfl).ext ((aM _ _).alloc (aw _) _)) (show Bx b (e.heap.size+1) 93 #[J E a,J E n,J E q,ao r,ao s,ao t] by rw[c];exact Bx.D _ _ _ _ dS) (show bj e.heap.size e b by rw[c];exact((aM _ _).alloc (aw _) _).alloc dS _);clear h i;go_enter func158,ntmps158;go_upto_region 1 with fail;rw[<-c];obtain⟨a,b⟩:=aX e.heap.size;rw[<-b] at l o ⊢;clear c b;have a:=o.o.cell 0 rfl;have b:=o.o.cell 1 rfl;have c:=o.o.cell 2 rfl;have d:=o.o.cell 3 rfl;have e:=o.o.cell 4 rfl;have h:=o.o.cell 5 rfl;go_wp2_with ((with_reducible refine oe dW (aI 2) rfl rfl l.o ?_));refine(f.o _).mono ?_;rintro f i ⟨rfl,n⟩;have f:=o.o.ext n;have i:=mX n l;have l:=aH (p.o.trans (n.mono p.o.size));clear a b c d e h n;have a:=f.cell 0 rfl;have b:=f.cell 1 rfl;have c:=f.cell 2 rfl;have d:=f.cell 3 rfl;have e:=f.cell 4 rfl;have h:=f.cell 5 rfl;clear f;go_wp2_with ((with_reducible refine oe dW (aI 2) rfl rfl i.o ?_));refine(g.o _).mono ?_;rintro f g ⟨rfl,i⟩;have f:=aH (l.o.trans (i.mono l.o.size));clear a b c d e h i;go_wp2;go_ret;exact⟨rfl,f.o⟩
def mU:(aE.info? 283).map (·.size)=M 4:=dK
def Kk{e f g h i l}(r:g.guard=S)(s t)(u:g.op=.store 283 s t)
  (v){n o p q}(w:h.eval s=aD (M ⟨v,0,S⟩))(x:h.eval t=aG #[J E n,J E o,ao p,ao q])
  {y a b c d}(z:Bx i v y #[a,b,c,d])
  (H:cG aE e l f (h.put g.dst sJ) (i.setRow v #[J E n,J E o,ao p,ao q])):cG aE e l (g::f) h i:=
 vA r _ s t u v _ w x y _ z mU rfl (by simp[cJ]) H
def vZ(d:Sq)(b:jV d)(a:Pc)(e:Bool)(c:T):aT aE 163 #[aG d.cells,a.v,ao e] c (fh c (je.v ⟨a.ty,a.st,d.B,e⟩)):=by
 unfold je.v;obtain⟨f,g,h,i,l,n⟩:=a;unfold Pc.v at*;dsimp only at*;obtain⟨a,o⟩:=aX ((c.alloc (az d.cells 26)).alloc (az #[J E f,J E g,J E h,ao i,ao l,ao n] 93));obtain⟨p,q,r⟩:=bh (show rH a c.heap.size d by rw[o];exact(rH.new c _ d b rfl).ext ((aM _ _).alloc (aw _) _)) (show Bx a (c.heap.size+1) 93 #[J E f,J E g,J E h,ao i,ao l,ao n] by rw[o];exact Bx.D _ _ _ _ dS) (show bj c.heap.size c a by rw[o];exact((aM _ _).alloc (aw _) _).alloc dS _);clear b;go_enter func163,ntmps163;go_upto_region 1 with fail;rw[<-o];have b:a.heap.size=c.heap.size+1+1:=by rw[o];simp
 obtain⟨s,t⟩:=aX c.heap.size;obtain⟨u,v⟩:=aX (c.heap.size+1+1);rw[<-v,<-t];rw[<-t] at p q;rw[<-v] at b;have w:=aH b;clear o t v b;have b:=q.o.cell 0 rfl;have o:=q.o.cell 1 rfl;have t:=p.o.all.2.1;have v:Bx (a.alloc (az #[J E 0,J E 0,ao av,ao av] 283)) u 283 #[J E 0,J E 0,ao av,ao av]:=Bx.D _ _ _ _ w.o.symm;have x:=(q.o.alloc (az #[J E 0,J E 0,ao av,ao av] 283)).cell 0 rfl;have y:=(q.o.alloc (az #[J E 0,J E 0,ao av,ao av] 283)).cell 1 rfl;have z:=(p.o.ext ((aM _ _).alloc (aw _) (az #[J E 0,J E 0,ao av,ao av] 283))).all.2.1;obtain⟨H,U,V⟩:=bh v (r.o.alloc r.o.size (az #[J E 0,J E 0,ao av,ao av] 283)) (show c.heap.size<=u by rw[<-w.o];exact r.o.size);clear b o t v;generalize a.alloc (az #[J E 0,J E 0,ao av,ao av] 283)=b at*
 go_wp2_with ((with_reducible refine Kk rfl (aI 6) (aI 14) rfl u rfl rfl H.o ?_));refine dY (v:=aG #[J E f,J E g,ao d.B,ao e]) (po results163 _ _ u _ _ rfl (H.o.row _) rfl Bi mU) rfl ⟨rfl,aO U.o V.o⟩
section
def Vv(w:T)(a o:Nat)(b:List Mb):Prop:=
 ∃c d,Bx w a d c/\∀e f,b[e]?=M f->c.extract (o+408*e) (o+408*e+408)=f.cells/\o+408*e+408<=c.size
def Vv.below{B w a b o c}(d:Vv w b o c)(e:bj B w a)(f:b<B):Vv a b o c:=by
 let ⟨a,b,c,g⟩:=d;exact⟨a,b,c.below e f,g⟩
def Mb.one(a:Mb):a.cells.all (·.oneCell')=aB:=by
 rw[bG];intro a b;simp only[qE,Mb.head,vD,dG,iV,bV,iy,dJ] at b;rcases b with(((((((rfl|⟨_,_,rfl⟩)|rfl)|rfl)|⟨_,_,rfl⟩)|⟨_,_,rfl⟩)|rfl)|⟨_,_,rfl⟩)|⟨_,_,rfl⟩<;> rfl
section
variable {ops:Array cQ} {rest:List cQ} {o:cQ} {a:Act} {w:T} {Q:Exit->Act->T->Prop}
def Wy(a o)(b:o.op=.alloc 280)(w):(VI a o).run aE w=.ok (.value (aD (M ⟨w.heap.size,0,S⟩))) (w.alloc (az iA.cells 280)):=by
 obtain⟨a,c,d,e,f,guard⟩:=o;dsimp only at b;subst b
 kernel_rfl
def mL(b:o.guard=S)(c)(d:o.dst=c)(e:o.op=.alloc 280)
  (f:cG aE ops Q rest (a.put c (aD (M ⟨w.heap.size,0,S⟩))) (w.alloc (az iA.cells 280))):cG aE ops Q (o::rest) a w:=
 Go.Great.wpList_allocTo b c d _ _ (Wy _ o e w) f
def r6(e:o.guard=S)(f g)(h:o.op=.store 280 f g)(b)(d:w.heap.size=b){c}(i:c.size=408){l:Mb}(n:l.A)(p:a.eval f=aD (M ⟨b,0,S⟩))(q:a.eval g=aG l.cells)
  (r:cG aE ops Q rest (a.put o.dst sJ) (w.alloc (az l.cells 280))):cG aE ops Q (o::rest) a (w.alloc (az c 280)):=by
 subst d;refine vA e 280 f g h w.heap.size _ p q _ _ (heap_alloc_new w _) (eZ (da n) jL) (by rw[da n,i]) (Mb.one l) ?_;rw[World.setRow_alloc_new];exact r
def O2:Tryz.zeroCells280.size=408:=dK
def Mv(i:bP o (xZ ops a.tmps)=aB)(l)(n:o.op=.load 280 l)(p b off e)(h:off=b+408*e)(q:a.eval l=aD (M ⟨p,off,S⟩)){c}(d:Vv w p b c){f}(g:c[e]?=M f)
  (r:cG aE ops Q rest (a.put o.dst (aG f.cells)) w):cG aE ops Q (o::rest) a w:=by
 let ⟨b,c,s,t⟩:=d;let ⟨b,c⟩:=t e f g;subst h;exact bA i 280 l n p _ 408 q _ _ _ _ s b c rfl mG jL r
end
def MO(a:List Mb)(b:St):Nat->St|0=>b|c+1=>mS (a.getD c iA) (MO a b c)
def IF(a:je)(b:List Mb)(c:St):Nat->List Bool|0=>[]|d+1=>IF a b c d++mbB a (b.getD d iA) (MO b c d)
structure K7(a:je)(b:Mb):Prop where
 ok:b.A
 fm:FT a b
 vc:LO b
 I:E6 b
 dl:b.delta=0
def ID{c b}(d:∀f∈b,K7 c f){a}(e:a.A):∀g,g<=b.length->(MO b a g).A
 |0,_=>e
 |a+1,f=>by
  have f:b.getD a iA∈b:=by rw[jr,aA O];exact qG _
  have:=d _ f;exact pC this.ok this.vc this.I (ID d e a O)
def IE{b a}(c:∀e∈a,K7 b e){s}(d:s.A):∀f,f<=a.length->(IF b a s f).length<=24922*f
 |0,_=>by simp[IF]
 |e+1,f=>by
  have f:a.getD e iA∈a:=by rw[jr,aA O];exact qG _
  have a:=c _ f;have f:=IE c d e O;have f:=OC (c:=b) a.ok a.vc a.I (ID c d e O);simp only[IF,aJ];omega
end
def mE(a:T)(b c d:Nat)(e:List (Array aq)):Prop:=
 ∃f g,Bx a b g f/\∀h i,e[h]?=M i->i.size=d/\f.extract (c+d*h) (c+d*h+d)=i/\c+d*h+d<=f.size
def mE.below{B a b c d e f}(g:mE a c d e f)(h:bj B a b)(i:c<B):mE b c d e f:=by
 let ⟨a,b,c,d⟩:=g;exact⟨a,b,c.below h i,d⟩
def mE.lt{a b c d e}(f:mE a b c d e):b<a.heap.size:=by
 let ⟨a,b,c,d⟩:=f;exact c.lt
def mE.ext{a b c d e f}(g:mE a c d e f)(h:bj a.heap.size a b):mE b c d e f:=g.below h g.lt
instance {w w' x1 x2 x3 x4}:Tr w w' (mE w x1 x2 x3 x4) (mE w' x1 x2 x3 x4):=⟨fun hb h=>mE.ext h hb⟩
def mE.cell{a b c d e}(f:mE a b c d e){k m}(g:e[k]?=M m){j v}(i:m[j]?=M v)(off)(h:off=c+d*k+j):a.cell? ⟨b,off,S⟩=M v:=by
 let ⟨a,b,c,d⟩:=f;let ⟨a,b,e⟩:=d k m g;subst h;refine c.cell _ ?_;have a:j<m.size:=(eJ.1 i).1;rw[<-b,Array.getElem?_extract] at i;rw[if_pos O] at i;exact i
structure Un where
 fst:Int
 lst:Int
 bits:Int
 fld:Int
def Un.cells(a:Un):Array aq:=#[J E a.fst,J E a.lst,J E a.bits,J E a.fld]
def E0(a:T)(b c:Nat)(d:List Un):Prop:=mE a b c 4 (d.map Un.cells)
def E0.ext{a b c d e}(f:E0 a c d e)(g:bj a.heap.size a b):E0 b c d e:=mE.ext f g
instance {w w' x1 x2 x3}:Tr w w' (E0 w x1 x2 x3) (E0 w' x1 x2 x3):=⟨fun hb h=>E0.ext h hb⟩
def E0.at{c d a e}(i:E0 c d a e){f g}(h:e[f]?=M g){off}(b:off=a+4*f):
  c.cell? ⟨d,off,S⟩=M (J E g.fst)/\c.cell? ⟨d,off+1,S⟩=M (J E g.lst)/\c.cell? ⟨d,off+2,S⟩=M (J E g.bits)/\c.cell? ⟨d,off+3,S⟩=M (J E g.fld):=by
 have a:(e.map Un.cells)[f]?=M g.cells:=by rw[bN,h];rfl
 exact⟨mE.cell i a (j:=0) rfl _ O,mE.cell i a (j:=1) rfl _ O,mE.cell i a (j:=2) rfl _ O,mE.cell i a (j:=3) rfl _ O⟩
def NI:(aE.info? 102).map (·.size)=M 4:=dK
def Bq{c d e f g h}(t:bP e (xZ c f.tmps)=aB)(u)(v:e.op=.load 102 u)(w a off l)(s:off=a+4*l)(x:f.eval u=aD (M ⟨w,off,S⟩)){b}(i:E0 g w a b){n o p q}(r:b[l]?=M ⟨n,o,p,q⟩)
  (y:cG aE c h d (f.put e.dst (aG #[J E n,J E o,J E p,J E q])) g):cG aE c h (e::d) f g:=by
 let ⟨a,b,c,d⟩:=i;let ⟨_,a,b⟩:=d l (Un.cells ⟨n,o,p,q⟩) (by rw[bN,r];rfl);subst s;exact bA t 102 u v w _ 4 x _ _ _ _ c a b rfl underlying102 NI y
def dd{a b c d e}{l:T}{f}(n:d.guard=S)(o p q)(r:d.op=.store o p q)(g)(i:l.heap.size=g){h vs}(s:(a.info? o).map (·.size)=M vs.size)(t:h.size=vs.size)(u:vs.all (·.oneCell')=aB)
  (v:e.eval p=aD (M ⟨g,0,S⟩))(w:e.eval q=aG vs)(x:cG a b f c (e.put d.dst sJ) (l.alloc (az vs o))):cG a b f (d::c) e (l.alloc (az h o)):=by
 subst i;refine vA n o p q r l.heap.size _ v w _ _ (heap_alloc_new l _) s (by rw[t]) u ?_;rw[World.setRow_alloc_new];exact x
def Rc(a:Un):Prop:=0<=a.bits/\a.bits<=8388608/\a.fld=2
def Bt(a:Sq)(b:jV a)(o p c:Nat)(q:List Un)(d:Int)(e:0<=d)(f:d<=a.cap)(g:q.length<=256)(h:∀r∈q,Rc r)(i:T)(l:E0 i o p q)(n:q.length<=c):
  aT aE 35 #[aG a.cells,af (M ⟨o,p,S⟩) q.length c,J E d] i (fh i (ao aB)):=by
 let ⟨r,s⟩:=aX i.heap.size;let ⟨t,u⟩:=aX (i.alloc (az a.cells 105));have v:=aH (show sE t r 105 a by rw[u];exact sE.new i r _ a b s);have w:=GL u;obtain⟨x,y,z,H,U,V⟩:=ej (l.ext w.o) (fun W=>na a b W) (fun Y=>pR a b Y) h g (show r<t.heap.size by rw[u,s];simp);have W:decide (d<0)=av:=by simp;omega
 have Y:decide (a.cap<d)=av:=by simp;omega
 have a0:decide (256<(q.length:Int))=av:=by simp;omega
 go_enter func35,ntmps35;go_upto_region 1 with fail;rw[<-u,<-s];clear u s;go_wp2_with ((refine mJ dW (aI 9) rfl rfl v.o ?_));refine mR (y.o _) fun s u=>?_
 let ⟨a1,a2,a3⟩:=gO u v x w;go_wp2_with ((refine gY dW (aI 3) rfl rfl a1.o ?_));refine mR (z.o _) fun a4 a5=>?_
 let ⟨a6,a7⟩:=di a5 a2 a3;go_wp2_with fail
 go_loopw [30] (fun a8 wr=>mD q.length (fun a9 wr=>bD i wr/\E0 wr o p q) a8 wr) (fun aa _=>q.length-(intOf aa).toNat)
 case atStart=>exact⟨0,by omega,rfl,a7.o,a6.o⟩
 case round=>
  obtain⟨a8,a9,rfl,aa,ab⟩:=hrel;let ⟨ac,ad⟩:=aQ aa ab
  by_cases ae:a8<q.length
  ·have ag:q[a8]?=M q[a8]:=aA ae
   generalize q[a8]=ah at*
   have a:=aH (H.o ah (bg ag));let ⟨b,c,d,e⟩:=ah;have b:=aH ag;have c:decide (d<0)=av:=by have:=a.o.1;simp;exact this
   have c:decide (8388608<d)=av:=by have:=a.o.2.1;simp;exact this
   have c:e=2:=a.o.2.2;subst c;have a:E.wrap ((a8:Int)+1)=((a8+1:Nat):Int):=by rw[show((a8+1:Nat):Int)=(a8:Int)+1 by omega];exact an _ (dU U.o)
   clear ag;go_wp2_with ((refine Bq dW (aI 32) rfl o p _ a8 O rfl ad.o b.o ?_));refine⟨⟨a8+1,by omega,by go_num,ac.o.trans ?_,ad.o.ext ?_⟩,by simp[intOf];omega⟩
   all_goals exact jd
  ·have a:a8=q.length:=O
   subst a;go_wp2;go_ret;exact⟨rfl,ac.o⟩
def OT(a b c):(oX a b c).extract 0 (0+3)=#[J E a,J E b,J E c]:=rfl
def kl{a b c d}{e:T}{f}(g:c.guard=S)(h i)(l:c.op=.store 449 h i)(n)(o:e.heap.size=n)(p q r)
  (s:d.eval h=aD (M ⟨n,0,S⟩))(t:d.eval i=aG (oX p q r))(u:cG aE a f b (d.put c.dst sJ) (e.alloc (az (oX p q r) 449))):cG aE a f (c::b) d (e.alloc (az #[J E 0,J E 0,J E 0] 449)):=
 dd g 449 h i l n o (jh p q r) rfl (mw p q r) s t u
def Cw{a b c d e f}(i:c.guard=S)(l n)(o:c.op=.store 449 l n)(p q r s)
  (t:d.eval l=aD (M ⟨p,0,S⟩))(u:d.eval n=aG #[J E q,J E r,J E s]){g h}(v:Bx e p g h)(w:h.size=3)(x:cG aE a f b (d.put c.dst sJ) (e.setRow p (oX q r s))):cG aE a f (c::b) d e:=
 bm i 449 l n o p (oX q r s) t u v (jh q r s) w (mw q r s) x
def Ahy(b:Nat)(a:b<4):∃c d:Int,(-1<=c/\c<=1/\-1<=d/\d<=1)/\∀e,(eT 477 (aG #[J E 1,J E 0,J E (-1),J E 0,J E 0,J E 1,J E 0,J E (-1)]) (J E (b:Int))).run aE e=.ok (aG #[J E c,J E d]) e:=by
 obtain rfl|rfl|rfl|rfl:b=0\/b=1\/b=2\/b=3:=O
 ·exact⟨1,0,by omega,fun a=>by kernel_rfl⟩
 ·exact⟨-1,0,by omega,fun a=>by kernel_rfl⟩
 ·exact⟨0,1,by omega,fun a=>by kernel_rfl⟩
 ·exact⟨0,-1,by omega,fun a=>by kernel_rfl⟩
def LY(a:Nat)(b:T):Prop:=∃c d e,Bx b a 449 (oX c d e)/\vw c d/\0<=e/\e<=65280
def LY.ext{a b c}(d:LY a b)(e:bD b c):LY a c:=by
 let ⟨a,b,c,f,g⟩:=d;exact⟨a,b,c,f.ext e,g⟩
instance {w w' x0}:Tr w w' (LY x0 w) (LY x0 w'):=⟨fun hb h=>LY.ext h hb⟩
def LcW(a:T)(b:Nat)(c:List (aR×Array aq))(d:Nat)(i:aq)(wr:T):Prop:=∃e:Nat,e<=16/\i=J E (e:Int)/\Fm a b c wr/\LY d wr
def LdW(a:T)(b:Nat)(c:List (aR×Array aq))(d e:Nat)(f g h:Int)(i:aq)(wr:T):Prop:=∃l:Nat,l<=4/\i=J E (l:Int)/\Fm a b c wr/\LY e wr/\Bx wr d 449 (oX f g h)
def U9(a:aq)(b:a=aG #[])(h:Option Addr)(i l:Nat)(n o:Nat)(p:FV)(e f:Int)(c:vw e f)(g:T)(d:Mf g h i n o p):
  aT aE 354 #[a,aG (oy h i l n o p),aG (mW e f)] g (Pe g):=by
 subst b;let ⟨a,b⟩:=aQ d c;let ⟨c,d,q,r,s,t,u,v,w,x,y,z,H⟩:=Dt g (#[]) 454 (oy h i l n o p) 445 (mW e f) 272 (oX 0 0 0) 449;go_enter func354,ntmps354;go_upto_region 1 with fail;refine mr s ?_;rw[<-r];clear s r;go_wp2_with (first|(refine lA 445 4 (c+1) (y.o _ v.o) (oH ..) ?_)|(refine lA 272 5 (c+1+1) (z.o _ v.o) (jF ..) ?_));refine(Ue h i l n o p e f b.o _ (a.o.ext (w.o _ v.o))).mono ?_;rintro q r ⟨s,rfl,u,x,z⟩;have q:=mX z v;have v:=aH (show 0<=s/\s<=65280 from⟨u,x⟩);go_upto_region 2 with refine kl rfl (aI 7) (aI 13) rfl _ rfl _ _ _ rfl rfl ?_;let ⟨u,x⟩:=aX r.heap.size;let ⟨z,U⟩:=aX (r.alloc (az (oX e f s) 449));obtain⟨r,V,W⟩:=bh (show Fm g c d z by rw[U];exact q.o.alloc _) (show LY u z from⟨e,f,s,by rw[U];exact Bx.D _ _ _ _ x,b.o,v.o⟩) (show c+d.length<=u by rw[x];exact q.o.k);rw[<-U,<-x];clear U x;go_wp2_with fail
 go_loopw [14] (fun b wr=>LcW g c d u b wr) (fun e _=>16-(intOf e).toNat)
 case atStart=>exact⟨0,by omega,rfl,r.o,V.o⟩
 case round=>
  obtain⟨b,e,rfl,f,q,r,s,v,x,z⟩:=hrel;let ⟨e,U,V,Y⟩:=dq f v x z;have f:E.wrap ((b:Int)+1)=((b+1:Nat):Int):=by rw[show((b+1:Nat):Int)=(b:Int)+1 by omega];exact an _ O
  by_cases f:b<16
  ·skip
   go_upto_region 5 with(first|(refine lA 449 7 u U.o (cK ..) ?_)|(refine kl rfl (aI 8) (aI 16) rfl _ rfl _ _ _ rfl rfl ?_));let ⟨f,v⟩:=aX wr.heap.size;let ⟨x,z⟩:=aX (wr.alloc (az (oX q r s) 449));obtain⟨a0,a1,a2,a3⟩:=dq (show Fm g c d x by rw[z];exact e.o.alloc _) (show Bx x u 449 (oX q r s) by rw[z];exact U.o.alloc _) (show LY f x from⟨q,r,s,by rw[z];exact Bx.D _ _ _ _ v,V.o,Y.o⟩) (show u<f/\c+d.length<=f by rw[v];exact⟨U.o.lt,e.o.k⟩);rw[<-z,<-v];clear z v;go_wp2_with fail
   go_loopw [22] (fun v wr=>LdW g c d u f q r s v wr) (fun x _=>4-(intOf x).toNat)
   case atStart=>exact⟨0,by omega,rfl,a0.o,a2.o,a1.o⟩
   case round=>
    obtain⟨d,g,rfl,v,⟨x,z,a0,a1,a2,a4⟩,a5⟩:=hrel;let ⟨g,a6,a7,a8,a9⟩:=dZ v a1 a5 a2 a4
    by_cases v:d<4
    ·have a1:E.wrap ((d:Int)+1)=((d+1:Nat):Int):=by rw[show((d+1:Nat):Int)=(d:Int)+1 by omega];exact an _ O
     let ⟨a1,a2,a4,a5⟩:=V.o;let ⟨aa,ab,ac,ad⟩:=Ahy d v;have v:E.wrap (q+aa)=q+aa:=an _ O;have v:E.wrap (r+ab)=r+ab:=an _ O;have v:=a7.o.cell 0 (v:=J E q) rfl;have v:=a7.o.cell 1 (v:=J E r) rfl;have v:=aH (show-63<=q/\q<=63/\-63<=r/\r<=63 from⟨a1,a2,a4,a5⟩);go_upto_region 8 with fail;let ⟨v,a1⟩:=aX (wr.alloc (az #[J E aa,J E ab] 272));have v:=GL a1;let ⟨a2,a4⟩:=aX wr.heap.size;have a2:=DZ a1 a4;rw[<-a1,<-a4];obtain⟨a5,ac,ad⟩:=bh (g.o.ext v.o) (a6.o.ext v.o) (a7.o.ext v.o);clear a1 a4;have v:=ad.o.cell 0 (v:=J E q) rfl;have v:=ad.o.cell 1 (v:=J E r) rfl;have v:=a2.o.cell 0 (v:=J E aa) rfl;have q1:=a2.o.cell 1 (v:=J E ab) rfl;go_wp2_with (first|(refine lA 445 4 (c+1) (y.o _ a5.o) (oH ..) ?_)|(refine lA 449 8 f ac.o (cK ..) ?_));refine(I4 h i l n o p x z a0 a8.o a9.o.1 a9.o.2 (q+aa) (r+ab) O O _ (a.o.ext (w.o _ a5.o))).mono ?_;rintro a h ⟨i,l,n,rfl,o,p,v,y⟩;let ⟨a,h,a1⟩:=gO y a5 ac ad;obtain⟨y,a2⟩:=aQ o (show 0<=n/\n<=65280 from⟨p,v⟩);go_wp2_with refine bm rfl 449 (aI 8) (aI 39) rfl f (oX i l n) rfl rfl h.o (jh _ _ _) (by rw[cK,cK]) (mw _ _ _) ?_;exact⟨⟨d+1,by omega,by go_num,a.o.C a3.o.2 _,⟨i,l,n,h.o.row _,y.o,a2.o⟩,a1.o.m (dU a3.o)⟩,by simp[intOf];omega⟩
    ·have a:d=4:=O
     clear a;cases q1:(x==q)
     all_goals cases q2:(z==r)
     all_goals cases q3:(a0==s)
     all_goals
      go_wp2_with (first|(refine lS 449 8 f 0 a6.o (OT x z a0) (yD cK) ?_)|(refine lS 449 7 u 0 a7.o (OT q r s) (yD cK) ?_)|(refine Cw rfl (aI 7) (aI 44) rfl u x z a0 rfl rfl a7.o (cK ..) ?_)|(refine Cw rfl (aI 6) (aI 46) rfl (c+1+1+1) q r s rfl rfl (H.o _ g.o) (cK ..) ?_))
      first
       |exact⟨⟨b+1,by omega,by go_num,g.o.C W.o _,x,z,a0,a7.o.row _,a8.o,a9.o⟩,by simp[intOf];omega⟩
       |exact rR results354 ((H.o _ g.o).row _) qm lW ⟨_,_,_,rfl,V.o,Y.o.1,Y.o.2,by have:=aO (g:=c+1+1+1) (cs:=oX q r s) (w.o _ g.o) (iJ t.o);exact this⟩
  ·have a:b=16:=O
   have a:True:=trivial;go_wp2_with (first|(refine lA 449 7 u U.o (cK ..) ?_)|(refine bm rfl 449 (aI 6) (aI 46) rfl (c+1+1+1) (oX q r s) rfl rfl (H.o _ e.o) (jh _ _ _) (by rw[cK,cK]) (mw _ _ _) ?_));exact rR results354 ((H.o _ e.o).row _) qm lW ⟨_,_,_,rfl,V.o,Y.o.1,Y.o.2,by have:=aO (g:=c+1+1+1) (cs:=oX q r s) (w.o _ e.o) (iJ t.o);exact this⟩
def Fw(a b c):(oX a b c).extract 0 (0+2)=mW a b:=rfl
def Iq{a b c d}{e:T}{f}(g:c.guard=S)(h i)(l:c.op=.store 272 h i)(n)(o:e.heap.size=n)(p q)
  (r:d.eval h=aD (M ⟨n,0,S⟩))(s:d.eval i=aG (mW p q))(t:cG aE a f b (d.put c.dst sJ) (e.alloc (az (mW p q) 272))):cG aE a f (c::b) d (e.alloc (az #[J E 0,J E 0] 272)):=
 dd g 272 h i l n o (vs:=mW p q) iS rfl (by simp[mW,cJ]) r s t
def WdW(a:T)(b:Nat)(c:List (aR×Array aq))(d:Nat)(i:aq)(wr:T):Prop:=∃e:Nat,e<=16/\i=J E (e:Int)/\Fm a b c wr/\LY d wr
def WeW(a:T)(b:Nat)(c:List (aR×Array aq))(d e:Nat)(f g:Int)(i:aq)(wr:T):Prop:=∃h:Int,-16<=h/\h<=32/\i=J E h/\Fm a b c wr/\LY d wr/\Bx wr e 272 (mW f g)
def Y6(b:aq)(a:b=aG #[])(c:Option Addr)(d e:Nat)(f g:Nat)(h:FV)(i l:Int)(n:vw i l)(o:T)(p:Mf o c d f g h):
  aT aE 356 #[b,aG (oy c d e f g h),aG (mW i l)] o (Pe o):=by
 subst a;let ⟨a,q⟩:=aQ p n;let ⟨r,s,t,u,v,w,x,y,z,H,U,V,W⟩:=Dt o (#[]) 458 (oy c d e f g h) 445 (mW i l) 272 (oX 0 0 0) 449;go_enter func356,ntmps356;go_upto_region 1 with fail;refine mr v ?_;rw[<-u];clear v u;go_wp2_with (first|(refine lA 445 4 (r+1) (U.o _ y.o) (oH ..) ?_)|(refine lA 272 5 (r+1+1) (V.o _ y.o) (jF ..) ?_));refine(Ue c d e f g h i l q.o _ (a.o.ext (z.o _ y.o))).mono ?_;rintro u v ⟨Y,rfl,a0,a1,a2⟩;have a3:=mX a2 y;have a4:=aH (show 0<=Y/\Y<=65280 from⟨a0,a1⟩);go_upto_region 2 with refine kl rfl (aI 7) (aI 14) rfl _ rfl _ _ _ rfl rfl ?_;let ⟨a5,a6⟩:=aX v.heap.size;let ⟨a7,a8⟩:=aX (v.alloc (az (oX i l Y) 449));obtain⟨a9,aa,ab⟩:=bh (show Fm o r s a7 by rw[a8];exact a3.o.alloc _) (show LY a5 a7 from⟨i,l,Y,by rw[a8];exact Bx.D _ _ _ _ a6,q.o,a4.o⟩) (show r+s.length<=a5 by rw[a6];exact a3.o.k);rw[<-a8,<-a6];clear a8 a6;go_wp2_with fail
 go_loopw [8] (fun a6 wr=>WdW o r s a5 a6 wr) (fun a8 _=>(intOf a8).toNat)
 case atStart=>exact⟨16,by omega,rfl,a9.o,aa.o⟩
 case round=>
  obtain⟨a6,a8,rfl,ac,ad,ae,ag,ah,ai,aj⟩:=hrel;let ⟨al,am,ap,ar⟩:=dq ac ah ai aj
  by_cases ax:0<a6
  ·have ay:E.wrap (-(a6:Int))=-(a6:Int):=an _ O
   have aV:(a6:Int).tdiv 2=((a6/2:Nat):Int):=by rw[bB O];omega
   have b0:E.wrap ((a6/2:Nat):Int)=((a6/2:Nat):Int):=an _ O;let ⟨b1,b2,b3,b4⟩:=ai;go_upto_region 6 with(first|(refine lS 272 19 a5 0 am.o (Fw ad ae ag) (yD cK) ?_)|(refine Iq rfl (aI 9) (aI 20) rfl _ rfl _ _ rfl rfl ?_));let ⟨b5,b6⟩:=aX wr.heap.size;let ⟨b7,b8⟩:=aX (wr.alloc (az (mW ad ae) 272));obtain⟨b9,ba⟩:=aQ (show Fm o r s b7 by rw[b8];exact al.o.alloc _) (show LY a5 b7 from⟨ad,ae,ag,by rw[b8];exact am.o.alloc _,ap.o,ar.o⟩);have bb:=DZ b8 b6;have bc:=aH (show a5<b5 by rw[b6];exact am.o.lt);rw[<-b8,<-b6];clear b8 b6;go_wp2_with fail
   go_loopw [10] (fun b6 wr=>WeW o r s a5 b5 ad ae b6 wr) (fun b8 _=>((a6:Int)+1-intOf b8).toNat)
   case atStart=>exact⟨-(a6:Int),by omega,by omega,rfl,b9.o,ba.o,bb.o⟩
   case round=>
    obtain⟨b6,b8,bd,rfl,be,bf,bi⟩:=hrel;let ⟨bk,bl,bn⟩:=bh be bf bi
    by_cases br:b6<=a6
    ·have bs:E.wrap (b6+(a6:Int))=b6+(a6:Int):=an _ O
     go_wp2_with fail
     go_loopw [11] (fun bt wr=>WeW o r s a5 b5 ad ae bt wr) (fun bu _=>((a6:Int)+1-intOf bu).toNat)
     case atStart=>exact⟨-(a6:Int),by omega,by omega,rfl,bk.o,bl.o,bn.o⟩
     case round=>
      obtain⟨bt,bu,bv,rfl,bx,⟨bz,bC,bK,bL,bR,bU⟩,bV⟩:=hrel;let ⟨bY,c0,c1,c2,c3⟩:=dZ bx bL bV bR bU
      by_cases c4:bt<=a6
      ·have c5:E.wrap (bt+(a6:Int))=bt+(a6:Int):=an _ O
       have c6:E.wrap (ad+bt)=ad+bt:=an _ O;have c7:E.wrap (ae+b6)=ae+b6:=an _ O;have c8:=c1.o.cell 0 (v:=J E ad) rfl;have c9:=c1.o.cell 1 (v:=J E ae) rfl;go_wp2_with (first|(refine lA 445 4 (r+1) (U.o _ bY.o) (oH ..) ?_)|(refine lA 449 7 a5 c0.o (cK ..) ?_));refine(I4 c d e f g h bz bC bK c2.o c3.o.1 c3.o.2 (ad+bt) (ae+b6) O O _ (a.o.ext (z.o _ bY.o))).mono ?_;rintro ca cb ⟨cc,cd,ce,rfl,cf,cg,ch,ci⟩;let ⟨ck,cl,cn⟩:=gO ci bY c0 c1;obtain⟨co,cp⟩:=aQ cf (show 0<=ce/\ce<=65280 from⟨cg,ch⟩);go_wp2_with refine bm rfl 449 (aI 7) (aI 47) rfl a5 (oX cc cd ce) rfl rfl cl.o (jh _ _ _) (by rw[cK,cK]) (mw _ _ _) ?_;exact⟨⟨bt+(a6:Int),by omega,by omega,rfl,ck.o.C ab.o _,⟨cc,cd,ce,cl.o.row _,co.o,cp.o⟩,cn.o.m (dU bc.o)⟩,by simp[intOf];omega⟩
      ·go_wp2_with fail
       exact⟨⟨b6+(a6:Int),by omega,by omega,rfl,bY.o,⟨bz,bC,bK,c0.o,c2.o,c3.o⟩,c1.o⟩,by simp[intOf];omega⟩
    ·go_wp2_with fail
     exact⟨⟨a6/2,by omega,rfl,bk.o,bl.o⟩,by simp[intOf];omega⟩
  ·obtain rfl:a6=0:=O
   go_wp2_with (first|(refine lA 449 7 a5 am.o (cK ..) ?_)|(refine bm rfl 449 (aI 6) (aI 48) rfl (r+1+1+1) (oX ad ae ag) rfl rfl (W.o _ al.o) (jh _ _ _) (by rw[cK,cK]) (mw _ _ _) ?_));exact rR results356 ((W.o _ al.o).row _) qm lW ⟨_,_,_,rfl,ap.o,ar.o.1,ar.o.2,by have:=aO (g:=r+1+1+1) (cs:=oX ad ae ag) (z.o _ al.o) (iJ w.o);exact this⟩
def VQ(a b):(mW a b).extract 0 (0+2)=#[J E a,J E b]:=rfl
def Wf(a b c):(#[.iface a (aG #[]),J E b,J E c]:Array aq).extract 1 (1+2)=mW b c:=rfl
def Sr(a b c):(#[.iface a (aG #[]),J E b,J E c]:Array aq).size=3:=rfl
def QA(a):(method 582 454 (aG #[]) "cutroom/encoder.find").run aE a=.ok (354,aG #[]) a:=dK
def T8(a):(method 582 458 (aG #[]) "cutroom/encoder.find").run aE a=.ok (356,aG #[]) a:=dK
def Ahw(c d)(e:vw c d)(b:Nat)(a:b<2):∃(f:aR)(g:FuncId)(h i:Int),((f=454/\g=354)\/(f=458/\g=356))/\vw h i/\
  ∀g,(eT 459 (aG #[.iface 454 (aG #[]),J E c,J E d,.iface 458 (aG #[]),J E 0,J E 0]) (J E (b:Int))).run aE g=.ok (aG #[.iface f (aG #[]),J E h,J E i]) g:=by
 obtain rfl|rfl:b=0\/b=1:=O
 ·exact⟨_,_,c,d,.inl ⟨rfl,rfl⟩,e,fun a=>by kernel_rfl⟩
 ·exact⟨_,_,0,0,.inr ⟨rfl,rfl⟩,⟨by decide,by decide,by decide,by decide⟩,fun a=>by kernel_rfl⟩
def VtW(a:T)(b:Nat)(c:List (aR×Array aq))(d:Nat)(i:aq)(wr:T):Prop:=∃e:Nat,e<=2/\i=J E (e:Int)/\Fm a b c wr/\LY d wr
def BX(a:Option Addr)(b c:Nat)(d e:Nat)(f:FV)(g h:Int)(i:vw g h)(l:T)(n:Mf l a b d e f):
  aT aE 329 #[aG (oy a b c d e f),aG (mW g h)] l (Pe l):=by
 obtain⟨o,p,q⟩:=bh n i (show vw 0 0 from⟨by decide,by decide,by decide,by decide⟩);let ⟨r,s,t,u,v,w,x,y,z,H,U,V⟩:=Nk l (oy a b c d e f) 445 (mW g h) 272 (oX 0 0 0) 449;go_enter func329,ntmps329;go_upto_region 1 with fail;refine mr v ?_;rw[<-u];clear v u;go_wp2_with refine lA 445 2 r (H.o _ y.o) (oH ..) ?_;refine(Ue a b c d e f 0 0 q.o _ (o.o.ext (z.o _ y.o))).mono ?_;rintro u v ⟨W,rfl,Y,a0,a1⟩;have a2:=mX a1 y;have a3:=aH (show 0<=W/\W<=65280 from⟨Y,a0⟩);go_upto_region 2 with refine kl rfl (aI 5) (aI 12) rfl _ rfl _ _ _ rfl rfl ?_;let ⟨a4,a5⟩:=aX v.heap.size;let ⟨a6,a7⟩:=aX (v.alloc (az (oX 0 0 W) 449));obtain⟨a8,a9,aa⟩:=bh (show Fm l r s a6 by rw[a7];exact a2.o.alloc _) (show LY a4 a6 from⟨0,0,W,by rw[a7];exact Bx.D _ _ _ _ a5,q.o,a3.o⟩) (show r+s.length<=a4 by rw[a5];exact a2.o.k);rw[<-a7,<-a5];clear a7 a5;go_upto_region 3 with refine lS 272 3 (r+1) 0 (U.o _ a8.o) (VQ g h) (yD jF) ?_;go_wp2_with fail;let ⟨a5,a7⟩:=aX (a6.alloc (az #[.iface 454 (aG #[]),J E g,J E h,.iface 458 (aG #[]),J E 0,J E 0] 459));obtain⟨ab,ac⟩:=aQ (show Fm l r s a5 by rw[a7];exact a8.o.alloc _) (show LY a4 a5 by rw[a7];exact a9.o.ext (jd));rw[<-a7];clear a7
 go_loopw [23] (fun a7 wr=>VtW l r s a4 a7 wr) (fun ad _=>2-(intOf ad).toNat)
 case atStart=>exact⟨0,by omega,rfl,ab.o,ac.o⟩
 case round=>
  obtain⟨a7,ad,rfl,ae,ag,ah,ai,aj,al,am⟩:=hrel;let ⟨ap,ar,ax,ay⟩:=dq ae aj al am;have aV:E.wrap ((a7:Int)+1)=((a7+1:Nat):Int):=by rw[show((a7+1:Nat):Int)=(a7:Int)+1 by omega];exact an _ O
  by_cases b0:a7<2
  ·let ⟨b1,b2,b3,b4,b5,b6,b7⟩:=Ahw g h p.o a7 b0
   let ⟨b8,b9⟩:=aQ b5 b6;go_upto_region 6 with fail;let ⟨ba,bb⟩:=aX (wr.alloc (az #[.iface b1 (aG #[]),J E b3,J E b4] 457));let ⟨bc,bd⟩:=aX wr.heap.size;obtain⟨be,bf⟩:=aQ (show Fm l r s ba by rw[bb];exact ap.o.alloc _) (show Bx ba a4 449 (oX ag ah ai) by rw[bb];exact ar.o.alloc _);have bi:=DZ bb bd;rw[<-bb,<-bd];clear bb bd;have bb:=bf.o.cell 2 (v:=J E ai) rfl
   by_cases bd:ai=0
   ·have bk:(ai==0)=aB:=by simpa using bd
    go_wp2_with (first|(refine lA 449 5 a4 bf.o (cK ..) ?_)|(refine bm rfl 449 (aI 4) (aI 42) rfl (r+1+1) (oX ag ah ai) rfl rfl (V.o _ be.o) (jh _ _ _) (by rw[cK,cK]) (mw _ _ _) ?_));exact rR results329 ((V.o _ be.o).row _) qm lW ⟨_,_,_,rfl,ax.o,ay.o.1,ay.o.2,by have:=aO (g:=r+1+1) (cs:=oX ag ah ai) (z.o _ be.o) (iJ w.o);exact this⟩
   ·have bk:(ai==0)=av:=by simpa using bd
    have bl:=bi.o.cell 0 (v:=.iface b1 (aG #[])) rfl;have bn:=QA;have br:=T8;rcases b8.o with⟨rfl,rfl⟩|⟨rfl,rfl⟩
    all_goals go_upto_region 7 with fail
    all_goals go_wp2_with (first|(refine lA 445 2 r (H.o _ be.o) (oH ..) ?_)|(refine lS 272 32 bc 1 bi.o (Wf _ b3 b4) (yD Sr) ?_))
    all_goals clear bn br
    ·refine(U9 _ rfl a b c d e f b3 b4 b9.o _ (o.o.ext (z.o _ be.o))).mono ?_
     rintro b8 bs ⟨bt,bu,bv,rfl,bx,bz,bC,bK⟩;let ⟨bL,bR⟩:=di bK be bf;obtain⟨bU,bV⟩:=aQ bx (show 0<=bv/\bv<=65280 from⟨bz,bC⟩);go_upto_region 8 with refine kl rfl (aI 9) (aI 34) rfl _ rfl _ _ _ rfl rfl ?_;let ⟨bY,c0⟩:=aX (bs.alloc (az (oX bt bu bv) 449));let ⟨c1,c2⟩:=aX bs.heap.size;obtain⟨c3,c4⟩:=aQ (show Fm l r s bY by rw[c0];exact bL.o.alloc _) (show Bx bY a4 449 (oX ag ah ai) by rw[c0];exact bR.o.alloc _);have c5:=DZ c0 c2;rw[<-c0,<-c2];clear c0 c2;have c0:=c4.o.cell 2 (v:=J E ai) rfl;have c2:=c5.o.cell 2 (v:=J E bv) rfl
     by_cases c6:bv<ai
     ·have c7:decide (bv<ai)=aB:=decide_eq_true c6
      go_wp2_with (first|(refine lA 449 9 c1 c5.o (cK ..) ?_)|(refine bm rfl 449 (aI 5) (aI 40) rfl a4 (oX bt bu bv) rfl rfl c4.o (jh _ _ _) (by rw[cK,cK]) (mw _ _ _) ?_));exact⟨⟨a7+1,by omega,by go_num,c3.o.C aa.o _,bt,bu,bv,c4.o.row _,bU.o,bV.o⟩,by simp[intOf];omega⟩
     ·have c7:decide (bv<ai)=av:=decide_eq_false c6
      go_wp2_with fail;exact⟨⟨a7+1,by omega,by go_num,c3.o,ag,ah,ai,c4.o,ax.o,ay.o⟩,by simp[intOf];omega⟩
    ·refine(Y6 _ rfl a b c d e f b3 b4 b9.o _ (o.o.ext (z.o _ be.o))).mono ?_
     rintro b8 bs ⟨bt,bu,bv,rfl,bx,bz,bC,bK⟩;let ⟨bL,bR⟩:=di bK be bf;obtain⟨bU,bV⟩:=aQ bx (show 0<=bv/\bv<=65280 from⟨bz,bC⟩);go_upto_region 8 with refine kl rfl (aI 9) (aI 34) rfl _ rfl _ _ _ rfl rfl ?_;let ⟨bY,c0⟩:=aX (bs.alloc (az (oX bt bu bv) 449));let ⟨c1,c2⟩:=aX bs.heap.size;obtain⟨c3,c4⟩:=aQ (show Fm l r s bY by rw[c0];exact bL.o.alloc _) (show Bx bY a4 449 (oX ag ah ai) by rw[c0];exact bR.o.alloc _);have c5:=DZ c0 c2;rw[<-c0,<-c2];clear c0 c2;have c0:=c4.o.cell 2 (v:=J E ai) rfl;have c2:=c5.o.cell 2 (v:=J E bv) rfl
     by_cases c6:bv<ai
     ·have c7:decide (bv<ai)=aB:=decide_eq_true c6
      go_wp2_with (first|(refine lA 449 9 c1 c5.o (cK ..) ?_)|(refine bm rfl 449 (aI 5) (aI 40) rfl a4 (oX bt bu bv) rfl rfl c4.o (jh _ _ _) (by rw[cK,cK]) (mw _ _ _) ?_));exact⟨⟨a7+1,by omega,by go_num,c3.o.C aa.o _,bt,bu,bv,c4.o.row _,bU.o,bV.o⟩,by simp[intOf];omega⟩
     ·have c7:decide (bv<ai)=av:=decide_eq_false c6
      go_wp2_with fail;exact⟨⟨a7+1,by omega,by go_num,c3.o,ag,ah,ai,c4.o,ax.o,ay.o⟩,by simp[intOf];omega⟩
  ·obtain rfl:a7=2:=O
   go_wp2_with (first|(refine lA 449 5 a4 ar.o (cK ..) ?_)|(refine bm rfl 449 (aI 4) (aI 42) rfl (r+1+1) (oX ag ah ai) rfl rfl (V.o _ ap.o) (jh _ _ _) (by rw[cK,cK]) (mw _ _ _) ?_));exact rR results329 ((V.o _ ap.o).row _) qm lW ⟨_,_,_,rfl,ax.o,ay.o.1,ay.o.2,by have:=aO (g:=r+1+1) (cs:=oX ag ah ai) (z.o _ ap.o) (iJ w.o);exact this⟩
def EK{e:Nat->Prop}(a:aq)(f:Fr)(c:Int)(g:T)(b:dF e g a f)(d:¬pH f c):
  aT aE 118 #[a,J E c] g (nk g (vI,1)):=by
 have a:=b;obtain⟨h,i,l,n,o,p,q,r,s,rfl,t,u,v⟩:=b;clear t u v
 by_cases b:bQ f=aB
 ·have h:2<=f.W/\f.W<=64/\2<=f.H/\f.H<=64:=by
   have h:=b;simp only[bQ,bT] at h;have:=jI h.1.1.1;omega
  by_cases h:f.H%4=0
  ·have i:¬(c=0\/c=1):=fun l=>d ⟨b,h,l⟩
   clear d;have l:(f.H%4!=0)=av:=by rw[h];rfl
   have l:(c !=0)=aB:=by simp;omega
   have l:(c !=1)=aB:=by simp;omega
   clear h i;go_enter Ah5,Acr;go_wp2_with fail;refine(dB (p:=e) _ f _ (by(repeat with_reducible apply gR);exact a)).mono ?_;rintro c i ⟨rfl,l⟩;obtain⟨c,n⟩:=gU l;have o:=l.size
   try simp at o
   try simp at c
   try simp at n
   have c:g.heap.size<i.heap.size:=O;have c:g.heap.size+1<i.heap.size:=O;have c:bj g.heap.size g i:=(((aM _ g).alloc dS _).alloc dS _).trans (l.mono eB);go_wp2_with fail;refine dY (v:=fE #[aG #[J E 0,J E 0,af S 0 0,af S 0 0,af S 0 0],J E 1]) (by simp only[Ih,RM];go_simp) rfl (uz (B:=1) ?_ rfl)
   repeat refine iu ?_ (by first|(simp;done)|(simp;omega)) _
   exact c
  ·have c:(f.H%4!=0)=aB:=by simpa using h
   clear d h;go_enter Ah5,Acr;go_wp2_with fail;refine(dB (p:=e) _ f _ (by(repeat with_reducible apply gR);exact a)).mono ?_;rintro c h ⟨rfl,i⟩;obtain⟨c,l⟩:=gU i;have n:=i.size
   try simp at n
   try simp at c
   try simp at l
   have c:g.heap.size<h.heap.size:=O;have c:g.heap.size+1<h.heap.size:=O;have c:bj g.heap.size g h:=(((aM _ g).alloc dS _).alloc dS _).trans (i.mono eB);go_wp2_with fail;refine dY (v:=fE #[aG #[J E 0,J E 0,af S 0 0,af S 0 0,af S 0 0],J E 1]) (by simp only[Ih,RM];go_simp) rfl (uz (B:=1) ?_ rfl)
   repeat refine iu ?_ (by first|(simp;done)|(simp;omega)) _
   exact c
 ·have c:bQ f=av:=by simpa using b
  clear d;go_enter Ah5,Acr;go_wp2_with fail;refine(dB (p:=e) _ f _ (by(repeat with_reducible apply gR);exact a)).mono ?_;rintro a b ⟨rfl,c⟩;obtain⟨a,d⟩:=gU c;have e:=c.size
  try simp at e
  try simp at a
  try simp at d
  have a:g.heap.size<b.heap.size:=O;have a:g.heap.size+1<b.heap.size:=O;have a:bj g.heap.size g b:=(((aM _ g).alloc dS _).alloc dS _).trans (c.mono eB);go_wp2_with fail;refine dY (v:=fE #[aG #[J E 0,J E 0,af S 0 0,af S 0 0,af S 0 0],J E 1]) (by simp only[Ih,RM];go_simp) rfl (uz (B:=1) ?_ rfl)
  repeat refine iu ?_ (by first|(simp;done)|(simp;omega)) _
  exact a
def Dg{s:Nat->Prop}(c:aq)(t u p:Nat)(q r v:List Int)(w:T)(a:dF s w c ⟨((2*t:Nat):Int),((4*u:Nat):Int),q,r,v⟩)(b:eH c)(h:bQ ⟨((2*t:Nat):Int),((4*u:Nat):Int),q,r,v⟩=aB)
  (o:p<=1)(d:1<=t)(e:t<=32)(f:1<=u)(g:u<=16)(i:q.length=(2*u)*(2*(2*t)))(l:r.length=u*(2*t))(n:v.length=u*(2*t)):
  aT aE 118 #[c,J E p] w (nk w (⟨((2*t:Nat):Int),((2*u:Nat):Int),mT q (p*(2*t)) (2*(2*t)) (2*t) (2*u),mT r (p*t) (2*t) t u,mT v (p*t) (2*t) t u⟩,0)):=by
 have x:=a;obtain⟨y,z,H,U,V,W,Y,a0,a1,rfl,a2,a3,a4⟩:=a;obtain⟨a,a5,a6⟩:=b.o;dsimp only at*;obtain⟨b,c⟩:=aX (2*t);obtain⟨d,e⟩:=aX (2*u);obtain⟨f,g⟩:=aX (4*u);obtain⟨a7,a8⟩:=aX (2*b);obtain⟨a9,aa⟩:=aX (p*b);obtain⟨ab,ac⟩:=aX (p*t);have ad:a9<=b:=by rw[aa];exact aY (fH _ o) O
 have ae:ab<=t:=by rw[ac];exact aY (fH _ o) O
 have ag:a9=2*ab:=by rw[aa,ac,c];rcases(show p=0\/p=1 by omega) with rfl|rfl<;> omega
 rw[<-c] at i l n;rw[<-e] at i;rw[a2.len] at i;rw[a3.len] at l;rw[a4.len] at n;rw[<-g] at h x;rw[<-g];rw[<-c] at h x;rw[<-c,<-e,<-a8,<-aa,<-ac];obtain⟨h,ah,ai,aj,al,am⟩:=ej (show∀ap,ap<d->a9+ap*a7+b<=z from fun ar ax=>by rw[a8];exact Fs ad i ax) (show∀ay,ay<u->ab+ay*b+t<=V from fun aV b0=>by rw[c];exact Fs ae (by rw[l,c]) b0) (show∀b1,b1<u->ab+b1*b+t<=a0 from fun b2 b3=>by rw[c];exact Fs ae (by rw[n,c]) b3) i (show V=u*(2*t) by rw[l,c]) (show a0=u*(2*t) by rw[n,c]);have ad:E.wrap ((p:Int)*(b:Int))=(a9:Int):=by rw[<-cm,<-aa];exact an _ O
 have ae:E.wrap (2*(b:Int))=(a7:Int):=by rw[show 2*(b:Int)=((a7:Nat):Int) by omega];exact an _ O
 have aj:((a9:Nat):Int).tdiv 2=(ab:Int):=by rw[bB O];omega
 have al:((b:Nat):Int).tdiv 2=(t:Int):=by rw[bB O];omega
 have am:((d:Nat):Int).tdiv 2=(u:Int):=by rw[bB O];omega
 have ap:((f:Nat):Int).tdiv 2=(d:Int):=by rw[bB O];omega
 have ar:E.wrap (ab:Int)=(ab:Int):=an _ O;have ax:E.wrap (t:Int)=(t:Int):=an _ O;have ay:E.wrap (u:Int)=(u:Int):=an _ O;have aV:E.wrap (d:Int)=(d:Int):=an _ O;have b0:((f:Int)%4!=0)=av:=by rw[show(f:Int)%4=0 by omega];rfl
 have b0:((p:Int)!=0)=aB->((p:Int)!=1)=av:=by intro b1;simp at b1 ⊢;omega
 obtain⟨b1,b2,b3,b4,b5,b6⟩:=ej c e g a8 aa ac;have b1:=aH o;have b1:b<=64:=O;have b1:d<=32:=O;have b1:f<=64:=O;have b1:a7<=128:=O;have b1:1<=b:=O;clear c e g a8 aa ac ag i l n;obtain⟨c,e,g,i,l,n⟩:=ej ad ae aj al am ap;clear ad ae aj al am ap;rcases(show p=0\/p=1 by omega) with a8|a8
 all_goals
  have aa:((p:Int)!=0)=decide (p=1):=by rw[a8];rfl
  have ac:((p:Int)!=1)=decide (p=0):=by rw[a8];rfl
  have ad:=aH a8;have ad:decide (p=1)=decide (p=1):=rfl;clear o b0 ad
  first
  |(have hk1:decide (p=1)=aB:=decide_eq_true a8
    have o:decide (p=0)=av:=decide_eq_false O;rw[hk1] at aa;rw[o] at ac;clear hk1 o)
  |(have hk1:decide (p=1)=av:=decide_eq_false O
    rw[hk1] at aa;clear hk1)
  clear a8;go_enter Ah5,Acr;go_wp2_with fail;refine(dB (p:=s) _ ⟨(b:Int),(f:Int),q,r,v⟩ _ (by(repeat with_reducible apply gR);exact x)).mono ?_;rintro o p ⟨rfl,x⟩;have o:bj w.heap.size w p:=(((aM _ w).alloc dS _).alloc dS _).trans (x.mono eB);have a8:Bx p w.heap.size 63 #[J E b,J E f,af y z H,af U V W,af Y a0 a1]:=((jR w _ _).alloc _).ext x;have aa:Bx p (w.heap.size+1) 63 #[J E 0,J E 0,af S 0 0,af S 0 0,af S 0 0]:=(Bx.D _ _ _ _ dS).ext x;have x:=a2.ext o;have a2:=a3.ext o;have a3:=a4.ext o;obtain⟨a4,ac,ad,ae,ag⟩:=a8.dz;obtain⟨a4,ac,ad,ae,ag⟩:=aa.dz;have a4:=aa.frozen 0;have a4:=aa.frozen 1;have a4:=aa.frozen 2;have a4:=aa.frozen 3;have a4:=aa.frozen 4;have a4:=a8.lt;have a4:=aa.lt;go_wp2_with fail;have a4:=c.o;have c:=e.o;have e:=g.o;have g:=i.o;have i:=l.o;have l:=n.o
  go_region_held3 (fun n=>n.cell? ⟨w.heap.size,0,S⟩=M (J E b)/\n.cell? ⟨w.heap.size,1,S⟩=M (J E f)) (go_keep) (fail)
  clear l;have l:=x.drew.drew;go_wp2_with fail
  go_region_held3 (fun n=>n.cell? ⟨w.heap.size,0,S⟩=M (J E b)/\n.cell? ⟨w.heap.size,1,S⟩=M (J E f)/\n.cell? ⟨w.heap.size,2,S⟩=M (.slice y z H)/\n.cell? ⟨w.heap.size,3,S⟩=M (.slice U V W)/\n.cell? ⟨w.heap.size,4,S⟩=M (.slice Y a0 a1))
   (first|(refine⟨?_,?_,?_,?_,?_⟩<;> go_simp;done)|go_keep)
   (first
    |(go_at_call 173;((with_reducible refine(qV (p:=s) y z H a9 a7 b d q _ l a O O O O O h.o).mono ?_);rintro f n ⟨A3,n3,m3,rfl,hcp3,hB3,hb3⟩;have hb3:bj p.heap.size p n:=(by first|exact ml (ml hb3)|exact ml hb3);obtain⟨x,a8⟩:=gU hb3;have aa:=hb3.size;skip;have ac:w.heap.size<n.heap.size:=O;have ad:w.heap.size+1<n.heap.size:=O))
    |(go_at_call 173;((with_reducible refine(qV (p:=s) U V W ab b t u r _ (a2.ext hb3) a5 O O O O O ah.o).mono ?_);rintro a f ⟨A4,n4,m4,rfl,hcp4,hB4,hb4⟩;obtain⟨h,l⟩:=gU hb4;skip;have n:w.heap.size<f.heap.size:=(dU hb4.size);have q:w.heap.size+1<f.heap.size:=(dU hb4.size)))
    |(go_at_call 173;((with_reducible refine(qV (p:=s) Y a0 a1 ab b t u v _ ((a3.ext hb3).ext hb4) a6 O O O O O ai.o).mono ?_);rintro a w5 ⟨A5,n5,m5,rfl,hcp5,hB5,hb5⟩;obtain⟨f,h⟩:=gU hb5;skip;have l:w.heap.size<w5.heap.size:=(gC hb4.size hb5.size);have n:w.heap.size+1<w5.heap.size:=(gC hb4.size hb5.size))))
  go_wp2;have a:¬(p.heap.size<=w.heap.size+1):=O;have f:=hb3.size;have f:=hb4.size;have f:=hb5.size;have f:=o.size;have f:bj w.heap.size w w5:=((o.trans (hb3.mono O)).trans (hb4.mono O)).trans (hb5.mono O);have h:=((hB3.ext hb4).ext hb5).mono (q:=(p.heap.size<=·)) (fun l _ n=>n);have l:=(hB4.mono (q:=(p.heap.size<=·)) (fun n _ o=>by omega)).ext hb5;have n:=hB5.mono (q:=(p.heap.size<=·)) (fun o _ q=>by omega);clear a4 c e g i ar ax ay aV;refine dY (v:=fE #[aG #[J E b,J E d,af A3 n3 m3,af A4 n4 m4,af A5 n5 m5],J E 0]) (by simp only[Ih,RM];go_simp) rfl ⟨_,rfl,eH.mk hcp3 hcp4 hcp5,⟨A3,n3,m3,A4,n4,m4,A5,n5,m5,rfl,?_,?_,?_⟩,?_⟩
  ·refine du.mono (p:=(p.heap.size<=·)) ?_ (fun b _ c=>by omega)
   repeat refine du.setCell ?_ a _
   exact h
  ·refine du.mono (p:=(p.heap.size<=·)) ?_ (fun b _ c=>by omega)
   repeat refine du.setCell ?_ a _
   exact l
  ·refine du.mono (p:=(p.heap.size<=·)) ?_ (fun b _ c=>by omega)
   repeat refine du.setCell ?_ a _
   exact n
  ·repeat refine iu ?_ (by first|(simp;done)|(simp;omega)) _
   exact f
def mP{a}(b c d e)(f:dF a e b c)(g:eH b):
  aT aE 118 #[b,J E d] e (nk e (pE c d)):=by
 unfold pE
 by_cases h:pH c d
 ·rw[if_pos h]
  let ⟨i,l,n,o,p⟩:=c;let ⟨q,r,s⟩:=h;obtain⟨t,u,rfl,rfl,v,w,x,y,z,H,U⟩:=Lq q r;obtain⟨V,rfl⟩:∃W:Nat,d=(W:Int):=⟨d.toNat,by omega⟩;rw[Int.toNat_natCast,Nn];exact Dg b t u V n o p e f g q O v w x y z H U
 ·rw[if_neg h]
  exact EK b c d e f h
def cq(a b c:FV):Array aq:=#[J E a.W,J E a.H,af a.ya a.yn a.yc,af a.ua a.un a.uc,af a.va a.vn a.vc,J E b.W,J E b.H,af b.ya b.yn b.yc,af b.ua b.un b.uc,af b.va b.vn b.vc,J E c.W,J E c.H,af c.ya c.yn c.yc,af c.ua c.un c.uc,af c.va c.vn c.vc]
structure JK(g:T)(h:Nat)(a:je)(b c d e:FV)(f:Fr)(i:T):Prop where
 b0:Bx i h 283 #[J E a.ty,J E a.st,ao a.B,ao a.sec]
 Q:Bx i (h+1) 158 (cq b c d)
 b2:Bx i (h+1+1) 63 aC.cells
 fx:Fv i e f
 F:bj h g i
def JK.ext{a b c d e f g h i l}(n:JK a d e f g h i l b)(o:bD b c):JK a d e f g h i l c:=
 ⟨n.b0.ext o,n.Q.ext o,n.b2.ext o,n.fx.ext o,n.F.trans (o.mono (M5 n.b0.lt))⟩
instance {w w' x0 x1 x2 x3 x4 x5 x6 x7}:Tr w w' (JK x0 x1 x2 x3 x4 x5 x6 x7 w) (JK x0 x1 x2 x3 x4 x5 x6 x7 w'):=⟨fun hb h=>JK.ext h hb⟩
def kK:(aE.info? 158).map (·.size)=M 15:=dK
def X9(g:je)(b:g.A)(o h i:FV)(l:Fr)(a:g.st=3)(f:Int)(n:T)(c:Fv n o l)(d:jl l=aB)(e:l.W≠0):
  aT aE 238 #[g.v,aG (cq o h i),J E 0,J E f] n (kM n l):=by
 obtain⟨p,q,r,s⟩:=dq (fun t=>jm g b t) (fun u=>wL g u) (fun v=>xz g v) (fun w (x:Fv w o l)=>om _ l w x.1);rw[d] at s;have t:(o.W==0)=av:=by rw[c.wh.1];simpa using e
 have u:=aH (b.wh a);have v:im g=av:=by simp[im,a]
 rw[v] at q;clear v a;let ⟨a,v⟩:=aX n.heap.size;have w:=aH v;let ⟨x,y⟩:=aX (((n.alloc (az #[J E g.ty,J E g.st,ao g.B,ao g.sec] 283)).alloc (az (cq o h i) 158)).alloc (az aC.cells 63))
 have z:=aH (show JK n a g o h i o l x by
  have H:bj n.heap.size n x:=by rw[y];exact((jd).alloc dS _).alloc eB _
  refine⟨?_,?_,?_,c.ext H,by rw[v];exact H⟩
  ·rw[y,v];exact((jR _ _ _).alloc _).alloc _
  ·rw[y,v];exact(Bx.D _ _ _ _ dS).alloc _
  ·rw[y,v];exact Bx.D _ _ _ _ dS)
 clear c b d e;unfold je.v cq at*;go_enter func238,Z7;go_upto_region 1 with fail;rw[show#[J E 0,J E 0,af S 0 0,af S 0 0,af S 0 0]=aC.cells from rfl] at*;rw[<-y,<-v];clear y v;let ⟨b,c,d,e⟩:=z.o.b0.iE;go_wp2_with fail;refine mR (p.o _) fun f r=>?_
 have f:=mX r z;clear b c d e;let ⟨b,c,d,e⟩:=f.o.b0.iE;go_wp2_with fail;refine mR (q.o _) fun p r=>?_
 have p:=mX r f;clear b c d e;let ⟨b,c,d,e⟩:=p.o.b0.iE;go_upto_region 3 with fail;clear b c d e;refine aL 8 (fun b=>JK n a g o h i o l b) rfl (fun c d=>?_);have b:=mX d p;have c:=aH p.o;clear d;refine gN 0 3 5 ?_;simp only[ln,eo,cZ,dP,ak,iU,nX,mo];go_big_quiet_step (fail);refine lR c 63 36 (a+1) 0 5 o.cells (fun _ d=>⟨_,_,d.Q,rfl,show 0+5<=15 by decide⟩) db bM ?_;refine lR c 283 4 a 0 4 #[J E g.ty,J E g.st,ao g.B,ao g.sec] (fun _ d=>qg d.b0 rfl) Bi mU ?_;refine aN (Ax 3 4 c.o ?_);simp only[sZ,ak];refine bO rfl 236 #[aG #[J E g.ty,J E g.st,ao g.B,ao g.sec]] (ao av) (fun c=>by kernel_rfl) (fun d e=>q.o d) ?_;refine gN 4 1 3 ?_;simp only[sZ,ak];go_big_quiet_step (fail);refine aN (fK 5 2 b fun c d=>?_);simp only[sZ,ak];have e:=mX d b;clear d;go_wp2_with fail;let ⟨b,d⟩:=aX c.heap.size;let ⟨f,p⟩:=aX (c.alloc (az aC.cells 63));obtain⟨c,q,r⟩:=bh (show JK n a g o h i o l f by rw[p];exact e.o.ext (jd)) (show Bx f b 63 aC.cells by rw[p,d];exact jR _ _ _) (show a+1+1<b by rw[d];exact e.o.b2.lt);refine tf p ?_;rw[<-d];clear p d;refine fK 6 1 c fun d e=>?_
 simp only[sZ,ak];let ⟨f,p⟩:=di e c q;clear e;refine bI rfl (aI 10) (aI 37) rfl b o rfl rfl p.o rfl ?_;obtain⟨c,e⟩:=aQ (show JK n a g o h i o l (d.setRow b o.cells) from⟨f.o.b0.m (dU r.o),f.o.Q.m (dU r.o),f.o.b2.m (dU r.o),f.o.fx.row p.o (iq _) _,aO f.o.F (dU r.o)⟩) (p.o.row o.cells);refine mn ⟨rfl,mq 7 1 0 rfl dK rfl dK dK ?_⟩;simp only[sZ,ak];go_big_quiet_step (fail);refine aN (me dK (fun _ b d=>c.o.ext d) (fun f g=>?_));let ⟨b,d⟩:=di g c e;clear g;let ⟨c,e,f,g⟩:=b.o.b0.iE;let ⟨⟨h,i,l,n,p⟩,_,_⟩:=d.o.rQ;rw[u.o] at g;go_upto_region 10 with fail;go_wp2_with fail;refine mR (s.o _ b.o.fx) fun q r=>?_
 let ⟨q,s⟩:=di r b d;clear h i l n p c e f g;let ⟨⟨b,c,d,e,f⟩,_,_⟩:=s.o.rQ;go_wp2_with ((refine bI rfl (aI 8) (aI 81) rfl (a+1+1) o rfl rfl q.o.b2 rfl ?_))
 exact dY (dT Gs _ _ (a+1+1) _ _ _ rfl rfl (q.o.b2.row _) rfl db bM) rfl
  ⟨o,rfl,q.o.fx.row q.o.b2 (iq _) _,by rw[<-w.o];exact aO q.o.F O⟩
def Xa(n:je)(e:n.A)(o p s:FV)(q:Fr)(a:n.st≠3)(b:n.sec=aB)(c:n.ty=2)(i:Int)(l:i=0\/i=1)(d:i≠tG n)(r:T)(f:Fv r s q)(g:jl q=aB)(h:q.W≠0):
  aT aE 238 #[n.v,aG (cq o p s),J E 0,J E i] r (kM r q):=by
 obtain⟨t,u,v,w⟩:=dq (fun x=>jm n e x) (fun y=>wL n y) (fun z=>xz n z) (fun H (U:Fv H s q)=>om _ q H U.1);rw[g] at w;have x:(s.W==0)=av:=by rw[f.wh.1];simpa using h
 have y:im n=aB:=by simpa[im] using a
 rw[y] at u;have z:(i !=tG n)=aB:=by simpa using d
 let ⟨H,U⟩:=aQ b c;clear y d a b c;let ⟨a,b⟩:=aX r.heap.size;have c:=aH b;let ⟨d,y⟩:=aX (((r.alloc (az #[J E n.ty,J E n.st,ao n.B,ao n.sec] 283)).alloc (az (cq o p s) 158)).alloc (az aC.cells 63))
 have V:=aH (show JK r a n o p s s q d by
  have W:bj r.heap.size r d:=by rw[y];exact((jd).alloc dS _).alloc eB _
  refine⟨?_,?_,?_,f.ext W,by rw[b];exact W⟩
  ·rw[y,b];exact((jR _ _ _).alloc _).alloc _
  ·rw[y,b];exact(Bx.D _ _ _ _ dS).alloc _
  ·rw[y,b];exact Bx.D _ _ _ _ dS)
 clear f e g h;unfold je.v cq at*;go_enter func238,Z7;go_upto_region 1 with fail;rw[show#[J E 0,J E 0,af S 0 0,af S 0 0,af S 0 0]=aC.cells from rfl] at*;rw[<-y,<-b];clear y b;let ⟨b,d,e,f⟩:=V.o.b0.iE;go_wp2_with fail;refine mR (t.o _) fun g h=>?_
 have g:=mX h V;clear b d e f;let ⟨b,d,e,f⟩:=g.o.b0.iE;go_wp2_with fail;refine mR (u.o _) fun h i=>?_
 have h:=mX i g;clear b d e f;let ⟨b,d,e,f⟩:=h.o.b0.iE;rcases l with rfl|rfl
 all_goals
  go_upto_region 3 with fail;clear b d e f;refine aL 8 (fun b=>JK r a n o p s s q b) rfl (fun d e=>?_);have b:=mX e h;have d:=aH h.o;clear e;refine gN 0 3 5 ?_;simp only[ln,eo,cZ,dP,ak,iU,nX,mo];go_big_quiet_step (fail);refine lR d 63 36 (a+1) 0 5 o.cells (fun _ e=>⟨_,_,e.Q,rfl,show 0+5<=15 by decide⟩) db bM ?_;refine lR d 283 4 a 0 4 #[J E n.ty,J E n.st,ao n.B,ao n.sec] (fun _ e=>qg e.b0 rfl) Bi mU ?_;refine aN (Ax 3 4 d.o ?_);simp only[sZ,ak];refine bO rfl 236 #[aG #[J E n.ty,J E n.st,ao n.B,ao n.sec]] (ao aB) (fun d=>by kernel_rfl) (fun e f=>u.o e) ?_;refine gN 4 1 3 ?_;simp only[sZ,ak];go_big_quiet_step (fail);refine aN (fK 5 2 b fun d e=>?_);simp only[sZ,ak];have f:=mX e b;clear e;go_wp2_with fail;let ⟨b,e⟩:=aX d.heap.size;let ⟨g,h⟩:=aX (d.alloc (az aC.cells 63));obtain⟨d,i,l⟩:=bh (show JK r a n o p s s q g by rw[h];exact f.o.ext (jd)) (show Bx g b 63 aC.cells by rw[h,e];exact jR _ _ _) (show a+1+1<b by rw[e];exact f.o.b2.lt);refine tf h ?_;rw[<-e];clear h e;refine fK 6 1 d fun e f=>?_
  simp only[sZ,ak];let ⟨g,h⟩:=di f d i;clear f;refine bI rfl (aI 10) (aI 37) rfl b o rfl rfl h.o rfl ?_;obtain⟨d,f⟩:=aQ (show JK r a n o p s s q (e.setRow b o.cells) from⟨g.o.b0.m (dU l.o),g.o.Q.m (dU l.o),g.o.b2.m (dU l.o),g.o.fx.row h.o (iq _) _,aO g.o.F (dU l.o)⟩) (h.o.row o.cells);refine mn ⟨rfl,mq 7 1 0 rfl dK rfl dK dK ?_⟩;simp only[sZ,ak];go_big_quiet_step (fail);refine aN (me dK (fun _ e g=>d.o.ext g) (fun h i=>?_));let ⟨e,g⟩:=di i d f;clear i;let ⟨d,f,h,i⟩:=e.o.b0.iE;let ⟨⟨t,u,x,y,z⟩,_,_⟩:=g.o.rQ;rw[H.o] at i;rw[U.o] at d;have V:=v.o;simp only[H.o,U.o] at V;go_upto_region 6 with fail;go_wp2_with fail;refine mR (V _) fun v H=>?_
  let ⟨U,V⟩:=di H e g;clear t u x y z d f h i;let ⟨d,e,f,g,h⟩:(v.cell? ⟨a+1,10,S⟩=M (J E s.W))/\(v.cell? ⟨a+1,11,S⟩=M (J E s.H))/\(v.cell? ⟨a+1,12,S⟩=M (.slice s.ya s.yn s.yc))/\(v.cell? ⟨a+1,13,S⟩=M (.slice s.ua s.un s.uc))/\(v.cell? ⟨a+1,14,S⟩=M (.slice s.va s.vn s.vc)):=⟨U.o.Q.cell 10 rfl,U.o.Q.cell 11 rfl,U.o.Q.cell 12 rfl,U.o.Q.cell 13 rfl,U.o.Q.cell 14 rfl⟩;go_upto_region 8 with(refine bI rfl (aI 10) (aI 61) rfl b s rfl rfl V.o rfl ?_);obtain⟨i,t⟩:=aQ (show JK r a n o p s s q (v.setRow b s.cells) from⟨U.o.b0.m (dU l.o),U.o.Q.m (dU l.o),U.o.b2.m (dU l.o),U.o.fx.row V.o (iq _) _,aO U.o.F (dU l.o)⟩) (V.o.row s.cells);let ⟨l,n⟩:=aX (v.setRow b s.cells);rw[<-n] at i t ⊢;clear n d e f g h;let ⟨⟨b,d,e,f,g⟩,_,_⟩:=t.o.rQ;let ⟨h,l,n,o⟩:=i.o.b0.iE;go_wp2_with fail;refine mR (w.o _ i.o.fx) fun p q=>?_
  let ⟨p,r⟩:=di q i t;clear b d e f g h l n o;let ⟨⟨b,d,e,f,g⟩,_,_⟩:=r.o.rQ;go_wp2_with ((refine bI rfl (aI 8) (aI 81) rfl (a+1+1) s rfl rfl p.o.b2 rfl ?_))
  exact dY (dT Gs _ _ (a+1+1) _ _ _ rfl rfl (p.o.b2.row _) rfl db bM) rfl
   ⟨s,rfl,p.o.fx.row p.o.b2 (iq _) _,by rw[<-c.o];exact aO p.o.F O⟩
def Xb(r:je)(d:r.A)(l n o:FV)(p:Fr)(b:r.st≠3)(h:Int)(i:h=0\/h=1)(c:r.sec=aB->r.ty=2->h=tG r)(a:p.H%32=0)(q:T)(e:Fv q l p)(f:jl p=aB)(g:p.W≠0):
  aT aE 238 #[r.v,aG (cq l n o),J E 0,J E h] q (kM q (fw p h.toNat)):=by
 obtain⟨s,t,u,v⟩:=dq (fun w=>jm r d w) (fun x=>wL r x) (fun y=>xz r y) (fun z (H:Fv z l p)=>om _ p z H.1);rw[f] at v;have w:=aH (fun x (y:Fv x l p)=>mP _ p h x y.1 y.2)
 have x:pH p h:=by
  unfold jl at f;simp only[bT,decide_eq_true_eq] at f;exact⟨f.1.1,by omega,i⟩
 rw[show pE p h=(fw p h.toNat,0) by unfold pE;rw[if_pos x]] at w
 have y:0<=p.H:=by
  unfold jl bQ ng at f;simp only[bT,decide_eq_true_eq] at f;omega
 have z:p.H.tmod 32=0:=by rw[iG y];exact a
 clear x y a;have a:(l.W==0)=av:=by rw[e.wh.1];simpa using g
 have x:=e.wh.2;rw[<-x] at z;clear x;have x:im r=aB:=by simpa[im] using b
 rw[x] at t;clear x b;have b:r.sec=aB->r.ty=2->(h !=tG r)=av:=fun x y=>by simpa using c x y
 clear c;let ⟨c,x⟩:=aX q.heap.size;have y:=aH x;let ⟨H,U⟩:=aX (((q.alloc (az #[J E r.ty,J E r.st,ao r.B,ao r.sec] 283)).alloc (az (cq l n o) 158)).alloc (az aC.cells 63))
 have V:=aH (show JK q c r l n o l p H by
  have W:bj q.heap.size q H:=by rw[U];exact((jd).alloc dS _).alloc eB _
  refine⟨?_,?_,?_,e.ext W,by rw[x];exact W⟩
  ·rw[U,x];exact((jR _ _ _).alloc _).alloc _
  ·rw[U,x];exact(Bx.D _ _ _ _ dS).alloc _
  ·rw[U,x];exact Bx.D _ _ _ _ dS)
 clear e d f g;unfold je.v cq at*;go_enter func238,Z7;go_upto_region 1 with fail;rw[show#[J E 0,J E 0,af S 0 0,af S 0 0,af S 0 0]=aC.cells from rfl] at*;rw[<-U,<-x];clear U x;let ⟨c0,c1,c2,c3⟩:=V.o.b0.iE;go_wp2_with fail;refine mR (s.o _) fun a d=>?_
 have a:=mX d V;clear c0 c1 c2 c3;let ⟨c0,c1,c2,c3⟩:=a.o.b0.iE;go_wp2_with fail;refine mR (t.o _) fun d e=>?_
 have d:=mX e a;clear c0 c1 c2 c3;let ⟨c0,c1,c2,c3⟩:=d.o.b0.iE;rcases i with rfl|rfl
 all_goals
  go_upto_region 3 with fail;clear c0 c1 c2 c3;refine aL 8 (fun a=>JK q c r l n o l p a) rfl (fun e f=>?_);have a:=mX f d;have e:=aH d.o;clear f;refine gN 0 3 5 ?_;simp only[ln,eo,cZ,dP,ak,iU,nX,mo];go_big_quiet_step (fail);refine lR e 63 36 (c+1) 0 5 l.cells (fun _ d=>⟨_,_,d.Q,rfl,show 0+5<=15 by decide⟩) db bM ?_;refine lR e 283 4 c 0 4 #[J E r.ty,J E r.st,ao r.B,ao r.sec] (fun _ d=>qg d.b0 rfl) Bi mU ?_;refine aN (Ax 3 4 e.o ?_);simp only[sZ,ak];refine bO rfl 236 #[aG #[J E r.ty,J E r.st,ao r.B,ao r.sec]] (ao aB) (fun d=>by kernel_rfl) (fun e f=>t.o e) ?_;refine gN 4 1 3 ?_;simp only[sZ,ak];go_big_quiet_step (fail);refine aN (fK 5 2 a fun d e=>?_);simp only[sZ,ak];have f:=mX e a;clear e;go_wp2_with fail;let ⟨a,e⟩:=aX d.heap.size;let ⟨g,h⟩:=aX (d.alloc (az aC.cells 63));obtain⟨d,i,s⟩:=bh (show JK q c r l n o l p g by rw[h];exact f.o.ext (jd)) (show Bx g a 63 aC.cells by rw[h,e];exact jR _ _ _) (show c+1+1<a by rw[e];exact f.o.b2.lt);refine tf h ?_;rw[<-e];clear h e;refine fK 6 1 d fun e f=>?_
  simp only[sZ,ak];let ⟨g,h⟩:=di f d i;clear f;refine bI rfl (aI 10) (aI 37) rfl a l rfl rfl h.o rfl ?_;obtain⟨d,f⟩:=aQ (show JK q c r l n o l p (e.setRow a l.cells) from⟨g.o.b0.m (dU s.o),g.o.Q.m (dU s.o),g.o.b2.m (dU s.o),g.o.fx.row h.o (iq _) _,aO g.o.F (dU s.o)⟩) (h.o.row l.cells);refine mn ⟨rfl,mq 7 1 0 rfl dK rfl dK dK ?_⟩;simp only[sZ,ak];go_big_quiet_step (fail);refine aN (me dK (fun _ a e=>d.o.ext e) (fun g h=>?_));let ⟨a,e⟩:=di h d f;clear h;let ⟨c0,c1,c2,c3⟩:=a.o.b0.iE;let ⟨⟨x0,x1,x2,x3,x4⟩,_,_⟩:=e.o.rQ;cases hsec:r.sec with
  |false=>
   rw[hsec] at c3;have HSy:=aH a.o;have HBy:=aH e.o;go_upto_region 10 with fail;go_wp2_with fail;refine mR (v.o _ HSy.o.fx) fun d f=>?_
   let ⟨d,g⟩:=di f HSy HBy;clear x0 x1 x2 x3 x4 c0 c1 c2 c3;let ⟨⟨x0,x1,x2,x3,x4⟩,_,_⟩:=g.o.rQ;go_wp2_with fail;refine(w.o _ d.o.fx).mono ?_;intro f g h;obtain⟨f,rfl,g,i⟩:=h.fx;have l:=mX i d;have d:=aH g;clear h g x0 x1 x2 x3 x4;go_wp2_with ((refine bI rfl (aI 8) (aI 85) rfl (c+1+1) f rfl rfl l.o.b2 rfl ?_))
   exact dY (dT Gs _ _ (c+1+1) _ _ _ rfl rfl (l.o.b2.row _) rfl db bM) rfl
    ⟨f,rfl,d.o.row l.o.b2 (iq _) _,by rw[<-y.o];exact aO l.o.F O⟩
  |true=>
   rw[hsec] at c3
   by_cases d:r.ty=2
   case' pos=>
    have f:=b hsec d;rw[d] at c0;have b:=u.o;simp only[hsec,d] at b;go_upto_region 6 with fail;go_wp2_with fail;refine mR (b _) fun f g=>?_
    let ⟨HSy,HBy⟩:=di g a e;clear x0 x1 x2 x3 x4 c0 c1 c2 c3;let ⟨⟨x0,x1,x2,x3,x4⟩,_,_⟩:=HBy.o.rQ;let ⟨c0,c1,c2,c3⟩:=HSy.o.b0.iE
   case' neg=>
    have b:(r.ty==2)=av:=by simpa using d
    have HSy:=aH a.o;have HBy:=aH e.o
   all_goals
    go_upto_region 10 with fail;go_wp2_with fail;refine mR (v.o _ HSy.o.fx) fun a b=>?_
    let ⟨a,d⟩:=di b HSy HBy;clear x0 x1 x2 x3 x4 c0 c1 c2 c3;let ⟨⟨x0,x1,x2,x3,x4⟩,_,_⟩:=d.o.rQ;go_wp2_with fail;refine(w.o _ a.o.fx).mono ?_;intro b d e;obtain⟨b,rfl,d,f⟩:=e.fx;have g:=mX f a;have a:=aH d;clear e d x0 x1 x2 x3 x4;go_wp2_with ((refine bI rfl (aI 8) (aI 85) rfl (c+1+1) b rfl rfl g.o.b2 rfl ?_))
    exact dY (dT Gs _ _ (c+1+1) _ _ _ rfl rfl (g.o.b2.row _) rfl db bM) rfl
     ⟨b,rfl,a.o.row g.o.b2 (iq _) _,by rw[<-y.o];exact aO g.o.F O⟩
section
attribute [local go_sem ↓] tR xV
def Cc(a:Fr)(b c d:Int)(e:Bool):List Int×Int:=if AO a b c d then(kT a b.toNat c.toNat d.toNat e,0) else(zeros64,1)
def vX{a}(b c d e f g h)(i:dF a h b c)(l:eH b):
  aT aE 233 #[b,J E d,J E e,J E f,ao g] h (Ro h (Cc c d e f g)):=by
 unfold Cc
 by_cases n:AO c d e f
 ·rw[if_pos n]
  obtain⟨o,p,q⟩:=n;obtain⟨r,s,t,rfl,rfl,u,v⟩:=Le o;obtain⟨w,rfl⟩:∃x:Nat,f=(x:Int):=⟨f.toNat,by omega⟩;obtain⟨x,y,z,H,U,V,W,Y,a0,a1,a2⟩:=vO r;exact Dh b c s t w x y g h i l o O z V O Y O a0 a1 a2
 ·rw[if_neg n]
  exact EM b c d e f g h i n
end
section
def UL(a b:List Int)(c:Nat):Int:=E.wrap (cM a c+cM (yj b) c)
def NG(a b:List Int):List Int:=(dI 64).map (UL a b)
def Yn(m:Mb)(mat:List Int)(a:Int)(b:Bool)(c:Nat):List Int:=vg (Nj (sP 64 m.I c) b) mat a
def rP(m:Mb)(mat:List Int)(a:Int)(b:Bool)(f:Fr):Nat->Fr
 |0=>f
 |c+1=>if m.P.getD c av=aB then uw (rP m mat a b f c) 0 0 c m.fd (NG (kT (rP m mat a b f c) 0 0 c m.fd) (Yn m mat a b c)) else rP m mat a b f c
structure ox(f:Fr):Prop where
 W:f.W=16
 H:f.H=16
 Y:f.Y.length=256
 U:f.U.length=64
 V:f.V.length=64
def ox.has{f}(a:ox f):oP f 0 0=aB:=by
 let ⟨b,c,d,e,g⟩:=f;let ⟨h,i,l,n,o⟩:=a;dsimp only at*;subst h i;simp[oP,jl,bQ,ng,l,n,o]
def ox.set{f}(c:ox f)(a b x):ox (uw f 0 0 a b x):=by
 let ⟨a,b,d,e,g⟩:=c;unfold uw uu jq;split
 ·refine⟨a,b,d,?_,g⟩
  dsimp only;rw[tw];exact e
 ·split
  ·refine⟨a,b,d,e,?_⟩
   dsimp only;rw[tw];exact g
  ·refine⟨a,b,?_,e,g⟩
   dsimp only;rw[tw];exact d
def AT{m mat q alt f}(a:ox f):∀b,ox (rP m mat q alt f b)
 |0=>a
 |b+1=>by
  unfold rP;split
  ·exact(AT a b).set _ _ _
  ·exact AT a b
def XV{l}(a:l.length=64)(c:∀x∈l,-4095<=x/\x<=4095)(b):∀d,d<64->-4095<=cM (Nj l b) d/\cM (Nj l b) d<=4095:=by
 intro a d;unfold Nj Me cM;rw[jr,bN,jo d];simp only[bX,vl];split
 ·by_cases d:Fc b a<l.length
  ·rw[jr,aA d];exact c _ (qG _)
  ·rw[jr,List.getElem?_eq_none O];simp
 ·simp
def sS(a b:List Int)(c:Nat):List Int:=(dI c).map (UL a b)++a.drop c
def Yv{a b}(c:a.length=64){d}(e:d<64):(sS a b d)[d]?=M (cM a d):=by
 unfold sS;rw[aU dS,iZ];simp only[cX,qD,oC,Ck];exact eh O
def UJ{a b}(c:a.length=64){d}(e:d<64):(sS a b d).set d (UL a b d)=sS a b (d+1):=by
 unfold sS;rw[jT _ _ dS,Cn,fY,aW];congr 1;simp only[cX,qD,oC];rw[nD O];rfl
structure E8(w0:T)(g gm:Nat)(m:Mb)(mat:List Int)(x:FV)(f:Fr)(w:T):Prop where
 b5:Bx w g 63 x.cells
 b7:Bn .u8 w 24 (g+1) mat
 GV:Bx w (g+1+1) 63 aC.cells
 mx:Mx w gm m
 fx:Fv w x f
 F:bj g w0 w
 gl:fD w
 lt:gm<g
section
variable {w0 w w':T} {g gm:Nat} {m:Mb} {mat:List Int} {x:FV} {f:Fr}
def E8.ext(a:E8 w0 g gm m mat x f w)(b:bD w w'):E8 w0 g gm m mat x f w':=
 ⟨a.b5.ext b,a.b7.ext b,a.GV.ext b,a.mx.ext b,a.fx.ext b,a.F.trans (b.mono (M5 a.b5.lt)),a.gl.ext b,a.lt⟩
instance {w w' x0 x1 x2 x3 x4 x5 x6}:Tr w w' (E8 x0 x1 x2 x3 x4 x5 x6 w) (E8 x0 x1 x2 x3 x4 x5 x6 w'):=⟨fun hb h=>E8.ext h hb⟩
def E8.rowN(h:E8 w0 g gm m mat x f w){e}(a:g+1+1<e)(b:2<=g){d c}(i:Bn E w c e d)(l):E8 w0 g gm m mat x f (w.setRow e l):=by
 have a:(aS E d).all oV=aB:=by
  rw[bG];intro b c;simp only[aS,vD,iy] at c;obtain⟨b,_,rfl⟩:=c;rfl
 have b:=h.lt;have b:bj (g+1+1+1) w (w.setRow e l):=aO (aM _ _) O;exact⟨h.b5.m O,h.b7.m O,h.GV.m O,⟨h.mx.j.m O,h.mx.ok⟩,h.fx.row i a l,aO h.F O,h.gl.below b O,h.lt⟩
end
def T0(a):(aS E a).all oV=aB:=by
 rw[bG];intro a b;simp only[aS,vD,iy] at b;obtain⟨a,_,rfl⟩:=b;rfl
def E8.Afc{w0 w g gm m mat x f}(d:E8 w0 g gm m mat x f w){e}(a:g+1+1<e)(b:2<=g){h c}(i:Bn E w c e h)(l n):E8 w0 g gm m mat x f (w.setCell ⟨e,l,S⟩ n):=by
 have a:=d.lt;have a:bj (g+1+1+1) w (w.setCell ⟨e,l,S⟩ n):=(aM _ _).setCell (p:=⟨e,l,S⟩) (by show g+1+1+1<=e;omega) _;have b:∀c,c<e->(w.setCell ⟨e,l,S⟩ n).heap[c]?=w.heap[c]?:=fun o p=>Below.heap_setCell _ _ _ _ (by show o≠e;omega)
 exact⟨(b _ O).trans d.b5,(b _ O).trans d.b7,(b _ O).trans d.GV,⟨(b _ O).trans d.mx.j,d.mx.ok⟩,d.fx.cell i (T0 h) l n,d.F.setCell (p:=⟨e,l,S⟩) (by show g<=e;omega) _,d.gl.below a O,d.lt⟩
def N8(gm:Nat)(m:Mb)(mat:List Int)(n:Int)(o:Bool)(x:FV)(f:Fr)(w:T)(a:Fv w x f)(b:ox f)(c:Mx w gm m)(d:E6 m)(e:Mh mat)(h:1<=n)(i:n<=31)(l:fD w):
  aT aE 202 #[x.val,aD (M ⟨gm,0,S⟩),aG (aS .u8 mat),J E n,ao o] w (kM w (rP m mat n o f 6)):=by
 obtain⟨p,q,r⟩:=bh (show m.I.length=384 from c.ok.I) (show m.P.length=6 from c.ok.P) (fun s=>AT (m:=m) (mat:=mat) (q:=n) (alt:=o) b s);obtain⟨s,t⟩:=aQ (fun u (v:u<6) w (y:fD w)=>EE (sP 64 m.I u) (sa (iJ p.o)) o w y) (fun z (H:z<6)=>XV (l:=sP 64 m.I z) (sa (iJ p.o)) (fun x U=>d x (xw U)) o);obtain⟨u,v,y⟩:=bh (fun z (H:z<6) w=>BF (Nj (sP 64 m.I z) o) mat n (by simp[Nj,Me]) (t.o z H) e h i w) (show mat.length=64 from e.1) (show(aE.info? 24).map (·.size)=M mat.length by rw[e.1];exact xU);let ⟨g,z⟩:=aX w.heap.size;have H:=aH z;let ⟨U,V⟩:=aX (((w.alloc (az x.cells 63)).alloc (az (aS .u8 mat) 24)).alloc (az aC.cells 63))
 have W:=aH (show E8 w g gm m mat x f U by
  have Y:bj w.heap.size w U:=by rw[V];exact((jd).alloc dS _).alloc eB _
  refine⟨?_,?_,?_,c.ext Y,a.ext Y,by rw[z];exact Y,l.ext Y,by rw[z];exact c.lt⟩
  ·rw[V,z];exact((jR _ _ _).alloc _).alloc _
  ·rw[V,z];exact(Bn.D _ _ _ _ _ dS).alloc _
  ·rw[V,z];exact Bx.D _ _ _ _ dS)
 have Y:=aH (show 2<=g by rw[z];exact l.lt);clear a b c d e h i l t;go_enter func202,ntmps202;go_upto_region 1 with fail;refine mr V ?_;rw[<-z];clear V z;go_wp2_with ((refine pf dW (aI 21) rfl rfl W.o.mx ?_))
 go_loopw [23] (fun a wr=>mD 6 (fun b wr=>∃x,E8 w g gm m mat x (rP m mat n o f b) wr) a wr) (fun c _=>6-(intOf c).toNat)
 case atStart=>exact⟨0,by omega,rfl,_,W.o⟩
 case round=>
  obtain⟨a,b,rfl,c,d⟩:=hrel;have e:=aH d;clear d W
  by_cases d:a<6
  ·have h:m.P[a]?=M (m.P[a]'(iJ q.o)):=aA _
   have i:=fun w=>wO q.o h w
   generalize m.P[a]'(iJ q.o)=l at*
   have t:=aH h;clear h;cases l with
   |false=>
    go_wp2;refine⟨⟨a+1,by omega,by go_num,c,?_⟩,by simp[intOf];omega⟩;simpa[rP,t.o] using e.o
   |true=>
    have h:=aH (show rP m mat n o f (a+1)=uw (rP m mat n o f a) 0 0 a m.fd (NG (kT (rP m mat n o f a) 0 0 a m.fd) (Yn m mat n o a)) by simp[rP,t.o]);let ⟨l,z⟩:=aX (rP m mat n o f a);let ⟨V,W⟩:=aX (Yn m mat n o a);have a0:=aH (r.o a);rw[<-z] at e h a0;rw[<-W] at h;obtain⟨a1,a2⟩:=aQ (s.o a d) (u.o a d);rw[show vg (Nj (sP 64 m.I a) o) mat n=V from W.symm] at a2;have a3:=aH (show V.length=64 by rw[W];simp[Yn,vg])
    have a4:=aH (show Cc l 0 0 a m.fd=(kT l 0 0 a m.fd,0) by
     unfold Cc;rw[if_pos ⟨a0.o.has,by omega,by omega⟩];rfl)
    have a5:=aH (fun w (a6:Fv w c l)=>vX _ l 0 0 a m.fd w a6.1 a6.2);rw[a4.o] at a5;let ⟨a6,a7⟩:=aX (kT l 0 0 a m.fd);rw[<-a7] at a5 h;obtain⟨a8,a9⟩:=aQ (show a6.length=64 by rw[a7];exact rB _ _ _ _ _) (fun w=>MF V a3.o w);clear z W a7 a4;go_upto_region 5 with fail;refine aL 99 (fun z=>E8 w g gm m mat c l z) rfl (fun W a4=>?_);have z:=mX a4 e;have a7:=aH e.o;clear a4;refine gN 0 7 10 ?_;simp only[sZ,ak];iterate 5 (go_big_quiet_step (fail))
    refine lR a7 277 34 gm (24+a*64) 64 (aS E (sP 64 m.I a)) (fun _ a4=>⟨_,_,a4.mx.j,by have:=Mb.eL a7.o.mx.ok d;rw[show 24+a*64=24+64*a by omega];exact this,by rw[da a7.o.mx.ok];omega⟩) ji gP ?_;simp only[sZ,ak];go_big_quiet_step (fail);refine aN (Ax 7 9 a7.o ?_);simp only[sZ,ak];refine bO rfl 232 #[aG (aS E (sP 64 m.I a)),ao o] (aG (aS E (Nj (sP 64 m.I a) o))) (fun a4=>by kernel_rfl) (fun aa ab=>a1.o aa ab.gl) ?_;refine gN 8 2 7 ?_;simp only[sZ,ak];refine lR a7 24 7 (g+1) (0) 64 (aS .u8 mat) (fun _ a4=>⟨_,_,a4.b7,by have aa:=y.o;exact ij _ (eZ bE v.o),by rw[bE,v.o];exact aw _⟩) underlying24 iz ?_;simp only[sZ,ak];go_big_quiet_step (fail);refine aN (Ax 10 6 a7.o ?_);simp only[sZ,ak];refine bO rfl 231 #[aG (aS E (Nj (sP 64 m.I a) o)),aG (aS .u8 mat),J E n] (fE #[aG (aS E V),J E 0]) (fun a4=>by kernel_rfl) (fun aa ab=>a2.o aa) ?_;refine gN 11 3 3 ?_;simp only[sZ,ak];iterate 3 (go_big_quiet_step (fail))
    refine aN (fK 14 2 z fun a4 aa=>?_);simp only[sZ,ak];have ab:=mX aa z;clear aa;go_wp2_with fail;let ⟨aa,ac⟩:=aX a4.heap.size;let ⟨ad,ae⟩:=aX (a4.alloc (az (aS E zeros64) 277));obtain⟨ag,ah,ai⟩:=bh (show E8 w g gm m mat c l ad by rw[ae];exact ab.o.ext (jd)) (show Bn E ad 277 aa zeros64 by rw[ae];exact Bn.D _ _ _ _ _ ac) (show g+1+1<aa by rw[ac];exact ab.o.GV.lt);refine tf ae ?_;rw[<-ac];clear ae ac;refine fK 15 1 ag fun ac ae=>?_
    simp only[sZ,ak];let ⟨aj,al⟩:=di ae ag ah;clear ae;refine eD rfl (aI 14) (aI 41) rfl aa V rfl rfl al.o rfl a3.o ?_;obtain⟨ae,am⟩:=aQ (aj.o.rowN ai.o Y.o al.o (aS E V)) (al.o.row V);refine mn ⟨rfl,gN 16 1 0 ?_⟩;simp only[sZ,ak];go_big_quiet_step (fail);refine aN (zI ae fun ap ar=>?_);let ⟨ax,ay⟩:=di ar ae am;clear ar ab ag aj ae ah al am;go_upto_region 8 with fail;refine aL 99 (fun ab=>E8 w g gm m mat c l ab) rfl (fun ae ag=>?_);let ⟨ab,ah⟩:=di ag ax ay;have aj:=aH ax.o;clear ag ax ay;refine gN 0 6 7 ?_;simp only[sZ,ak];refine lR aj 63 5 g (0) 5 (au c) (fun _ ag=>⟨_,_,ag.b5,rfl,show 0+5<=5 by decide⟩) db bM ?_;simp only[sZ,ak];iterate 4 (go_big_quiet_step (fail))
    refine lC aj 4 52 gm 4 (ao m.fd) (fun _ ag=>ag.mx.c4) jD ?_;refine aN (Ax 6 6 aj.o ?_);simp only[sZ,ak];refine bO rfl 233 #[c.val,J E 0,J E 0,J E a,ao m.fd] (fE #[aG (aS E a6),J E 0]) (fun ag=>by kernel_rfl) (fun al am=>a5.o al am.fx) ?_;refine gN 7 3 3 ?_;simp only[sZ,ak];iterate 3 (go_big_quiet_step (fail))
    refine aN (fK 10 2 ab fun ag al=>?_);simp only[sZ,ak];have am:=mX al ab;have ar:=al;clear al;go_wp2_with fail;let ⟨al,ax⟩:=aX ag.heap.size;let ⟨ay,aV⟩:=aX (ag.alloc (az (aS E zeros64) 277));obtain⟨b0,b1,b2,b3,b4⟩:=dZ (show E8 w g gm m mat c l ay by rw[aV];exact am.o.ext (jd)) (show Bn E ay 277 al zeros64 by rw[aV];exact Bn.D _ _ _ _ _ ax) (show g+1+1<al by rw[ax];exact am.o.GV.lt) (show Bn E ay 277 aa V by rw[aV];exact(ah.o.ext ar).alloc _) (show aa<al by rw[ax];exact(ah.o.ext ar).lt);clear ar ah;refine tf aV ?_;rw[<-ax];clear aV ax;refine fK 11 1 b0 fun ah ar=>?_
    simp only[sZ,ak];let ⟨ax,aV,b5⟩:=gO ar b0 b1 b3;clear ar;refine eD rfl (aI 16) (aI 55) rfl al a6 rfl rfl aV.o rfl a8.o ?_;obtain⟨ar,b6,b7⟩:=bh (ax.o.rowN b2.o Y.o aV.o (aS E a6)) (aV.o.row a6) (b5.o.m (g':=al) (cs:=aS E a6) (dU b4.o));refine mn ⟨rfl,gN 12 1 0 ?_⟩;simp only[sZ,ak];go_big_quiet_step (fail);refine aN (zI ar fun b8 b9=>?_);let ⟨ba,bb,bc⟩:=gO b9 ar b6 b7;clear b9 am b0 ax ar b1 aV b6;go_upto_region 11 with fail;go_wp2_with ((refine fL rfl (aI 14) rfl aa rfl bc.o a3.o ?_));refine mR (a9.o _) fun am ar=>?_
    have ax:=aH (show E8 w g gm m mat c l am/\Bn E am 277 al (sS a6 V 0) from⟨ba.o.ext ar,by have:=bb.o.ext ar;simpa[sS] using this⟩);clear ar bc bb ba e i;go_wp2
    go_loopw [63] (fun i wr=>mD 64 (fun ar wr=>E8 w g gm m mat c l wr/\Bn E wr 277 al (sS a6 V ar)) i wr) (fun aV _=>64-(intOf aV).toNat)
    case atStart=>exact⟨0,by omega,rfl,ax.o⟩
    case round=>
     obtain⟨i,ar,rfl,aV,b0⟩:=hrel;let ⟨b1,b6⟩:=aQ aV b0;clear aV b0 ax
     by_cases ax:i<64
     ·have aV:=eh (l:=yj V) (k:=i) (by simp[yj];exact ax)
      have b0:=fun w=>pG (show(yj V).length=64 by simp[yj]) aV w
      have b9:=b6.o.cell i;rw[Yv a8.o ax] at b9;simp only[bX] at b9;have ba:=aH (show UL a6 V i=E.wrap (cM a6 i+cM (yj V) i) from rfl);let ⟨bb,bc⟩:=aX (UL a6 V i);have bd:=aH bc;rw[<-bc] at ba;generalize cM a6 i=be at*
      generalize cM (yj V) i=bf at*
      have b:E.wrap (be+bf)=bb:=ba.o.symm;have b:=b6.o.frozen i;have b:=b6.o.lt;clear bc;go_wp2;have b:=b6.o.L i bb;rw[bd.o,UJ a8.o ax,<-bd.o] at b;exact⟨⟨i+1,by omega,by go_num,b1.o.Afc b2.o Y.o b6.o _ _,b⟩,by simp[intOf];omega⟩
     ·obtain rfl:i=64:=O
      have b:=b6.o;rw[show sS a6 V 64=NG a6 V by simp[sS,NG,a8.o]] at b;obtain⟨d,i⟩:=aQ b (show(NG a6 V).length=64 by simp[NG]);let ⟨p,q⟩:=aX (NG a6 V);rw[<-q] at d i h;clear b b6 q;have b:=aH (fun w (q:Fv w c l)=>zd _ l 0 0 a 1 1 m.fd p w q.1 i.o a0.o.has O a0.o.W O O O O a0.o.Y a0.o.U a0.o.V);go_upto_region 16 with fail;refine aL 11 (fun q=>E8 w g gm m mat c l q/\Bn E q 277 al p) rfl (fun r s=>?_);let ⟨q,r⟩:=di s b1 d;have t:=aH (show E8 w g gm m mat c l wr/\Bn E wr 277 al p from⟨b1.o,d.o⟩);clear s b1 d;refine gN 0 7 6 ?_;simp only[sZ,ak];refine lR t 63 5 g (0) 5 (au c) (fun _ d=>⟨_,_,d.1.b5,rfl,show 0+5<=5 by decide⟩) db bM ?_;simp only[sZ,ak];iterate 4 (go_big_quiet_step (fail))
      refine lC t 4 79 gm 4 (ao m.fd) (fun _ d=>d.1.mx.c4) jD ?_;refine lR t 277 16 al (0) 64 (aS E p) (fun _ d=>⟨_,_,d.2,ij _ (eZ bE i.o),by rw[bE,i.o];exact aw _⟩) ji gP ?_;refine aN (oL 7 5 (fun d i=>⟨q.o.ext i,r.o.ext i⟩) fun p s=>?_);simp only[sZ,ak];let ⟨d,i⟩:=di s q r;clear s q r;go_wp2_with fail;refine(b.o _ d.o.fx).mono ?_;intro b p q;obtain⟨b,rfl,p,r⟩:=q.fx;let ⟨s,u⟩:=di r d i;have v:=aH p;clear q p r d i;go_wp2_with fail;refine gT 8 3 2 ?_;refine oL 11 1 (fun d i=>⟨s.o.ext i,u.o.ext i⟩) fun p q=>?_
      simp only[sZ,ak];let ⟨d,i,r⟩:=gO q s u v;clear q s u v;refine bI rfl (aI 5) (aI 83) rfl g b rfl rfl d.o.b5 rfl ?_;have q:=aH (show E8 w g gm m mat c l p from d.o)
      have c:=aH (show E8 w g gm m mat b (rP m mat n o f (a+1)) (p.setRow g b.cells) by
       have l:=d.o.lt;rw[h.o];exact⟨d.o.b5.row _,d.o.b7.m O,d.o.GV.m O,⟨d.o.mx.j.m O,d.o.mx.ok⟩,r.o.row d.o.b5 (iq _) _,aO d.o.F (aw _),d.o.gl.below (aO (aM g _) (aw _)) Y.o,l⟩)
      refine mn ⟨rfl,gT 12 1 0 ?_⟩;refine pX fun h l=>?_
      have h:=mX l c;clear l d c q i r t;go_wp2;exact⟨⟨a+1,by omega,by go_num,b,h.o⟩,by simp[intOf];omega⟩
  ·obtain rfl:a=6:=O
   let ⟨⟨a,b,c,d,h⟩,_,_⟩:=e.o.b5.rQ;go_wp2_with ((refine bI rfl (aI 10) (aI 90) rfl (g+1+1) _ rfl rfl e.o.GV rfl ?_))
   exact dY (dT results202 _ _ (g+1+1) _ _ _ rfl rfl (e.o.GV.row _) rfl db bM) rfl
    ⟨_,rfl,e.o.fx.row e.o.GV (iq _) _,by rw[<-H.o];exact aO e.o.F O⟩
end
section
def Bw(a:Int):Mb:=⟨2,[aB,av],av,av,aF 8 0,[a,0,0,0],0,aF 6 av,aF 384 0⟩
def uo(a):(Bw a).A:=⟨rfl,rfl,rfl,rfl,bp⟩
def We(a:Int):(Bw 0).cells.setIfInBounds 13 (J E a)=(Bw a).cells:=dK
section
variable {ops:Array cQ} {rest:List cQ} {o:cQ} {a:Act} {w:T} {Q:Exit->Act->T->Prop}
def PM(d:bP o (xZ ops a.tmps)=aB)(b c:Gc)(e:o.op=.build 280 #[(0,b),(1,c)])(f:a.eval b=J E 2)(g:a.eval c=aG #[ao aB,ao av])(h:cG aE ops Q rest (a.put o.dst (aG (Bw 0).cells)) w):cG aE ops Q (o::rest) a w:=
 eI d fun _ b=>by
  have c:(fk 280 #[(0,J E 2),(1,aG #[ao aB,ao av])]).run aE w=.ok (aG (Bw 0).cells) w:=dK;unfold Oper.wp VI;simp only[e];simp only[qR,sH,Bh,f,g]
  first
   |(rw[c];exact b _ _ h)
   |(simp only[fT,iT,Result.andThen_ok,c];exact b _ _ h)
def mK(c:o.guard=S)(d e)(f:o.op=.store 280 d e)(g){h b:Mb}(i:h.A)(l:Mx w g b)(n:a.eval d=aD (M ⟨g,0,S⟩))(p:a.eval e=aG h.cells)
  (q:cG aE ops Q rest (a.put o.dst sJ) (w.setRow g h.cells)):cG aE ops Q (o::rest) a w:=
 vA c 280 d e f g _ n p _ _ l.j (eZ (da i) jL) (by rw[da i,da l.ok]) (Mb.one h) q
end
def Mx.row{w a b c}(d:Mx w a b)(e:c.A):Mx (w.setRow a c.cells) a c:=⟨d.j.row _,e⟩
def Mx.C{w a k b}(c:Mx w a b)(d:a≠k)(e):Mx (w.setRow k e) a b:=⟨c.j.m d,c.ok⟩
structure US(c:T)(d:Nat)(a:je)(b:Int)(w:T):Prop where
 Q:Bx w d 283 #[J E a.ty,J E a.st,ao a.B,ao a.sec]
 m2:Mx w (d+1) iA
 m3:Mx w (d+1+1) (Bw b)
 F:bj d c w
def US.ext{a w b c d e}(f:US a c d e w)(g:bD w b):US a c d e b:=⟨f.Q.ext g,f.m2.ext g,f.m3.ext g,f.F.trans (g.mono (M5 f.Q.lt))⟩
instance {w w' x0 x1 x2 x3}:Tr w w' (US x0 x1 x2 x3 w) (US x0 x1 x2 x3 w'):=⟨fun hb h=>US.ext h hb⟩
def Tb(b:je)(a:b.ty=2)(w:T):aT aE 203 #[b.v] w (fh w (aG (Bw (if im b=aB then tG b else 0)).cells)):=by
 obtain⟨c,d⟩:=aQ (fun w=>wL b w) (fun w=>xz b w);let ⟨e,f⟩:=aX w.heap.size;have g:=aH f;let ⟨h,i⟩:=aX ((w.alloc (az #[J E b.ty,J E b.st,ao b.B,ao b.sec] 283)).alloc (az iA.cells 280));obtain⟨l,n,o,p,q⟩:=dZ (show Bx h e 283 #[J E b.ty,J E b.st,ao b.B,ao b.sec] by rw[i,f];exact(jR _ _ _).alloc _) (show Mx h (e+1) iA by rw[i,f];exact Mx.new _ _ fG _ dS) (show h.heap.size=e+1+1 by rw[i,f];simp) (show bj e w h by rw[i,f];exact(jd).alloc dS _) a;let ⟨r,s⟩:=aX (if im b=aB then tG b else 0);rw[<-s];have t:=aH s;unfold je.v at*;clear a s;go_enter func203,ntmps203;go_upto_region 1 with(with_reducible refine mL rfl (M 2) rfl rfl ?_);rw[<-i,<-f];clear i f;let ⟨a,f,i,s⟩:=l.o.iE;rw[q.o] at a;go_upto_region 2 with(first|(refine PM dW _ _ rfl rfl rfl ?_)|(refine mL rfl (M 3) rfl rfl ?_)|(refine r6 rfl (aI 3) (aI 10) rfl h.heap.size rfl (da fG) (uo 0) rfl rfl ?_));let ⟨q,u⟩:=aX (h.alloc (az (Bw 0).cells 280))
 have v:=aH (show US w e b 0 q by
  have x:bj h.heap.size h q:=by rw[u];exact jd
  exact⟨l.o.ext x,n.o.ext x,by rw[u];exact Mx.new _ _ (uo 0) _ o.o.symm,p.o.trans (x.mono (iJ o.o))⟩)
 rw[<-u];rw[o.o]
 try rw[show w.heap.size+1=e+1 by rw[g.o]]
 clear u l n p a f i s;let ⟨a,f,h,i⟩:=v.o.Q.iE;cases hfk:im b with
 |false=>
  rw[hfk] at c;have l:r=0:=by rw[t.o,hfk];rfl
  subst l;go_wp2_with fail;refine mR (c.o _) fun l n=>?_
  have l:=mX n v;clear a f h i hfk;go_wp2_with (first|(refine fM dW (aI 3) rfl rfl l.o.m3 ?_)|(refine mK rfl (aI 2) (aI 27) rfl (e+1) (uo 0) l.o.m2 rfl rfl ?_));exact rR results203 (l.o.m2.j.row _) mG (by rw[da (uo 0)];exact jL) ⟨rfl,by rw[<-g.o];exact aO l.o.F O⟩
 |true=>
  rw[hfk] at c;let ⟨l,n⟩:=aX (tG b);obtain rfl:l=r:=by rw[t.o,hfk,n];rfl
  rw[<-n] at d;go_wp2_with fail;refine mR (c.o _) fun o p=>?_
  have c:=mX p v;clear p a f h i hfk n;go_wp2_with (refine yS dW (aI 13) rfl rfl c.o.m3 ?_)
  go_loopw [15] (fun a wr=>mD 2 (fun f wr=>US w e b (if f=0 then 0 else l) wr) a wr) (fun h _=>2-(intOf h).toNat)
  case atStart=>exact⟨0,by omega,rfl,by simpa using c.o⟩
  case round=>
   obtain⟨a,c,rfl,f⟩:=hrel;have c:=aH f;clear f
   by_cases f:a<2
   ·let ⟨h,i⟩:∃n,(Bw 0).u[a]?=M n:=⟨_,aA (by simpa[Bw] using f)⟩
    have f:=fun w=>wP (x:=(Bw 0).u) rfl i w
    have f:a=0/\h=aB\/a=1/\h=av:=by
     have:a=0\/a=1:=O;rcases this with rfl|rfl<;> simp[Bw] at i<;> simp[i]
    clear i;rcases f with⟨h,rfl⟩|⟨i,rfl⟩
    ·have f:=aH h
     rw[if_pos h] at c;clear h;go_upto_region 7 with fail;refine aL 6 (fun h=>US w e b 0 h) rfl (fun n o=>?_);have h:=mX o c;have n:=aH c.o;clear o c;refine gN 0 2 5 ?_;simp only[sZ,ak];go_big_quiet_step (fail);refine lR n 283 1 e 0 4 #[J E b.ty,J E b.st,ao b.B,ao b.sec] (fun _ o=>qg o.Q rfl) Bi mU ?_;refine aN (Ax 2 4 n.o ?_);simp only[sZ,ak];refine bO rfl 237 #[aG #[J E b.ty,J E b.st,ao b.B,ao b.sec]] (J E l) (fun o=>by kernel_rfl) (fun p q=>d.o p) ?_;refine gT 3 3 1 ?_;refine fK 6 0 h fun d o=>?_
     simp only[sZ,ak];have p:=mX o h;clear o h;have h:d.cell? ⟨e+1+1,13+a*2,S⟩=M (J E 0):=by rw[f.o];exact p.o.m3.j.cell 13 rfl
     have o:=p.o.m3.j.frozen (13+a*2);have q:=p.o.m3.lt;go_wp2;have r:=aH (show US w e b l (d.setCell ⟨e+1+1,13+a*2,S⟩ (J E l)) from⟨p.o.Q.C (by show e≠e+1+1;omega) _,⟨p.o.m2.j.C (by show e+1≠e+1+1;omega) _,fG⟩,⟨by rw[f.o];have:=p.o.m3.j.L 13 (J E l);rw[We] at this;exact this,uo l⟩,p.o.F.setCell (by show e<=e+1+1;omega) _⟩);refine pX fun d f=>?_
     have d:=mX f r;clear f r p n h o q;go_wp2;exact⟨⟨a+1,by omega,by go_num,by simpa using d.o⟩,by simp[intOf];omega⟩
    ·rw[if_neg O] at c
     have d:=aH i;clear i;go_wp2;exact⟨⟨a+1,by omega,by go_num,by show US w e b (if a+1=0 then 0 else l) wr;rw[if_neg O];exact c.o⟩,by simp[intOf];omega⟩
   ·obtain rfl:a=2:=O
    rw[if_neg dD] at c;go_wp2_with (first|(refine fM dW (aI 3) rfl rfl c.o.m3 ?_)|(refine mK rfl (aI 2) (aI 27) rfl (e+1) (uo _) c.o.m2 rfl rfl ?_));exact rR results203 (c.o.m2.j.row _) mG (by rw[da (uo _)];exact jL) ⟨rfl,by rw[<-g.o];exact aO c.o.F O⟩
end
def WL{P}(d){a}(e f g h l n)(o:P.underlying e=M (.slice g))(b:(P.info? g).map (fun i=>(i.zero,i.size,i.bytes))=M (M h,l,n))(p:h.cells.size=l)(q:0<l)
  (r s t u)(v:d.ownsRow r g l s t u)(c w x y)(z:Rw a d c w l y)(H:∀Y∈y,Y.oneCell'=aB)
  (U:t+w<=maxLen)(V:(t+w)*n<=140737488355328)(W:r<=d.heap.size):
  ∃Y a0,(fW #[e,e] f #[s,af c w x]).run P d=.ok Y a0/\a0.ownsRow r g l Y (t+w) (u++y)/\d.grownBy a0 s.ownBlock/\(Y.ownBlock=s.ownBlock\/Y.ownBlock=M d.heap.size):=by
 let ⟨a,Y,a0,a1,a2⟩:=info_parts b;rcases Nat.eq_zero_or_pos w with b|b
 ·subst b
  have a3:y=[]:=List.eq_nil_of_length_eq_zero (uM z.1);subst a3;refine⟨s,d,?_,by simpa using v,World.grownBy.refl d _,.inl rfl⟩;rcases c with _|a3
  ·rcases v.2 with⟨rfl,_⟩|⟨c,a3,a4,rfl,_,_,a5,_⟩
   ·simp[fW,fI o,K3,vo,Y,mC,j9]
   ·simp[fW,fI o,K3,vo,Y,mC,j9,a5,Vn]
  ·rcases v.2 with⟨rfl,_⟩|⟨c,a3,a4,rfl,_,_,a5,_⟩
   ·simp[fW,fI o,K3,vo,Y,mC,j9,loadCells,yO]
   ·simp[fW,fI o,K3,vo,Y,mC,j9,a5,Vn,loadCells,yO]
 ·obtain⟨c,a3,rfl,_,_,a4⟩:=z.addr b
  have b:∀a5 a6,y[a5]?=M a6->d.cell? ((⟨c,a3,S⟩:Addr).add a5)=M a6:=by
   intro a5 a6 a7;have a8:(⟨c,a3,S⟩:Addr).add a5=⟨c,a3+a5,S⟩:=by unfold Addr.add;split<;> simp_all
   rw[a8];exact a4 a5 a6 a7
  obtain⟨a4,a5,a6,a7,a8,_,a9⟩:=run_append_own_at (P:=P) d r e f g a h l n o Y a0 a1 a2 p q s t u v ⟨c,a3,S⟩ w x
   y z.1 b H U V W
  exact⟨a4,a5,a6,a7,a8,a9⟩
def uh{h}(l){p c d n e f}(g:n.guard=S)(a b o)
  (a7:n.op=.call {callee:=.builtin .append,args:=#[a,b],argTypes:=#[o,o]})(q r s t)(u:h.underlying o=M (.slice q))(v:(h.info? q).map (fun i=>(i.zero,i.size,i.bytes))=M (M r,s,t))(w:r.cells.size=s)(x:0<s)
  (y z H U)(a8:e.eval a=z)(V:l.ownsRow y q s z H U)(W Y a0 a1)(a9:e.eval b=af W Y a0)(a2:Rw p l W Y s a1)(a3:∀ab∈a1,ab.oneCell'=aB)
  (a4:H+Y<=maxLen)(a5:(H+Y)*t<=140737488355328)(a6:y<=l.heap.size)
  (aa:∀ab ac,ac.ownsRow y q s ab (H+Y) (U++a1)->l.grownBy ac z.ownBlock->(ab.ownBlock=z.ownBlock\/ab.ownBlock=M l.heap.size)->cG h c f d (e.put n.dst ab) ac):cG h c f (n::d) e l:=by
 refine wpList_plain g fun a b=>?_
 let ⟨a,c,d,e,f,g⟩:=WL (P:=h) l o n.type q r s t u v w x y z H U V W Y a0 a1 a2 a3 a4 a5 a6;unfold Oper.wp VI;simp only[a7,resolve,invoke,builtin,fT,iT,Result.andThen_ok,qR,sH,Bh,a8,a9,d];exact b _ _ (aa a c e f g)
def bD.grown{w w'}(a:w.grownBy w' S):bD w w':=Below.grown (aM _ _) a (aw _) dS
def Ej{b c d e f a0 g}(h:e.guard=S)(l n o)
  (p:e.op=.call {callee:=.builtin .append,args:=#[l,n],argTypes:=#[o,o]})(q r s t)(u:b.underlying o=M (.slice q))(v:(b.info? q).map (fun i=>(i.zero,i.size,i.bytes))=M (M r,s,t))(w:r.cells.size=s)(x:0<s)(a:t<=100000)
  (y:f.eval l=af S 0 0)(z H)(U:f.eval n=af (M ⟨z,0,S⟩) 1 1)(Y:Bx a0 z q H)(V:H.size=s)(W:H.all (·.oneCell')=aB)
  (a1:∀a2 a3 a4 a5,bD a0 a4->a0.heap.size<=a2->Bx a4 a2 q a5->a5.toList.take s=H.toList->1<=a3->a5.size=a3*s->a3<=maxLen->cG b c g d (f.put e.dst (af (M ⟨a2,0,S⟩) 1 a3)) a4):cG b c g (e::d) f a0:=by
 refine uh a0 (p:=fun _=>True) h l n o p q r s t u v w x a0.heap.size _ 0 [] y (World.ownsRow_nil _ _ _ _) _ 1 1 H.toList U ⟨by simp[V],fun _=>⟨z,0,rfl,trivial,Y.lt,fun a b c=>?_⟩⟩ (fun d e=>(bG.1 W) d (jP e)) dD O (aw _) ?_
 ·rw[oD]
  exact Y.cell a (jP c)
 ·intro a b c d _
  have a:=bD.grown (w:=a0) (w':=b) d;let ⟨d,e⟩:=c;rcases e with⟨_,c⟩|⟨d,f,g,rfl,h,l,n,o,p,q⟩
  ·omega
  ·exact a1 d f b g a h l (jP q) O p o
def Hw(d)(a:0<=d)(b:d<=128)(c):aT aE 241 #[J E d] c fun e f=>e=aK (J E (16*d))/\c=f:=by
 have a:max d (-1)=d:=O;have a:min d 128=d:=O;have a:E.wrap (16*d)=16*d:=an _ O;go_enter func241,ntmps241;go_wp2;go_ret
 first|exact⟨rfl,rfl⟩|(refine⟨?_,rfl⟩;congr 2;omega)
def wJ{p:Nat->Prop}(b:aq)(q r:Int)(n o s:List Int)(t u v w:Int)(x:T)(a:dF p x b ⟨q,r,n,o,s⟩)
  (c:bQ ⟨q,r,n,o,s⟩=aB)(d:0<=t)(e:t%2=0)(f:t<=q-16)(g:0<=u)(h:u%2=0)(i:u<=r-8)(l:wM v w=aB):
  aT aE 240 #[b,J E t,J E u,J E 16,J E 8,aG #[J E v,J E w]] x (nk x (pt ⟨q,r,n,o,s⟩ t u 8 v w,0)):=by
 have y:=a;obtain⟨z,H,U,V,W,Y,a0,a1,a2,rfl,a3,a4,a5⟩:=a;obtain⟨a,a6,a7,a8,a9,aa,ab,ac,ad⟩:=uE c;dsimp only at*;rw[a3.len] at ab;rw[a4.len] at ac;rw[a5.len] at ad;obtain⟨ae,ag,ah⟩:=bh ab ac ad;clear ab ac ad;have ab:-63<=v/\v<=63/\-63<=w/\w<=63:=by simpa[wM] using l
 have ac:=Ae ab.1 ab.2.1;have ad:=Ae ab.2.2.1 ab.2.2.2;go_enter func240,ntmps240;go_wp2_with fail;refine(dB (p:=p) _ ⟨q,r,n,o,s⟩ _ (by(repeat with_reducible apply gR);exact y)).mono ?_;rintro ai aj ⟨rfl,al⟩;obtain⟨am,ap⟩:=gU al;have ar:=al.size
 try simp at ar
 try simp at am
 try simp at ap
 have ax:x.heap.size<aj.heap.size:=O;have ay:x.heap.size+1<aj.heap.size:=O;have aV:x.heap.size+1+1<aj.heap.size:=O;go_wp2_with fail;refine(wH v w _).mono ?_;rintro b0 b1 ⟨rfl,b2⟩;obtain⟨b3,b4⟩:=gU b2;have b5:=b2.size
 try simp at b5
 try simp at b3
 try simp at b4
 have b6:x.heap.size<b1.heap.size:=O;have b7:x.heap.size+1<b1.heap.size:=O;have b8:x.heap.size+1+1<b1.heap.size:=O;have b9:=((((a3.alloc _).alloc _).alloc _).ext al).ext b2;have ba:=((((a4.alloc _).alloc _).alloc _).ext al).ext b2;have bb:=((((a5.alloc _).alloc _).alloc _).ext al).ext b2;have bc:bj x.heap.size x b1:=(((((aM _ x).alloc dS _).alloc dS _).alloc eB _).trans (al.mono eB)).trans (b2.mono O);go_wp2_with fail;have bd:E.wrap (q/2)=q/2:=an _ O;have be:E.wrap (r/2)=r/2:=an _ O;have bf:q.tdiv 2=q/2:=bB O;have bi:r.tdiv 2=r/2:=bB O;have bk:Bx b1 x.heap.size 63 #[J E q,J E r,af z H U,af V W Y,af a0 a1 a2]:=((((jR _ _ _).alloc _).alloc _).ext al).ext b2;have bl:Bx b1 (x.heap.size+1) 272 #[J E v,J E w]:=(((Bx.D _ _ _ _ dS).alloc _).ext al).ext b2;have bn:Bx b1 (x.heap.size+1+1) 63 #[J E 0,J E 0,af S 0 0,af S 0 0,af S 0 0]:=((Bx.D _ _ _ _ dS).ext al).ext b2;have br:=((bk.alloc (az #[J E (v.tdiv 2),J E (w.tdiv 2)] 272)).alloc (az #[J E t,J E u,J E 16,J E 8] 398)).alloc (az #[J E (t/2),J E (u/2),J E 8,J E 4] 398);have bs:=((bl.alloc (az #[J E (v.tdiv 2),J E (w.tdiv 2)] 272)).alloc (az #[J E t,J E u,J E 16,J E 8] 398)).alloc (az #[J E (t/2),J E (u/2),J E 8,J E 4] 398);have bt:=((bn.alloc (az #[J E (v.tdiv 2),J E (w.tdiv 2)] 272)).alloc (az #[J E t,J E u,J E 16,J E 8] 398)).alloc (az #[J E (t/2),J E (u/2),J E 8,J E 4] 398);have bu:=((jR b1 272 #[J E (v.tdiv 2),J E (w.tdiv 2)]).alloc (az #[J E t,J E u,J E 16,J E 8] 398)).alloc (az #[J E (t/2),J E (u/2),J E 8,J E 4] 398);have bv:=(Bx.D (b1.alloc (az #[J E (v.tdiv 2),J E (w.tdiv 2)] 272)) 398 #[J E t,J E u,J E 16,J E 8] (b1.heap.size+1) dS).alloc (az #[J E (t/2),J E (u/2),J E 8,J E 4] 398);have bx:=Bx.D ((b1.alloc (az #[J E (v.tdiv 2),J E (w.tdiv 2)] 272)).alloc (az #[J E t,J E u,J E 16,J E 8] 398)) 398 #[J E (t/2),J E (u/2),J E 8,J E 4] (b1.heap.size+1+1) dS;have bz:=((bc.alloc O (az #[J E (v.tdiv 2),J E (w.tdiv 2)] 272)).alloc eB (az #[J E t,J E u,J E 16,J E 8] 398)).alloc eB (az #[J E (t/2),J E (u/2),J E 8,J E 4] 398);generalize bC:((b1.alloc (az #[J E (v.tdiv 2),J E (w.tdiv 2)] 272)).alloc (az #[J E t,J E u,J E 16,J E 8] 398)).alloc (az #[J E (t/2),J E (u/2),J E 8,J E 4] 398)=bK at*
 clear bC;replace a:=a3.ext bz;replace b:=a4.ext bz;replace c:=a5.ext bz;obtain⟨d,e,f,g,h⟩:=br.dz;have d:=bs.cell 0 rfl;have d:=bs.cell 1 rfl;have d:=bu.cell 0 rfl;have d:=bu.cell 1 rfl;have d:=bv.cell 0 rfl;have d:=bv.cell 1 rfl;have d:=bv.cell 2 rfl;have d:=bv.cell 3 rfl;have d:=bx.cell 0 rfl;have d:=bx.cell 1 rfl;have d:=bx.cell 2 rfl;have d:=bx.cell 3 rfl;obtain⟨d,e,f,g,h⟩:=bt.dz;have d:=bt.frozen 0;have d:=bt.frozen 1;have d:=bt.frozen 2;have d:=bt.frozen 3;have d:=bt.frozen 4;have d:=br.lt;have d:=bs.lt;have d:=bt.lt;have d:=bu.lt;have d:=bv.lt;have d:=bx.lt
 go_region_held3 (fun d=>d.cell? ⟨x.heap.size,0,S⟩=M (J E q)/\d.cell? ⟨x.heap.size,1,S⟩=M (J E r)/\d.cell? ⟨x.heap.size,2,S⟩=M (.slice z H U)/\d.cell? ⟨x.heap.size,3,S⟩=M (.slice V W Y)/\d.cell? ⟨x.heap.size,4,S⟩=M (.slice a0 a1 a2)/\d.cell? ⟨x.heap.size+1,0,S⟩=M (J E v)/\d.cell? ⟨x.heap.size+1,1,S⟩=M (J E w)/\d.cell? ⟨b1.heap.size,0,S⟩=M (J E (v.tdiv 2))/\d.cell? ⟨b1.heap.size,1,S⟩=M (J E (w.tdiv 2))/\d.cell? ⟨b1.heap.size+1,0,S⟩=M (J E t)/\d.cell? ⟨b1.heap.size+1,1,S⟩=M (J E u)/\d.cell? ⟨b1.heap.size+1,2,S⟩=M (J E 16)/\d.cell? ⟨b1.heap.size+1,3,S⟩=M (J E 8)/\d.cell? ⟨b1.heap.size+1+1,0,S⟩=M (J E (t/2))/\d.cell? ⟨b1.heap.size+1+1,1,S⟩=M (J E (u/2))/\d.cell? ⟨b1.heap.size+1+1,2,S⟩=M (J E 8)/\d.cell? ⟨b1.heap.size+1+1,3,S⟩=M (J E 4))
  (first|(refine⟨?_,?_,?_,?_,?_,?_,?_,?_,?_,?_,?_,?_,?_,?_,?_,?_,?_⟩<;> go_simp;done)|go_keep)
  (first
   |(go_at_call 273;((with_reducible refine(jy (p:=p) t u q r v w 16 8 16 8 z H _ n _ a.drew rfl rfl ae.o O O O O O O O O O O O O O O).mono ?_);rintro d e ⟨A3,n3,m3,rfl,hc3,hB3,hb3⟩;have hb3:=ml hb3;obtain⟨f,g⟩:=gU hb3;have h:=hb3.size;have i:x.heap.size<e.heap.size:=O;have l:x.heap.size+1<e.heap.size:=O;have y:x.heap.size+1+1<e.heap.size:=O;have U:b1.heap.size<e.heap.size:=O;have Y:b1.heap.size+1<e.heap.size:=O;have a2:b1.heap.size+1+1<e.heap.size:=O))
   |(go_at_call 273;((with_reducible refine(jy (p:=p) (t/2) (u/2) (q/2) (r/2) (v.tdiv 2) (w.tdiv 2) 8 4 8 4 V W _ o _ (b.ext hb3) rfl rfl ag.o O O O O O O O O O O O O O O).mono ?_);rintro a d ⟨A4,n4,m4,rfl,hc4,hB4,hb4⟩;obtain⟨e,f⟩:=gU hb4;have g:x.heap.size<d.heap.size:=(dU hb4.size);have h:x.heap.size+1<d.heap.size:=(dU hb4.size);have i:x.heap.size+1+1<d.heap.size:=(dU hb4.size);have l:b1.heap.size<d.heap.size:=(dU hb4.size);have n:b1.heap.size+1<d.heap.size:=(dU hb4.size);have y:b1.heap.size+1+1<d.heap.size:=(dU hb4.size)))
   |(go_at_call 273;((with_reducible refine(jy (p:=p) (t/2) (u/2) (q/2) (r/2) (v.tdiv 2) (w.tdiv 2) 8 4 8 4 a0 a1 _ s _ ((c.ext hb3).ext hb4) rfl rfl ah.o O O O O O O O O O O O O O O).mono ?_);rintro a w5 ⟨A5,n5,m5,rfl,hc5,hB5,hb5⟩;obtain⟨b,d⟩:=gU hb5;have e:x.heap.size<w5.heap.size:=(gC hb4.size hb5.size);have f:x.heap.size+1<w5.heap.size:=(gC hb4.size hb5.size);have g:x.heap.size+1+1<w5.heap.size:=(gC hb4.size hb5.size);have h:b1.heap.size<w5.heap.size:=(gC hb4.size hb5.size);have i:b1.heap.size+1<w5.heap.size:=(gC hb4.size hb5.size);have l:b1.heap.size+1+1<w5.heap.size:=(gC hb4.size hb5.size))))
 go_wp2;have a:¬(bK.heap.size<=x.heap.size+1+1):=O;have b:=hb3.size;have b:=hb4.size;have b:=hb5.size;have b:=bz.size;have b:bj x.heap.size x w5:=((bz.trans (hb3.mono O)).trans (hb4.mono O)).trans (hb5.mono O);have c:=((hB3.ext hb4).ext hb5).mono (q:=(bK.heap.size<=·)) (fun d _ e=>e);have d:=(hB4.mono (q:=(bK.heap.size<=·)) (fun e _ f=>by omega)).ext hb5;have e:=hB5.mono (q:=(bK.heap.size<=·)) (fun f _ g=>by omega);refine dY (v:=fE #[aG #[J E 16,J E 8,af A3 n3 m3,af A4 n4 m4,af A5 n5 m5],J E 0]) (by simp only[Ih,results240];go_simp) rfl ⟨_,rfl,eH.mk hc3 hc4 hc5,⟨A3,n3,m3,A4,n4,m4,A5,n5,m5,rfl,?_,?_,?_⟩,?_⟩
 ·refine du.mono (p:=(bK.heap.size<=·)) ?_ (fun f _ g=>by omega)
  repeat refine du.setCell ?_ a _
  exact c
 ·refine du.mono (p:=(bK.heap.size<=·)) ?_ (fun c _ f=>by omega)
  repeat refine du.setCell ?_ a _
  exact d
 ·refine du.mono (p:=(bK.heap.size<=·)) ?_ (fun c _ d=>by omega)
  repeat refine du.setCell ?_ a _
  exact e
 ·repeat refine iu ?_ eB _
  exact b
def ZX(a b c:List Int)(d e:Nat):Nat->List Int
 |0=>a
 |1=>fN a b 0 (2*d) d e
 |_=>fN (fN a b 0 (2*d) d e) c d (2*d) d e
def qK{c d f e g}(a:0<e)(b:c.length=g*(2*e))(h):(ZX c d f e g h).length=c.length:=by
 have a:∀b,b<g->0+b*(2*e)+e<=c.length:=fun i l=>by have:=sO (q:=i) (r:=g) (st:=2*e) (j:=e) l O;omega
 have b:=gX (l:=d) g a;have a:∀i,i<g->e+i*(2*e)+e<=(fN c d 0 (2*e) e g).length:=fun l n=>by have:=sO (q:=l) (r:=g) (st:=2*e) (j:=2*e-1) n O;omega
 have c:=gX (l:=f) g a
 match h with
 |0=>rfl
 |1=>exact b
 |_+2=>exact c.trans b
def BU{a b c}(d:0<a)(e:c=b*(2*a)):∀f,f<b->0+f*(2*a)+a<=c:=fun g h=>by have:=sO (q:=g) (r:=b) (st:=2*a) (j:=a) h O;omega
def BR{a b c}(d:0<a)(e:c=b*(2*a)):∀f,f<b->a+f*(2*a)+a<=c:=fun g h=>by have:=sO (q:=g) (r:=b) (st:=2*a) (j:=2*a-1) h O;omega
def Th{g h:T}{a b i l n o c d e f}(hx:Bx h.drew i a #[e,f,af (M ⟨l,0,S⟩) c c,af (M ⟨n,0,S⟩) d d,af (M ⟨o,0,S⟩) d d])
  (k1:Bk h.drew b l (aF c 0))(k2:Bk h.drew b n (aF d 0))(k3:Bk h.drew b o (aF d 0))
  (p:g.heap.size<=l)(q:g.heap.size<=n)(r:g.heap.size<=o)(s:g.heap.size<=i)(t:l≠n)(u:l≠o)(v:n≠o)(w:i≠l)(x:i≠n)(y:i≠o)(hb:bj g.heap.size g h.drew):
  ∃z H U V:Nat,(aD (M ⟨i,0,S⟩)=aD (M ⟨z,0,S⟩))/\Bx h.drew z a #[e,f,af (M ⟨H,0,S⟩) c c,af (M ⟨U,0,S⟩) d d,af (M ⟨V,0,S⟩) d d]/\Bk h.drew b H (aF c 0)/\Bk h.drew b U (aF d 0)/\Bk h.drew b V (aF d 0)/\
  g.heap.size<=H/\g.heap.size<=U/\g.heap.size<=V/\g.heap.size<=z/\H≠U/\H≠V/\U≠V/\z≠H/\z≠U/\z≠V/\bj g.heap.size g h.drew:=
 ⟨i,l,n,o,rfl,hx,k1,k2,k3,p,q,r,s,t,u,v,w,x,y,hb⟩
def uZ{p:Nat->Prop}(q r:aq)(z W:Nat)(v x H w y U:List Int)(Y:T)(a:dF p Y q ⟨((2*z:Nat):Int),((2*W:Nat):Int),v,x,H⟩)(b:dF p Y r ⟨((2*z:Nat):Int),((2*W:Nat):Int),w,y,U⟩)(i:eH q)(l:eH r)
  (n:bQ ⟨((2*z:Nat):Int),((2*W:Nat):Int),v,x,H⟩=aB)(o:bQ ⟨((2*z:Nat):Int),((2*W:Nat):Int),w,y,U⟩=aB)
  (V:1<=z)(s:z<=32)(t:1<=W)(u:W<=16)(f:v.length=(2*W)*(2*z))(g:x.length=W*z)(h:H.length=W*z)(c:w.length=(2*W)*(2*z))(d:y.length=W*z)(e:U.length=W*z):
  aT aE 105 #[q,r] Y (nk Y (⟨((2*z:Nat):Int),((4*W:Nat):Int),gW v w (2*z) (2*W),gW x y z W,gW H U z W⟩,0)):=by
 have a0:=dF.mono (q:=fun a1=>a1<Y.heap.size) a (fun a2 a3 _=>a3);have a1:=dF.mono (q:=fun a2=>a2<Y.heap.size) b (fun a3 a4 _=>a4);clear a b;have a:=a0;have b:=a1;clear a0 a1;have a0:=a;have a1:=b;obtain⟨a2,a3,a4,a5,a6,a7,a8,a9,aa,rfl,ab,ac,ad⟩:=a;obtain⟨a,ae,ag,ah,ai,aj,al,am,ap,rfl,ar,ax,ay⟩:=b;let ⟨b,aV,b0⟩:=i.o;let ⟨b1,b2,b3⟩:=l.o;dsimp only at*;let ⟨b4,b5⟩:=aX (2*z);let ⟨b6,b7⟩:=aX (2*W);let ⟨b8,b9⟩:=aX (4*W);rw[ab.len,<-b5,<-b7] at f;rw[ac.len] at g;rw[ad.len] at h;rw[ar.len,<-b5,<-b7] at c;rw[ax.len] at d;rw[ay.len] at e;obtain rfl:ae=a3:=by rw[f,c]
 obtain rfl:ai=a6:=by rw[g,d]
 obtain rfl:am=a9:=by rw[h,e]
 rw[<-b5,<-b7] at n o a0 a1;rw[<-b5,<-b7,<-b9];clear c d e;have c:E.wrap (2*(b6:Int))=(b8:Int):=by rw[show 2*(b6:Int)=((b8:Nat):Int) by omega];exact an _ O
 have d:((b4:Nat):Int).tdiv 2=(z:Int):=by rw[bB O];omega
 have e:((b6:Nat):Int).tdiv 2=(W:Int):=by rw[bB O];omega
 have ba:E.wrap (z:Int)=(z:Int):=an _ O;have bb:E.wrap (W:Int)=(W:Int):=an _ O;have bc:((b4:Int)!=(b4:Int))=av:=by simp
 have bd:((b6:Int)!=(b6:Int))=av:=by simp
 have be:decide ((b8:Int)>64)=av:=decide_eq_false O;have bf:b4<=64:=O;have bi:b6<=32:=O;have bk:b8<=64:=O;have bl:1<=b4:=O;let ⟨bn,br,bs,bt,bu,bv⟩:=ej b5 b7 b9 f g h;clear b5 b7 b9 f g h;let ⟨f,g⟩:=aX (2*b4);let ⟨h,b5⟩:=aX (b6*(2*b4));let ⟨b7,b9⟩:=aX (W*(2*z));have bx:h<=4096:=by rw[b5];exact aY (fo bi (zW 2 bf)) O
 have bz:b7<=1024:=by rw[b9];exact aY (fo u (zW 2 s)) O
 have bC:b4*b6=2*b7:=by rw[b9,bn.o,br.o,dh (2*z),Nat.mul_assoc]
 have bK:f*b6=h:=by rw[b5,g,dh]
 have bL:E.wrap (2*(b4:Int))=(f:Int):=by rw[show 2*(b4:Int)=((f:Nat):Int) by omega];exact an _ O
 have bR:E.wrap (b4:Int)=(b4:Int):=an _ O;have bU:E.wrap ((f:Int)*(b6:Int))=(h:Int):=by rw[<-cm,bK];exact an _ O
 let ⟨bV,bY⟩:=aX (b4*b6);have c0:E.wrap ((b4:Int)*(b6:Int))=(bV:Int):=by rw[<-cm,<-bY];exact an _ O
 have c1:((bV:Nat):Int).tdiv 2=(b7:Int):=by rw[bB O];omega
 have c2:E.wrap (b7:Int)=(b7:Int):=an _ O;have c3:=pS (P:=aE) (t:=54) dw iY h h (aw _) O;have c4:=pS (P:=aE) (t:=54) dw iY b7 b7 (aw _) O;have c5:f<=128:=O;let ⟨c6,c7,c8⟩:=bh g b5 b9;clear g b5 b9 bC bK bY;let ⟨g,b5⟩:=aQ c3 c4;clear c3 c4;go_enter func105,ntmps105;go_wp2_with fail;refine(dB _ ⟨(b4:Int),(b6:Int),v,x,H⟩ _ (by(repeat with_reducible apply gR);exact a0)).mono ?_;rintro b9 bC ⟨rfl,bK⟩;have bY:bj Y.heap.size Y bC:=((((aM _ Y).alloc dS _).alloc dS _).alloc eB _).trans (bK.mono eB);have c3:Bx bC Y.heap.size 63 #[J E b4,J E b6,af a2 ae a4,af a5 ai a7,af a8 am aa]:=(((jR Y _ _).alloc _).alloc _).ext bK;have c4:Bx bC (Y.heap.size+1) 63 #[J E b4,J E b6,af a ae ag,af ah ai aj,af al am ap]:=((Bx.D _ _ _ _ dS).alloc _).ext bK;have c9:Bx bC (Y.heap.size+1+1) 63 #[J E 0,J E 0,af S 0 0,af S 0 0,af S 0 0]:=(Bx.D _ _ _ _ dS).ext bK;let ⟨ca,cb,cc⟩:=bh c3 c4 c9;clear c3 c4 c9;let ⟨c3,c4,c9,cd,ce⟩:=cb.o.dz;go_wp2_with fail;refine mR (dB _ ⟨(b4:Int),(b6:Int),w,y,U⟩ _ (a1.ext bY)) fun cf cg=>?_
 clear c3 c4 c9 cd ce;have c3:bj Y.heap.size Y cf:=bY.trans (cg.mono bY.size);have c4:=ca.o.ext cg;have c9:=cb.o.ext cg;have cd:=cc.o.ext cg;clear bK cg bY ca cb cc;let ⟨bK,bY,ca,cb,cc⟩:=c4.dz;let ⟨ce,cg,ch,ci,ck⟩:=c9.dz;have cl:=cd.lt;go_upto_region 3 with fail;go_quiet (fail);have cn:bj Y.heap.size Y (cf.drewN nq):=⟨c3.os,c3.tape,c3.output,c3.size,c3.block⟩;have co:Bx (cf.drewN nq) Y.heap.size 63 _:=c4;have cp:Bx (cf.drewN nq) (Y.heap.size+1) 63 _:=c9;have cr:Bx (cf.drewN nq) (Y.heap.size+1+1) 63 _:=cd;clear bK bY ca cb cc ce cg ch ci ck c4 c9 cd c3 cl;generalize cf.drewN nq=bK at*
 clear cf;obtain⟨bY,rfl⟩:∃c3:T,c3=bK:=⟨_,rfl⟩;go_upto_region 4 with fail
 go_cut [8] (fun c3 c4=>∃c9 ca cb cc:Nat,c3=aD (M ⟨c9,0,S⟩)/\Bx c4 c9 63 #[J E b4,J E b8,af (M ⟨ca,0,S⟩) h h,af (M ⟨cb,0,S⟩) b7 b7,af (M ⟨cc,0,S⟩) b7 b7]/\Bk c4 5 ca (aF h 0)/\Bk c4 5 cb (aF b7 0)/\Bk c4 5 cc (aF b7 0)/\
  bY.heap.size<=ca/\bY.heap.size<=cb/\bY.heap.size<=cc/\bY.heap.size<=c9/\ca≠cb/\ca≠cc/\cb≠cc/\c9≠ca/\c9≠cb/\c9≠cc/\bj bY.heap.size bY c4)
 case first=>
  rename_i c3 c4 c9 ca;have c3:=g.o;have c4:=b5.o;clear g b5 a0 a1 ab ac ad ar ax ay i l b aV b0 b1 b2 b3 n o bn br bs bt bu bv c6 bc bd be cn co cp cr d e bR ba bb
  go_region
  all_goals clear c bL bU c0 c1 c2 c3 c4
  all_goals
   refine ca _ _ (c9 _ _ ?_);clear ca c9
   (repeat apply Exists.intro)
   refine⟨?_,rfl⟩;apply Th
   case hx=>((refine Bx.drew ?_);(repeat(first|(refine Bx.D _ _ _ _ ?_;(simp;done))|(refine Bx.alloc ?_ _))))
   case k1=>((refine Bk.drew ?_);(repeat(first|(refine Bk.G6 _ _ _ _ ?_;(simp;done))|(refine Bk.alloc ?_ _))))
   case k2=>((refine Bk.drew ?_);(repeat(first|(refine Bk.G6 _ _ _ _ ?_;(simp;done))|(refine Bk.alloc ?_ _))))
   case k3=>((refine Bk.drew ?_);(repeat(first|(refine Bk.G6 _ _ _ _ ?_;(simp;done))|(refine Bk.alloc ?_ _))))
   case hb=>((refine Below.drew ?_);(repeat(first|exact aM _ _|(refine Below.alloc ?_ (by first|(simp;done)|(simp;omega)) _))))
   all_goals omega
 case rest=>
  obtain⟨d,e,l,n,rfl,o,a0,a1,ba,bb,bc,bd,be,br,bs,bR,c3,c4,c9,ca⟩:=hcut;have cb:=co.ext ca;have cc:=cp.ext ca;have cd:=cr.ext ca;have ce:bj Y.heap.size Y wc:=cn.trans (ca.mono cn.size);have cf:=cn.size;have cg:=cr.lt;clear co cp cr cn g b5 bU c0 c1 c2;let ⟨g,b5,bU,c0,c1⟩:=cb.dz;let ⟨c2,ch,ci,ck,cl⟩:=cc.dz;go_wp2_with fail;have cn:=cd.lt;have co:=a0.lt;have cp:=a1.lt;have cr:=ba.lt;have cs:=o.lt;clear g b5 bU c0 c1 c2 ch ci ck cl;have g:Bx (wc.alloc (az #[J E b4,J E b6,af a2 ae a4,af a5 ai a7,af a8 am aa,J E b4,J E b6,af a ae ag,af ah ai aj,af al am ap] 63)) wc.heap.size 63 #[J E b4,J E b6,af a2 ae a4,af a5 ai a7,af a8 am aa,J E b4,J E b6,af a ae ag,af ah ai aj,af al am ap]:=jR wc _ _;have b5:=o.alloc (az #[J E b4,J E b6,af a2 ae a4,af a5 ai a7,af a8 am aa,J E b4,J E b6,af a ae ag,af ah ai aj,af al am ap] 63);have bU:=cd.alloc (az #[J E b4,J E b6,af a2 ae a4,af a5 ai a7,af a8 am aa,J E b4,J E b6,af a ae ag,af ah ai aj,af al am ap] 63);have c0:=a0.alloc (az #[J E b4,J E b6,af a2 ae a4,af a5 ai a7,af a8 am aa,J E b4,J E b6,af a ae ag,af ah ai aj,af al am ap] 63);have c1:=a1.alloc (az #[J E b4,J E b6,af a2 ae a4,af a5 ai a7,af a8 am aa,J E b4,J E b6,af a ae ag,af ah ai aj,af al am ap] 63);have c2:=ba.alloc (az #[J E b4,J E b6,af a2 ae a4,af a5 ai a7,af a8 am aa,J E b4,J E b6,af a ae ag,af ah ai aj,af al am ap] 63);have ch:=ce.alloc (dU ce.size) (az #[J E b4,J E b6,af a2 ae a4,af a5 ai a7,af a8 am aa,J E b4,J E b6,af a ae ag,af ah ai aj,af al am ap] 63);clear cb cc cd;have cb:Y.heap.size+1+1<wc.heap.size:=by assumption
  generalize wc.alloc (az #[J E b4,J E b6,af a2 ae a4,af a5 ai a7,af a8 am aa,J E b4,J E b6,af a ae ag,af ah ai aj,af al am ap] 63)=cc at*
  generalize wc.heap.size=cd at*
  go_loopw [67] (fun c wr=>∃o:Nat,o<=2/\c=J E o/\Bx wr d 63 #[J E b4,J E b8,af (M ⟨e,0,S⟩) h h,af (M ⟨l,0,S⟩) b7 b7,af (M ⟨n,0,S⟩) b7 b7]/\Bx wr cd 63 #[J E b4,J E b6,af a2 ae a4,af a5 ai a7,af a8 am aa,J E b4,J E b6,af a ae ag,af ah ai aj,af al am ap]/\Bx wr (Y.heap.size+1+1) 63 #[J E 0,J E 0,af S 0 0,af S 0 0,af S 0 0]/\Bk wr 5 e (ZX (aF h 0) v w b4 b6 o)/\Bk wr 5 l (ZX (aF b7 0) x y z W o)/\Bk wr 5 n (ZX (aF b7 0) H U z W o)/\bj Y.heap.size Y wr) (fun p _=>2-(intOf p).toNat)
  case atStart=>exact⟨0,by omega,rfl,b5,g,bU,c0,c1,c2,ch⟩
  case round=>
   clear b5 g bU c0 c1 c2 ch;obtain⟨c,d,rfl,g,o,p,q,r,s,t⟩:=hrel;rcases(show c=0\/c=1\/c=2 by omega) with rfl|rfl|rfl
   ·
     have c:=o.cell 0 rfl;have d:=o.cell 1 rfl;have u:=o.cell 2 rfl;have a0:=o.cell 3 rfl;have a1:=o.cell 4 rfl;let ⟨a3,a6,a9,b5,b9⟩:=g.dz;have ba:=g.lt;have ba:=o.lt;have ba:=p.lt;have ba:=q.lt;have ba:=r.lt;have ba:=s.lt;have ba:=t.size;go_wp2_with fail;clear a3 a6 a9 b5 b9 c d u a0 a1;have c:=t.alloc ba (az #[J E b4,J E b6,af a2 ae a4,af a5 ai a7,af a8 am aa] 63);have d:Bx (wr.alloc (az #[J E b4,J E b6,af a2 ae a4,af a5 ai a7,af a8 am aa] 63)) wr.heap.size 63 _:=jR wr _ _;refine mR (km (p:=fun u=>u<Y.heap.size) e h h 0 f b4 b6 a2 ae a4 _ v _ (q.alloc _) (by rw[qK bl (eZ bp c7.o),bp]) (aw _) (ab.ext c) O b O O O O O O bt.o (eZ c6.o (BU bl c7.o))) fun a0 ⟨a1,a3⟩=>?_
     have b:=a3.size;simp at b;have b:=(g.alloc _).grown a3 eB;have u:=(o.alloc _).grown a3 eB;have a0:=(p.alloc _).grown a3 eB;have a2:=d.grown a3 eB;have a4:=(r.alloc _).grown a3 eB;have a6:=(s.alloc _).grown a3 eB;have a9:=c.grown a3 eB (fun b5 b9=>by cases b9;omega);clear g o p d q r s c a3;let ⟨c,d,a3,b5,b9⟩:=b.dz;let ⟨ba,be,bf,bi,bk⟩:=a2.dz;have br:=a2.lt;go_wp2_with fail;clear c d a3 b5 b9 ba be bf bi bk;refine mR (km (p:=fun c=>c<Y.heap.size) l b7 b7 0 b4 z W a5 ai a7 _ x _ a4 (by rw[qK V (eZ bp c8.o),bp]) (aw _) (ac.ext a9) O aV O O O O O O bu.o (eZ bn.o (BU V c8.o))) fun d ⟨a3,b5⟩=>?_
     have c:=b5.size;have c:=b.grown b5 eB;have d:=u.grown b5 eB;have a5:=a0.grown b5 eB;have a7:=a2.grown b5 eB;have aV:=a1.grown b5 eB;have b9:=a6.grown b5 eB;have ba:=a9.grown b5 O (fun be bf=>by cases bf;omega);clear b u a0 a2 a1 a4 a6 a9 b5;let ⟨b,u,a0,a1,a2⟩:=c.dz;let ⟨a4,a6,a9,b5,be⟩:=a7.dz;go_wp2_with fail;clear b u a0 a1 a2 a4 a6 a9 b5 be;refine mR (km (p:=fun b=>b<Y.heap.size) n b7 b7 0 b4 z W a8 am aa _ H _ b9 (by rw[qK V (eZ bp c8.o),bp]) (aw _) (ad.ext ba) O b0 O O O O O O bv.o (eZ bn.o (BU V c8.o))) fun u ⟨a0,a1⟩=>?_
     have b:=a1.size;have b:=c.grown a1 eB;have u:=d.grown a1 eB;have a2:=a5.grown a1 eB;have a4:=aV.grown a1 eB;have a6:=a3.grown a1 eB;have a8:=ba.grown a1 O (fun a9 aa=>by cases aa;omega);clear c d a5 a7 aV a3 b9 ba a1;rw[c6.o] at a4;rw[bn.o] at a6 a0;go_wp2_with fail
     go_roundw
     case rel=>exact⟨1,by omega,by go_num,b,u,a2,a4,a6,a0,a8⟩
     case measure=>simp[intOf]
   ·
     have b:=o.cell 5 rfl;have c:=o.cell 6 rfl;have d:=o.cell 7 rfl;have u:=o.cell 8 rfl;have a0:=o.cell 9 rfl;let ⟨a1,a2,a3,a4,a5⟩:=g.dz;have a6:=g.lt;have a6:=o.lt;have a6:=p.lt;have a6:=q.lt;have a6:=r.lt;have a6:=s.lt;have a6:=t.size;go_wp2_with fail;clear a1 a2 a3 a4 a5 b c d u a0;have b:=t.alloc a6 (az #[J E b4,J E b6,af a ae ag,af ah ai aj,af al am ap] 63);have c:Bx (wr.alloc (az #[J E b4,J E b6,af a ae ag,af ah ai aj,af al am ap] 63)) wr.heap.size 63 _:=jR wr _ _;refine mR (km (p:=fun d=>d<Y.heap.size) e h h b4 f b4 b6 a ae ag _ w _ (q.alloc _) (by rw[qK bl (eZ bp c7.o),bp]) (aw _) (ar.ext b) O b1 O O O O O O bt.o (eZ c6.o (BR bl c7.o))) fun u ⟨a0,a1⟩=>?_
     have a:=a1.size;simp at a;have a:=(g.alloc _).grown a1 eB;have d:=(o.alloc _).grown a1 eB;have f:=(p.alloc _).grown a1 eB;have u:=c.grown a1 eB;have a2:=(r.alloc _).grown a1 eB;have a3:=(s.alloc _).grown a1 eB;have a4:=b.grown a1 eB (fun a5 a6=>by cases a6;omega);clear g o p c q r s b a1;let ⟨b,c,o,a1,a5⟩:=a.dz;let ⟨a6,a7,a8,a9,aa⟩:=u.dz;have ae:=u.lt;go_wp2_with fail;clear b c o a1 a5 a6 a7 a8 a9 aa;refine mR (km (p:=fun b=>b<Y.heap.size) l b7 b7 z b4 z W ah ai aj _ y _ a2 (by rw[qK V (eZ bp c8.o),bp]) (aw _) (ax.ext a4) O b2 O O O O O O bu.o (eZ bn.o (BR V c8.o))) fun c ⟨o,a1⟩=>?_
     have b:=a1.size;have b:=a.grown a1 eB;have c:=d.grown a1 eB;have a5:=f.grown a1 eB;have a6:=u.grown a1 eB;have a7:=a0.grown a1 eB;have a8:=a3.grown a1 eB;have a9:=a4.grown a1 O (fun aa ae=>by cases ae;omega);clear a d f u a0 a2 a3 a4 a1;let ⟨a,d,f,u,a0⟩:=b.dz;let ⟨a1,a2,a3,a4,aa⟩:=a6.dz;go_wp2_with fail;clear a d f u a0 a1 a2 a3 a4 aa;refine mR (km (p:=fun a=>a<Y.heap.size) n b7 b7 z b4 z W al am ap _ U _ a8 (by rw[qK V (eZ bp c8.o),bp]) (aw _) (ay.ext a9) O b3 O O O O O O bv.o (eZ bn.o (BR V c8.o))) fun d ⟨f,u⟩=>?_
     have a:=u.size;have a:=b.grown u eB;have d:=c.grown u eB;have a0:=a5.grown u eB;have a1:=a7.grown u eB;have a2:=o.grown u eB;have a3:=a9.grown u O (fun a4 aa=>by cases aa;omega);clear b c a5 a6 a7 o a8 a9 u;rw[c6.o] at a1;rw[bn.o] at a2 f;go_wp2_with fail
     go_roundw
     case rel=>exact⟨2,by omega,by go_num,a,d,a0,a1,a2,f,a3⟩
     case measure=>simp[intOf]
   · let ⟨a,b,c,d,f⟩:=g.dz
     let ⟨a,b,c,d,f⟩:=p.dz;have a:=p.frozen 0;have a:=p.frozen 1;have a:=p.frozen 2;have a:=p.frozen 3;have a:=p.frozen 4;have a:=p.lt;go_wp2_with fail;have a:ZX (aF h 0) v w b4 b6 2=gW v w b4 b6:=wE bl (eZ bp c7.o) (eZ ab.len bt.o) (eZ ar.len bt.o);have b:ZX (aF b7 0) x y z W 2=gW x y z W:=wE V (eZ bp c8.o) (eZ ac.len bu.o) (eZ ax.len bu.o);have c:ZX (aF b7 0) H U z W 2=gW H U z W:=wE V (eZ bp c8.o) (eZ ad.len bv.o) (eZ ay.len bv.o);rw[a] at q;rw[b] at r;rw[c] at s;have d:(gW v w b4 b6).length=h:=by rw[<-a,qK bl (eZ bp c7.o),bp]
     have a:(gW x y z W).length=b7:=by rw[<-b,qK V (eZ bp c8.o),bp]
     have b:(gW H U z W).length=b7:=by rw[<-c,qK V (eZ bp c8.o),bp]
     have c:=q.zA (p:=(bY.heap.size<=·)) bb (uj ab.yH ar.yH b6);have f:=r.zA (p:=(bY.heap.size<=·)) bc (uj ac.yH ax.yH W);have g:=s.zA (p:=(bY.heap.size<=·)) bd (uj ad.yH ay.yH W);rw[d] at c;rw[a] at f;rw[b] at g;have a:¬(bY.heap.size<=Y.heap.size+1+1):=O;refine dY (v:=fE #[aG #[J E b4,J E b8,af (M ⟨e,0,S⟩) h h,af (M ⟨l,0,S⟩) b7 b7,af (M ⟨n,0,S⟩) b7 b7],J E 0]) (by simp only[Ih,results105];go_simp) rfl ⟨_,rfl,eH.mk (aw _) (aw _) (aw _),⟨_,_,_,_,_,_,_,_,_,rfl,?_,?_,?_⟩,?_⟩
     ·refine du.mono (p:=(bY.heap.size<=·)) ?_ (fun b _ d=>by omega)
      repeat refine du.setCell ?_ a _
      exact c
     ·refine du.mono (p:=(bY.heap.size<=·)) ?_ (fun b _ c=>by omega)
      repeat refine du.setCell ?_ a _
      exact f
     ·refine du.mono (p:=(bY.heap.size<=·)) ?_ (fun b _ c=>by omega)
      repeat refine du.setCell ?_ a _
      exact g
     ·repeat refine iu ?_ (by first|(simp;done)|(simp;omega)) _
      exact t
def GC{a b}(g h c d i)(l:dF a i g c)(n:dF b i h d)(o:eH g)(p:eH h)
  (e:bQ c=aB/\c.W=((2*8:Nat):Int)/\c.H=((2*4:Nat):Int)/\c.Y.length=(2*4)*(2*8)/\c.U.length=4*8/\c.V.length=4*8)
  (f:bQ d=aB/\d.W=((2*8:Nat):Int)/\d.H=((2*4:Nat):Int)/\d.Y.length=(2*4)*(2*8)/\d.U.length=4*8/\d.V.length=4*8):
  aT aE 105 #[g,h] i (nk i (s9 c d,0)):=by
 let ⟨a,b,q,r,s⟩:=c;let ⟨a,b,c,t,u⟩:=d;let ⟨a,b,d,v,w,x⟩:=e;let ⟨e,y,z,H,U,V⟩:=f;dsimp only at b d v w x y z H U V;subst b d y z;rw[MA (a:=8) (q:=4)];exact uZ g h 8 4 q r s c t u i (l.mono (q:=fun _=>True) (fun _ _ _=>trivial)) (n.mono (q:=fun _=>True) (fun _ _ _=>trivial)) o p a e O O O O v w x H U V
def KO{a d e f b c}(g:yB d e f b c)(h i l n o)(p:dF a o i (fw d h))(q:wM l n=aB):
  aT aE 240 #[i,J E (16*e),J E (8*f),J E 16,J E 8,aG #[J E l,J E n]] o (nk o (pt (fw d h) (16*e) (8*f) 8 l n,0)):=by
 let ⟨_,_,a,b,c,r,s,t,u,v,w,x⟩:=xI g;exact wJ i (fw d h).W (fw d h).H (fw d h).Y (fw d h).U (fw d h).V (16*e) (8*f) l n o p (Js g h) O O (by show 16*e<=d.W-16;omega) O O (by show 8*f<=d.H/2-8;omega) q
def N2{a g b c d e}(f:yB g b c d e){h}(p:h=0\/h=1)(i l)(n:dF a l i g)(o:eH i):
  aT aE 118 #[i,J E h] l (nk l (fw g h.toNat,0)):=by
 let ⟨a,b,_⟩:=xI f;have:=mP i g h l n o;unfold pE at this;rwa [if_pos ⟨a,b,p⟩] at this
def Ld{x}{d:Nat}{a}(b:x.length=2)(e:x[d]?=M a)(c):(eT 217 (aG (aS E x)) (J E (d:Int))).run aE c=.ok (J E a) c:=by
 have a:d<2:=by have:=(aP.1 e).1;omega
 have b:∀c,(K3 3).run aE c=.ok 1 c:=fun _=>by kernel_rfl
 have c:∀d,(isAgg 3).run aE d=.ok av d:=fun _=>by kernel_rfl
 simp[eT,fI underlying217,part,b,c,aS,go_sem,a,e]
def FsR(a:T)(b:Nat)(c:List (aR×Array aq))(d:Nat)(e f:Fr)(g:Nat)(h:T):Prop:=∃i l:FV,Fm a b c h/\Bx h d 218 (i.cells++l.cells)/\(1<=g->Fv h i e)/\(2<=g->Fv h l f)
def TF:(aE.info? 272).map (·.size)=M 2:=dK
def XR{c d e a g b f}(h:Fv d g f)(i:Bx d e a (au b))(l:bD c d)(n:c.heap.size<=e):
  kM c f (aK (fE #[g.val,J E 0])) (((((d.setCell ⟨e,0,S⟩ (J E g.W)).setCell ⟨e,1,S⟩ (J E g.H)).setCell ⟨e,2,S⟩ (af g.ya g.yn g.yc)).setCell ⟨e,3,S⟩ (af g.ua g.un g.uc)).setCell ⟨e,4,S⟩ (af g.va g.vn g.vc)):=by
 have a:=i.L 0 (J E g.W);have b:=a.L 1 (J E g.H);have c:=b.L 2 (af g.ya g.yn g.yc);have d:=c.L 3 (af g.ua g.un g.uc);exact⟨g,rfl,((((h.cell i dK _ _).cell a dK _ _).cell b dK _ _).cell c dK _ _).cell d dK _ _,((((iu l n _).setCell n _).setCell n _).setCell n _).setCell n _⟩
def Dk(e:FV)(f:Fr)(g h i l n o p q:Int)(r:T)(a:Fv r e f)(b:yB f g h p q)(c:wM i l=aB)(d:wM n o=aB):
  aT aE 239 #[e.val,J E g,J E h,aG #[J E i,J E l,J E n,J E o],aG #[J E p,J E q]] r (kM r (s9 (Lk f g h i l p) (Lk f g h n o q))):=by
 let ⟨s,t,u,v,w,x,y,z,H,U,V,W⟩:=xI b;let ⟨Y,a0⟩:=a.wh;rw[<-a0] at W w x V;rw[<-Y] at u v H;have a1:E.wrap (16*g)=16*g:=an _ O;have a2:E.wrap (8*h)=8*h:=an _ O;have a3:e.H.tmod 32=e.H%32:=iG O;have a4:(e.H%32!=0)=av:=by simpa using W
 have a5:e.W.tdiv 16=e.W/16:=bB O;have a6:e.H.tdiv 16=e.H/16:=bB O;have a7:E.wrap (e.W/16)=e.W/16:=an _ O;have a8:E.wrap (e.H/16)=e.H/16:=an _ O;have a9:decide (g<0)=av:=decide_eq_false O;have aa:decide (e.W/16<=g)=av:=decide_eq_false O;have ab:decide (h<0)=av:=decide_eq_false O;have ac:decide (e.H/16<=h)=av:=decide_eq_false O;let ⟨ad,ae⟩:=aX (Lk f g h i l p);let ⟨ag,ah⟩:=aX (Lk f g h n o q);have ai:=aH a
 have aj:=aH (fun(al:Nat)(am:Int)(ap:[p,q][al]?=M am)=>show am=0\/am=1 by
  have:=b.2.2
  match al,ap with
  |0,ar=>injection ar with ax;rw[<-ax];exact this.1
  |1,ar=>injection ar with ay;rw[<-ay];exact this.2
  |ar+2,aV=>simp at aV)
 have al:=aH (fun(am:Nat)(ap ar ax:Int)(ay:[p,q][am]?=M ap)(aV:[i,n][am]?=M ar)(b0:[l,o][am]?=M ax)=>show wM ar ax=aB/\Lk f g h ar ax ap=(if am=0 then ad else ag) by
  subst ae ah
  match am,ay,aV,b0 with
  |0,b1,b2,b3=>injection b1 with b4;injection b2 with b5;injection b3 with b6;subst b4 b5 b6;exact⟨c,rfl⟩
  |1,b1,b2,b3=>injection b1 with b4;injection b2 with b5;injection b3 with b6;subst b4 b5 b6;exact⟨d,rfl⟩
  |b1+2,b2,_,_=>simp at b2)
 have am:fj (∀ap,bD r ap->aT aE 243 #[aG (au e)] ap fun ar ax=>ar=aK (ao aB)/\bD ap ax):=aH (fun ay aV=>by
  have:=om _ f ay (a.ext aV).1;have ap:=b.1;simp only[oP,bT] at ap;rwa [ap.1.1.1.1] at this)
 have ap:fj (∀ar,bD r ar->∀ax,ax=0\/ax=1->aT aE 118 #[aG (au e),J E ax] ar (kM ar (fw f ax.toNat))):=aH (fun ay aV b0 b1=>(N2 b b1 e.val ay (a.ext aV).1 a.2).mono fun _ _ b2=>b2.fx);have ar:fj (∀(ax:T)(ay aV b0:Int)(b1:FV),Fv ax b1 (fw f ay.toNat)->wM aV b0=aB->aT aE 240 #[aG (au b1),J E (16*g),J E (8*h),J E 16,J E 8,aG #[J E aV,J E b0]] ax (kM ax (Lk f g h aV b0 ay))):=aH (fun b2 b3 b4 b5 b6 b7 b8=>(KO b _ b6.val b4 b5 b2 b7.1 b8).mono fun _ _ b9=>b9.fx)
 have ax:fj (∀(ay:T)(aV b0:FV),Fv ay aV ad->Fv ay b0 ag->aT aE 105 #[aG (au aV),aG (au b0)] ay (kM ay (s9 ad ag))):=aH (fun b1 b2 b3 b4 b5=>by
  subst ae ah;exact(GC b2.val b3.val _ _ b1 b4.1 b5.1 b4.2 b5.2 (qM ..) (qM ..)).mono fun _ _ ay=>ay.fx)
 rw[<-ae,<-ah];unfold FV.val;let ⟨ay,aV,b0,b1,b2,b3,b4,b5,b6,b7,b8,b9,ba⟩:=Dt r (au e) 63 #[J E i,J E l,J E n,J E o] 273 #[J E p,J E q] 217 (au aC) 63;clear a s t u v w x y W c d b ae ah Y a0;simp only[au] at am ap ar ax b7;go_enter func239,ntmps239;go_upto_region 1 with fail;refine mr b2 ?_
 try simp only[World.size_alloc]
 rw[<-b1];clear b2 b1;let ⟨⟨a,b,c,d,s⟩,_,t⟩:=(b7.o _ b5.o).rQ;go_wp2_with fail;refine mR (am.o _ (b6.o _ b5.o)) fun u v=>?_
 have w:=mX v b5;let ⟨⟨x,y,W,Y,a0⟩,_,ae⟩:=(b7.o _ w.o).rQ;have ah:=(b9.o _ w.o).cell 0 rfl;have b1:=(b9.o _ w.o).cell 1 rfl;have b2:=(b9.o _ w.o).lt;go_wp2_with fail
 go_loopw [52] (fun bb wr=>mD 2 (fun _ wr=>wr=u) bb wr) (fun bc _=>2-(intOf bc).toNat)
 case atStart=>exact⟨0,by omega,rfl,rfl⟩
 case round=>
  obtain⟨bb,bc,rfl,rfl⟩:=hrel
  by_cases bd:bb<2
  ·let ⟨be,bf⟩:∃bi,[p,q][bb]?=M bi:=⟨_,aA (jP bd)⟩
   have bi:∀bk,(eT 217 (aG #[J E p,J E q]) (J E (bb:Int))).run aE bk=.ok (J E be) bk:=fun bl=>Ld (x:=[p,q]) rfl bf bl
   rcases aj.o bb be bf with rfl|rfl
   all_goals
    go_wp2_with fail;exact⟨⟨bb+1,by omega,by go_num,rfl⟩,by simp[intOf];omega⟩
  ·obtain rfl:bb=2:=O
   rw[show((2:Nat):Int)=2 from rfl];go_upto_region 10 with fail;let ⟨be,bf,bi,bk,bl,bn⟩:=mY wr (au aC++au aC) 218;have br:=aH (show ay+4<=be by have:=w.o.k;rw[b4.o] at this;omega);have bs:=mX bl w;refine mr bk ?_;rw[<-bi];clear bi bk;have bi:=(b9.o _ bs.o).cell 0 rfl;have bk:=(b9.o _ bs.o).cell 1 rfl;have bt:=(b9.o _ bs.o).lt;go_wp2_with fail
   go_loopw [64] (fun bu wr=>mD 2 (fun bv wr=>FsR r ay aV be ad ag bv wr) bu wr) (fun bx _=>2-(intOf bx).toNat)
   case atStart=>exact⟨0,by omega,rfl,aC,aC,bs.o,bn.o,fun bu=>by omega,fun bv=>by omega⟩
   case round=>
    obtain⟨bu,bv,rfl,bx,bz,bC,bK,bL,bR⟩:=hrel;let ⟨bU,bV,bY,c0⟩:=dq bC bK bL bR
    by_cases c1:bu<2
    ·let ⟨c2,c3⟩:∃c4,[p,q][bu]?=M c4:=⟨_,aA (jP c1)⟩
     let ⟨c4,c5⟩:∃c6,[i,n][bu]?=M c6:=⟨_,aA (jP c1)⟩;let ⟨c6,c7⟩:∃c8,[l,o][bu]?=M c8:=⟨_,aA (jP c1)⟩;have c8:∀c9,(eT 217 (aG #[J E p,J E q]) (J E (bu:Int))).run aE c9=.ok (J E c2) c9:=fun ca=>Ld (x:=[p,q]) rfl c3 ca
     obtain⟨c9,ca⟩:=aQ (al.o bu c2 c4 c6 c3 c5 c7) (aj.o bu c2 c3)
     have cb:=aH (show(#[J E i,J E l,J E n,J E o]:Array aq).extract (bu*2) (bu*2+2)=#[J E c4,J E c6] by
      match bu,c5,c7 with
      |0,cc,cd=>injection cc with ce;injection cd with cf;subst ce cf;rfl
      |1,cc,cd=>injection cc with ce;injection cd with cf;subst ce cf;rfl
      |cc+2,cd,_=>simp at cd)
     have cc:=aH c1;have cd:decide ((bu:Int)<2)=aB:=decide_eq_true O;let ⟨⟨ce,cf,cg,ch,ci⟩,_,ck⟩:=(b7.o _ bU.o).rQ;go_wp2_with fail;refine(ap.o _ (b6.o _ bU.o) c2 ca.o).mono ?_;rintro cl cn ⟨co,rfl,cp,cr⟩;let ⟨cs,ct⟩:=di cr bU bV;obtain⟨cu,cv⟩:=aQ cp (show bD wr cn from cr);simp only[FV.val];go_upto_region 14 with fail;let ⟨cw,cx,cy,cz,cA,cB⟩:=mY cn (au co) 63;let ⟨cC,cE,cF,cI⟩:=nj cA cs ct cu cv;refine mr cz ?_;rw[<-cy];clear cy cz;go_upto_region 16 with fail;refine aL 14 (fun cy=>Fm r ay aV cy/\Bx cy cw 63 (au co)/\Bx cy be 218 (bx.cells++bz.cells)) rfl (fun cz cL=>?_);have cy:=aH (show Fm r ay aV cx/\Bx cx cw 63 (au co)/\Bx cx be 218 (bx.cells++bz.cells) from⟨cC.o,cB.o,cE.o⟩);let ⟨cN,cO,cR⟩:=gO cL cy cF cI;refine gN 0 9 7 ?_;simp only[sZ,ak];go_big_quiet_step (fail);refine lF cy 17 cw co (fun _ cS=>cS.2.1) ?_;simp only[sZ,ak];iterate 6 (go_big_quiet_step (fail))
     refine lR cy 272 86 (ay+1) (bu*2) 2 #[J E c4,J E c6] (fun _ cS=>⟨_,_,b8.o _ cS.1,cb.o,by have:=cc.o;show bu*2+2<=4;omega⟩) u9q TF ?_;refine aN (fK 9 6 cN fun cS cT=>?_);simp only[sZ,ak];let ⟨cU,cV,cY⟩:=gO cT cN cO cR;go_wp2_with fail;refine(ar.o _ c2 c4 c6 co cV.o c9.o.1).mono ?_;rintro d0 d1 ⟨d2,rfl,d3,d4⟩;let ⟨d5,d6⟩:=di d4 cU cY;have d7:=aH d3;simp only[FV.val];go_wp2_with fail;refine gT 10 4 2 ?_;refine fK 14 1 d5 fun d8 d9=>?_
     simp only[sZ,ak];let ⟨dc,df,dg⟩:=gO d9 d5 d6 d7;let ⟨dj,dk,dl⟩:∃dm dn:FV,dm=(if bu=0 then d2 else bx)/\dn=(if bu=0 then bz else d2):=⟨_,_,rfl,rfl⟩
     refine cD rfl 63 (aI 91) (aI 89) rfl be (bu*5) (au d2) rfl rfl _ _ (dj.cells++dk.cells) dc.o.2.2 (by
      rw[dl.1,dl.2]
      match bu,cc.o with
      |0,_=>rfl
      |1,_=>rfl
      |dm+2,dn=>omega) bM (by have:=cc.o;show bu*5+5<=10;omega) (by simp[au,cJ]) ?_
     obtain⟨dm,dn,dp⟩:=bh dl (show Fm r ay aV (d8.setRow be (dj.cells++dk.cells)) from dc.o.1.C (k:=be) (eZ b4.o br.o) _) (dc.o.2.2.row (dj.cells++dk.cells));have be:(bx.cells++bz.cells).all oV=aB:=by simp[au,oV]
     obtain⟨dr,ds⟩:=aQ (dg.o.row dc.o.2.2 be (dj.cells++dk.cells)) (fun dx=>((bY.o dx).ext df.o).row dc.o.2.2 be (dj.cells++dk.cells));clear be;refine mn ⟨rfl,gT 15 1 0 (pX fun be dx=>?_)⟩;let ⟨dy,dC,dD⟩:=gO dx dn dp dr;have dK:=aH (fun dL=>(ds.o dL).ext dx);go_wp2_with fail;refine⟨⟨bu+1,by have:=cc.o;omega,by go_num,dj,dk,dy.o,dC.o,fun _=>?_,fun dL=>?_⟩,by have:=cc.o;simp[intOf];omega⟩
     ·have dO:=c9.o.2
      rw[dm.o.1];split
      ·rename_i dQ;rw[dQ,if_pos rfl] at dO;rw[<-dO];exact dD.o
      ·exact dK.o O
     ·have dO:=c9.o.2
      rw[dm.o.2];split
      ·omega
      ·rename_i dQ;rw[if_neg dQ] at dO;rw[<-dO];exact dD.o
    ·obtain rfl:bu=2:=O
     have be:=bV.o.cell 0 rfl;have c2:=bV.o.cell 1 rfl;have c3:=bV.o.cell 2 rfl;have c4:=bV.o.cell 3 rfl;have c5:=bV.o.cell 4 rfl;have c6:=bV.o.cell 5 rfl;have c7:=bV.o.cell 6 rfl;have c8:=bV.o.cell 7 rfl;have c9:=bV.o.cell 8 rfl;have ca:=bV.o.cell 9 rfl;have cb:=bV.o.lt;go_wp2_with fail;refine(ax.o _ bx bz (bY.o O) (c0.o O)).mono ?_;rintro cc cd ⟨ce,rfl,cf,cg⟩;have ch:=mX cg bU;have ci:=aH cf;simp only[FV.val];let ⟨⟨ck,cl,cn,co,cp⟩,⟨cr,cs,ct,cu,cv⟩,cw⟩:=(ba.o _ ch.o).rQ;go_wp2_with fail;refine dY (v:=fE #[ce.val,J E 0]) (by simp only[Ih,results239,FV.val];go_simp) rfl ?_;exact XR ci.o (ba.o _ ch.o) (b6.o _ ch.o) (by rw[<-b3.o];omega)
def vq{p:Nat->Prop}(b:aq)(q r:Int)(n o s:List Int)(t u v w:Int)(x:T)(a:dF p x b ⟨q,r,n,o,s⟩)
  (c:bQ ⟨q,r,n,o,s⟩=aB)(d:0<=t)(e:t%2=0)(f:t<=q-16)(g:0<=u)(h:u%2=0)(i:u<=r-16)(l:wM v w=aB):
  aT aE 240 #[b,J E t,J E u,J E 16,J E 16,aG #[J E v,J E w]] x (nk x (pt ⟨q,r,n,o,s⟩ t u 16 v w,0)):=by
 have y:=a;obtain⟨z,H,U,V,W,Y,a0,a1,a2,rfl,a3,a4,a5⟩:=a;obtain⟨a,a6,a7,a8,a9,aa,ab,ac,ad⟩:=uE c;dsimp only at*;rw[a3.len] at ab;rw[a4.len] at ac;rw[a5.len] at ad;obtain⟨ae,ag,ah⟩:=bh ab ac ad;clear ab ac ad;have ab:-63<=v/\v<=63/\-63<=w/\w<=63:=by simpa[wM] using l
 have ac:=Ae ab.1 ab.2.1;have ad:=Ae ab.2.2.1 ab.2.2.2;go_enter func240,ntmps240;go_wp2_with fail;refine(dB (p:=p) _ ⟨q,r,n,o,s⟩ _ (by(repeat with_reducible apply gR);exact y)).mono ?_;rintro ai aj ⟨rfl,al⟩;obtain⟨am,ap⟩:=gU al;have ar:=al.size
 try simp at ar
 try simp at am
 try simp at ap
 have ax:x.heap.size<aj.heap.size:=O;have ay:x.heap.size+1<aj.heap.size:=O;have aV:x.heap.size+1+1<aj.heap.size:=O;go_wp2_with fail;refine(wH v w _).mono ?_;rintro b0 b1 ⟨rfl,b2⟩;obtain⟨b3,b4⟩:=gU b2;have b5:=b2.size
 try simp at b5
 try simp at b3
 try simp at b4
 have b6:x.heap.size<b1.heap.size:=O;have b7:x.heap.size+1<b1.heap.size:=O;have b8:x.heap.size+1+1<b1.heap.size:=O;have b9:=((((a3.alloc _).alloc _).alloc _).ext al).ext b2;have ba:=((((a4.alloc _).alloc _).alloc _).ext al).ext b2;have bb:=((((a5.alloc _).alloc _).alloc _).ext al).ext b2;have bc:bj x.heap.size x b1:=(((((aM _ x).alloc dS _).alloc dS _).alloc eB _).trans (al.mono eB)).trans (b2.mono O);go_wp2_with fail;have bd:E.wrap (q/2)=q/2:=an _ O;have be:E.wrap (r/2)=r/2:=an _ O;have bf:q.tdiv 2=q/2:=bB O;have bi:r.tdiv 2=r/2:=bB O;have bk:Bx b1 x.heap.size 63 #[J E q,J E r,af z H U,af V W Y,af a0 a1 a2]:=((((jR _ _ _).alloc _).alloc _).ext al).ext b2;have bl:Bx b1 (x.heap.size+1) 272 #[J E v,J E w]:=(((Bx.D _ _ _ _ dS).alloc _).ext al).ext b2;have bn:Bx b1 (x.heap.size+1+1) 63 #[J E 0,J E 0,af S 0 0,af S 0 0,af S 0 0]:=((Bx.D _ _ _ _ dS).ext al).ext b2;have br:=((bk.alloc (az #[J E (v.tdiv 2),J E (w.tdiv 2)] 272)).alloc (az #[J E t,J E u,J E 16,J E 16] 398)).alloc (az #[J E (t/2),J E (u/2),J E 8,J E 8] 398);have bs:=((bl.alloc (az #[J E (v.tdiv 2),J E (w.tdiv 2)] 272)).alloc (az #[J E t,J E u,J E 16,J E 16] 398)).alloc (az #[J E (t/2),J E (u/2),J E 8,J E 8] 398);have bt:=((bn.alloc (az #[J E (v.tdiv 2),J E (w.tdiv 2)] 272)).alloc (az #[J E t,J E u,J E 16,J E 16] 398)).alloc (az #[J E (t/2),J E (u/2),J E 8,J E 8] 398);have bu:=((jR b1 272 #[J E (v.tdiv 2),J E (w.tdiv 2)]).alloc (az #[J E t,J E u,J E 16,J E 16] 398)).alloc (az #[J E (t/2),J E (u/2),J E 8,J E 8] 398);have bv:=(Bx.D (b1.alloc (az #[J E (v.tdiv 2),J E (w.tdiv 2)] 272)) 398 #[J E t,J E u,J E 16,J E 16] (b1.heap.size+1) dS).alloc (az #[J E (t/2),J E (u/2),J E 8,J E 8] 398);have bx:=Bx.D ((b1.alloc (az #[J E (v.tdiv 2),J E (w.tdiv 2)] 272)).alloc (az #[J E t,J E u,J E 16,J E 16] 398)) 398 #[J E (t/2),J E (u/2),J E 8,J E 8] (b1.heap.size+1+1) dS;have bz:=((bc.alloc O (az #[J E (v.tdiv 2),J E (w.tdiv 2)] 272)).alloc eB (az #[J E t,J E u,J E 16,J E 16] 398)).alloc eB (az #[J E (t/2),J E (u/2),J E 8,J E 8] 398);generalize bC:((b1.alloc (az #[J E (v.tdiv 2),J E (w.tdiv 2)] 272)).alloc (az #[J E t,J E u,J E 16,J E 16] 398)).alloc (az #[J E (t/2),J E (u/2),J E 8,J E 8] 398)=bK at*
 clear bC;replace a:=a3.ext bz;replace b:=a4.ext bz;replace c:=a5.ext bz;obtain⟨d,e,f,g,h⟩:=br.dz;have d:=bs.cell 0 rfl;have d:=bs.cell 1 rfl;have d:=bu.cell 0 rfl;have d:=bu.cell 1 rfl;have d:=bv.cell 0 rfl;have d:=bv.cell 1 rfl;have d:=bv.cell 2 rfl;have d:=bv.cell 3 rfl;have d:=bx.cell 0 rfl;have d:=bx.cell 1 rfl;have d:=bx.cell 2 rfl;have d:=bx.cell 3 rfl;obtain⟨d,e,f,g,h⟩:=bt.dz;have d:=bt.frozen 0;have d:=bt.frozen 1;have d:=bt.frozen 2;have d:=bt.frozen 3;have d:=bt.frozen 4;have d:=br.lt;have d:=bs.lt;have d:=bt.lt;have d:=bu.lt;have d:=bv.lt;have d:=bx.lt
 go_region_held3 (fun d=>d.cell? ⟨x.heap.size,0,S⟩=M (J E q)/\d.cell? ⟨x.heap.size,1,S⟩=M (J E r)/\d.cell? ⟨x.heap.size,2,S⟩=M (.slice z H U)/\d.cell? ⟨x.heap.size,3,S⟩=M (.slice V W Y)/\d.cell? ⟨x.heap.size,4,S⟩=M (.slice a0 a1 a2)/\d.cell? ⟨x.heap.size+1,0,S⟩=M (J E v)/\d.cell? ⟨x.heap.size+1,1,S⟩=M (J E w)/\d.cell? ⟨b1.heap.size,0,S⟩=M (J E (v.tdiv 2))/\d.cell? ⟨b1.heap.size,1,S⟩=M (J E (w.tdiv 2))/\d.cell? ⟨b1.heap.size+1,0,S⟩=M (J E t)/\d.cell? ⟨b1.heap.size+1,1,S⟩=M (J E u)/\d.cell? ⟨b1.heap.size+1,2,S⟩=M (J E 16)/\d.cell? ⟨b1.heap.size+1,3,S⟩=M (J E 16)/\d.cell? ⟨b1.heap.size+1+1,0,S⟩=M (J E (t/2))/\d.cell? ⟨b1.heap.size+1+1,1,S⟩=M (J E (u/2))/\d.cell? ⟨b1.heap.size+1+1,2,S⟩=M (J E 8)/\d.cell? ⟨b1.heap.size+1+1,3,S⟩=M (J E 8))
  (first|(refine⟨?_,?_,?_,?_,?_,?_,?_,?_,?_,?_,?_,?_,?_,?_,?_,?_,?_⟩<;> go_simp;done)|go_keep)
  (first
   |(go_at_call 273;((with_reducible refine(jy (p:=p) t u q r v w 16 16 16 16 z H _ n _ a.drew rfl rfl ae.o O O O O O O O O O O O O O O).mono ?_);rintro d e ⟨A3,n3,m3,rfl,hc3,hB3,hb3⟩;have hb3:=ml hb3;obtain⟨f,g⟩:=gU hb3;have h:=hb3.size;have i:x.heap.size<e.heap.size:=O;have l:x.heap.size+1<e.heap.size:=O;have y:x.heap.size+1+1<e.heap.size:=O;have U:b1.heap.size<e.heap.size:=O;have Y:b1.heap.size+1<e.heap.size:=O;have a2:b1.heap.size+1+1<e.heap.size:=O))
   |(go_at_call 273;((with_reducible refine(jy (p:=p) (t/2) (u/2) (q/2) (r/2) (v.tdiv 2) (w.tdiv 2) 8 8 8 8 V W _ o _ (b.ext hb3) rfl rfl ag.o O O O O O O O O O O O O O O).mono ?_);rintro a d ⟨A4,n4,m4,rfl,hc4,hB4,hb4⟩;obtain⟨e,f⟩:=gU hb4;have g:x.heap.size<d.heap.size:=(dU hb4.size);have h:x.heap.size+1<d.heap.size:=(dU hb4.size);have i:x.heap.size+1+1<d.heap.size:=(dU hb4.size);have l:b1.heap.size<d.heap.size:=(dU hb4.size);have n:b1.heap.size+1<d.heap.size:=(dU hb4.size);have y:b1.heap.size+1+1<d.heap.size:=(dU hb4.size)))
   |(go_at_call 273;((with_reducible refine(jy (p:=p) (t/2) (u/2) (q/2) (r/2) (v.tdiv 2) (w.tdiv 2) 8 8 8 8 a0 a1 _ s _ ((c.ext hb3).ext hb4) rfl rfl ah.o O O O O O O O O O O O O O O).mono ?_);rintro a w5 ⟨A5,n5,m5,rfl,hc5,hB5,hb5⟩;obtain⟨b,d⟩:=gU hb5;have e:x.heap.size<w5.heap.size:=(gC hb4.size hb5.size);have f:x.heap.size+1<w5.heap.size:=(gC hb4.size hb5.size);have g:x.heap.size+1+1<w5.heap.size:=(gC hb4.size hb5.size);have h:b1.heap.size<w5.heap.size:=(gC hb4.size hb5.size);have i:b1.heap.size+1<w5.heap.size:=(gC hb4.size hb5.size);have l:b1.heap.size+1+1<w5.heap.size:=(gC hb4.size hb5.size))))
 go_wp2;have a:¬(bK.heap.size<=x.heap.size+1+1):=O;have b:=hb3.size;have b:=hb4.size;have b:=hb5.size;have b:=bz.size;have b:bj x.heap.size x w5:=((bz.trans (hb3.mono O)).trans (hb4.mono O)).trans (hb5.mono O);have c:=((hB3.ext hb4).ext hb5).mono (q:=(bK.heap.size<=·)) (fun d _ e=>e);have d:=(hB4.mono (q:=(bK.heap.size<=·)) (fun e _ f=>by omega)).ext hb5;have e:=hB5.mono (q:=(bK.heap.size<=·)) (fun f _ g=>by omega);refine dY (v:=fE #[aG #[J E 16,J E 16,af A3 n3 m3,af A4 n4 m4,af A5 n5 m5],J E 0]) (by simp only[Ih,results240];go_simp) rfl ⟨_,rfl,eH.mk hc3 hc4 hc5,⟨A3,n3,m3,A4,n4,m4,A5,n5,m5,rfl,?_,?_,?_⟩,?_⟩
 ·refine du.mono (p:=(bK.heap.size<=·)) ?_ (fun f _ g=>by omega)
  repeat refine du.setCell ?_ a _
  exact c
 ·refine du.mono (p:=(bK.heap.size<=·)) ?_ (fun c _ f=>by omega)
  repeat refine du.setCell ?_ a _
  exact d
 ·refine du.mono (p:=(bK.heap.size<=·)) ?_ (fun c _ d=>by omega)
  repeat refine du.setCell ?_ a _
  exact e
 ·repeat refine iu ?_ eB _
  exact b
def Uk{a b c f d}(e:Bx a b c f)(g:f.toList.take 5=(au d).toList)(h){i}(l:(au d)[h]?=M i):a.cell? ⟨b,h,S⟩=M i:=by
 refine e.cell h ?_;have a:h<5:=by have:=(eJ.1 l).1;simpa[au] using this
 have:(f.toList.take 5)[h]?=M i:=by rw[g];simpa using l
 rw[gH,if_pos a] at this;simpa using this
def FV.one(a):(au a).all (·.oneCell')=aB:=by simp[au,cJ]
def LR:(aE.info? 63).map (fun i=>(i.zero,i.size,i.bytes))=M (M aC.val,5,88):=dK
def UO:(aE.info? 272).map (·.size)=M 2:=dK
def UN:(aE.info? 273).map (·.size)=M 4:=dK
def UQ:(aE.info? 217).map (·.size)=M 2:=dK
def tS(a:T)(b:je)(c d e:FV)(f:Int)(g:Fr):Prop:=∀h,bD a h->aT aE 238 #[b.v,aG (cq c d e),J E 0,J E f] h (kM h g)
def tS.ext{a b c d e f g h}(i:tS a c d e f g h)(l:bD a b):tS b c d e f g h:=fun n o=>i n (l.trans o)
instance {w w' x1 x2 x3 x4 x5 x6}:Tr w w' (tS w x1 x2 x3 x4 x5 x6) (tS w' x1 x2 x3 x4 x5 x6):=⟨fun hb h=>tS.ext h hb⟩
def Ap(a:Mb)(b:Fr)(c d:Nat):Fr:=
 if a.fp=aB then(OQ b c d (cM a.v 0) (cM a.v 1) (cM a.v 2) (cM a.v 3) (cM a.Z 0) (cM a.Z 1)).1 else pt b (16*c) (16*d) 16 (cM a.v 0) (cM a.v 1)
structure Rp(a:Mb)(b:Fr)(c d:Nat):Prop where
 hs:oP b c d=aB
 v0:wM (cM a.v 0) (cM a.v 1)=aB
 v1:a.fp=aB->wM (cM a.v 2) (cM a.v 3)=aB
 fl:a.fp=aB->yB b c d (cM a.Z 0) (cM a.Z 1)
def Mb.v4{a:Mb}(b:a.A):a.cells.extract 5 (5+4)=#[J E (cM a.v 0),J E (cM a.v 1),J E (cM a.v 2),J E (cM a.v 3)]/\5+4<=a.cells.size:=
 Ai2 (Mb.cV b (d:=0) (eh (iJ b.v))) (Mb.cV b (d:=1) (eh (iJ b.v))) (Mb.cV b (d:=2) (eh (iJ b.v))) (Mb.cV b (d:=3) (eh (iJ b.v)))
def Mb.v2{a:Mb}(b:a.A):a.cells.extract 5 (5+2)=#[J E (cM a.v 0),J E (cM a.v 1)]/\5+2<=a.cells.size:=
 Ae6 (Mb.cV b (d:=0) (eh (iJ b.v))) (Mb.cV b (d:=1) (eh (iJ b.v)))
def Mb.s2{a:Mb}(b:a.A):a.cells.extract 13 (13+2)=#[J E (cM a.Z 0),J E (cM a.Z 1)]/\13+2<=a.cells.size:=
 Ae6 (Mb.cS b (d:=0) (eh (iJ b.Z))) (Mb.cS b (d:=1) (eh (iJ b.Z)))
def Ab9{a}{b c:Nat}(d:oP a b c=aB):bQ a=aB/\b<=3/\c<=3/\(16*b:Int)<=a.W-16/\(16*c:Int)<=a.H-16:=by
 simp only[oP,jl,bT,decide_eq_true_eq] at d;let ⟨⟨⟨⟨⟨⟨a,b⟩,c⟩,e⟩,f⟩,g⟩,h⟩:=d;have b:=a;simp only[bQ,bT] at b;have:=jI b.1.1.1;exact⟨a,by omega,by omega,by omega,by omega⟩
def F9(f:je)(o:Nat)(p:Mb)(a:p.u=[aB,av])(h i l:FV)(q:Fr)(r s:Nat)(c:Rp p q r s)(n:T)(d:Mx n o p)(e:tS n f h i l (cM p.Z 0) q):
  aT aE 204 #[f.v,aD (M ⟨o,0,S⟩),aG (cq h i l),J E r,J E s] n (kM n (Ap p q r s)):=by
 let ⟨t,v,w,x,y⟩:=Ab9 c.hs;let ⟨g,z⟩:=aX n.heap.size;obtain⟨HG,H,U,V,W,Y⟩:=ej z d e c (show o<g by rw[z];exact d.lt) (Hw r O O);obtain⟨a0,a1⟩:=aQ (Hw s O O) (show bQ q=aB/\r<=3/\s<=3/\(16*r:Int)<=q.W-16/\(16*s:Int)<=q.H-16 from⟨t,v,w,x,y⟩);let ⟨a2,a3⟩:=aX ([(283,#[J E f.ty,J E f.st,ao f.B,ao f.sec]),(158,cq h i l),(63,aC.cells)]);have a4:=aH a3;let ⟨a5,a6⟩:=aX (((n.alloc (az #[J E f.ty,J E f.st,ao f.B,ao f.sec] 283)).alloc (az (cq h i l) 158)).alloc (az aC.cells 63))
 have a7:=aH (show Fm n g a2 a5 by
  rw[a6,a3];exact(((Fm.start n z).push (oz z) _ _).push (uM z) _ _).push (uM z) _ _)
 have a8:a2.length=3:=by rw[a3];rfl
 obtain⟨a9,aa,ab,ac,HL2⟩:=dZ a8 a (show a2[0]?=M (283,#[J E f.ty,J E f.st,ao f.B,ao f.sec]) by rw[a3];rfl) (show a2[1]?=M (158,cq h i l) by rw[a3];rfl) (show a2[2]?=M (63,aC.cells) by rw[a3];rfl);have ad:=Ll a2 HG;have ae:=aH (show∀ag,Fm n g a2 ag->aT aE 238 #[aG #[J E f.ty,J E f.st,ao f.B,ao f.sec],aG (cq h i l),J E 0,J E (cM p.Z 0)] ag (kM ag q) from fun ah ai=>e ah (ad.o ah ai));clear U d e c t v w x y a3 a8 a;unfold je.v at*;go_enter func204,ntmps204;go_upto_region 1 with fail;refine mr a6 ?_;rw[<-z];clear a6 z;have a:=aH (H.o.ext (ad.o a5 a7.o));go_wp2_with (refine yS dW (aI 20) rfl rfl a.o ?_);clear a
 go_loopw [22,12] (fun a c wr=>∃k:Nat,k<=2/\a=J E k/\Fm n g a2 wr/\(k=0->c=af S 0 0)/\(0<k->∃b cp u cur,c=af (M ⟨b,0,S⟩) 1 cp/\Bx wr b 63 cur/\cur.toList.take 5=(au u).toList/\g+3<=b/\Fv wr u (Ap p q r s))) (fun d _ _=>2-(intOf d).toNat)
 case atStart=>exact⟨0,by omega,rfl,a7.o,fun _=>rfl,fun a=>absurd a O⟩
 case round=>
  obtain⟨k,a,rfl,c,hv0,hv1⟩:=hrel;have HP1:=aH c;clear c
  by_cases a:k<2
  ·let ⟨b,hb⟩:∃b,p.u[k]?=M b:=⟨_,aA (by rw[aa.o];simpa using a)⟩
   have a:=fun c=>wP (x:=p.u) (oz aa.o) hb c
   have c:k=0/\b=aB\/k=1/\b=av:=by
    have:k=0\/k=1:=O;rw[aa.o] at hb;rcases this with rfl|rfl<;> simp at hb<;> simp[hb]
   clear hb;rcases c with⟨d,rfl⟩|⟨hk1,rfl⟩
   ·have c:=hv0 d
    subst c;have c:=aH d;clear hv0 hv1 d;have d:=aH (show∀e,Fm n g a2 e->aT aE 238 #[aG #[J E f.ty,J E f.st,ao f.B,ao f.sec],aG (cq h i l),J E (k:Int),J E (cM p.Z 0)] e (kM e q) by rw[c.o];exact ae.o);go_upto_region 6 with fail;clear a;apply Bv (A:=fun a kf u=>Fm n g a2 a/\Fv a u q/\Bx a kf 63 (au u)/\g+3<=kf)
    ·rintro(a:fj _)
     refine aL 99 (fun e=>Fm n g a2 e) rfl (fun t v=>?_);have e:=mX v HP1;have t:=aH HP1.o;clear v;refine gN 0 10 7 ?_;simp only[sZ,ak];refine lR t 283 5 g 0 4 #[J E f.ty,J E f.st,ao f.B,ao f.sec] (fun _ v=>qg (v.at 0 ab.o) rfl) Bi mU ?_;refine lR t 158 7 (g+1) 0 15 (cq h i l) (fun _ f=>qg (f.at 1 ac.o) rfl) Kg kK ?_;simp only[sZ,ak];iterate 7 (go_big_quiet_step (fail))
     refine pQ rfl 3 (aI 37) rfl o (13+k*2) rfl (J E (cM p.Z 0)) _ (fun f h=>by obtain⟨i,rfl⟩:=h;rw[c.o];exact(H.o.ext (ad.o _ (iQ (C:=fun l=>Fm n g a2 l) t.o i))).j.cell 13 (Mb.cS H.o.ok (d:=0) (eh (iJ H.o.ok.Z)))) rfl bJ ?_;refine aN (Md 10 14 6 e (fun f h=> ?Xq5) fun f h=> ?Xq6)
     case' Xq5=>
      simp only[sZ,ak];have i:=mX h e;clear h e;go_wp2_with fail;refine(d.o _ i.o).mono ?_;rintro l t ⟨u,rfl,v,w⟩;have l:=mX w i;have i:=aH v;clear v;go_wp2_with fail;refine gT 11 3 3 ?_;refine fK 14 2 l fun t v=>?_
      simp only[sZ,ak];let ⟨w,x⟩:=di v l i;clear v l i;go_wp2_with fail;let ⟨kf,i⟩:=aX t.heap.size;let ⟨l,v⟩:=aX (t.alloc (az aC.cells 63));obtain⟨t,y,HK,z⟩:=dq (show Fm n g a2 l by rw[v];exact w.o.alloc _) (show Bx l kf 63 aC.cells by rw[v,i];exact jR _ _ _) (show g+3<=kf by rw[i];have:=w.o.k;rw[a9.o] at this;exact this) (show Fv l u q by rw[v];exact x.o.ext (jd));clear x;refine tf v ?_;rw[<-i];clear v i w;refine fK 15 1 t fun i l=>?_
      simp only[sZ,ak];let ⟨HS7,HB7,HU7⟩:=gO l t y z;clear l t y z
     case' Xq6=>
      simp only[sZ,ak];have i:=mX h e;clear h e;go_wp2_with fail;let ⟨kf,e⟩:=aX f.heap.size;let ⟨h,l⟩:=aX (f.alloc (az aC.cells 63));obtain⟨f,t,HK⟩:=bh (show Fm n g a2 h by rw[l];exact i.o.alloc _) (show Bx h kf 63 aC.cells by rw[l,e];exact jR _ _ _) (show g+3<=kf by rw[e];have:=i.o.k;rw[a9.o] at this;exact this);refine tf l ?_;rw[<-e];clear l e i;refine fK 10 5 f fun e h=>?_
      simp only[sZ,ak];let ⟨e,i⟩:=di h f t;clear h f t;go_wp2_with fail;refine(d.o _ e.o).mono ?_;rintro d f ⟨u,rfl,h,l⟩;have d:=mX l e;have e:=aH h;have f:=mX l i;clear h;go_wp2_with fail;refine gT 11 3 2 ?_;refine fK 15 1 d fun h i=>?_
      simp only[sZ,ak];let ⟨HS7,HB7,HU7⟩:=gO i d f e;clear i d f e
     all_goals
      refine bI rfl (aI 15) (aI 40) rfl kf u rfl rfl HB7.o rfl ?_;obtain⟨d,e,f⟩:=bh (HS7.o.C (k:=kf) (eZ a9.o HK.o) (au u)) (HU7.o.row HB7.o (iq _) (au u)) (HB7.o.row (au u));clear HS7 HU7 HB7;refine mn ⟨rfl,gT 16 1 0 ?_⟩;refine zI d fun h i=>?_
      have l:=a.o h kf u ⟨d.o.ext i,e.o.ext i,f.o.ext i,HK.o⟩;clear d e f i;exact l
    intro a kf u ⟨d,e,f,h⟩
    try dsimp only
    let ⟨i,l,t,HK⟩:=dq d e f h;clear d e f h;have d:=(H.o.ext (ad.o a i.o)).c3;have e:=(H.o.ext (ad.o a i.o)).lt;cases hfp:p.fp with
    |false=>
     rw[hfp] at d;go_upto_region 12 with fail;let ⟨f,h⟩:=aX a.heap.size;let ⟨v,w⟩:=aX (a.alloc (az aC.cells 63));obtain⟨x,y,z,U,W⟩:=dZ (show Fm n g a2 v by rw[w];exact i.o.alloc _) (show Fv v u q by rw[w];exact l.o.ext (jd)) (show Bx v kf 63 (au u) by rw[w];exact t.o.alloc _) (show Bx v f 63 aC.cells by rw[w,h];exact jR _ _ _) (show kf<f/\g+3<=f by rw[h];exact⟨t.o.lt,by have:=i.o.k;rw[a9.o] at this;exact this⟩);refine mr w ?_;rw[<-h];clear w h d e l t i;refine aL 99 (fun h=>Fm n g a2 h/\Bx h kf 63 (au u)) rfl (fun w a3=>?_);have h:=aH (show Fm n g a2 v/\Bx v kf 63 (au u) from⟨x.o,z.o⟩);let ⟨v,w,a4,a5⟩:=nj a3 x y z U;clear a3 x y z U;refine gN 0 2 16 ?_;simp only[sZ,ak];refine lF h 15 kf u (fun _ x=>x.2) ?_;simp only[sZ,ak];go_big_quiet_step (fail);refine aN (Ax 2 15 h.o ?_);simp only[sZ,ak];refine bO rfl 241 #[J E (r:Int)] (J E (16*(r:Int))) (fun x=>by kernel_rfl) (fun y z=>(Y.o y).mono (fun U a3 a6=>⟨a6.1,a6.2▸bD.refl _⟩)) ?_;refine gN 3 1 14 ?_;simp only[sZ,ak];go_big_quiet_step (fail);refine aN (Ax 4 13 h.o ?_);simp only[sZ,ak];refine bO rfl 241 #[J E (s:Int)] (J E (16*(s:Int))) (fun x=>by kernel_rfl) (fun y z=>(a0.o y).mono (fun U Y a3=>⟨a3.1,a3.2▸bD.refl _⟩)) ?_;refine gN 5 7 6 ?_;simp only[sZ,ak];iterate 6 (go_big_quiet_step (fail))
     refine lR h 272 80 o (5+k*4) 2 #[J E (cM p.v 0),J E (cM p.v 1)] (fun _ x=>⟨_,_,(H.o.ext (ad.o _ x.1)).j,by rw[c.o];exact(Mb.v2 H.o.ok).1,by rw[c.o];exact(Mb.v2 H.o.ok).2⟩) u9q UO ?_;refine aN (oL 12 5 (fun x h1=>⟨v.o.ext h1,a4.o.ext h1⟩) fun y z=>?_);simp only[sZ,ak];let ⟨x,U,Y,a0⟩:=nj z v w a4 a5;clear z v w a4 a5;have v:=(vq _ q.W q.H q.Y q.U q.V (16*(r:Int)) (16*(s:Int)) (cM p.v 0) (cM p.v 1) y U.o.1 a1.o.1 O O a1.o.2.2.2.1 O O a1.o.2.2.2.2 V.o.v0);have w:=aH v;clear v;go_wp2_with fail;refine w.o.mono ?_;intro v y z;obtain⟨v,rfl,y,U⟩:=z.fx;let ⟨z,a1,a3⟩:=gO U x Y a0;have x:=aH (show Fv _ v (Ap p q r s) by unfold Ap;rw[if_neg (uM hfp)];exact y);clear y w;go_wp2_with fail;refine gT 13 3 2 ?_;refine oL 16 1 (fun w h1=>⟨z.o.ext h1,a1.o.ext h1⟩) fun y U=>?_
     simp only[sZ,ak];let ⟨w,y,Y,a0⟩:=nj U z a1 a3 x;clear U z a1 a3 x;refine bI rfl (aI 17) (aI 83) rfl f v rfl rfl Y.o rfl ?_;obtain⟨HS7,x,z,HB7⟩:=dq (w.o.C (k:=f) (eZ a9.o W.o.2) (au v)) (a0.o.row Y.o (iq _) (au v)) (Y.o.row (au v)) (y.o.m (g':=f) (cs':=au v) (dU W.o));clear w a0 Y y;refine mn ⟨rfl,gT 17 1 0 ?_⟩;refine QD (fun f h1=>⟨HS7.o.ext h1,HB7.o.ext h1⟩) fun w y=>?_
     let ⟨f,U,W⟩:=gO y HS7 x z;clear HB7 h;let ⟨⟨h,x,y,z,Y⟩,_,_⟩:=W.o.rQ;go_wp2_with (first|(at_builtin;go_must (refine Ej rfl (aI 89) (aI 91) 27 rfl 63 aC.val 5 88 oa LR rfl dD dD rfl w.heap.size (au v) rfl (jR _ _ _) rfl (FV.one v) ?_;intro b cp w11 cur he hb hcur htk h1 h2 h3)));obtain⟨W,a0⟩:=aQ ((f.o.alloc _).ext he) ((U.o.ext (jd)).ext he);have U:=f.o.k;rw[a9.o] at U;have f:w.heap.size+1<=b:=by simpa using hb
     obtain⟨f,w⟩:=aQ (show g+3<=b by omega) (show Bx w11 b 63 cur/\cur.toList.take 5=(au v).toList from⟨hcur,htk⟩);clear he hcur htk h1 h2 h3 h x y z Y;go_wp2;exact⟨⟨k+1,by omega,by go_num,W.o,fun h=>absurd h O,fun _=>⟨b,cp,v,cur,rfl,w.o.1,w.o.2,f.o,a0.o⟩⟩,by simp[intOf];omega⟩
    |true=>
     rw[hfp] at d;go_upto_region 11 with fail;let ⟨f,h⟩:=aX a.heap.size;let ⟨v,w⟩:=aX (a.alloc (az aC.cells 63));obtain⟨a,x,y,z,U⟩:=dZ (show Fm n g a2 v by rw[w];exact i.o.alloc _) (show Fv v u q by rw[w];exact l.o.ext (jd)) (show Bx v kf 63 (au u) by rw[w];exact t.o.alloc _) (show Bx v f 63 aC.cells by rw[w,h];exact jR _ _ _) (show kf<f/\g+3<=f by rw[h];exact⟨t.o.lt,by have:=i.o.k;rw[a9.o] at this;exact this⟩);refine mr w ?_;rw[<-h];clear w h d e l t i;refine aL 99 (fun d=>Fm n g a2 d/\Bx d kf 63 (au u)) rfl (fun e h=>?_);have d:=aH (show Fm n g a2 v/\Bx v kf 63 (au u) from⟨a.o,y.o⟩);let ⟨e,i,l,n⟩:=nj h a x y z;clear h a x y z;refine gN 0 15 6 ?_;simp only[sZ,ak];refine lF d 15 kf u (fun _ a=>a.2) ?_;simp only[sZ,ak];iterate 7 (go_big_quiet_step (fail))
     refine lR d 273 58 o (5+k*4) 4 #[J E (cM p.v 0),J E (cM p.v 1),J E (cM p.v 2),J E (cM p.v 3)] (fun _ a=>⟨_,_,(H.o.ext (ad.o _ a.1)).j,by rw[c.o];exact(Mb.v4 H.o.ok).1,by rw[c.o];exact(Mb.v4 H.o.ok).2⟩) underlying273 UN ?_;simp only[sZ,ak];iterate 5 (go_big_quiet_step (fail))
     refine lR d 217 64 o (13+k*2) 2 #[J E (cM p.Z 0),J E (cM p.Z 1)] (fun _ a=>⟨_,_,(H.o.ext (ad.o _ a.1)).j,by rw[c.o];exact(Mb.s2 H.o.ok).1,by rw[c.o];exact(Mb.s2 H.o.ok).2⟩) underlying217 UQ ?_;refine aN (oL 15 5 (fun a h1=>⟨e.o.ext h1,l.o.ext h1⟩) fun c h=>?_);simp only[sZ,ak];let ⟨a,o,t,v⟩:=nj h e i l n;clear h e i l n;have e:=aH (Dk u q r s (cM p.v 0) (cM p.v 1) (cM p.v 2) (cM p.v 3) (cM p.Z 0) (cM p.Z 1) c o.o (V.o.fl hfp) V.o.v0 (V.o.v1 hfp));go_wp2_with fail;refine e.o.mono ?_;rintro c h ⟨i,rfl,l,n⟩;rw[show(s9 (Lk q r s (cM p.v 0) (cM p.v 1) (cM p.Z 0)) (Lk q r s (cM p.v 2) (cM p.v 3) (cM p.Z 1)))=(OQ q r s (cM p.v 0) (cM p.v 1) (cM p.v 2) (cM p.v 3) (cM p.Z 0) (cM p.Z 1)).1 by rw[OP (V.o.fl hfp) V.o.v0 (V.o.v1 hfp)]] at l;let ⟨c,h,o⟩:=gO n a t v;have a:=aH (show Fv _ i (Ap p q r s) by unfold Ap;rw[if_pos hfp];exact l);clear l e;go_wp2_with fail;refine gT 16 3 2 ?_;refine oL 19 1 (fun e h1=>⟨c.o.ext h1,h.o.ext h1⟩) fun l n=>?_
     simp only[sZ,ak];let ⟨e,l,p,q⟩:=nj n c h o a;clear n c h o a;refine bI rfl (aI 17) (aI 67) rfl f i rfl rfl p.o rfl ?_;obtain⟨HS7,a,c,HB7⟩:=dq (e.o.C (k:=f) (eZ a9.o U.o.2) (au i)) (q.o.row p.o (iq _) (au i)) (p.o.row (au i)) (l.o.m (g':=f) (cs':=au i) (dU U.o));clear e q p l;refine mn ⟨rfl,gT 20 1 0 ?_⟩;refine QD (fun e h1=>⟨HS7.o.ext h1,HB7.o.ext h1⟩) fun f h=>?_
     let ⟨e,l,n⟩:=gO h HS7 a c;clear HB7 d;let ⟨⟨a,c,d,h,o⟩,_,_⟩:=n.o.rQ;go_wp2_with (first|(at_builtin;go_must (refine Ej rfl (aI 89) (aI 91) 27 rfl 63 aC.val 5 88 oa LR rfl dD dD rfl f.heap.size (au i) rfl (jR _ _ _) rfl (FV.one i) ?_;intro b cp w11 cur he hb hcur htk h1 h2 h3)));obtain⟨n,p⟩:=aQ ((e.o.alloc _).ext he) ((l.o.ext (jd)).ext he);have l:=e.o.k;rw[a9.o] at l;have e:f.heap.size+1<=b:=by simpa using hb
     obtain⟨e,f⟩:=aQ (show g+3<=b by omega) (show Bx w11 b 63 cur/\cur.toList.take 5=(au i).toList from⟨hcur,htk⟩);clear he hcur htk h1 h2 h3 a c d h o;go_wp2;exact⟨⟨k+1,by omega,by go_num,n.o,fun a=>absurd a O,fun _=>⟨b,cp,i,cur,rfl,f.o.1,f.o.2,e.o,p.o⟩⟩,by simp[intOf];omega⟩
   ·have a:=hv1 O
    let ⟨c,d⟩:=aQ hk1 a;clear hv0 hv1 hk1 a;go_wp2;exact⟨⟨k+1,by omega,by go_num,HP1.o,fun a=>absurd a O,fun _=>d.o⟩,by simp[intOf];omega⟩
  ·obtain rfl:k=2:=O
   obtain⟨b,cp,u,cur,rfl,hb,htk,a,c⟩:=hv1 O;have a:wr.cell? ⟨b,0,S⟩=M (J E u.W):=Uk hb htk 0 rfl;have a:wr.cell? ⟨b,1,S⟩=M (J E u.H):=Uk hb htk 1 rfl;have a:wr.cell? ⟨b,2,S⟩=M (.slice u.ya u.yn u.yc):=Uk hb htk 2 rfl;have a:wr.cell? ⟨b,3,S⟩=M (.slice u.ua u.un u.uc):=Uk hb htk 3 rfl;have a:wr.cell? ⟨b,4,S⟩=M (.slice u.va u.vn u.vc):=Uk hb htk 4 rfl;have a:=aH c;have d:fj (Bx wr (g+1+1) 63 aC.cells):=aH (HP1.o.at 2 HL2.o);clear htk hv0 hv1 c;go_wp2_with ((refine bI rfl (aI 10) (aI 99) rfl (g+1+1) u rfl rfl d.o rfl ?_))
   exact dY (dT results204 _ _ (g+1+1) _ _ _ rfl rfl (d.o.row _) rfl db bM) rfl
    ⟨u,rfl,a.o.row d.o (iq _) _,by rw[<-HG.o];exact aO HP1.o.F O⟩
section
attribute [local go_sem ↓] kH kI vT
def dl(a b:List Int):List Int:=List.zipWith (fun c d=>max (c-d) (d-c)) a b
def AL(a b:List Int):Int:=(dl a b).foldl max 0
def Ae9{a b}{c:Nat}{d e}(f:a[c]?=M d)(g:b[c]?=M e):(dl a b)[c]?=M (max (d-e) (e-d)):=by
 simp[dl,Ee,f,g]
def QO{a b c d e}(f:a[c]?=M d)(g:b[c]?=M e):
  ((dl a b).take (c+1)).foldl max 0=max (((dl a b).take c).foldl max 0) (max (d-e) (e-d)):=by
 rw[um (Ae9 f g),List.foldl_append];rfl
def Jn{a:List Int}{b c}(d:0<=b/\b<=c)(e:∀f∈a,f<=c):0<=a.foldl max b/\a.foldl max b<=c:=by
 induction a generalizing b with
 |nil=>exact d
 |cons f g h=>
  have i:=e f dS;exact h O (fun l n=>e l (by simp[n]))
def Ae8{a b}(c:∀e∈a,0<=e/\e<=255)(d:∀f∈b,0<=f/\f<=255):∀g∈dl a b,g<=255:=by
 intro e f;let ⟨e,g⟩:=xX.1 f;simp only[dl,Ee] at g;rcases hx:a[e]? with _|f<;> rcases hy:b[e]? with _|h<;> simp[hx,hy] at g
 have a:=c f (bg hx);have a:=d h (bg hy);omega
def Yf{a b}(d:∀f∈a,0<=f/\f<=255)(e:∀g∈b,0<=g/\g<=255)(c):0<=((dl a b).take c).foldl max 0/\((dl a b).take c).foldl max 0<=255:=
 Jn O (fun a b=>Ae8 d e a (List.mem_of_mem_take b))
def EJ{a b:Nat->Prop}(e f:Option Addr)(p g h i:Nat)(n o:List Int)(l:T)(q:du a l e p n)(r:du b l f g o)(c:p<=g)(d:p<=100000):
  aT aE 316 #[af e p h,af f g i] l fun s t=>s=aK (J E (AL n o))/\l=t:=by
 go_enter func316,ntmps316;go_wp2
 go_loop [5,11] (fun a b=>∃c:Nat,c<=p/\b=J E c/\a=J E (((dl n o).take c).foldl max 0)) (fun _ d=>p-(intOf d).toNat)
 case atStart=>exact⟨0,Nat.zero_le _,rfl,rfl⟩
 case round=>
  obtain⟨a,b,rfl,rfl⟩:=hrel;have b:=Yf q.yH r.yH a
  by_cases b:a<p
  ·obtain⟨c,d,e,rfl,_,f,g,h,i,l⟩:=q.at_ b
   obtain⟨b,c,d,rfl,_,e,f,h,i,l⟩:=r.at_ (k:=a) O;let ⟨b,c⟩:=aQ g f;go_wp2
   go_round
   case rel=>exact⟨a+1,by omega,by go_num,by rw[QO b.o c.o];congr 1;omega⟩
   case measure=>simp[intOf];omega
  ·obtain rfl:a=p:=O
   go_wp2;go_ret;refine⟨?_,rfl⟩;unfold AL;rw[List.take_of_length_le (by simp[dl,q.len,r.len];omega)];rfl
end
section
attribute [local go_sem ↓] kH kI vT
def OY(a b:Fr):Int:=if bQ a&&bQ b&&decide (a.W=b.W)&&decide (a.H=b.H) then max (AL a.Y b.Y) (max (AL a.U b.U) (AL a.V b.V)) else-1
end
section
attribute [local go_sem ↓] kH kI vT
def qu{p p'}(a b c d e f g h i)(l:du p i a c g)(n:du p' i b d h)(o:c<=d)(q:c<=100000):
  aT aE 316 #[af a c e,af b d f] i fun r s=>r=aK (J E (AL g h))/\bj i.heap.size i s:=
 (EJ a b c d e f g h i l n o q).mono fun _ _ ⟨r,s⟩=>⟨r,s▸aM _ _⟩
def ze{p q:Nat->Prop}(c d:aq)(g h:Int)(i n r l o s:List Int)(t:T)(a:dF p t c ⟨g,h,i,n,r⟩)(b:dF q t d ⟨g,h,l,o,s⟩)
  (e:bQ ⟨g,h,i,n,r⟩=aB)(f:bQ ⟨g,h,l,o,s⟩=aB):
  aT aE 292 #[c,d] t fun u v=>u=aK (J E (max (AL i l) (max (AL n o) (AL r s))))/\bj t.heap.size t v:=by
 have u:=a;have v:=b;obtain⟨w,x,y,z,H,U,V,W,Y,rfl,a0,a1,a2⟩:=a;obtain⟨a,a3,a4,a5,a6,a7,a8,a9,aa,rfl,ab,ac,ad⟩:=b;obtain⟨b,ae,ag,ah,ai,aj,al,am⟩:=Qe e f;dsimp only at*;rw[a0.len,ab.len] at b;rw[a1.len,ac.len] at ae;rw[a2.len,ad.len] at ag;rw[a0.len] at ah;rw[a1.len] at ai;rw[a2.len] at aj;go_enter RT,NV;go_wp2_with fail;refine(dB (p:=p) _ ⟨g,h,i,n,r⟩ _ (by(repeat with_reducible apply gR);exact u)).mono ?_;rintro c d ⟨rfl,e⟩;obtain⟨c,f⟩:=gU e;have u:=e.size
 try simp at u
 try simp at c
 try simp at f
 have c:t.heap.size<d.heap.size:=O;have c:t.heap.size+1<d.heap.size:=O;go_wp2_with fail;refine(dB (p:=q) _ ⟨g,h,l,o,s⟩ _ (dF.ext (by(repeat with_reducible apply gR);exact v) e)).mono ?_;rintro c d ⟨rfl,f⟩;obtain⟨c,g⟩:=gU f;have h:=f.size
 try simp at h
 try simp at c
 try simp at g
 have c:t.heap.size<d.heap.size:=O;have c:t.heap.size+1<d.heap.size:=O;have c:=(((a0.alloc _).alloc _).ext e).ext f;have g:=(((a1.alloc _).alloc _).ext e).ext f;have h:=(((a2.alloc _).alloc _).ext e).ext f;have u:=(((ab.alloc _).alloc _).ext e).ext f;have v:=(((ac.alloc _).alloc _).ext e).ext f;have a0:=(((ad.alloc _).alloc _).ext e).ext f;have a1:bj t.heap.size t d:=((((aM _ t).alloc dS _).alloc dS _).trans (e.mono eB)).trans (f.mono O);go_wp2_with fail
 go_region_held3 (fun d=>d.cell? ⟨t.heap.size,2,S⟩=M (.slice w x y)/\d.cell? ⟨t.heap.size,3,S⟩=M (.slice z H U)/\d.cell? ⟨t.heap.size,4,S⟩=M (.slice V W Y)/\d.cell? ⟨t.heap.size+1,2,S⟩=M (.slice a a3 a4)/\d.cell? ⟨t.heap.size+1,3,S⟩=M (.slice a5 a6 a7)/\d.cell? ⟨t.heap.size+1,4,S⟩=M (.slice a8 a9 aa))
  (first|(refine⟨?_,?_,?_,?_,?_,?_⟩<;> go_simp;done)|go_keep)
  (first
   |(go_at_call 316;((with_reducible refine(qu (p:=p) (p':=q) w a _ _ _ _ i l _ c.drew u.drew b ah).mono ?_);rintro d e ⟨rfl,hb3⟩;have hb3:=ml hb3;obtain⟨f,x⟩:=gU hb3;have y:=hb3.size;have H:t.heap.size<e.heap.size:=O;have U:t.heap.size+1<e.heap.size:=O))
   |(go_at_call 316;((with_reducible refine(qu (p:=p) (p':=q) z a5 _ _ _ _ n o _ (g.ext hb3) (v.ext hb3) ae ai).mono ?_);rintro a b ⟨rfl,hb4⟩;obtain⟨c,d⟩:=gU hb4;have e:t.heap.size<b.heap.size:=(dU hb4.size);have f:t.heap.size+1<b.heap.size:=(dU hb4.size)))
   |(go_at_call 316;((with_reducible refine(qu (p:=p) (p':=q) V a8 _ _ _ _ r s _ ((h.ext hb3).ext hb4) ((a0.ext hb3).ext hb4) ag aj).mono ?_);rintro a b ⟨rfl,hb5⟩;obtain⟨c,d⟩:=gU hb5;have e:t.heap.size<b.heap.size:=(gC hb4.size hb5.size);have f:t.heap.size+1<b.heap.size:=(gC hb4.size hb5.size))))
 go_wp2;go_ret;have a:=hb3.size;have a:=hb4.size;exact⟨rfl,((a1.trans (hb3.mono O)).trans (hb4.mono O)).trans (hb5.mono O)⟩
def Aq{h f:Nat->Prop}(a b:aq)(i g:Fr)(l:T)(c:dF h l a i)(d:dF f l b g)
  (e:(bQ i&&bQ g&&decide (i.W=g.W)&&decide (i.H=g.H))=av):
  aT aE 292 #[a,b] l fun n o=>n=aK (J E (-1))/\bj l.heap.size l o:=by
 have a:=c;have b:=d;obtain⟨n,o,p,q,r,s,t,u,v,rfl,w,x,y⟩:=c;obtain⟨c,n,o,p,q,r,s,t,u,rfl,v,w,x⟩:=d
 by_cases c:bQ i=aB
 ·by_cases d:bQ g=aB
  ·have n:i.W=g.W->(i.H !=g.H)=aB:=by simpa[c,d] using e
   have e:=aH n;clear n;go_enter RT,NV;go_wp2_with fail;refine mR (dB (p:=h) _ i _ (by(repeat with_reducible apply gR);exact a)) fun n o=>?_
   obtain⟨p,q⟩:=gU o;have r:=o.size
   try simp at r
   try simp at p
   try simp at q
   have p:l.heap.size<n.heap.size:=O;have p:l.heap.size+1<n.heap.size:=O;go_wp2_with fail;refine mR (dB (p:=f) _ g _ (dF.ext (by(repeat with_reducible apply gR);exact b) o)) fun n p=>?_
   obtain⟨q,r⟩:=gU p;have s:=p.size
   try simp at s
   try simp at q
   try simp at r
   have q:l.heap.size<n.heap.size:=O;have q:l.heap.size+1<n.heap.size:=O;have q:bj l.heap.size l n:=((((aM _ l).alloc dS _).alloc dS _).trans (o.mono eB)).trans (p.mono O)
   by_cases n:i.W=g.W
   ·have o:=e.o n
    go_wp2_with fail;go_ret;exact⟨rfl,q⟩
   ·have e:(i.W !=g.W)=aB:=by simpa using n
    go_wp2_with fail;go_ret;exact⟨rfl,q⟩
  ·have e:bQ g=av:=by simpa using d
   go_enter RT,NV;go_wp2_with fail;refine mR (dB (p:=h) _ i _ (by(repeat with_reducible apply gR);exact a)) fun d e=>?_
   obtain⟨n,o⟩:=gU e;have p:=e.size
   try simp at p
   try simp at n
   try simp at o
   have n:l.heap.size<d.heap.size:=O;have n:l.heap.size+1<d.heap.size:=O;go_wp2_with fail;refine mR (dB (p:=f) _ g _ (dF.ext (by(repeat with_reducible apply gR);exact b) e)) fun d n=>?_
   go_wp2_with fail;go_ret;exact⟨rfl,((((aM _ l).alloc dS _).alloc dS _).trans (e.mono eB)).trans (n.mono O)⟩
 ·have b:bQ i=av:=by simpa using c
  go_enter RT,NV;go_wp2_with fail;refine mR (dB (p:=h) _ i _ (by(repeat with_reducible apply gR);exact a)) fun b c=>?_
  go_wp2_with fail;go_ret;exact⟨rfl,(((aM _ l).alloc dS _).alloc dS _).trans (c.mono eB)⟩
def EL{p p'}(a b c d e)(f:dF p e a c)(g:dF p' e b d):
  aT aE 292 #[a,b] e fun h i=>h=aK (J E (OY c d))/\bj e.heap.size e i:=by
 unfold OY
 by_cases h:(bQ c&&bQ d&&decide (c.W=d.W)&&decide (c.H=d.H))=aB
 ·rw[if_pos h]
  let ⟨i,l,n,o,q⟩:=c;let ⟨r,s,t,u,v⟩:=d;simp only[bT,decide_eq_true_eq] at h;obtain⟨⟨⟨r,s⟩,rfl⟩,rfl⟩:=h;exact ze a b i l n o q t u v e f g r s
 ·rw[if_neg h]
  exact Aq a b c d e f g (jP h)
end
def N1{e f:Nat->Prop}(a b:aq)(g h:Fr)(i:T)(c:dF e i a g)(d:dF f i b h):
  aT aE 278 #[a,b] i fun l n=>l=aK (ao (OY g h==0))/\bj i.heap.size i n:=by
 have a:=c;have b:=d;obtain⟨l,n,o,p,q,r,s,t,u,rfl,v,w,x⟩:=c;obtain⟨c,l,n,o,p,q,r,s,t,rfl,u,y,z⟩:=d;clear v w x u y z;go_enter func278,ntmps278;go_wp2_with fail;refine(EL (p:=e) (p':=f) _ _ g h _ ((a.alloc _).alloc _) ((b.alloc _).alloc _)).mono ?_;rintro a b ⟨rfl,c⟩;go_wp2_with fail;go_ret;exact⟨rfl,(((aM _ i).alloc dS _).alloc dS _).trans (c.mono eB)⟩
def FH(c:Nat)(a:c<=100000)(b:T):
  aT aE 208 #[J .u64 1,J .u64 c] b fun d e=>d=aK (fE #[J .u64 0,J .u64 c])/\b=e:=by
 have a:bits .and .u64 1 4294967295=1:=by decide+kernel
 have a:bits .and .u64 (c:Int) 4294967295=c:=by
  have a:=u64_and_nat c 4294967295 O O
  have b:c&&& 4294967295=c:=by
   have:=Nat.and_two_pow_sub_one_eq_mod c 32;simp only[Nat.reducePow,Nat.reduceSub] at this;rw[this];omega
  rw[b] at a;exact a
 have a:(c:Int)/4294967296=0:=O;have a:bits .and .u64 0 4294967295=0:=by decide+kernel
 go_enter func208,ntmps208;go_wp2;go_ret2;exact⟨rfl,rfl⟩
def JG(b:Nat)(c:b<=100000)(a:T):
  aT aE 254 #[J .u64 1,J .u64 b] a fun d e=>d=aK (fE #[J .u64 0,J .u64 b])/\a=e:=by
 go_enter func254,ntmps254;go_wp2_with (go_at_call 208;refine(FH b c _).mono ?_;rintro a d ⟨rfl,rfl⟩);go_ret2;exact⟨rfl,rfl⟩
def Er{a:Nat->Prop}(b:Option Addr)(c d:Nat)(e:Int)(f:T)(g:du a f b 1 [e])(h:d<=100000):
  aT aE 217 #[af b 1 c,J E d] f (LU f (aF d e)):=by
 have i:=g.yH e dS;have l:=pS (P:=aE) (t:=54) dw iY d d (aw _) O;go_enter func217,ntmps217
 go_wp2_with (first
  |(go_at_call 254;refine(JG d h _).mono ?_;rintro n o ⟨rfl,rfl⟩)
  |(refine qL (p:=a) _ rfl _ _ _ rfl _ dw iY _ _ _ _ _ _ rfl rfl f.heap.size 0 _ (Bk.made f _ d) [e] (g.alloc _) (fun _=>rfl) dS ?_;intro w1 hB1 hg1))
 have n:bj f.heap.size f w1:=((aM _ f).alloc (aw _) _).grown hg1 dS (fun o p=>by cases p;exact aw _)
 go_loopw [8] (fun o wr=>∃(p:Nat)(q:List Int),p<=d/\(0<p\/d=0)/\o=J E p/\bj f.heap.size f wr/\Bk wr 5 f.heap.size q/\q.length=d/\∀r,r<p->q[r]?=M e) (fun s _=>d-(intOf s).toNat)
 case atStart=>
  refine⟨min 1 d,_,by omega,by omega,rfl,n,hB1,by rw[Ag eB];simp,fun o p=>?_⟩;rw[uq eB,if_neg O,if_pos eB,gH,if_pos O];obtain rfl:o=0:=O;rfl
 case round=>
  obtain⟨o,p,q,r,rfl,s,t,u,v⟩:=hrel
  by_cases w:o<d
  ·have x:0<o:=O
   have y:(0:Int)<=(o:Int):=O;have z:(o:Int)<=(d:Int):=O;have H:=aH u;have U:o+(d-o)<=p.length:=O
   have V:du (fun _=>True) wr.drew (M ⟨f.heap.size,0,S⟩) o (aF o e):=by
    refine⟨by simp,fun W Y=>by obtain rfl:=iK Y;exact i,fun _=>⟨_,_,rfl,trivial,fun a0 W Y=>?_⟩⟩;rw[jM] at Y;split at Y
    ·rename_i a1
     cases Y;show wr.cell? _=_;rw[t.cell,oD,v a0 a1];rfl
    ·cases Y
   have W:E.wrap ((o:Int)+((min o (d-o):Nat):Int))=(o:Int)+((min o (d-o):Nat):Int):=an _ O;go_wp2
   go_region_held3 (fun _=>True) (trivial)
    (first|(refine yW (p:=fun _=>True) _ (by rfl) _ _ _ (by rfl) _ dw iY _ _ _ _ _ _ (by rfl) (by rfl) f.heap.size o _ t.drew (aF o e) V (fun _=>eB) U ?_;intro Y hB2 hg2))
   go_wp2
   go_roundw
   case rel=>
    have Y:o+((aF o e).take (d-o)).length<=p.length:=by simp;omega
    refine⟨o+min o (d-o),_,by omega,by omega,by go_num,s.drew.grown hg2 (jP s.size) (fun a0 a1=>by cases a1;exact aw _),hB2,by rw[Ag Y];exact H.o,fun a2 a3=>?_⟩;rw[uq Y]
    by_cases a0:a2<o
    ·rw[if_pos a0];exact v a2 a0
    ·rw[if_neg a0,if_pos eB,gH,if_pos O,jM,if_pos O]
   case measure=>simp[intOf];omega
  ·obtain rfl:o=d:=O
   go_wp2;go_ret;refine⟨_,_,_,rfl,?_,s,aw _⟩;obtain rfl:p=aF o e:=rC u dS (fun x y=>by rw[v x y];simp[y]);have:=t.zA (p:=(f.heap.size<=·)) (aw _) (fun x y=>by obtain rfl:=iK y;exact i);rwa [u] at this
def r9{p}(a b c d e)(f:du p e a 1 [d])(g:0<=c)(h:c<=100000):
  aT aE 217 #[af a 1 b,J E c] e (LU e (aF c.toNat d)):=by
 obtain⟨i,rfl⟩:=Int.eq_ofNat_of_zero_le g;exact Er a b i d e f O
def se(h i b f g:Int)(l:T)(c:0<=b/\b<=255)(d:0<=f/\f<=255)(e:0<=g/\g<=255)(a:ng h i=aB):
  aT aE 195 #[J E h,J E i,J .u8 b,J .u8 f,J .u8 g] l (nk l (jJ h i b f g,0)):=by
 ·let ⟨n,o,p,q,r,s⟩:=jI a
  have a:=nm (x:=h) (y:=i) (m:=64) O o O r;have a:=nm (x:=h/2) (y:=i/2) (m:=64) O O O O;go_enter func195,ntmps195;go_wp2_with (go_at_call 176;refine(pA _ _ _).mono ?_;rintro a n ⟨rfl,rfl⟩)
  with_reducible refine(r9 (p:=fun _=>True) _ _ _ b _ (du.Abu _ _ _ _ dS c.1 c.2) O O).mono ?_
  rintro a b ⟨c,n,o,rfl,p,q,r⟩;have a:Bx b l.heap.size 63 #[J E 0,J E 0,af S 0 0,af S 0 0,af S 0 0]:=((jR l _ _).alloc _).ext q;have s:bj l.heap.size l b:=(((aM _ l).alloc dS _).alloc dS _).trans (q.mono eB);go_wp2_with fail
  with_reducible refine(r9 (p:=fun _=>True) _ _ _ f _ (du.Abu _ _ _ _ dS d.1 d.2) O O).mono ?_
  rintro b d ⟨q,t,u,rfl,v,w,x⟩;have b:=(a.alloc (az #[J .u8 f] 5)).ext w;have d:=(s.alloc (o:=az #[J .u8 f] 5) s.size).trans (w.mono (by have:=s.size;simp;omega));go_wp2_with fail
  with_reducible refine(r9 (p:=fun _=>True) _ _ _ g _ (du.Abu _ _ _ _ dS e.1 e.2) O O).mono ?_
  rintro e s ⟨y,z,H,rfl,U,V,W⟩;have e:=(b.alloc (az #[J .u8 g] 5)).ext V;have b:=(d.alloc (o:=az #[J .u8 g] 5) d.size).trans (V.mono (by have:=d.size;simp;omega));let ⟨d,s,Y,a0,a1⟩:=e.dz;have d:=e.frozen 0;have d:=e.frozen 1;have d:=e.frozen 2;have d:=e.frozen 3;have d:=e.frozen 4;have d:=a.lt;have a:=w.size;have d:=V.size;simp at a d;go_wp2_with fail;have a:=(((p.alloc (az #[J .u8 f] 5)).ext w).alloc (az #[J .u8 g] 5)).ext V;have d:=(v.alloc (az #[J .u8 g] 5)).ext V;refine dY (v:=fE #[aG #[J E h,J E i,af c n o,af q t u,af y z H],J E 0]) (by simp only[Ih,results195];go_simp) rfl ⟨_,rfl,eH.mk r x W,⟨c,n,o,q,t,u,y,z,H,rfl,?_,?_,?_⟩,?_⟩
  ·refine du.mono (p:=(l.heap.size+1<=·)) ?_ (fun c _ e=>by omega)
   repeat refine du.setCell ?_ dS _
   exact a.mono (fun c _ e=>by simp at e;omega)
  ·refine du.mono (p:=(l.heap.size+1<=·)) ?_ (fun a _ c=>by omega)
   repeat refine du.setCell ?_ dS _
   exact d.mono (fun a _ c=>by simp at c;omega)
  ·refine du.mono (p:=(l.heap.size+1<=·)) ?_ (fun a _ c=>by omega)
   repeat refine du.setCell ?_ dS _
   exact U.mono (fun a _ c=>by simp at c;omega)
  ·repeat refine iu ?_ dS _
   exact b
def ox.flat(a b c):ox (jJ 16 16 a b c):=by
 refine⟨rfl,rfl,?_,?_,?_⟩<;> (show(aF _ _).length=_;rw[bp];rfl)
def ox.pred(a b c d e):ox (pt a b c 16 d e):=by
 have a:∀(b:List Int)(c d e f:Int)(g h:Nat)(i l:Int),(qC b c d e f g h i l).length=h*g:=fun n o p q r s t u v=>by simp[qC]
 refine⟨rfl,rfl,?_,?_,?_⟩
 ·show(qC _ _ _ _ _ _ _ _ _).length=_
  rw[a];rfl
 ·show(qC _ _ _ _ _ _ _ _ _).length=_
  rw[a];rfl
 ·show(qC _ _ _ _ _ _ _ _ _).length=_
  rw[a];rfl
def ox.prd{b c d e}(a:Rp b c d e):ox (Ap b c d e):=by
 unfold Ap;split
 ·rename_i f
  rw[OP (a.fl f) a.v0 (a.v1 f)];let ⟨_,a,f,g,h,i⟩:=qM (fw c (cM b.Z 0).toNat) (16*d) (8*e) (cM b.v 0) (cM b.v 1);let ⟨_,l,n,o,p,q⟩:=qM (fw c (cM b.Z 1).toNat) (16*d) (8*e) (cM b.v 2) (cM b.v 3);have b:∀(c d:List Int)(e l:Nat),c.length=l*e->d.length=l*e->(gW c d e l).length=l*(2*e):=fun n r s t u v=>nZ u v t (aw _)
  refine⟨a,?_,?_,?_,?_⟩
  ·show 2*(Lk _ _ _ _ _ _).H=16
   unfold Lk;rw[f];rfl
  ·show(gW _ _ _ _).length=256
   unfold Lk;rw[a,f];exact b _ _ 16 8 g o
  ·show(gW _ _ _ _).length=64
   unfold Lk;rw[a,f];exact b _ _ 8 4 h p
  ·show(gW _ _ _ _).length=64
   unfold Lk;rw[a,f];exact b _ _ 8 4 i q
 ·exact ox.pred _ _ _ _ _
def P9(a b c d e):∀f,rP (Bw a) b c d e f=e
 |0=>rfl
 |f+1=>by
  unfold rP;rw[if_neg ?_]
  ·exact P9 a b c d e f
  ·show¬((aF 6 av).getD f av=aB)
   rw[jr,jM];split<;> simp
def rcL(a:je)(b:Sq)(c:Mb)(d e f:FV):List (aR×Array aq):=[(283,#[J E a.ty,J E a.st,ao a.B,ao a.sec]),(26,b.cells),(280,c.cells),(158,cq d e f),(63,aC.cells)]
def OA(a:je)(b:a.A)(t:Sq)(c:jV t)(u:Bool)(v:Int)(d:1<=v)(e:v<=31)(f g h:FV)(w:Mb)(i:w.A)(l:FT a w)(n:w.kind=1)(o:E6 w)(p q:Int)(s:T)(r:fD s):
  aT aE 162 #[a.v,aG t.cells,ao u,J E v,aG w.cells,aG (cq f g h),J E p,J E q] s (kM s (rP w t.X v u (jJ 16 16 128 128 128) 6)):=by
 obtain⟨x,y,z,H,U,V⟩:=ej (fun W=>xB a b w i l W) (fun Y=>jx t.X c.X Y) (fun a0=>jx t.R c.R a0) (fun a1=>mh v d e a1) (show 1<=v/\v<=31 from⟨d,e⟩) c;let ⟨W,Y,a0⟩:=bh i o n;let ⟨a1,a2⟩:=aX s.heap.size;obtain⟨a3,a4,a5⟩:=bh a2 r (show 2<=a1 by rw[a2];exact r.lt);let ⟨a6,a7⟩:=aX (rcL a t w f g h);let ⟨a8,a9⟩:=aX (((((s.alloc (az #[J E a.ty,J E a.st,ao a.B,ao a.sec] 283)).alloc (az t.cells 26)).alloc (az w.cells 280)).alloc (az (cq f g h) 158)).alloc (az aC.cells 63))
 have aa:=aH (show Fm s a1 a6 a8 by
  rw[a9,a7];exact(((((Fm.start s a2).push (oz a2) _ _).push (uM a2) _ _).push (uM a2) _ _).push (uM a2) _ _).push (uM a2) _ _)
 have ab:=TX a7 5;obtain⟨ac,ad,ae⟩:=bh (fun(ag:T)(ah:Fm s a1 a6 ag)=>show Bx ag a1 283 #[J E a.ty,J E a.st,ao a.B,ao a.sec] from ah.at 0 (oz a7)) (fun(ai:T)(aj:Fm s a1 a6 ai)=>show rH ai (a1+1) t from⟨aj.at 1 (oz a7),V.o⟩) (fun(al:T)(am:Fm s a1 a6 al)=>show Mx al (a1+1+1) w from⟨am.at 2 (oz a7),W.o⟩);have ag:=Jp s a1 a7;have ah:=Lm s a1 a7;have ai:=Ll a6 a3;have aj:=aH (fun(al:T)(am:Fm s a1 a6 al)=>show fD al from a4.o.ext (ai.o al am));clear a7;unfold je.v at*;go_enter func162,Zb;go_upto_region 1 with fail;refine mr a9 ?_;rw[<-a2];clear a9 a2;let ⟨a,b,c,d⟩:=(ac.o _ aa.o).iE;go_wp2_with (first|(refine fM dW (aI 12) rfl rfl (ae.o _ aa.o) ?_)|(refine jj dW (aI 27) rfl rfl (ad.o _ aa.o) ?_)|(refine iP dW (aI 33) rfl rfl (ad.o _ aa.o) ?_));refine mR (x.o _) fun e f=>?_
 have e:=mX f aa;clear a b c d;go_wp2_with (first|(refine fM dW (aI 12) rfl rfl (ae.o _ e.o) ?_)|(refine jj dW (aI 27) rfl rfl (ad.o _ e.o) ?_)|(refine iP dW (aI 33) rfl rfl (ad.o _ e.o) ?_));refine mR (y.o _) fun a b=>?_
 have a:=mX b e;clear b;go_wp2_with (first|(refine fM dW (aI 12) rfl rfl (ae.o _ a.o) ?_)|(refine jj dW (aI 27) rfl rfl (ad.o _ a.o) ?_)|(refine iP dW (aI 33) rfl rfl (ad.o _ a.o) ?_));refine mR (z.o _) fun b c=>?_
 have d:=mX c a;clear c;go_wp2_with fail;refine mR (H.o _) fun a c=>?_
 subst c;have a:=(ae.o _ d.o).c0;rw[a0.o] at a;go_wp2_with fail;refine(se 16 16 128 128 128 b O O O rfl).mono ?_;intro a b c;obtain⟨a,rfl,e,f⟩:=c.fx;have c:=mX f d;have d:=aH e;go_upto_region 5 with(refine bI rfl (aI 18) (aI 49) rfl b.heap.size a rfl rfl (jR _ _ _) rfl ?_);let ⟨e,f⟩:=aX b.heap.size;let ⟨g,h⟩:=aX ((b.alloc (az aC.cells 63)).setRow b.heap.size (au a));have i:Bx (b.alloc (az aC.cells 63)) b.heap.size 63 aC.cells:=jR _ _ _;obtain⟨b,l,n⟩:=bh (show Fm s a1 a6 g by rw[h];exact(c.o.alloc _).C c.o.k _) (show Fv g a _ by rw[h];exact(d.o.ext (jd)).row i (iq _) _) (show Bx g e 63 (au a) by rw[h,f];exact i.row _);refine mr h ?_;rw[<-f];clear h f i c d;let ⟨⟨c,d,e,f,h⟩,_,_⟩:=n.o.rQ;have i:=aH (N8 (a1+1+1) (w) t.X v u a (jJ 16 16 128 128 128) g l.o (ox.flat _ _ _) (ae.o _ b.o) Y.o V.o.X U.o.1 U.o.2 (aj.o _ b.o));go_wp2_with (refine jj dW (aI 56) rfl rfl (ad.o _ b.o) ?_);refine i.o.mono ?_;rintro a g ⟨l,rfl,n,o⟩;have a:=mX o b;have b:=aH n;clear n c d e f h i;have c:=aH (ah.o _ a.o);go_wp2_with ((refine bI rfl (aI 16) (aI 61) rfl (a1+1+1+1+1) l rfl rfl c.o rfl ?_))
 exact dY (dT PF _ _ (a1+1+1+1+1) _ _ _ rfl rfl (c.o.row _) rfl db bM) rfl
  ⟨l,rfl,b.o.row c.o (iq _) _,by rw[<-a3.o];exact aO a.o.F O⟩
def Xd(i:je)(b:i.A)(q:Sq)(c:jV q)(r:Bool)(s:Int)(d:1<=s)(e:s<=31)(l n o:FV)(a:i.ty=2)(t:Fr)(u v:Nat)(p:T)(f:fD p)(g:Rp (Bw (if im i=aB then tG i else 0)) t u v)(h:tS p i l n o (if im i=aB then tG i else 0) t):
  aT aE 162 #[i.v,aG q.cells,ao r,J E s,aG iA.cells,aG (cq l n o),J E u,J E v] p (kM p (Ap (Bw (if im i=aB then tG i else 0)) t u v)):=by
 have w:iA.A:=fG;have x:FT i iA:=.inl ⟨rfl,by omega⟩;have y:iA.kind=0:=rfl;let ⟨z,H⟩:=aX (if im i=aB then tG i else 0);rw[<-H] at g h ⊢;have U:=aH (fun V=>Tb i a V);rw[<-H] at U;clear H a;obtain⟨a,H,V,W,Y,a0⟩:=ej (fun a1=>xB i b iA w x a1) (fun a2=>jx q.X c.X a2) (fun a3=>jx q.R c.R a3) (fun a4=>mh s d e a4) (show 1<=s/\s<=31 from⟨d,e⟩) c;obtain⟨a1,a2,a3⟩:=bh w y (show E6 (Bw z) by intro a4 a5;obtain rfl:=iK a5;omega);let ⟨a4,a5⟩:=aX p.heap.size;obtain⟨a6,a7,a8⟩:=bh a5 f (show 2<=a4 by rw[a5];exact f.lt);let ⟨a9,aa⟩:=aX (rcL i q iA l n o);have ab:=aH aa;let ⟨ac,ad⟩:=aX (((((p.alloc (az #[J E i.ty,J E i.st,ao i.B,ao i.sec] 283)).alloc (az q.cells 26)).alloc (az iA.cells 280)).alloc (az (cq l n o) 158)).alloc (az aC.cells 63))
 have ae:=aH (show Fm p a4 a9 ac by
  rw[ad,aa];exact(((((Fm.start p a5).push (oz a5) _ _).push (uM a5) _ _).push (uM a5) _ _).push (uM a5) _ _).push (uM a5) _ _)
 have ag:=TX aa 5;obtain⟨ah,ai,aj⟩:=bh (fun(al:T)(am:Fm p a4 a9 al)=>show Bx al a4 283 #[J E i.ty,J E i.st,ao i.B,ao i.sec] from am.at 0 (oz aa)) (fun(ap:T)(ar:Fm p a4 a9 ap)=>show rH ap (a4+1) q from⟨ar.at 1 (oz aa),a0.o⟩) (fun(ax:T)(ay:Fm p a4 a9 ax)=>show Mx ax (a4+1+1) iA from⟨ay.at 2 (oz aa),a1.o⟩);have al:=Jp p a4 aa;have am:=Lm p a4 aa;have ap:=Ll a9 a6;obtain⟨ar,ax,ay⟩:=bh (fun(aV:T)(b0:Fm p a4 a9 aV)=>show fD aV from a7.o.ext (ap.o aV b0)) g h;clear b c d e w x y f aa g h;unfold je.v at*;go_enter func162,Zb;go_upto_region 1 with fail;refine mr ad ?_;rw[<-a5];clear ad a5;let ⟨b,c,d,e⟩:=(ah.o _ ae.o).iE;go_wp2_with (first|(refine fM dW (aI 12) rfl rfl (aj.o _ ae.o) ?_)|(refine jj dW (aI 27) rfl rfl (ai.o _ ae.o) ?_)|(refine iP dW (aI 33) rfl rfl (ai.o _ ae.o) ?_));refine mR (a.o _) fun f g=>?_
 have a:=mX g ae;clear b c d e;go_wp2_with (first|(refine fM dW (aI 12) rfl rfl (aj.o _ a.o) ?_)|(refine jj dW (aI 27) rfl rfl (ai.o _ a.o) ?_)|(refine iP dW (aI 33) rfl rfl (ai.o _ a.o) ?_));refine mR (H.o _) fun b c=>?_
 have b:=mX c a;clear c;go_wp2_with (first|(refine fM dW (aI 12) rfl rfl (aj.o _ b.o) ?_)|(refine jj dW (aI 27) rfl rfl (ai.o _ b.o) ?_)|(refine iP dW (aI 33) rfl rfl (ai.o _ b.o) ?_));refine mR (V.o _) fun a c=>?_
 have a:=mX c b;clear c;go_wp2_with fail;refine mR (W.o _) fun b c=>?_
 subst c;have b:=(aj.o _ a.o).c0;rw[a2.o] at b;let ⟨c,d,e,f⟩:=(ah.o _ a.o).iE;go_wp2_with fail;refine mR (U.o _) fun g h=>?_
 have w:=mX h a;clear b c d e f;let ⟨a,b,c,d⟩:=(ah.o _ w.o).iE;go_upto_region 10 with(refine mK rfl (aI 12) (aI 67) rfl (a4+1+1) (uo _) (aj.o _ w.o) rfl rfl ?_);let ⟨e,f⟩:=aX (a9.set 2 (280,(Bw z).cells));let ⟨h,x⟩:=aX (g.setRow (a4+1+1) (Bw z).cells);obtain⟨g,y,H,U,V,W⟩:=ej (show Fm p a4 e h by rw[f,x];exact w.o.set 2 (t:=280) (cs:=iA.cells) (oz ab.o) (Bw z).cells) (show e.length=5 by rw[f,List.length_set];exact ag.o) (fun(a1:T)(a2:Fm p a4 e a1)=>show Bx a1 a4 283 #[J E i.ty,J E i.st,ao i.B,ao i.sec] from a2.at 0 (by rw[f,ab.o];rfl)) (fun(a5:T)(a8:Fm p a4 e a5)=>show rH a5 (a4+1) q from⟨a8.at 1 (by rw[f,ab.o];rfl),a0.o⟩) (fun(a9:T)(aa:Fm p a4 e a9)=>show Mx a9 (a4+1+1) (Bw z) from⟨aa.at 2 (by rw[f,ab.o];rfl),uo z⟩) (fun(ac:T)(ad:Fm p a4 e ac)=>show Bx ac (a4+1+1+1) 158 (cq l n o) from ad.at 3 (by rw[f,ab.o];rfl));obtain⟨h,y⟩:=aQ (fun(a1:T)(a2:Fm p a4 e a1)=>show Bx a1 (a4+1+1+1+1) 63 aC.cells from a2.at 4 (by rw[f,ab.o];rfl)) (fun(a5:T)(a8:Fm p a4 e a5)=>show bD p a5 by have:=a8.F;rw[a6.o] at this;exact this);have a1:=aH (fun(a2:T)(a5:Fm p a4 e a2)=>show fD a2 from a7.o.ext (y.o a2 a5));rw[<-x];clear f x a b c d w;let ⟨a,b,c,d⟩:=(H.o _ g.o).iE;have f:=W.o _ g.o;have w:(cq l n o).extract 0 (0+15)=cq l n o:=ij _ rfl;have x:0+15<=(cq l n o).size:=show 0+15<=15 by decide
 let ⟨H,W,a2⟩:=bh w x f;clear w x f;have f:=aH (fun(w:T)(x:Fm p a4 e w)=>F9 i (a4+1+1) (Bw z) rfl l n o t u v ax.o w (V.o w x) (ay.o.ext (y.o w x)));unfold je.v at f;go_wp2_with (refine lS 158 13 (a4+1+1+1) 0 a2.o H.o W.o ?_);refine(f.o _ g.o).mono ?_;rintro i l ⟨n,rfl,o,w⟩;have i:=mX w g;have g:=aH o;clear o a b c d f;go_upto_region 11 with(refine bI rfl (aI 20) (aI 74) rfl l.heap.size n rfl rfl (jR _ _ _) rfl ?_);let ⟨a,b⟩:=aX l.heap.size;let ⟨c,d⟩:=aX ((l.alloc (az aC.cells 63)).setRow l.heap.size (au n));have f:Bx (l.alloc (az aC.cells 63)) l.heap.size 63 aC.cells:=jR _ _ _;obtain⟨l,o,w⟩:=bh (show Fm p a4 e c by rw[d];exact(i.o.alloc _).C i.o.k _) (show Fv c n _ by rw[d];exact(g.o.ext (jd)).row f (iq _) _) (show Bx c a 63 (au n) by rw[d,b];exact f.row _);refine mr d ?_;rw[<-b];clear d b f i g;let ⟨⟨a,b,d,e,f⟩,_,_⟩:=w.o.rQ;have g:=aH (N8 (a4+1+1) (Bw z) q.R s r n (Ap (Bw z) t u v) c o.o (ox.prd ax.o) (V.o _ l.o) a3.o a0.o.R Y.o.1 Y.o.2 (a1.o _ l.o));go_wp2_with (refine iP dW (aI 81) rfl rfl (U.o _ l.o) ?_);refine g.o.mono ?_;rintro c i ⟨n,rfl,o,p⟩;have c:=mX p l;have i:=aH o;clear o a b d e f g;have a:=aH (h.o _ c.o);go_wp2_with ((refine bI rfl (aI 16) (aI 86) rfl (a4+1+1+1+1) n rfl rfl a.o rfl ?_))
 exact dY (dT PF _ _ (a4+1+1+1+1) _ _ _ rfl rfl (a.o.row _) rfl db bM) rfl
  ⟨n,rfl,by rw[<-P9 z q.R s r (Ap (Bw z) t u v) 6];exact i.o.row a.o (iq _) _,by rw[<-a6.o];exact aO c.o.F O⟩
def Xc(p:je)(a:p.A)(u:Sq)(b:jV u)(v:Bool)(w:Int)(c:1<=w)(d:w<=31)(q r s:FV)(x:Mb)(e:x.A)(f:FT p x)(g:x.kind=2)(h:x.u=[aB,av])(i:E6 x)(y:Fr)(z H:Nat)(t:T)(l:fD t)(n:Rp x y z H)(o:tS t p q r s (cM x.Z 0) y):
  aT aE 162 #[p.v,aG u.cells,ao v,J E w,aG x.cells,aG (cq q r s),J E z,J E H] t (kM t (rP x u.R w v (Ap x y z H) 6)):=by
 obtain⟨U,V,W,Y,a0,a1⟩:=ej (fun a2=>xB p a x e f a2) (fun a3=>jx u.X b.X a3) (fun a4=>jx u.R b.R a4) (fun a5=>mh w c d a5) (show 1<=w/\w<=31 from⟨c,d⟩) b;let ⟨a2,a3,a4⟩:=bh e i g;let ⟨a5,a6⟩:=aX t.heap.size;obtain⟨a7,a8,a9⟩:=bh a6 l (show 2<=a5 by rw[a6];exact l.lt);let ⟨aa,ab⟩:=aX (rcL p u x q r s);let ⟨ac,ad⟩:=aX (((((t.alloc (az #[J E p.ty,J E p.st,ao p.B,ao p.sec] 283)).alloc (az u.cells 26)).alloc (az x.cells 280)).alloc (az (cq q r s) 158)).alloc (az aC.cells 63))
 have ae:=aH (show Fm t a5 aa ac by
  rw[ad,ab];exact(((((Fm.start t a6).push (oz a6) _ _).push (uM a6) _ _).push (uM a6) _ _).push (uM a6) _ _).push (uM a6) _ _)
 have ag:=TX ab 5;obtain⟨ah,ai,aj⟩:=bh (fun(al:T)(am:Fm t a5 aa al)=>show Bx al a5 283 #[J E p.ty,J E p.st,ao p.B,ao p.sec] from am.at 0 (oz ab)) (fun(ap:T)(ar:Fm t a5 aa ap)=>show rH ap (a5+1) u from⟨ar.at 1 (oz ab),a1.o⟩) (fun(ax:T)(ay:Fm t a5 aa ax)=>show Mx ax (a5+1+1) x from⟨ay.at 2 (oz ab),a2.o⟩);have al:=Jp t a5 ab;have am:=Lm t a5 ab;have ap:=Ll aa a7;obtain⟨ar,ax,ay,aV⟩:=dq (fun(b0:T)(b1:Fm t a5 aa b0)=>show fD b0 from a8.o.ext (ap.o b0 b1)) n o h;clear ab;unfold je.v at*;go_enter func162,Zb;go_upto_region 1 with fail;refine mr ad ?_;rw[<-a6];clear ad a6;let ⟨a,b,c,d⟩:=(ah.o _ ae.o).iE;go_wp2_with (first|(refine fM dW (aI 12) rfl rfl (aj.o _ ae.o) ?_)|(refine jj dW (aI 27) rfl rfl (ai.o _ ae.o) ?_)|(refine iP dW (aI 33) rfl rfl (ai.o _ ae.o) ?_));refine mR (U.o _) fun e f=>?_
 have e:=mX f ae;clear a b c d;go_wp2_with (first|(refine fM dW (aI 12) rfl rfl (aj.o _ e.o) ?_)|(refine jj dW (aI 27) rfl rfl (ai.o _ e.o) ?_)|(refine iP dW (aI 33) rfl rfl (ai.o _ e.o) ?_));refine mR (V.o _) fun a b=>?_
 have a:=mX b e;clear b;go_wp2_with (first|(refine fM dW (aI 12) rfl rfl (aj.o _ a.o) ?_)|(refine jj dW (aI 27) rfl rfl (ai.o _ a.o) ?_)|(refine iP dW (aI 33) rfl rfl (ai.o _ a.o) ?_));refine mR (W.o _) fun b c=>?_
 have b:=mX c a;clear c;go_wp2_with fail;refine mR (Y.o _) fun a c=>?_
 subst c;have a:=(aj.o _ b.o).c0;rw[a4.o] at a;go_upto_region 10 with fail;let ⟨a,c,d,e⟩:=(ah.o _ b.o).iE;have f:=al.o _ b.o;have g:(cq q r s).extract 0 (0+15)=cq q r s:=ij _ rfl;have h:0+15<=(cq q r s).size:=show 0+15<=15 by decide
 let ⟨i,l,n⟩:=bh g h f;clear g h f;have f:=aH (fun(g:T)(h:Fm t a5 aa g)=>F9 p (a5+1+1) (x) aV.o q r s y z H ax.o g (aj.o g h) (ay.o.ext (ap.o g h)));unfold je.v at f;go_wp2_with (refine lS 158 13 (a5+1+1+1) 0 n.o i.o l.o ?_);refine(f.o _ b.o).mono ?_;rintro g h ⟨i,rfl,l,n⟩;have g:=mX n b;have b:=aH l;clear l a c d e f;go_upto_region 11 with(refine bI rfl (aI 20) (aI 74) rfl h.heap.size i rfl rfl (jR _ _ _) rfl ?_);let ⟨a,c⟩:=aX h.heap.size;let ⟨d,e⟩:=aX ((h.alloc (az aC.cells 63)).setRow h.heap.size (au i));have f:Bx (h.alloc (az aC.cells 63)) h.heap.size 63 aC.cells:=jR _ _ _;obtain⟨h,l,n⟩:=bh (show Fm t a5 aa d by rw[e];exact(g.o.alloc _).C g.o.k _) (show Fv d i _ by rw[e];exact(b.o.ext (jd)).row f (iq _) _) (show Bx d a 63 (au i) by rw[e,c];exact f.row _);refine mr e ?_;rw[<-c];clear e c f g b;let ⟨⟨a,b,c,e,f⟩,_,_⟩:=n.o.rQ;have g:=aH (N8 (a5+1+1) (x) u.R w v i (Ap x y z H) d l.o (ox.prd ax.o) (aj.o _ h.o) a3.o a1.o.R a0.o.1 a0.o.2 (ar.o _ h.o));go_wp2_with (refine iP dW (aI 81) rfl rfl (ai.o _ h.o) ?_);refine g.o.mono ?_;rintro d i ⟨l,rfl,n,o⟩;have d:=mX o h;have h:=aH n;clear n a b c e f g;have a:=aH (am.o _ d.o);go_wp2_with ((refine bI rfl (aI 16) (aI 86) rfl (a5+1+1+1+1) l rfl rfl a.o rfl ?_))
 exact dY (dT PF _ _ (a5+1+1+1+1) _ _ _ rfl rfl (a.o.row _) rfl db bM) rfl
  ⟨l,rfl,h.o.row a.o (iq _) _,by rw[<-a7.o];exact aO d.o.F O⟩
section
structure dM where
 c:je
 s:Sq
 h:Pc
 q:Int
 src:FV
 rx:FV
 ry:FV
 rz:FV
 w0:FV
 w1:FV
 JR:FV
 Ie:FV
 f10:FV
 f11:FV
 res:FV
def dM.ctx(k:dM):List aq:=[J E k.c.ty,J E k.c.st,ao k.c.B,ao k.c.sec]
def dM.pre(k:dM):List aq:=k.ctx++k.s.cells.toList
def FV.l(a:FV):List aq:=[J E a.W,J E a.H,af a.ya a.yn a.yc,af a.ua a.un a.uc,af a.va a.vn a.vc]
def dM.tail(k:dM):List aq:=[J E k.h.ty,J E k.h.st,J E k.h.ord,ao k.h.top,ao k.h.M3,ao k.h.alt,J E k.q]++FV.l k.src++FV.l k.rx++FV.l k.ry++FV.l k.rz++FV.l k.w0++FV.l k.w1++FV.l k.JR++FV.l k.Ie++FV.l k.f10++FV.l k.f11++FV.l k.res
def dM.cells(k:dM):Array aq:=(k.pre++k.tail).toArray
def dM.xj(k:dM):k.tail.length=62:=rfl
structure Kb(w:T)(g:Nat)(k:dM):Prop where
 j:Bx w g 343 k.cells
 ok:jV k.s
section
variable {w w':T} {g:Nat} {k:dM}
def dM.jQ(a:jV k.s):k.pre.length=139:=by simp[dM.pre,dM.ctx,Sq.size a]
def dM.size(a:jV k.s):k.cells.size=201:=by simp[dM.cells,dM.jQ a,dM.xj]
def Kb.ext(a:Kb w g k)(b:bD w w'):Kb w' g k:=⟨a.j.ext b,a.ok⟩
instance {w w' x1 x2}:Tr w w' (Kb w x1 x2) (Kb w' x1 x2):=⟨fun hb h=>Kb.ext h hb⟩
def Kb.t(a:Kb w g k)(b){v}(c:k.tail[b]?=M v):w.cell? ⟨g,139+b,S⟩=M v:=by
 refine a.j.cell _ ?_;rw[dM.cells,bw,aU (iJ (dM.jQ a.ok)),dM.jQ a.ok];rw[show 139+b-139=b by omega];exact c
def Kb.te(c:Kb w g k)(d e a)(f:(k.tail.drop d).take e=a.toList)(b:d+e<=62):∃h i,Bx w g h i/\i.extract (139+d) (139+d+e)=a/\139+d+e<=i.size:=by
 refine⟨_,_,c.j,?_,by rw[dM.size c.ok];omega⟩;rw[dM.cells,List.extract_toArray,List.extract_eq_take_drop,show 139+d=k.pre.length+d by rw[dM.jQ c.ok],List.drop_length_add_append,show k.pre.length+d+e-(k.pre.length+d)=e by omega,f]
def Kb.ctx(a:Kb w g k):∃b c,Bx w g b c/\c.extract 0 (0+4)=#[J E k.c.ty,J E k.c.st,ao k.c.B,ao k.c.sec]/\0+4<=c.size:=by
 refine⟨_,_,a.j,?_,by rw[dM.size a.ok];omega⟩;have:=jv [] k.ctx (k.s.cells.toList++k.tail) 0 4 rfl rfl;rw[js,<-aW] at this;exact this
def Kb.seq(a:Kb w g k):∃b c,Bx w g b c/\c.extract 4 (4+135)=k.s.cells/\4+135<=c.size:=by
 refine⟨_,_,a.j,?_,by rw[dM.size a.ok];omega⟩;have:=jv k.ctx k.s.cells.toList k.tail 4 135 rfl (jP (Sq.size a.ok));rw[Array.toArray_toList] at this;exact this
def Kb.X(a:Kb w g k):∃b c,Bx w g b c/\c.extract 11 (11+64)=aS .u8 k.s.X/\11+64<=c.size:=by
 refine⟨_,_,a.j,?_,by rw[dM.size a.ok];omega⟩;have:=jv (k.ctx++k.s.head) (Gi k.s.X) (Gi k.s.R++k.tail) 11 64 rfl (by simp[a.ok.X.1]);simp only[aW] at this;simp only[dM.cells,dM.pre,Sq.cells,aW];exact this
def Kb.R(a:Kb w g k):∃b c,Bx w g b c/\c.extract 75 (75+64)=aS .u8 k.s.R/\75+64<=c.size:=by
 refine⟨_,_,a.j,?_,by rw[dM.size a.ok];omega⟩;have:=jv (k.ctx++k.s.head++Gi k.s.X) (Gi k.s.R) k.tail 75 64 (by simp[a.ok.X.1,dM.ctx,Sq.head]) (by simp[a.ok.R.1]);simp only[aW] at this;simp only[dM.cells,dM.pre,Sq.cells,aW];exact this
def Kb.B(a:Kb w g k):w.cell? ⟨g,8,S⟩=M (ao k.s.B):=by
 refine a.j.cell 8 ?_;have:=uO (k.ctx) k.s.head (Gi k.s.X++Gi k.s.R++k.tail) 4 4 rfl (by simp[Sq.head]);simp only[aW] at this;simp only[dM.cells,dM.pre,Sq.cells,aW];exact this
end
def Aeg(w:T)(a:Fr)(b:Ending)(w':T):Prop:=∃c:FV,b=aK c.val/\Fv w' c a/\bD w w'
def iR(a:FV)(w):aT aE 117 #[a.val,J E 0] w fun b w'=>b=aK a.val/\bD w w':=by
 let ⟨b,c⟩:=aX ((w.alloc (az a.cells 63)).alloc (az aC.cells 63));obtain⟨d,e,f⟩:=bh (show Bx b w.heap.size 63 a.cells by rw[c];exact(jR _ _ _).alloc _) (show Bx b (w.heap.size+1) 63 aC.cells by rw[c];exact Bx.D _ _ _ _ dS) (show bj w.heap.size w b by rw[c];exact(jd).alloc dS _);go_enter func117,ntmps117;go_upto_region 1 with fail;refine mr c ?_;clear c;let ⟨⟨b,c,g,h,i⟩,_,_⟩:=d.o.rQ;go_wp2_with ((refine bI rfl (aI 4) (aI 9) rfl (w.heap.size+1) a rfl rfl e.o rfl ?_));exact rR results117 (e.o.row _) db bM ⟨rfl,aO f.o O⟩
def JA(a:Int):Int:=if a=2 then 1 else if a=3 then 2 else 0
def kJ(g k)(b:k.h.ty=1\/k.h.ty=2)(w)(a:Kb w g k):aT aE 246 #[aD (M ⟨g,0,S⟩)] w fun c w'=>c=aK (J E (JA k.h.ty))/\w=w':=by
 have c:=a.t 0 rfl;have d:=a.j.lt;rcases b with a|a
 all_goals
  rw[a] at c ⊢;go_enter func246,ntmps246;go_wp2;go_ret;exact⟨rfl,rfl⟩
def uI(g k w)(a:Kb w g k):aT aE 293 #[aD (M ⟨g,0,S⟩)] w fun b w'=>b=aK (ao (k.s.B&&decide (k.h.st=3)))/\w=w':=by
 have b:=a.t 1 rfl;have c:=a.B;have d:=a.j.lt;cases hi:k.s.B with
 |false=>
  rw[hi] at c;go_enter func293,Z4;go_wp2;go_ret;exact⟨rfl,rfl⟩
 |true=>
  rw[hi] at c
  by_cases a:k.h.st=3
  ·rw[a] at b ⊢
   go_enter func293,Z4;go_wp2;go_ret;exact⟨rfl,rfl⟩
  ·have b:(k.h.st==3)=av:=by simpa using a
   rw[show decide (k.h.st=3)=av by simpa using a];go_enter func293,Z4;go_wp2;go_ret;exact⟨rfl,rfl⟩
def AX(w:T)(k:dM)(a:Mb)(b c:Int)(d:Fr):Prop:=∀w',bD w w'->aT aE 162 #[k.c.v,aG k.s.cells,ao k.h.alt,J E k.q,aG a.cells,aG (cq k.rx k.ry k.rz),J E b,J E c] w' (kM w' d)
def AX.ext{w w' k a b c d}(e:AX w k a b c d)(f:bD w w'):AX w' k a b c d:=fun g h=>e g (f.trans h)
instance {w w' x1 x2 x3 x4 x5}:Tr w w' (AX w x1 x2 x3 x4 x5) (AX w' x1 x2 x3 x4 x5):=⟨fun hb h=>AX.ext h hb⟩
def rm(i:Nat)(k:dM)(h:Mb)(a:h.A)(c d:Int)(e:Fr)(w:T)(b:Kb w i k)(f:AX w k h c d e):
  aT aE 249 #[aD (M ⟨i,0,S⟩),aG h.cells,J E c,J E d] w (Aeg w e):=by
 have l:=aH a;let ⟨g,a⟩:=aX w.heap.size;let ⟨n,o⟩:=aQ a b;let ⟨b,p⟩:=aX ([(280,h.cells),(63,aC.cells)]);let ⟨q,r⟩:=aX ((w.alloc (az h.cells 280)).alloc (az aC.cells 63));have q:=XW w g a p r;have s:=TX p 2;have s:=BQ w g p;have t:=Du w g p;have u:=Ll b n;obtain⟨v,x⟩:=aQ (fun(w':T)(y:Fm w g b w')=>o.o.ext (u.o w' y)) (show∀w',Fm w g b w'->aT aE 162 #[aG #[J E k.c.ty,J E k.c.st,ao k.c.B,ao k.c.sec],aG k.s.cells,ao k.h.alt,J E k.q,aG h.cells,aG (cq k.rx k.ry k.rz),J E c,J E d] w' (kM w' e) from fun w' z=>f w' (u.o w' z));clear p;go_enter func249,ntmps249;go_upto_region 1 with fail;refine mr r ?_;rw[<-a];clear r a;have a:=(v.o _ q.o).j.lt;refine aL 28 (fun a=>Fm w g b a) rfl (fun c d=>?_);have a:=mX d q;have b:=aH q.o;refine gN 0 24 5 ?_;simp only[sZ,ak];iterate 3 (go_big_quiet_step (fail))
 refine lR b 283 11 i 0 4 #[J E k.c.ty,J E k.c.st,ao k.c.B,ao k.c.sec] (fun _ c=>(v.o _ c).ctx) Bi mU ?_;simp only[sZ,ak];iterate 3 (go_big_quiet_step (fail))
 refine lR b 26 15 i 4 135 k.s.cells (fun _ c=>(v.o _ c).seq) ik ew ?_;simp only[sZ,ak];iterate 4 (go_big_quiet_step (fail))
 refine lC b 4 20 i 144 (ao k.h.alt) (fun _ c=>(v.o _ c).t 5 rfl) jD ?_;simp only[sZ,ak];iterate 3 (go_big_quiet_step (fail))
 refine lC b 3 24 i 145 (J E k.q) (fun _ c=>(v.o _ c).t 6 rfl) bJ ?_;refine lR b 280 5 g 0 408 h.cells (fun _ c=>⟨_,_,s.o _ c,ij _ (da l.o),by rw[da l.o];exact aw _⟩) mG jL ?_;simp only[sZ,ak];iterate 3 (go_big_quiet_step (fail))
 refine lR b 158 29 i 151 15 (cq k.rx k.ry k.rz) (fun _ c=>(v.o _ c).te 12 15 _ rfl dD) Kg kK ?_;simp only[sZ,ak];iterate 2 (go_big_quiet_step (fail))
 refine aN (fK 24 4 a fun b c=>?_);simp only[sZ,ak];have b:=mX c a;go_wp2_with fail;refine(x.o _ b.o).mono ?_;rintro a c ⟨d,rfl,e,f⟩;have a:=mX f b;have b:=aH e;go_wp2_with fail;refine gT 25 2 2 ?_;refine fK 27 1 a fun c e=>?_
 simp only[sZ,ak];let ⟨f,h⟩:=di e a b;go_wp2_with fail;refine mR (iR d c) fun a b=>?_
 let ⟨a,c⟩:=di b f h;go_wp2_with fail;refine fK 28 0 a fun b e=>?_
 simp only[sZ,ak];let ⟨f,h⟩:=di e a c;refine bI rfl (aI 8) (aI 36) rfl (g+1) d rfl rfl (t.o _ f.o) rfl ?_;obtain⟨a,c,e⟩:=bh ((t.o _ f.o).row (au d)) (h.o.row (t.o _ f.o) (iq _) (au d)) (show bD w (b.setRow (g+1) (au d)) by have:=aO (g:=g+1) (cs:=au d) f.o.F O;rw[n.o] at this;rw[n.o];exact this);refine mn ⟨rfl,pX fun b f=>?_⟩;let ⟨b,h,i⟩:=gO f a c e;go_wp2;exact rR results249 b.o db bM ⟨d,rfl,h.o,i.o⟩
end
section
def kq(a:Mb)(b:Int)(c:St):Array aq:=(a.cells.toList++[J E b]++(aS E c.l).toList).toArray
def Ma:St:=⟨0,[0,0,0],[0,0,0,0]⟩
def gD{a b c}(d:a.A)(e:c.l.length=8):(kq a b c).size=417:=by simp[kq,da d,bE,e]
def xM(b a c):(kq b a c).all (·.oneCell')=aB:=by
 rw[bG];intro a d;simp only[kq,vD,dG,dJ] at d;rcases d with(e|rfl)|e
 ·exact(bG.1 (Mb.one b)) a (jP e)
 ·rfl
 ·exact(bG.1 (pT E c.l)) a (jP e)
def FN:(aE.info? 376).map (·.size)=M 417:=dK
def Fm.G{a w b c d e f g h}(n:Fm a c f w)(o:fO w b d S)(i:Wr w e d g h)(l:c+f.length<=d):Fm a c f b:=
 ⟨fun a b c=>(n.j a b c).G o (by have:=(aP.1 c).1;omega) dS,n.F.trans ⟨o.os,o.tape,o.output,o.size,fun d e=>o.block d (dU n.k) O dS⟩,aY n.k o.size⟩
section
variable {ops:Array cQ} {rest:List cQ} {o:cQ} {a:Act} {w:T} {Q:Exit->Act->T->Prop}
def WI(a:Gc->aq)(o:cQ)(b:o.op=.alloc 376)(w:T):(VI a o).run aE w=.ok (.value (aD (M ⟨w.heap.size,0,S⟩))) (w.alloc (az (kq iA 0 Ma) 376)):=by
 obtain⟨a,c,d,e,f,guard⟩:=o;dsimp only at b;subst b
 kernel_rfl
def kG(b:o.guard=S)(c)(d:o.dst=c)(e:o.op=.alloc 376)
  (f:cG aE ops Q rest (a.put c (aD (M ⟨w.heap.size,0,S⟩))) (w.alloc (az (kq iA 0 Ma) 376))):cG aE ops Q (o::rest) a w:=
 Go.Great.wpList_allocTo b c d _ _ (WI _ o e w) f
end
def WH(a:Mb)(b:a.A)(c:Int)(d:St)(e:d.l.length=8)(w:T):(fk 376 #[(0,aG a.cells),(1,J E c),(2,aG (aS E d.l))]).run aE w=.ok (aG (kq a c d)) w:=by
 have f:(aE.info? 376).bind (·.zero)=M (aG (kq iA 0 Ma)):=dK;exact Abo (o0:=0) (s0:=408) (o1:=408) (s1:=1) (o2:=409) (s2:=8) tX f dK (aG a.cells) (J E c) (aG (aS E d.l)) (da b) rfl (by show(aS E d.l).size=8;rw[bE,e]) rfl rfl rfl (gD fG rfl) w
def Cr{b ops rest o a c Q}(d:bP o (xZ ops a.tmps)=aB)(e)(g:∀w,(VI a.eval o).run b w=.ok (.value e) w)
  (f:kL b ops c Q rest (a.put o.dst e)):kL b ops c Q (o::rest) a:=
 lZ d fun _ b=>by
  refine⟨e,fun w c=>?_,b _ f⟩;unfold Oper.quietAt;rw[g w];exact⟨rfl,rfl⟩
def CK{b o}{a:Act}{c g}(f:o.op=.build c g){qs}(e:(g.map fun i=>(i.1,a.eval i.2))=qs){d w}(h:(fk c qs).run b w=.ok d w):(VI a.eval o).run b w=.ok (.value d) w:=by
 subst e;unfold VI;simp only[f];rw[fT];have b:(g.map fun(c,d)=>(c,a.eval d))=(g.map fun e=>(e.1,a.eval e.2)):=rfl;rw[b,h];rfl
def F7(b:St)(a:b.A)(w):aT aE 290 #[b.val,J E 0] w fun c d=>c=aK b.val/\bD w d:=by
 let ⟨c,d,e,f,g,h,i,l,_⟩:=St.ex a;let ⟨a,n⟩:=aX b.q;rw[<-n] at l;have o:b.val=aG #[J E a,J E c,J E d,J E e,J E f,J E g,J E h,J E i]:=by rw[l];rfl
 rw[o];clear o n;have b:Bx ((w.alloc (az #[J E a,J E c,J E d,J E e,J E f,J E g,J E h,J E i] 324)).alloc (az #[J E 0,J E 0,J E 0,J E 0,J E 0,J E 0,J E 0,J E 0] 324)) (w.heap.size+1) 324 #[J E 0,J E 0,J E 0,J E 0,J E 0,J E 0,J E 0,J E 0]:=Bx.D _ _ _ _ dS;have a:=aH b;go_enter func290,ntmps290;go_wp2_with (refine vK rfl (aI 4) (aI 9) rfl (w.heap.size+1) rfl rfl a.o ?_);exact rR results290 (a.o.row _) kR kt ⟨rfl,aO ((jd).alloc dS _) O⟩
def vJ{ops rest o a w Q}(d:o.guard=S)(e f)(g:o.op=.store 324 e f)(h b)(i:b.length=8)
  (l:a.eval e=aD (M ⟨h,0,S⟩))(n:a.eval f=aG (aS E b)){p c}(q:Bx w h p c)(r:c.size=8)(s:cG aE ops Q rest (a.put o.dst sJ) (w.setRow h (aS E b))):cG aE ops Q (o::rest) a w:=
 vA d _ e f g h _ l n p _ q (by rw[bE,i];exact kt) (by rw[bE,i,r]) (pT _ _) s
def Aeu(w:T)(a:Mb)(b:St)(c:Ending)(d:T):Prop:=∃e:Int,c=aK (aG (kq a e b))/\bD w d
def nI(e:Nat)(f:dM)(a:f.c.A)(g:St)(b:g.A)(h:Mb)(c:K7 f.c h)(w:T)(d:Kb w e f):aT aE 276 #[aD (M ⟨e,0,S⟩),g.val,aG h.cells] w (Aeu w h (mS h g)):=by
 let ⟨i,l,n⟩:=bh c b a;let ⟨o,p⟩:=aX (mS h g);obtain⟨q,r⟩:=aQ p (show o.A by rw[p];exact pC c.ok c.vc c.I b);rw[<-p];let ⟨s,t⟩:=aX w.heap.size;let ⟨u,v⟩:=aQ t d;let ⟨x,y⟩:=aX ([(324,(aS E g.l)),(280,h.cells),(376,(kq iA 0 Ma))]);let ⟨z,H⟩:=aX (((w.alloc (az (aS E g.l) 324)).alloc (az h.cells 280)).alloc (az (kq iA 0 Ma) 376));have U:=Ae2 w s t y H;have V:=TX y 3;have W:=BQ w s y;have Y:=Du w s y;have a0:=Ln w s y;have a1:=Ll x u;have a2:=aH (fun(a3:T)(a4:Fm w s x a3)=>v.o.ext (a1.o a3 a4));unfold St.val;clear y p;go_enter func276,ntmps276;go_upto_region 1 with(refine kG rfl (M 6) rfl rfl ?_);change Code.wp _ _ _ _ (((w.alloc (az (aS E g.l) 324)).alloc (az h.cells 280)).alloc (az (kq iA 0 Ma) 376))
 try rw[show w.heap.size+1+1=s+1+1 by rw[u.o]]
 rw[<-H,<-t];clear H t;go_wp2_with fail;refine mR (AQ _) fun p t=>?_
 subst t;let ⟨t,y⟩:=aX z.heap.size;have H:=U.o.k;rw[V.o] at H;have a3:=Wr.new z s O;rw[<-y] at a3 ⊢;obtain⟨a4,a5,a6⟩:=bh (U.o.alloc (az #[af S 0 0,J E 0] 301)) a3 (show s+3<=t by rw[y];exact H);clear y;generalize z.alloc (az #[af S 0 0,J E 0] 301)=y at*
 go_upto_region 2 with fail;rw[show w.heap.size+1+1=s+1+1 by rw[u.o]];have a:=aH (fun b (c:Wr b s t S []) (d:s<=b.heap.size)=>Tf s t S [] f.c n.o g l.o h i.o.ok i.o.fm i.o.vc i.o.I i.o.dl b c d dS);rw[<-q.o] at a;let ⟨b,c⟩:=aX ([]++mbB f.c h g);have d:=aH (show b.length<=24922 by rw[c];simpa using OC (c:=f.c) i.o.ok i.o.vc i.o.I l.o);rw[<-c] at a;unfold je.v at a;rw[show g.val=aG (aS E g.l) from rfl] at a;clear c;have c:=(a2.o _ a4.o).j.lt;apply Si (A:=fun c d=>Fm w s x c/\(∃n,Wr c s t n b)/\Bx c d 324 (aS E o.l))
 ·intro c
  have d:=aH c;refine aL 7 (fun c=>Fm w s x c) rfl (fun n p=>?_);let ⟨c,n⟩:=di p a4 a5;have p:=aH a4.o;refine gT 0 4 9 ?_;refine gN 4 3 6 ?_;simp only[sZ,ak];refine lR p 283 13 e 0 4 #[J E f.c.ty,J E f.c.st,ao f.c.B,ao f.c.sec] (fun _ q=>(a2.o _ q).ctx) Bi mU ?_;refine lR p 324 4 s 0 8 (aS E g.l) (fun _ e=>⟨_,_,W.o _ e,ij _ (eZ bE (St.len l.o)),by rw[bE,St.len l.o];exact aw _⟩) kR kt ?_;refine lR p 280 5 (s+1) 0 408 h.cells (fun _ e=>⟨_,_,Y.o _ e,ij _ (da i.o.ok),by rw[da i.o.ok];exact aw _⟩) mG jL ?_;refine aN (Md 7 11 5 c (fun e f=>?_) fun e f=>?_)
  ·simp only[sZ,ak]
   let ⟨g,l⟩:=di f c n;go_wp2_with fail;refine(a.o _ l.o (dU g.o.k)).mono ?_;rintro p q ⟨v,rfl,y,z,H⟩;obtain⟨p,q⟩:=aQ (g.o.G z l.o (eZ V.o a6.o)) y;go_wp2_with fail;refine gT 8 2 3 ?_;refine zj 10 2 ?_;simp only[sZ,ak];refine bO rfl 290 #[o.val,J E 0] o.val (fun g=>by kernel_rfl) (fun l v=>F7 o r.o l) ?_;refine X8 11 1 fun g l=>?_
   simp only[sZ,ak];let ⟨v,y⟩:=di l p q;go_wp2_with fail;let ⟨l,p⟩:=aX g.heap.size;let ⟨q,z⟩:=aX (g.alloc (az #[J E 0,J E 0,J E 0,J E 0,J E 0,J E 0,J E 0,J E 0] 324));obtain⟨g,H,U,W,a1,a2⟩:=ej (show Fm w s x q by rw[z];exact v.o.alloc _) (show Wr q s t _ _ by rw[z];exact y.o.alloc _) (show Bx q l 324 #[J E 0,J E 0,J E 0,J E 0,J E 0,J E 0,J E 0,J E 0] by rw[z,p];exact jR _ _ _) (show t<l by rw[p];exact y.o.lt) ((Rn.new y.o (k:=l) (eZ p (aw _))).2) (show s+x.length<=l by rw[p];exact v.o.k);refine tf z ?_;rw[<-p];clear z p;refine X8 12 0 fun p q=>?_
   simp only[sZ,ak];let ⟨p,v,y⟩:=gO q g H U;refine vJ rfl (aI 8) (aI 20) rfl l o.l (St.len r.o) rfl rfl y.o rfl ?_;obtain⟨g,q,z⟩:=bh (p.o.C (k:=l) a2.o (aS E o.l)) (y.o.row (aS E o.l)) (v.o.JQ (b:=l) (dU W.o) (by intro H;have:=a1.o;exact this H) (aS E o.l));refine mn ⟨rfl,pX fun p v=>?_⟩;simp only[ak];exact d.o p l ⟨g.o.ext v,⟨_,z.o.ext v⟩,q.o.ext v⟩
  ·simp only[sZ,ak]
   let ⟨g,l⟩:=di f c n;go_wp2_with fail;let ⟨c,f⟩:=aX e.heap.size;let ⟨n,p⟩:=aX (e.alloc (az #[J E 0,J E 0,J E 0,J E 0,J E 0,J E 0,J E 0,J E 0] 324));obtain⟨e,q,v,y,z,H⟩:=ej (show Fm w s x n by rw[p];exact g.o.alloc _) (show Wr n s t _ _ by rw[p];exact l.o.alloc _) (show Bx n c 324 #[J E 0,J E 0,J E 0,J E 0,J E 0,J E 0,J E 0,J E 0] by rw[p,f];exact jR _ _ _) (show t<c by rw[f];exact l.o.lt) ((Rn.new l.o (k:=c) (eZ f (aw _))).2) (show s+x.length<=c by rw[f];exact g.o.k);refine tf p ?_;rw[<-f];clear p f;refine fK 7 4 e fun f g=>?_
   simp only[sZ,ak];let ⟨f,l,n⟩:=gO g e q v;go_wp2_with fail;refine(a.o _ l.o (dU f.o.k)).mono ?_;rintro a e ⟨g,rfl,p,q,v⟩;obtain⟨a,e,z,U⟩:=dq (f.o.G q l.o (eZ V.o a6.o)) p (n.o.G q (dU y.o) dS) (show g≠M c from v c n.o.lt dS);go_wp2_with fail;refine gT 8 2 2 ?_;refine zj 10 1 ?_;simp only[sZ,ak];refine bO rfl 290 #[o.val,J E 0] o.val (fun f=>by kernel_rfl) (fun g l=>F7 o r.o g) ?_;refine X8 12 0 fun f g=>?_
   simp only[sZ,ak];let ⟨f,l,n⟩:=gO g a e z;refine vJ rfl (aI 8) (aI 20) rfl c o.l (St.len r.o) rfl rfl n.o rfl ?_;obtain⟨a,e,g⟩:=bh (f.o.C (k:=c) H.o (aS E o.l)) (n.o.row (aS E o.l)) (l.o.JQ (b:=c) (dU y.o) (by intro p;have:=U.o;exact this p) (aS E o.l));refine mn ⟨rfl,pX fun f l=>?_⟩;simp only[ak];exact d.o f c ⟨a.o.ext l,⟨_,g.o.ext l⟩,e.o.ext l⟩
 intro a c d;let ⟨e,f,g⟩:=d
 try dsimp only
 let ⟨d,l,n⟩:=bh e f g;let ⟨e,f⟩:=l.o;obtain⟨g,l⟩:=aQ f (fun p (q:Wr p s t e b)=>Yq s t e b p q);let ⟨f,p⟩:∃q:Int,q=(b.length:Int):=⟨_,rfl⟩;rw[<-p] at l;go_upto_region 3 with fail;refine aL 5 (fun p=>Fm w s x p/\Wr p s t e b/\Bx p c 324 (aS E o.l)) rfl (fun q v=>?_);have p:=aH (show Fm w s x a/\Wr a s t e b/\Bx a c 324 (aS E o.l) from⟨d.o,g.o,n.o⟩);let ⟨a,b,e⟩:=gO v d g n;refine gN 0 2 4 ?_;simp only[sZ,ak];refine lR p 280 5 (s+1) 0 408 h.cells (fun _ d=>⟨_,_,Y.o _ d.1,ij _ (da i.o.ok),by rw[da i.o.ok];exact aw _⟩) mG jL ?_;simp only[sZ,ak];go_big_quiet_step (fail);refine aN (Ax 2 3 p.o ?_);simp only[sZ,ak];refine bO rfl 291 #[aD (M ⟨t,0,S⟩)] (J E f) (fun d=>by kernel_rfl) (fun g n=>(l.o g n.2.1).mono (fun q v x=>⟨x.1,x.2▸bD.refl _⟩)) ?_;refine gN 3 2 1 ?_;simp only[sZ,ak];refine lR p 324 8 c 0 8 (aS E o.l) (fun _ d=>⟨_,_,d.2.2,ij _ (eZ bE (St.len r.o)),by rw[bE,St.len r.o];exact aw _⟩) kR kt ?_;simp only[sZ,ak];refine Cr rfl (aG (kq h f o)) (fun c=>CK (qs:=#[(0,aG h.cells),(1,J E f),(2,aG (aS E o.l))]) rfl dK (WH h i.o.ok f o (St.len r.o) c)) ?_;refine aN (oL 5 0 (fun c d=>⟨a.o.ext d,b.o.ext d,e.o.ext d⟩) fun g l=>?_);simp only[sZ,ak];have b:=mX l a;refine vA rfl 376 (aI 6) (aI 25) rfl (s+1+1) (kq h f o) rfl rfl 376 _ (a0.o _ b.o) (by rw[gD i.o.ok (St.len r.o)];exact FN) (by rw[gD i.o.ok (St.len r.o),gD fG rfl]) (xM _ _ _) ?_;obtain⟨a,c⟩:=aQ ((a0.o _ b.o).row (kq h f o)) (show bD w (g.setRow (s+1+1) (kq h f o)) by have:=aO (g:=s+1+1) (cs:=kq h f o) b.o.F O;rw[u.o] at this;rw[u.o];exact this);refine mn ⟨rfl,pX fun b d=>?_⟩;let ⟨b,e⟩:=di d a c;simp only[ak];go_wp2;exact rR results276 b.o tX (by rw[gD i.o.ok (St.len r.o)];exact FN) ⟨f,rfl,e.o⟩
end
structure Yat(c:T)(b:FV)(d:Fr)(e f:Nat):Prop where
 a:b.ya=M ⟨e,f,S⟩
 n:b.yn=256
 W:b.W=16
 lt:e<c.heap.size
 at_:∀b,b<256->∃g,cM d.Y b=g/\0<=g/\g<=255/\c.cell? ⟨e,f+b,S⟩=M (J .u8 g)
def Fv.yat{a d b}(c:Fv a d b)(e:ox b):∃f g,Yat a d b f g:=by
 have a:=c.wh;let ⟨⟨b,f,g,h,i,l,n,o,p,q,r,_,_⟩,_⟩:=c;let ⟨b,c,f,g,h,i,l,n,o,p,s⟩:=d;simp only[FV.val,Value.agg.injEq,Array.mk.injEq,List.cons.injEq,Value.slice.injEq,Value.int.injEq] at q;obtain⟨_,_,⟨rfl,rfl,rfl⟩,_⟩:=q;have b:=r.len;rw[e.Y] at b;obtain⟨c,d,_,rfl,_,f,_⟩:=r.at_ (k:=0) O;refine⟨c,d,rfl,b.symm,by rw[<-e.W];exact a.1,f,fun g h=>?_⟩;let ⟨a,b,c,d,_,_,e,f,h,i⟩:=r.at_ (k:=g) O;simp only[bq,Addr.mk.injEq] at d;obtain⟨rfl,rfl,_⟩:=d;exact⟨c,by unfold cM;rw[jr,e];rfl,f,h,i⟩
def Yat.ext{a b c d e f}(g:Yat a c d e f)(h:bD a b):Yat b c d e f:=
 ⟨g.a,g.n,g.W,Nat.lt_of_lt_of_le g.lt h.size,fun a b=>by
  let ⟨c,d,i,l,n⟩:=g.at_ a b;exact⟨c,d,i,l,(Below.cell (p:=⟨e,f+a,S⟩) h g.lt).trans n⟩⟩
instance {w w' x1 x2 x3 x4}:Tr w w' (Yat w x1 x2 x3 x4) (Yat w' x1 x2 x3 x4):=⟨fun hb h=>Yat.ext h hb⟩
def Xk(a b:Fr)(c d:Nat):Int:=cM a.Y d-cM b.Y d-cM a.Y (d+c*16)+cM b.Y (d+c*16)
def OH(a b:Fr)(c:Nat):Nat->Int|0=>0|d+1=>OH a b c d+max (Xk a b c d) (-(Xk a b c d))
def To{a b c}(d:∀e,e<224->-1020<=Xk a b c e/\Xk a b c e<=1020):∀f,f<=224->0<=OH a b c f/\OH a b c f<=1020*f
 |0,_=>by simp[OH]
 |a+1,b=>by
  have b:=To d a O;have b:=d a O;unfold OH;omega
def D7(a b:FV)(i c:Fr)(d:Nat)(e:d=1\/d=2)(f:T)(g:Fv f a i)(h:Fv f b c)(l:ox i)(n:ox c):
  aT aE 294 #[a.val,b.val,J E (d:Int)] f fun o p=>o=aK (J E (OH i c d 224))/\bD f p:=by
 let ⟨o,p,q⟩:=g.yat l;let ⟨r,s,t⟩:=h.yat n;let ⟨u,v⟩:=aX ((f.alloc (az a.cells 63)).alloc (az b.cells 63));have w:bD f u:=by rw[v];exact(jd).alloc dS _
 obtain⟨x,y,z,H,U⟩:=dZ (show Bx u f.heap.size 63 a.cells by rw[v];exact(jR _ _ _).alloc _) (show Bx u (f.heap.size+1) 63 b.cells by rw[v];exact Bx.D _ _ _ _ dS) (q.ext w) (t.ext w) w;have V:=q.a;have W:=q.n;have Y:=q.W;have a0:=t.a;have a1:=t.n;have a2:=t.W;let ⟨a3,a4,a5,a6,a7,a8,a9,aa,ab,ac,ad⟩:=a;let ⟨ae,ag,ah,ai,aj,al,am,ap,ar,ax,ay⟩:=b;dsimp only at V W Y a0 a1 a2;subst V W Y a0 a1 a2;have V:=aH e
 have W:=aH (show∀Y,Y<224->-1020<=Xk i c d Y/\Xk i c d Y<=1020 by
  intro a0 a1;obtain⟨a2,rfl,_,_,_⟩:=q.at_ a0 O;obtain⟨aV,rfl,_,_,_⟩:=t.at_ a0 O;obtain⟨b0,rfl,_,_,_⟩:=q.at_ (a0+d*16) O;obtain⟨q,rfl,_,_,_⟩:=t.at_ (a0+d*16) O;unfold Xk;omega)
 go_enter func294,ntmps294;go_upto_region 1 with fail;refine mr v ?_;let ⟨q,t⟩:=aX f.heap.size;rw[<-t] at x y ⊢;clear v t;let ⟨⟨t,v,Y,a0,a1⟩,_,_⟩:=x.o.rQ;let ⟨⟨a2,aV,b0,b1,b2⟩,_,_⟩:=y.o.rQ;simp only[] at t Y b0;go_wp2
 go_loopw [7,18] (fun b3 b4 wr=>∃b5:Nat,b5<=224/\b4=J E b5/\b3=J E (OH i c d b5)/\∃b6,wr=u.drewN b6) (fun _ b7 _=>224-(intOf b7).toNat)
 case atStart=>exact⟨0,by omega,rfl,rfl,0,rfl⟩
 case round=>
  obtain⟨b3,b4,rfl,rfl,b5,rfl⟩:=hrel;have b6:=To W.o b3 b4
  by_cases b7:b3<224
  ·let ⟨b8,b9,ba,bb,bc⟩:=z.o.at_ b3 O
   let ⟨bd,be,bf,bi,bk⟩:=H.o.at_ b3 O;let ⟨bl,bn,br,bs,bt⟩:=z.o.at_ (b3+d*16) (dU V.o);let ⟨bu,bv,bx,bz,bC⟩:=H.o.at_ (b3+d*16) (dU V.o);have bK:=aH (show Xk i c d b3=b8-bd-bl+bu by unfold Xk;rw[b9,be,bn,bv]);have bL:=W.o b3 b7;rw[bK.o] at bL;have bR:=aH (show OH i c d (b3+1)=OH i c d b3+max (b8-bd-bl+bu) (-(b8-bd-bl+bu)) by rw[<-bK.o];rfl);let ⟨bU,bV⟩:=aX (OH i c d b3);rw[<-bV] at b6 bR ⊢;have bY:=aH bV;have c0:=z.o.lt;have c1:=H.o.lt;have c2:=y.o.lt;have c3:(0:Int)<=(b3:Int):=O;have c4:(b3:Int)<256:=O;have c5:E.wrap (b8-bd)=b8-bd:=an _ O;have c6:E.wrap (b8-bd-bl)=b8-bd-bl:=an _ O;have c7:E.wrap (b8-bd-bl+bu)=b8-bd-bl+bu:=an _ O;have c8:E.wrap b8=b8:=an _ O;have c9:E.wrap bd=bd:=an _ O;have ca:E.wrap bl=bl:=an _ O;have cb:E.wrap bu=bu:=an _ O;clear bV;rcases V.o with rfl|rfl
   ·have V:u.cell? ⟨o,p+(b3+16),S⟩=M (J .u8 bl):=bt
    have bV:u.cell? ⟨r,s+(b3+16),S⟩=M (J .u8 bu):=bC;have cc:E.wrap ((b3:Int)+16)=((b3+16:Nat):Int):=by rw[an _ O];omega
    have cd:((b3+16:Nat):Int)<256:=O;have ce:(0:Int)<=((b3+16:Nat):Int):=O;have cf:((b3+16:Nat):Int).toNat=b3+16:=O;go_upto_region 6 with fail;go_quiet (fail);go_wp2;exact⟨⟨b3+1,by omega,by go_num,by rw[bR.o],b5+nq,rfl⟩,by simp[intOf];omega⟩
   ·have V:u.cell? ⟨o,p+(b3+32),S⟩=M (J .u8 bl):=bt
    have bV:u.cell? ⟨r,s+(b3+32),S⟩=M (J .u8 bu):=bC;have cc:E.wrap ((b3:Int)+32)=((b3+32:Nat):Int):=by rw[an _ O];omega
    have cd:((b3+32:Nat):Int)<256:=O;have ce:(0:Int)<=((b3+32:Nat):Int):=O;have cf:((b3+32:Nat):Int).toNat=b3+32:=O;go_upto_region 6 with fail;go_quiet (fail);go_wp2;exact⟨⟨b3+1,by omega,by go_num,by rw[bR.o],b5+nq,rfl⟩,by simp[intOf];omega⟩
  ·obtain rfl:b3=224:=O
   go_wp2;go_ret;exact⟨rfl,U.o.drewN b5⟩
def DQ(b)(a:b.length=64)(c):aT aE 295 #[aG (aS E b),J E 0] c fun d e=>d=aK (aG (aS E b))/\bD c e:=by
 let ⟨d,e⟩:=aX ((c.alloc (az (aS E b) 277)).alloc (az (aS E zeros64) 277));obtain⟨f,g,h,i⟩:=dq (show Bn E d 277 c.heap.size b by rw[e];exact(Bn.D _ _ _ _ _ rfl).alloc _) (show Bn E d 277 (c.heap.size+1) zeros64 by rw[e];exact Bn.D _ _ _ _ _ dS) (show bj c.heap.size c d by rw[e];exact(jd).alloc dS _) a;go_enter func295,ntmps295;go_upto_region 1 with fail;refine mr e ?_;clear e;go_wp2_with (first|(refine fL rfl (aI 2) rfl c.heap.size rfl f.o i.o ?_)|(refine eD rfl (aI 4) (aI 9) rfl (c.heap.size+1) b rfl rfl g.o rfl i.o ?_));exact rR results295 (g.o.row _) ji (by rw[bE,i.o];exact gP) ⟨rfl,aO h.o O⟩
def rA(i:Nat):Int:=([64,62,48,62,64,62,48,62]:List Int).getD i 0
def P1(i)(a:i<8)(b:Nat->Int)(c)(d:∀e,e<8->-c<=b e/\b e<=c):-(rA i*c)<=S8 (fun f=>tM i f*b f)/\S8 (fun g=>tM i g*b g)<=rA i*c:=by
 have a:=d 0 O;have a:=d 1 O;have a:=d 2 O;have a:=d 3 O;have a:=d 4 O;have a:=d 5 O;have a:=d 6 O;have a:=d 7 O;have a:i=0\/i=1\/i=2\/i=3\/i=4\/i=5\/i=6\/i=7:=O;rcases a with rfl|rfl|rfl|rfl|rfl|rfl|rfl|rfl<;> simp only[S8,tM,rA,List.getD_cons_succ,YP,Nat.reduceMul,Nat.reduceAdd,jr,List.getElem?_cons_succ,List.getElem?_cons_zero,vl]<;> omega
def Abc{b}(c:Zw b){d}(a:d<64):-(rA (d/8)*(rA (d%8)*255))<=Ds b d/\Ds b d<=rA (d/8)*(rA (d%8)*255):=by
 unfold Ds;refine P1 (d/8) O (fun a=>ux b (8*a+d%8)) _ fun e f=>?_
 unfold ux;have a:(8*e+d%8)%8=d%8:=O;have f:(8*e+d%8)/8=e:=O;rw[a,f];exact P1 (d%8) O (fun a=>cM b (8*e+a)) 255 fun f _=>c.at_ _
def Ab0{f e d}(a:0<e)(b:-d<=f/\f<=d)(c:2*d<8191*e):-4095<=Dp f e/\Dp f e<=4095:=by
 have a:∀b:Int,0<=b->b<=d->0<=(2*b+e)/(2*e)/\(2*b+e)/(2*e)<=4095:=by
  intro b c d;refine⟨Int.ediv_nonneg O O,?_⟩;have:(2*b+e)/(2*e)<4096:=Int.ediv_lt_of_lt_mul O O;omega
 unfold Dp;split
 ·have:=a (-f) O O;omega
 ·have:=a f O O;omega
def Aa6:∀i:Fin 8,∀a:Fin 8,2*(rA i.val*(rA a.val*255))<8191*(8*gn (nM i.val) (nM a.val))/\rA i.val*(rA a.val*255)<=3000000:=by decide
def Nf{a f g}(b:Zw a)(c:Mh f)(e:1<=g){h}(d:h<64):
  (-3000000<=cM (oW a) h/\cM (oW a) h<=3000000)/\(-4095<=Dp (cM (oW a) h) (nf (cM f h) g h)/\Dp (cM (oW a) h) (nf (cM f h) g h)<=4095):=by
 have i:cM (oW a) h=Ds a h:=by unfold oW cM;rw[jr,bN,jo d];rfl
 rw[i];have a:=Abc b d;have b:=Aa6 ⟨h/8,by omega⟩ ⟨h%8,by omega⟩;dsimp only at b;have i:=Jk h;let ⟨_,i,l⟩:=c.at_ d;have c:8*1<=cM f h*g:=Int.mul_le_mul i e O O
 have c:8*gE h<=nf (cM f h) g h:=by
  unfold nf;exact Int.mul_le_mul_of_nonneg_right O O
 refine⟨by omega,Ab0 O a ?_⟩;have a:2*(rA (h/8)*(rA (h%8)*255))<8191*(8*gE h):=b.1;omega
def Qn{a b c}(d:Zw a)(e:Mh b)(f:1<=c):∀g∈mO (oW a) b c,-4095<=g/\g<=4095:=by
 intro a b;simp only[mO,iy,Da] at b;obtain⟨a,c,rfl⟩:=b;exact(Nf d e f c).2
def Mb.oS(a:Mb)(b:Nat)(c:List Int):Mb:={a with I:=a.I.take (64*b)++c++a.I.drop (64*b+64)}
def Mb.rG(a:Mb)(b:Nat)(c:Bool):Mb:={a with P:=a.P.set b c}
def Mb.rF(a:Mb)(b:Bool):Mb:={a with fd:=b}
def Mb.M0{a:Mb}(f:a.A){b}(c:b<6){d}(e:d.length=64):(a.oS b d).A:=
 ⟨f.u,f.v,f.Z,f.P,by have:=f.I;simp only[Mb.oS,aJ,List.length_take,List.length_drop];omega⟩
def Mb.G3{a:Mb}(b:a.A)(c d):(a.rG c d).A:=⟨b.u,b.v,b.Z,by rw[Mb.rG];simp[b.P],b.I⟩
def Mb.tU{a:Mb}(b:a.A)(c):(a.rF c).A:=⟨b.u,b.v,b.Z,b.P,b.I⟩
def Mb.Af3{b:Mb}(c:b.A){d}(a:d<6){e}(f:e.length=64):jH b.cells (24+64*d) (aS E e)=(b.oS d e).cells:=by
 rw[Mb.dL c];have a:=c.I;rw[Af b.head (iV b.I) [] 24 (64*d) (aS E e) (Mb.lL c) (by rw[bE,f,Jg,a];omega)];rw[bE,f,List.append_nil];show _=(Mb.head _++iV _).toArray;congr 2;simp only[Mb.oS,iV,aS,fY,List.map_take,List.map_drop]
def Mb.Abs{a:Mb}(b:a.A){c}(d:c<6)(e):a.cells.setIfInBounds (18+c) (ao e)=(a.rG c e).cells:=by
 rw[Mb.dC b,Oi _ _ _ 18 c _ (Mb.lC b) (by rw[bV_len,b.P];exact d),Mb.dC (Mb.G3 b c e)];congr 3;simp only[Mb.rG,bV,List.map_set]
def Mb.NO{a:Mb}(b:a.A)(c):a.cells.setIfInBounds 4 (ao c)=(a.rF c).cells:=by
 rw[Mb.dFd b,Oi _ _ _ 4 0 _ (Mb.lFd b) (by simp),Mb.dFd (Mb.tU b c)];rfl
def Mb.noU8{a:Mb}:a.cells.all oV=aB:=by
 rw[bG];intro a b;simp only[qE,Mb.head,vD,dG,iV,bV,iy,dJ] at b;rcases b with(((((((rfl|⟨_,_,rfl⟩)|rfl)|rfl)|⟨_,_,rfl⟩)|⟨_,_,rfl⟩)|rfl)|⟨_,_,rfl⟩)|⟨_,_,rfl⟩<;> rfl
def du.FW{a o b c d e g h i}(f:du a o c d e)(p:fO o b g S)(l:Bx o g h i)(n:i.all oV=aB):du a b c d e:=by
 let ⟨a,b,c⟩:=f;refine⟨a,b,fun d=>?_⟩;let ⟨a,b,e,f,q⟩:=c d;refine⟨a,b,e,f,fun c d r=>?_⟩;have e:=q c d r
 have d:a≠g:=by
  rintro rfl;rw[cell_of_row o a (b+c) i h (0,0) l] at e;have:=(bG.1 n) _ (Array.mem_of_getElem? e);simp[oV] at this
 have f:a<o.heap.size:=World.block_lt_of_cell? o ⟨a,b+c,S⟩ e;unfold World.cell? at e ⊢;rw[p.block a f d (by simp)];exact e
def Fv.FW{a b c d e f}(g:Fv a c d)(h:fO a b e S)(i:Mx a e f):Fv b c d:=by
 let ⟨⟨a,b,c,d,e,f,l,n,o,p,q,r,s⟩,t⟩:=g;exact⟨⟨a,b,c,d,e,f,l,n,o,p,q.FW h i.j Mb.noU8,r.FW h i.j Mb.noU8,s.FW h i.j Mb.noU8⟩,t⟩
def Bx.diff{a b c d e f g}(h:Bx a b d f)(i:Bx a c e g)(l:d≠e):b≠c:=by
 rintro rfl;unfold Bx at h i;rw[h] at i;simp only[bq,Obj.cells.injEq] at i;exact l i.2.1
def Kb.FW{a b c d e f}(g:Kb a c e)(h:fO a b d S)(i:Mx a d f):Kb b c e:=⟨g.j.G h (g.j.diff i.j dD) (by simp),g.ok⟩
def fD.FW{a b c d}(e:fD a)(f:fO a b c S)(g:Mx a c d):fD b:=⟨e.a.K (f.block _ e.a.lt (e.a.diff g.j (yD (da g.ok))) (by simp)),e.i.K (f.block _ e.i.lt (e.i.diff g.j (yD (da g.ok))) (by simp))⟩
def Dd(a b:List Int):List Int:=(dI 64).map fun c=>cM a c-cM b c
def Gx(a b:List Int)(c:Nat):List Int:=(dI c).map (fun d=>cM a d-cM b d)++a.drop c
def Wc{a b}(c:a.length=64){d}(e:d<64):(Gx a b d)[d]?=M (cM a d):=by
 unfold Gx;rw[aU (by simp),iZ];simp only[cX,qD,oC,Ck];exact eh O
def Sn{a b}(c:a.length=64){d}(e:d<64):(Gx a b d).set d (cM a d-cM b d)=Gx a b (d+1):=by
 unfold Gx;rw[jT _ _ (by simp),Cn,fY,aW];congr 1;simp only[cX,qD,oC];rw[nD O];rfl
def Yx(a:List Int):Prop:=∀b∈a,0<=b/\b<=255
def Yx.xat{a:List Int}(c:Yx a)(b:Nat):0<=cM a b/\cM a b<=255:=by
 unfold cM;rw[jr];cases e:a[b]? with
 |none=>simp
 |some a=>exact c a (bg e)
def Oc{a b}(c:Yx a)(d:Yx b):Zw (Dd a b):=by
 refine⟨by simp[Dd],fun a b=>?_⟩;simp only[Dd,iy,Da] at b;obtain⟨a,_,rfl⟩:=b;have b:=c.xat a;have b:=d.xat a;omega
def Fv.yH{a b c}(d:Fv a b c):Yx c.Y/\Yx c.U/\Yx c.V:=by
 let ⟨⟨a,b,c,e,f,g,h,i,l,n,o,p,q⟩,_⟩:=d;exact⟨o.yH,p.yH,q.yH⟩
def tQ{a b c}(f:Fv a b c)(d e):Yx (kT c 0 0 d e):=by
 let ⟨a,b,c⟩:=f.yH;intro d e;let ⟨d,f⟩:=xX.1 e;have e:d<64:=by have:=(aP.1 f).1;rwa [rB] at this
 rw[QX e] at f;simp only[bq] at f;rw[<-f];unfold jq;split
 ·exact b.xat _
 ·split
  ·exact c.xat _
  ·exact a.xat _
def K5(a b:Fr)(c:List Int)(d:Int)(e f:Bool)(g:Nat):List Int:=Q1 (mO (oW (Dd (kT a 0 0 g f) (kT b 0 0 g f))) c d) e
def D9(a:Mb)(b c:Fr)(d:List Int)(e:Int)(f g:Bool):Nat->Mb
 |0=>a.rF g
 |h+1=>((D9 a b c d e f g h).oS h (K5 b c d e f g h)).rG h (!decide (K5 b c d e f g h=zeros64))
def P8(a b:Fr)(c:List Int)(d:Int)(e f:Bool):Nat->Bool
 |0=>av
 |g+1=>P8 a b c d e f g|| !decide (K5 a b c d e f g=zeros64)
def J7(a b c d e f g):(K5 a b c d e f g).length=64:=by simp[K5,Q1]
def FL{a}(b:a.A)(c d e f g h):∀i,i<=6->(D9 a c d e f g h i).A
 |0,_=>Mb.tU b h
 |a+1,i=>Mb.G3 (Mb.M0 (FL b c d e f g h a O) O (J7 _ _ _ _ _ _ _)) _ _
end Go.Proofs.YtbdhieahnneebaaGreatDoor
