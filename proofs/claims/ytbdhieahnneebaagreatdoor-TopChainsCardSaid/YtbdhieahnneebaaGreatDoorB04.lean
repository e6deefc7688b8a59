/- Laws that TopChains leans on. -/
import Derived.Test.YtbdhieahnneebaaGreatDoorB03
import Derived.Deep.Slices
import Derived.Maps.OwnSet
import Derived.Scope
import Derived.SizedLaws
set_option maxRecDepth 100000
set_option maxHeartbeats 32000000
set_option linter.all false
open Go.Proofs.Tryz
open And renaming intro->bZ
open Array renaming all_eq_true_iff_forall_mem->bG,getElem?_eq_some_iff->eJ,getElem?_extract->iL,length_toList->cj,mem_of_getElem?->nd,toArray_toList->oT,toList_setIfInBounds->tZ
open Bool renaming and_eq_true->bT,false->av,true->aB
open Go renaming Calls->aT,DataW->M6,MemPlace->sL,Oper->cQ,Operand->Gc,Program->nt,TypeDesc->Ac5,TypeId->aR,Value->aq,World->T,bodyPost_ret->dY,cell_of_row->Bf,execOp->VI,loadVar->oA,results->Ih,run_loadVar_row->tm,run_underlying->fI,setRow_other->iD,size_setRow->kB,undef->sJ,wpList->cG,wpQuiet_nil->aN,yielded->xZ
open Go.Act renaming put->ak
open Go.BigFrame renaming wpList_want->eI,wpQuiet_want->lZ
open Go.Builtin renaming append_->fW
open Go.DataW renaming trod->kQ,trod_int->iH,trod_struct->pK
open Go.Ending renaming returned->aK
open Go.Instr renaming build->fk,loadAt->yp,makeFunc->DE,sureAddr->nO
open Go.IntKind renaming bits->ig,i64->E,max->Mq,min->Mp,signed->fQ,u32->lE,wrap_u32->ic
open Go.IntWalk renaming i64_in->an,wrap64_in->kE
open Go.Obj renaming cells->az
open Go.Operand renaming tmp->aI
open Go.Proofs.Tryz renaming func73->Il,ntmps73->Co,prog->aE,results157->RL,underlying105->pO,underlying121->Acw,underlying158->Kg,underlying2->qJ,underlying24->fV,underlying26->ik,underlying27->oa,underlying3->bJ,underlying35->nC,underlying39->K0,underlying4->jD,underlying5->pM,underlying54->dw,underlying63->db,underlying93->zV,underlying95->JZ,underlying97->NR,zeroCells105->vm,zeroCells99->fJ
open Go.Proofs.YtbdhieahnneebaaGreatDoor.FV renaming cells->au,noU8->iq,size->fA,zero->aC
open Go.Proofs.YtbdhieahnneebaaGreatDoor.Ku renaming ext->jU
open Go.Proofs.YtbdhieahnneebaaGreatDoor.Sq renaming cells->iN,size->jB
open Go.Region renaming ready->eO,wanted->bP
open Go.Result renaming andThen_ok->dv
open Go.RowKit renaming Below->bj,wrap64->RI
open Go.RowKit.Below renaming heap_setCell->eF,refl->aM
open Go.Sem renaming run_bind->fT,run_pure->iT
open Go.Value renaming agg->aG,bool->ao,int->J,oneCell'->cJ,ownBlock->kC,pointer->aD,slice->af,tuple->fE
open Go.Value.slice renaming injEq->dt
open Go.World renaming block_lt_of_cell?->dH,cell?->mV,size_alloc->dA
open Int renaming natCast_add->Kf,natCast_mul->cm,tdiv_eq_ediv_of_nonneg->bB,toNat_natCast->jn
open List renaming all_append->uU,all_cons->RH,all_toArray->O0,append_assoc->aW,drop_drop->gK,drop_eq_getElem_cons->nD,drop_eq_nil_of_le->fU,drop_zero->eo,eq_nil_or_concat->zU,ext_getElem?->oB,flatMap_append->Ec,flatMap_cons->gL,getElem?_append_left->bo,getElem?_append_right->aU,getElem?_cons_zero->fF,getElem?_eq_getElem->aA,getElem?_eq_none->de,getElem?_eq_some_iff->aP,getElem?_map->bN,getElem?_range->jo,getElem?_toArray->bw,getLast?_append->Gd,getLast?_singleton->Cm,length->mZ,length_append->aJ,length_cons->eu,length_map->cX,length_nil->eK,length_set->ee,length_singleton->cW,length_take->dE,map_append->fY,map_congr_left->rI,map_cons->sH,map_map->qe,map_nil->Bh,map_toArray->qR,mem_append->dG,mem_cons->oU,mem_map->iy,mem_of_getElem?->bg,mem_singleton->dJ,range->dI,replicate->aF,setIfInBounds_toArray->iU,set_append_right->jT,set_cons_succ->nX,set_cons_zero->mo,sum_append->VJ,take_add_one->qi,take_append_drop->kS,take_length->u7q,take_succ_cons->cZ,take_zero->dP,toList_toArray->ln
open Nat renaming add_sub_cancel->xl,add_zero->Ck,eq_zero_or_pos->ns,le_refl->aw,le_trans->aY,lt_of_lt_of_le->dX,mul_add->zS,mul_comm->dh,zero_add->oD,zero_le->qo
open Option renaming bind_some->Gb,getD_some->vl,map_some->bX,none->S,some->M,some_or->Mr
open Option.some renaming inj->fB,injEq->bq
open Prod.mk renaming injEq->rK
namespace Go.Proofs.YtbdhieahnneebaaGreatDoor
open Go.RowKit Go.Top
section
open Go.Maps
def KI:Nat->M6 Unit
 |0=>.map []
 |a+1=>(KI a).put (.int .i64 (1+(a:Int))) (.lit (.int .i64 (a:Int)))
def Ae0:Keyed aE 3:=int_keyed (q:=.i64) bJ
def ZZ{a}(b:0<=a/\a<=1000):(Lit.int .i64 a).wf=aB:=by
 have a:E.min=-9223372036854775808:=by decide
 have b:E.max=9223372036854775807:=by decide
 simp only[Lit.wf,a,b,bT,decide_eq_true_eq];omega
def RbW(a:T)(b:Nat)(i:aq)(wr:T):Prop:=
 ∃c:Nat,c<=b/\i=.int .i64 (c:Int)/\wr.ownsMap aE 3 (plainElem aE 3) a.heap.size c (KI c)/\bj a.heap.size a wr
def vY(b:Nat)(a:b<=100)(c:T):aT aE 159 #[.int .i64 b] c fun d e=>∃f,d=.returned (.map (M f))/\c.heap.size<=f/\e.ownsMap aE 3 (plainElem aE 3) f b (KI b)/\bD c e:=by
 have d:=@run_makeMap aE;have e:=aH a;clear a;go_enter func159,ntmps159;go_wp2_with fail
 go_loopw [7] (fun a wr=>RbW c b a wr) (fun f _=>b-(intOf f).toNat)
 case atStart=>exact⟨0,qo _,rfl,World.ownsMap_made _ _ _ _,(aM _ _).alloc (aw _) _⟩
 case round=>
  obtain⟨a,f,rfl,g,h⟩:=hrel;obtain⟨i,l⟩:=aQ g h;clear g h
  by_cases g:a<b
  ·have h:decide ((a:Int)<(b:Int))=aB:=decide_eq_true O
   have n:=aH (keyOf_int_mk (P:=aE) (k:=3) (q:=.i64) bJ (a:=1+(a:Int)) (ZZ (dU e.o)));have o:E.wrap (1+(a:Int))=1+(a:Int):=an _ (dU e.o);have p:E.wrap ((a:Int)+1)=((a+1:Nat):Int):=by rw[show((a+1:Nat):Int)=(a:Int)+1 by omega];exact an _ (dU e.o)
   go_wp2_with (first|(at_mapUpdate;refine wpList_mapUpdate_own _ rfl _ _ _ 263 rfl 3 3 Ae0 underlying263 _ c.heap.size a (KI a) rfl i.o (by have:=e.o;unfold maxLen;omega) (.int .i64 (1+(a:Int))) _ _ rfl rfl n.o (.lit (.int .i64 (a:Int))) [] (plainElem_int bJ (ZZ (dU e.o))) ?_;intro q r s;have HM4:=aH r;have HG4:=aH s;clear r s));exact⟨⟨a+1,g,by go_num,HM4.o,l.o.grown HG4.o l.o.size (fun q r=>by injection r with s;omega)⟩,by simp[intOf];omega⟩
  ·obtain rfl:a=b:=O
   go_wp2_with fail;go_ret;exact⟨c.heap.size,rfl,aw _,i.o,l.o⟩
end
def fR(a:Pc)(b:aq):Array aq:=#[J E a.ty,J E a.st,J E a.ord,ao a.top,ao a.M3,ao a.alt,af S 0 0,b]
def GG(c:Pc)(a:aq)(b:Int)(d:T):aT aE 160 #[aG (fR c (af S 0 0)),a,J E b] d fun e f=>e=aK (fE #[aG #[J E 0,af S 0 0],ao av])/\bD d f:=by
 have a:=aH (show Bx ((d.alloc (az (fR c (af S 0 0)) 97)).alloc (az #[J E 0,af S 0 0] 121)) d.heap.size 97 (fR c (af S 0 0)) from(Bx.new _ _ _).alloc _);have b:=a.o.cell 7 (v:=af S 0 0) rfl;go_enter func160,ntmps160;go_upto_region 2 with fail
 go_loopw [15] (fun c wr=>c=J E 0/\bj d.heap.size d wr/\Bx wr (d.heap.size+1) 121 #[J E 0,af S 0 0]) (fun _ _=>0)
 case atStart=>exact⟨rfl,((aM _ _).alloc (aw _) _).alloc dS _,Bx.D _ _ _ _ dS⟩
 case round=>
  obtain⟨rfl,c,e⟩:=hrel;obtain⟨f,g,h,i,l⟩:=dZ e (show(#[J E 0,af S 0 0]:Array aq).all (·.oneCell')=aB by simp[cJ]) (show(aE.info? 121).map (·.size)=M (#[J E 0,af S 0 0]:Array aq).size from xD) (show(#[J E 0,af S 0 0]:Array aq).size=(#[J E 0,af S 0 0]:Array aq).size from rfl) c;clear c e b a;go_wp2_with (first|(with_reducible refine bm rfl 121 (aI 6) (aI 34) rfl (d.heap.size+1) #[J E 0,af S 0 0] rfl rfl f.o h.o i.o g.o ?_));exact dY (v:=fE #[aG #[J E 0,af S 0 0],ao av]) (dT results160 _ _ (d.heap.size+1) _ _ _ rfl rfl (f.o.row _) rfl Acw xD) rfl ⟨rfl,aO l.o O⟩
def EP(a b c d e f g):aT aE 194 #[aG #[J E 0,J E a,d,e,f],J E b,J E c] g (fh g (ao aB)):=by
 go_enter func194,ntmps194;go_wp2;go_ret;exact⟨rfl,(aM _ _).alloc (aw _) _⟩
def GD{a:Nat->Prop}(b:aq)(d:Fr)(g:T)(c:dF a g b d)(e:bQ d=aB)(f:d.W≠0):aT aE 194 #[b,J E d.W,J E d.H] g (fh g (ao aB)):=by
 obtain⟨a,h⟩:=aX (g.alloc (az b.cells 63));have i:aT aE 122 #[b] a fun l n=>l=aK (ao (bQ d))/\bj a.heap.size a n:=dB b d a (eZ h (c.alloc _))
 rw[e] at i;have b:=aH i;obtain⟨l,n,o,p,q,r,s,t,u,rfl,v,w,x⟩:=c;have c:Bx a g.heap.size 63 #[J E d.W,J E d.H,af l n o,af p q r,af s t u]:=by rw[h];exact Bx.new _ _ _
 obtain⟨l,n⟩:=aQ c (show bj g.heap.size g a by rw[h];exact(aM _ _).alloc (aw _) _);have a:(d.W==0)=av:=by simpa using f
 clear v w x i c f e;go_enter func194,ntmps194;go_upto_region 1 with fail;refine mr h ?_;obtain⟨a,c⟩:=aX g.heap.size;rw[<-c] at l ⊢;clear h c;have a:=l.o.cell 0 rfl;have c:=l.o.cell 1 rfl;have d:=l.o.cell 2 rfl;have e:=l.o.cell 3 rfl;have f:=l.o.cell 4 rfl;go_wp2_with fail;refine b.o.mono ?_;rintro b g ⟨rfl,h⟩;have b:=l.o.ext h;have g:=aH (n.o.trans (h.mono n.o.size));clear a c d e f h;have a:=b.cell 0 rfl;have a:=b.cell 1 rfl;clear b;go_wp2;go_ret;exact⟨by simp,g.o⟩
def kZ(a:T)(b:FV)(c d:Int):Prop:=∀e,bD a e->aT aE 194 #[aG (au b),J E c,J E d] e (fh e (ao aB))
def kZ.zero(a b c):kZ a aC b c:=fun d _=>EP 0 b c (af S 0 0) (af S 0 0) (af S 0 0) d
def kZ.fr{a b c}(d:Fv a b c)(e:bQ c=aB)(f:c.W≠0):kZ a b c.W c.H:=fun g h=>GD b.val c g (d.ext h).1 e f
def kZ.ext{a b c d e}(f:kZ a c d e)(g:bD a b):kZ b c d e:=fun h i=>f h (g.trans i)
instance {w w' x1 x2 x3}:Tr w w' (kZ w x1 x2 x3) (kZ w' x1 x2 x3):=⟨fun hb h=>kZ.ext h hb⟩
def yy(h:Sq)(i:Pc)(n:Bool)(e:RE h i n)(l f o:FV)(g:T)(a:kZ g l h.w h.h)(b:kZ g f h.w h.h)(c:kZ g o h.w (h.h/2))(d:i.ty=1\/(i.ty=2/\l.W≠0/\(n=aB->o.W≠0))):
  aT aE 156 #[aG h.cells,aG (gJ i),aG (cq l f o),ao n] g (fh g (J E 0)):=by
 obtain⟨p,q,r,s,t,u⟩:=ej e d a b c (jB e.sq);obtain⟨a,b,c,d,v,w⟩:=ej (show 0<=h.h/\h.h<=64 from⟨by have:=e.sq.h1;omega,e.sq.h2⟩) (show∀x,Bx x g.heap.size 26 h.cells->x.cell? ⟨g.heap.size,0,S⟩=M (J E h.w) from fun y z=>z.cell 0 (by unfold iN;rw[bw];rfl)) (show∀H,Bx H g.heap.size 26 h.cells->H.cell? ⟨g.heap.size,1,S⟩=M (J E h.h) from fun U V=>V.cell 1 (by unfold iN;rw[bw];rfl)) (show(cq l f o).extract 0 (0+5)=au l/\0+5<=(cq l f o).size from⟨rfl,(by decide:0+5<=15)⟩) (show(cq l f o).extract 5 (5+5)=au f/\5+5<=(cq l f o).size from⟨rfl,(by decide:5+5<=15)⟩) (show(cq l f o).extract 10 (10+5)=au o/\10+5<=(cq l f o).size from⟨rfl,(by decide:10+5<=15)⟩);obtain⟨e,x,y⟩:=bh (show(cq l f o).extract 0 (0+15)=cq l f o/\0+15<=(cq l f o).size from⟨rfl,aw 15⟩) (show(gJ i).extract 0 (0+6)=gJ i/\0+6<=(gJ i).size from⟨rfl,aw 6⟩) (show∀z,aT aE 193 #[aG h.cells,aG (gJ i),ao n] z (fh z (ao aB)) from fun H=>ET h i n p.o H);let ⟨e,p,z,H,U,V,W,Y,a0,a1,a2,a3⟩:=Nk g h.cells 26 (gJ i) 93 (cq l f o) 158;rw[<-H] at b c;go_enter func156,ntmps156;go_upto_region 1 with fail
 try simp only[sZ,ak]
 refine mr U ?_
 try simp only[dA]
 rw[<-H];clear U H;go_wp2_with (first|(refine lA 26 4 e (a1.o _ Y.o) u.o ?_)|(refine lS 93 5 (e+1) 0 (a2.o _ Y.o) x.o.1 x.o.2 ?_));refine mR (y.o z) fun f g=>?_
 have p:=mX g Y;have g:=b.o _ (a1.o _ p.o);have g:=c.o _ (a1.o _ p.o);go_wp2_with refine lS 63 14 (e+1+1) 0 (a3.o _ p.o) d.o.1 d.o.2 ?_;refine mR (r.o f (a0.o _ p.o)) fun d g=>?_
 have f:=mX g p;have g:=b.o _ (a1.o _ f.o);have g:=c.o _ (a1.o _ f.o);go_wp2_with refine lS 63 23 (e+1+1) 5 (a3.o _ f.o) v.o.1 v.o.2 ?_;refine mR (s.o d (a0.o _ f.o)) fun g p=>?_
 have d:=mX p f;have f:=b.o _ (a1.o _ d.o);have b:=c.o _ (a1.o _ d.o);have b:h.h.tdiv 2=h.h/2:=bB a.o.1;have c:E.wrap (h.h/2)=h.h/2:=an _ (dU a.o);go_wp2_with refine lS 63 33 (e+1+1) 10 (a3.o _ d.o) w.o.1 w.o.2 ?_
 try rw[b]
 try rw[show RI (h.h/2)=h.h/2 from c]
 refine mR (t.o g (a0.o _ d.o)) fun a e=>?_
 have a:=mX e d;clear b c;have b:=(a2.o _ a.o).cell 0 (v:=J E i.ty) rfl;have c:=aH (a0.o _ a.o);rcases q.o with d|⟨d,e,f⟩
 ·rw[d] at b
  go_wp2_with fail;go_ret;exact⟨rfl,c.o⟩
 ·rw[d] at b
  have b:=(a3.o _ a.o).cell 0 (v:=J E l.W) rfl;have b:(l.W==0)=av:=by simpa using e
  cases n with
  |false=>
   go_wp2_with fail;go_ret;exact⟨rfl,c.o⟩
  |true=>
   have b:=(a3.o _ a.o).cell 10 (v:=J E o.W) rfl;have a:(o.W==0)=av:=by simpa using f rfl
   go_wp2_with fail;go_ret;exact⟨rfl,c.o⟩
def ZB(a:T)(b:Ending)(c:T):Prop:=∃d:FV,b=aK (fE #[d.val,J E 0])/\bD a c
def Di(h:Sq)(i:Pc)(a:i.st=1\/i.st=2\/i.st=3)(n:FV)(l:Fr)(o:T)(b:Fv o n l)(c:n.W≠0)(d:0<l.Y.length/\l.Y.length<=100000)(e:0<l.U.length/\l.U.length<=100000)(f:0<l.V.length/\l.V.length<=100000)(g:i.st≠3->pH l 0/\pH l 1):
  aT aE 157 #[aG h.cells,aG (gJ i),aG (au n)] o (ZB o):=by
 let ⟨p,q,r,s,t,u⟩:=ej a b c d e f;have a:=aH g;let ⟨b,c,d,e,f,g,v,w,x,y,z,H,U⟩:=Dt o h.cells 26 (gJ i) 93 (au n) 63 (au aC) 63;have h:=aH (fun(v:T)(y:Fm o b c v)=>q.o.ext (x.o v y));go_enter func157,ntmps157;go_upto_region 1 with fail
 try simp only[sZ,ak]
 refine mr f ?_
 try simp only[dA]
 rw[<-e];clear f e;have e:=(H.o _ w.o).cell 0 (v:=J E n.W) rfl;have e:(n.W==0)=av:=by simpa using r.o
 have f:=(z.o _ w.o).cell 1 (v:=J E i.st) rfl;rcases p.o with i|i|i
 ·have p:=a.o (yD i)
  rw[i] at f;have q:=mP n.val l 0 d (h.o _ w.o).1 (h.o _ w.o).2;rw[show pE l 0=(fw l 0,0) by unfold pE;rw[if_pos p.1];rfl] at q;have p:=aH q;have q:=aH (show(au n).extract 0 (0+5)=au n/\0+5<=(au n).size from⟨rfl,aw 5⟩);go_wp2_with refine lS 63 5 (b+1+1) 0 (H.o _ w.o) q.o.1 q.o.2 ?_;refine p.o.mono ?_;rintro p q r;obtain⟨p,rfl,v,y⟩:=r.fx;have r:=mX y w;go_wp2_with refine bI rfl (aI 6) (aI 26) rfl (b+1+1+1) p rfl rfl (U.o _ r.o) (fA _) ?_;obtain⟨v,y⟩:=aQ ((U.o _ r.o).row (au p)) (show bD o (q.setRow (b+1+1+1) (au p)) from aO (x.o _ r.o) (iJ g.o));exact rT RL v.o db bM ⟨p,rfl,y.o⟩
 ·have p:=a.o (yD i)
  rw[i] at f;have a:=mP n.val l 1 d (h.o _ w.o).1 (h.o _ w.o).2;rw[show pE l 1=(fw l 1,0) by unfold pE;rw[if_pos p.2];rfl] at a;have d:=aH a;have a:=aH (show(au n).extract 0 (0+5)=au n/\0+5<=(au n).size from⟨rfl,aw 5⟩);go_wp2_with refine lS 63 5 (b+1+1) 0 (H.o _ w.o) a.o.1 a.o.2 ?_;refine d.o.mono ?_;rintro a d p;obtain⟨a,rfl,q,r⟩:=p.fx;have p:=mX r w;go_wp2_with refine bI rfl (aI 6) (aI 34) rfl (b+1+1+1) a rfl rfl (U.o _ p.o) (fA _) ?_;obtain⟨q,r⟩:=aQ ((U.o _ p.o).row (au a)) (show bD o (d.setRow (b+1+1+1) (au a)) from aO (x.o _ p.o) (iJ g.o));exact rT RL q.o db bM ⟨a,rfl,r.o⟩
 ·rw[i] at f
  go_upto_region 7 with fail;clear e;refine aL 14 (fun a=>Fm o b c a) rfl (fun d e=>?_);have a:=w;have c:=mX e w;refine gN 0 6 10 ?_;simp only[sZ,ak];go_big_quiet_step (fail);refine lC a 3 36 (b+1+1) 0 (J E n.W) (fun _ d=>(H.o _ d).cell 0 rfl) bJ ?_;simp only[sZ,ak];go_big_quiet_step (fail);refine lC a 3 38 (b+1+1) 1 (J E n.H) (fun _ d=>(H.o _ d).cell 1 rfl) bJ ?_;simp only[sZ,ak];go_big_quiet_step (fail);refine lC a 54 40 (b+1+1) 2 (af n.ya n.yn n.yc) (fun _ d=>(H.o _ d).cell 2 rfl) dw ?_;refine aN (gN 7 2 8 ?_);simp only[sZ,ak];go_big_quiet_step (fail);refine lC a 54 43 (b+1+1) 3 (af n.ua n.un n.uc) (fun _ d=>(H.o _ d).cell 3 rfl) dw ?_;refine aN (gN 10 2 6 ?_);simp only[sZ,ak];go_big_quiet_step (fail);refine lC a 54 46 (b+1+1) 4 (af n.va n.vn n.vc) (fun _ d=>(H.o _ d).cell 4 rfl) dw ?_;refine aN (fK 6 5 c fun a d=>?_);simp only[sZ,ak];have e:=mX d c;go_wp2_with fail;refine(tu (p:=fun _=>True) _ _ _ l.Y a (h.o _ e.o).K9.1 (by have:=s.o;have:=(h.o _ e.o).K9.1.1;omega) (by have:=s.o;have:=(h.o _ e.o).K9.1.1;omega)).mono ?_;rintro a c ⟨d,f,i,rfl,_,_,p⟩;have a:=mX p e;go_wp2_with fail;refine fK 9 4 a fun c e=>?_
  simp only[sZ,ak];have p:=mX e a;go_wp2_with fail;refine(tu (p:=fun _=>True) _ _ _ l.U c (h.o _ p.o).K9.2.1 (by have:=t.o;have:=(h.o _ p.o).K9.2.1.1;omega) (by have:=t.o;have:=(h.o _ p.o).K9.2.1.1;omega)).mono ?_;rintro a c ⟨e,q,r,rfl,_,_,s⟩;have a:=mX s p;go_wp2_with fail;refine fK 12 3 a fun c p=>?_
  simp only[sZ,ak];have s:=mX p a;go_wp2_with fail;refine(tu (p:=fun _=>True) _ _ _ l.V c (h.o _ s.o).K9.2.2 (by have:=u.o;have:=(h.o _ s.o).K9.2.2.1;omega) (by have:=u.o;have:=(h.o _ s.o).K9.2.2.1;omega)).mono ?_;rintro a c ⟨h,l,p,rfl,_,_,t⟩;have a:=mX t s;go_wp2_with fail;let ⟨c,s⟩:∃t:FV,t=⟨n.W,n.H,d,f,i,e,q,r,h,l,p⟩:=⟨_,rfl⟩;refine T9 13 1 2 ?_;simp only[sZ,ak];refine ei rfl c.val (fun t=>iW (qs:=#[(0,J E n.W),(1,J E n.H),(2,af d f i),(3,af e q r),(4,af h l p)]) rfl dK (by rw[s];kernel_rfl)) ?_;refine aN (fK 14 1 a fun d e=>?_);simp only[sZ,ak];have f:=mX e a;refine bI rfl (aI 6) (aI 49) rfl (b+1+1+1) c rfl rfl (U.o _ f.o) (fA _) ?_;obtain⟨a,e⟩:=aQ ((U.o _ f.o).row (au c)) (show bD o (d.setRow (b+1+1+1) (au c)) from aO (x.o _ f.o) (iJ g.o));refine mn ⟨rfl,gT 15 1 0 ?_⟩;refine pX fun b d=>?_
  let ⟨b,f⟩:=di d a e
  try simp only[ak]
  go_wp2;exact rT RL b.o db bM ⟨c,rfl,f.o⟩
def Lc:(aE.info? 4).map (fun i=>(i.zero,i.size,i.bytes))=M (M (ao av),1,1):=dK
def oJ{a:nt}{b:Func}{c e h:Tmp}{o p:aR}(q:b.results=#[.cell c o,.tmp e,.tmp h])(i:Array aq)(r:T)(s:Nat)(t:Array aq)(f l:aq)(u:Ac5)
  (d:i.getD c sJ=aD (M ⟨s,0,S⟩))(g:i.getD e sJ=f)(n:i.getD h sJ=l)(v:Bx r s p t)
  (w:(match u with| .struct _| .array _ _=>aB|_=>av)=aB)(x:a.underlying o=M u)(y:(a.info? o).map (·.size)=M t.size):
  (Ih b i).run a r=.ok (fE #[aG t,f,l]) r:=by
 have a:i[c]?.getD sJ=aD (M ⟨s,0,S⟩):=by simpa using d
 have b:i[e]?.getD sJ=f:=by simpa using g
 have c:i[h]?.getD sJ=l:=by simpa using n
 simp[Ih,q,a,b,c,asAddr,tm r s p o t (0,0) u v x (by cases u<;> exact w) y]
def mu:(aE.info? 97).map (·.size)=M 8:=dK
def ZC(a:T)(b:Ending)(c:T):Prop:=∃(d:FV)(e:aq),b=aK (fE #[d.val,e,J E 0])/\bD a c
def KQ(b:Sq)(o:Pc)(a:Bool)(f:RE b o a)(c d e:FV)(p:T)(g:kZ p c b.w b.h)(h:kZ p d b.w b.h)(i:kZ p e b.w (b.h/2))(l:o.ty=1\/(o.ty=2/\c.W≠0/\(a=aB->e.W≠0)))
  (n:∀q,bD p q->aT aE 157 #[aG b.cells,aG (gJ o),aG (au c)] q (ZB q)):
  aT aE 103 #[aG b.cells,aG (fR o (af S 0 0)),aG (cq c d e),ao a] p (ZC p):=by
 obtain⟨q,r,s,t⟩:=dq (jB f.sq) (show∀u,bD p u->aT aE 156 #[aG b.cells,aG (gJ o),aG (cq c d e),ao a] u (fh u (J E 0)) from fun v w=>yy b o a f c d e v (g.ext w) (h.ext w) (i.ext w) l) n (show∀x,aT aE 158 #[aG b.cells,aG (gJ o)] x (fh x (J E (Dr b o/16))) from fun y=>wD b o a f y)
 obtain⟨a,u⟩:∃v:Nat,(v:Int)=Dr b o/16/\v<=4:=by
  have v:=f.sq.h1;have v:=f.sq.h2;refine⟨(Dr b o/16).toNat,?_,?_⟩<;> unfold Dr<;> split<;> omega
 rw[<-u.1] at t;have v:=aH u.2;clear u;obtain⟨u,w,x,y,z,H⟩:=ej (show(cq c d e).extract 0 (0+5)=au c/\0+5<=(cq c d e).size from⟨rfl,(by decide:0+5<=15)⟩) (show(cq c d e).extract 5 (5+5)=au d/\5+5<=(cq c d e).size from⟨rfl,(by decide:5+5<=15)⟩) (show(cq c d e).extract 10 (10+5)=au e/\10+5<=(cq c d e).size from⟨rfl,(by decide:10+5<=15)⟩) (show(cq c d e).extract 0 (0+15)=cq c d e/\0+15<=(cq c d e).size from⟨rfl,aw 15⟩) (show(fR o (af S 0 0)).extract 0 (0+6)=gJ o/\0+6<=(fR o (af S 0 0)).size from⟨rfl,(by decide:0+6<=8)⟩) (show(fR o (af S 0 0)).extract 0 (0+8)=fR o (af S 0 0)/\0+8<=(fR o (af S 0 0)).size from⟨rfl,aw 8⟩);let ⟨w,x,U,V,W,Y,a0,a1,a2,a3,a4,a5,a6⟩:=Dt p b.cells 26 (fR o (af S 0 0)) 97 (cq c d e) 158 (au aC) 63;clear f l g h i n;go_enter func103,ntmps103;go_upto_region 1 with fail
 try simp only[sZ,ak]
 refine mr W ?_
 try simp only[dA]
 rw[<-V];clear W V;apply wp_scope_straight;go_wp2_with (first|(refine lA 26 4 w (a3.o _ a1.o) q.o ?_)|(refine lS 93 28 (w+1) 0 (a4.o _ a1.o) z.o.1 z.o.2 ?_)|(refine lS 158 6 (w+1+1) 0 (a5.o _ a1.o) y.o.1 y.o.2 ?_));refine mR (r.o U (a2.o _ a1.o)) fun b c=>?_
 have d:=mX c a1;clear r;go_wp2_with (first|(refine lA 26 4 w (a3.o _ d.o) q.o ?_)|(refine lS 93 39 (w+1) 0 (a4.o _ d.o) z.o.1 z.o.2 ?_)|(refine lS 63 41 (w+1+1) 0 (a5.o _ d.o) u.o.1 u.o.2 ?_));refine(s.o b (a2.o _ d.o)).mono ?_;rintro b c ⟨e,rfl,f⟩;have b:=mX f d;clear s;go_upto_region 5 with refine ix rfl (aI 12) (aI 44) rfl _ rfl dS e rfl rfl ?_
 try simp only[ak]
 let ⟨d,f,g,h,i,l⟩:=mY c (au e) 63;have c:=mX i b;rw[<-h,<-g];clear h g i b;go_wp2_with (first|(refine lA 26 4 w (a3.o _ c.o) q.o ?_)|(refine lS 93 51 (w+1) 0 (a4.o _ c.o) z.o.1 z.o.2 ?_));refine mR (t.o f) fun b g=>?_
 let ⟨f,h⟩:=di g c l;clear t;let ⟨c,g,i,l,n⟩:=info_parts Lc;obtain⟨q,r,s,t,u⟩:=dZ i g l (show c.bytes*a<=281474976710656 by rw[n];have:=v.o;omega) (show a<=maxLen by have:=v.o;unfold maxLen;omega);clear g i l n;go_wp2_with (first|(refine wpList_make_full b rfl (aI 53) (aI 53) 201 rfl b.heap.size 4 c (ao av) 1 underlying201 r.o q.o s.o E E _ _ a rfl rfl rfl rfl t.o u.o (aw _) ?_;intro w5 hown hgr));have c:bD b w5:=bD.grown hgr;let ⟨b,g⟩:=di c f h;clear c hown hgr
 try go_wp2_with fail
 refine(vY a (dU v.o) w5).mono ?_;rintro c f ⟨h,rfl,_,_,i⟩;let ⟨c,h⟩:=di i b g;clear i b g;go_wp2_with fail;apply wp_label;go_wp2_with fail
 go_loopw [60] (fun b wr=>∃g:Nat,g<=a/\b=J E (g:Int)/\bD f wr) (fun i _=>a-(intOf i).toNat)
 case atStart=>exact⟨0,qo _,rfl,aM _ _⟩
 case round=>
  obtain⟨b,f,rfl,g⟩:=hrel;have f:=aH g;let ⟨i,l⟩:=di g c h;clear g
  by_cases c:b<a
  ·have c:decide ((b:Int)<(a:Int))=aB:=decide_eq_true O
   go_wp2_with refine lS 97 5 (w+1) 0 (a4.o _ i.o) H.o.1 H.o.2 ?_;refine mR (GG o _ _ _) fun c g=>?_
   have c:=mX g f;clear g f i l;obtain⟨f,g⟩:=aQ (show(aE.info? 121).map (·.size)=M (#[J E 0,af S 0 0]:Array aq).size from xD) (show(#[J E 0,af S 0 0]:Array aq).all (·.oneCell')=aB by simp[cJ]);have h:E.wrap ((b:Int)+1)=((b+1:Nat):Int):=by rw[show((b+1:Nat):Int)=(b:Int)+1 by omega];exact an _ (dU v.o)
   go_wp2_with refine dd rfl 121 (aI 17) (aI 68) rfl _ rfl (vs:=#[J E 0,af S 0 0]) f.o rfl g.o rfl rfl ?_;exact⟨⟨b+1,by omega,by go_num,c.o.trans (jd)⟩,by simp[intOf];omega⟩
  ·obtain rfl:b=a:=O
   go_wp2_with (first|(refine lA 63 12 d l.o (fA _) ?_)|(refine bI rfl (aI 8) (aI 132) rfl (w+1+1+1) e rfl rfl (a6.o _ i.o) (fA _) ?_));obtain⟨a,b⟩:=aQ ((a6.o _ i.o).row (au e)) (show bD p (wr.setRow (w+1+1+1) (au e)) from aO (a2.o _ i.o) (iJ Y.o));exact dY (oJ results103 _ _ (w+1+1+1) _ _ _ _ rfl rfl rfl a.o rfl db bM) rfl ⟨e,_,rfl,b.o⟩
def DO(a:Pc):List Bool:=jC 10 a.ord.toNat++jC 2 a.ty.toNat++jC 2 a.st.toNat
def DN(a:Pc):Nat->List Bool|0=>[]|1=>[a.top]|2=>[a.top,a.M3]|_=>[a.top,a.M3,a.alt]
def WU(a b):(DN a b).length<=3:=by rcases b with _|_|_|c<;> simp[DN]
structure ZF(d:T)(e a f:Nat)(c:Pc)(b:Nat)(wr:T)(g:Option Nat):Prop where
 ww:Wr wr e a g (DO c++DN c b)
 zE:Bx wr (e+1) 121 #[J E 0,af S 0 0]
 bf:Bx wr f 4 #[ao c.top,ao c.M3,ao c.alt]
 F:bj e d wr
 Pm:g≠M (e+1)
 rf:g≠M f
def PhR(a:T)(b c d:Nat)(e:Pc)(f:Nat)(wr:T):Prop:=∃g,ZF a b c d e f wr g
def GH(a:Pc)(b:YC a)(c:T):aT aE 87 #[a.v] c (Yz c 181 (kX (DO a++DN a 3++[aB]))):=by
 obtain⟨d,e⟩:=aQ (fun f=>Ho a b f) (fun g=>AQ g);obtain⟨f,g⟩:=aX (DO a++DN a 3++[aB]);rw[<-g];obtain⟨h,i,l⟩:=bh g (fun n=>WU a n) (show(DO a).length=14 by simp[DO,fX]);obtain⟨n,o,p,q,r,s⟩:=a;unfold Pc.v at*;dsimp only at*;have a:lE.wrap p=p:=by rw[ic];have:=b.o1;have:=b.o2;dsimp only at*;omega
 have t:lE.wrap n=n:=by rw[ic];have:=b.t1;have:=b.t2;dsimp only at*;omega
 have u:lE.wrap o=o:=by rw[ic];have:=b.s1;have:=b.s2;dsimp only at*;omega
 have v:=aH (show(p=(p.toNat:Int)/\p.toNat<2^10)/\(n=(n.toNat:Int)/\n.toNat<2^2)/\(o=(o.toNat:Int)/\o.toNat<2^2) by
  have:=b.o1;have:=b.o2;have:=b.t1;have:=b.t2;have:=b.s1;have:=b.s2;dsimp only at*;omega)
 obtain⟨w,x⟩:=aX ((c.alloc (az #[J E n,J E o,J E p,ao q,ao r,ao s] 93)).alloc (az #[J E 0,af S 0 0] 121));obtain⟨y,z,H⟩:=bh (show Bx w c.heap.size 93 #[J E n,J E o,J E p,ao q,ao r,ao s] by rw[x];exact(Bx.new _ _ _).alloc _) (show Bx w (c.heap.size+1) 121 #[J E 0,af S 0 0] by rw[x];exact Bx.D _ _ _ _ dS) (show bj c.heap.size c w by rw[x];exact((aM _ _).alloc (aw _) _).alloc dS _);clear b g;go_enter func87,ntmps87;go_upto_region 1 with fail;rw[<-x];obtain⟨b,g⟩:=aX c.heap.size;rw[<-g] at y z H ⊢;have U:=aH g;clear x g;have g:=y.o.cell 0 rfl;have x:=y.o.cell 1 rfl;have V:=y.o.cell 2 rfl;have W:=y.o.cell 3 rfl;have Y:=y.o.cell 4 rfl;have a0:=y.o.cell 5 rfl;go_wp2_with fail;refine(d.o _).mono ?_;rintro a1 a2 ⟨rfl,a3⟩;obtain⟨a4,a5⟩:=di a3 y z;have a6:b<=w.heap.size:=by have:=z.o.lt;omega
 have a7:=aH (H.o.trans (a3.mono a6));clear g x V W Y a0 a3 a6;go_wp2_with fail;refine(e.o _).mono ?_;rintro g x ⟨rfl,V⟩;subst V;obtain⟨V,W⟩:=aX a2.heap.size;have Y:b<=a2.heap.size:=by have:=a5.o.lt;omega
 have a0:=Wr.new a2 b Y;rw[<-W] at a0 ⊢;have a3:bj a2.heap.size a2 (a2.alloc (az #[af S 0 0,J E 0] 301)):=(aM _ _).alloc (aw _) _;obtain⟨a6,a8⟩:=di a3 a4 a5;obtain⟨a9,aa,ab,ac⟩:=dq (a7.o.trans (a3.mono Y)) (show b+1<V by rw[W];exact a5.o.lt) a0 (show(S:Option Nat)≠M b/\(S:Option Nat)≠M (b+1) by simp);clear a0 a3 W Y;generalize a2.alloc (az #[af S 0 0,J E 0] 301)=W at*
 have a:=a6.o.cell 2 rfl;have d:=a6.o.lt;go_wp2_with fail;refine(fS b V S ([]) p.toNat 10 p 10 v.o.1.1 rfl W ab.o O v.o.1.2 (by simp[fX]) (dU a8.o.lt)).mono ?_;rintro e f ⟨g,rfl,t,u,w⟩;obtain⟨e,x,y,z,H⟩:=dZ t (a6.o.G u (dU aa.o) ac.o.1) (a8.o.G u (dU aa.o) ac.o.2) (a9.o.trans (u.below ab.o (dU a8.o.lt))) (show g≠M b/\g≠M (b+1) from⟨w _ a6.o.lt ac.o.1,w _ a8.o.lt ac.o.2⟩);clear a d t u w;have a:=x.o.cell 0 rfl;have d:=x.o.lt;go_wp2_with fail;refine(fS b V g ([]++jC 10 p.toNat) n.toNat 2 n 2 v.o.2.1.1 rfl f e.o O v.o.2.1.2 (by simp[fX]) (dU y.o.lt)).mono ?_;rintro f g ⟨t,rfl,u,w,W⟩;obtain⟨f,Y,a0,a1,a2⟩:=dZ u (x.o.G w (dU aa.o) H.o.1) (y.o.G w (dU aa.o) H.o.2) (z.o.trans (w.below e.o (dU y.o.lt))) (show t≠M b/\t≠M (b+1) from⟨W _ x.o.lt H.o.1,W _ y.o.lt H.o.2⟩);clear a d u w W;have a:=Y.o.cell 1 rfl;have d:=Y.o.lt;go_wp2_with fail;refine(fS b V t ([]++jC 10 p.toNat++jC 2 n.toNat) o.toNat 2 o 2 v.o.2.2.1 rfl g f.o O v.o.2.2.2 (by simp[fX]) (dU a0.o.lt)).mono ?_;rintro e g ⟨t,rfl,u,v,w⟩;obtain⟨e,x,y,z,H⟩:=dZ u (Y.o.G v (dU aa.o) a2.o.1) (a0.o.G v (dU aa.o) a2.o.2) (a1.o.trans (v.below f.o (dU a0.o.lt))) (show t≠M b/\t≠M (b+1) from⟨w _ Y.o.lt a2.o.1,w _ a0.o.lt a2.o.2⟩);clear a d u v w;have a:=x.o.cell 3 rfl;have d:=x.o.cell 4 rfl;have f:=x.o.cell 5 rfl;go_upto_region 8 with fail;obtain⟨u,v⟩:=aX g.heap.size;obtain⟨w,x⟩:=aX (g.alloc (az #[ao q,ao r,ao s] 4));have W:bj g.heap.size g w:=by rw[x];exact(aM _ _).alloc (aw _) _
 have g:=aH (show ZF c b V u ⟨n,o,p,q,r,s⟩ 0 w t from by
  refine⟨by simpa[DO,DN] using e.o.ext W,y.o.ext W,by rw[x];exact Bx.D _ _ _ _ v,z.o.trans (W.mono (dU y.o.lt)),H.o.2,(Rn.new e.o (k:=u) O).2⟩)
 have w:=aH (show u≠V/\u≠b+1 by have:=e.o.lt;have:=y.o.lt;omega);rw[<-x,<-v];clear a d f x v W
 go_loopw [36] (fun a wr=>mD 3 (fun d wr=>PhR c b V u ⟨n,o,p,q,r,s⟩ d wr) a wr) (fun e _=>3-(intOf e).toNat)
 case atStart=>exact⟨0,by omega,rfl,t,g.o⟩
 case round=>
  obtain⟨a,d,rfl,e,f⟩:=hrel;have d:=aH f;clear f;rcases(show a=0\/a=1\/a=2\/a=3 by omega) with rfl|rfl|rfl|rfl
  ·have a:=d.o.bf.cell 0 rfl
   have f:=d.o.bf.lt;cases q with
   |true=>
    go_wp2_with fail;refine(fS b V e (DO ⟨n,o,p,aB,r,s⟩++DN ⟨n,o,p,aB,r,s⟩ 0) 1 1 1 1 rfl rfl wr d.o.ww O O (by have:=i.o 0;have:=l.o;rw[aJ];omega) (dU d.o.zE.lt)).mono ?_;rintro g t ⟨v,rfl,x,y,z⟩;have g:=aH (show ZF c b V u ⟨n,o,p,aB,r,s⟩ 1 t v from⟨by rw[aW] at x;exact x,d.o.zE.G y (dU aa.o) d.o.Pm,d.o.bf.G y w.o.1 d.o.rf,d.o.F.trans (y.below d.o.ww (dU d.o.zE.lt)),z _ d.o.zE.lt d.o.Pm,z _ d.o.bf.lt d.o.rf⟩);clear x y z a f;go_wp2;exact⟨⟨1,by omega,rfl,v,g.o⟩,by decide⟩
   |false=>
    go_wp2_with fail;refine(fS b V e (DO ⟨n,o,p,av,r,s⟩++DN ⟨n,o,p,av,r,s⟩ 0) 0 1 0 1 rfl rfl wr d.o.ww O O (by have:=i.o 0;have:=l.o;rw[aJ];omega) (dU d.o.zE.lt)).mono ?_;rintro g t ⟨v,rfl,x,y,z⟩;have g:=aH (show ZF c b V u ⟨n,o,p,av,r,s⟩ 1 t v from⟨by rw[aW] at x;exact x,d.o.zE.G y (dU aa.o) d.o.Pm,d.o.bf.G y w.o.1 d.o.rf,d.o.F.trans (y.below d.o.ww (dU d.o.zE.lt)),z _ d.o.zE.lt d.o.Pm,z _ d.o.bf.lt d.o.rf⟩);clear x y z a f;go_wp2;exact⟨⟨1,by omega,rfl,v,g.o⟩,by decide⟩
  ·have a:=d.o.bf.cell 1 rfl
   have f:=d.o.bf.lt;cases r with
   |true=>
    go_wp2_with fail;refine(fS b V e (DO ⟨n,o,p,q,aB,s⟩++DN ⟨n,o,p,q,aB,s⟩ 1) 1 1 1 1 rfl rfl wr d.o.ww O O (by have:=i.o 1;have:=l.o;rw[aJ];omega) (dU d.o.zE.lt)).mono ?_;rintro g t ⟨v,rfl,x,y,z⟩;have g:=aH (show ZF c b V u ⟨n,o,p,q,aB,s⟩ 2 t v from⟨by rw[aW] at x;exact x,d.o.zE.G y (dU aa.o) d.o.Pm,d.o.bf.G y w.o.1 d.o.rf,d.o.F.trans (y.below d.o.ww (dU d.o.zE.lt)),z _ d.o.zE.lt d.o.Pm,z _ d.o.bf.lt d.o.rf⟩);clear x y z a f;go_wp2;exact⟨⟨2,by omega,rfl,v,g.o⟩,by decide⟩
   |false=>
    go_wp2_with fail;refine(fS b V e (DO ⟨n,o,p,q,av,s⟩++DN ⟨n,o,p,q,av,s⟩ 1) 0 1 0 1 rfl rfl wr d.o.ww O O (by have:=i.o 1;have:=l.o;rw[aJ];omega) (dU d.o.zE.lt)).mono ?_;rintro g t ⟨v,rfl,x,y,z⟩;have g:=aH (show ZF c b V u ⟨n,o,p,q,av,s⟩ 2 t v from⟨by rw[aW] at x;exact x,d.o.zE.G y (dU aa.o) d.o.Pm,d.o.bf.G y w.o.1 d.o.rf,d.o.F.trans (y.below d.o.ww (dU d.o.zE.lt)),z _ d.o.zE.lt d.o.Pm,z _ d.o.bf.lt d.o.rf⟩);clear x y z a f;go_wp2;exact⟨⟨2,by omega,rfl,v,g.o⟩,by decide⟩
  ·have a:=d.o.bf.cell 2 rfl
   have f:=d.o.bf.lt;cases s with
   |true=>
    go_wp2_with fail;refine(fS b V e (DO ⟨n,o,p,q,r,aB⟩++DN ⟨n,o,p,q,r,aB⟩ 2) 1 1 1 1 rfl rfl wr d.o.ww O O (by have:=i.o 2;have:=l.o;rw[aJ];omega) (dU d.o.zE.lt)).mono ?_;rintro g s ⟨t,rfl,v,x,y⟩;have g:=aH (show ZF c b V u ⟨n,o,p,q,r,aB⟩ 3 s t from⟨by rw[aW] at v;exact v,d.o.zE.G x (dU aa.o) d.o.Pm,d.o.bf.G x w.o.1 d.o.rf,d.o.F.trans (x.below d.o.ww (dU d.o.zE.lt)),y _ d.o.zE.lt d.o.Pm,y _ d.o.bf.lt d.o.rf⟩);clear v x y a f;go_wp2;exact⟨⟨3,by omega,rfl,t,g.o⟩,by decide⟩
   |false=>
    go_wp2_with fail;refine(fS b V e (DO ⟨n,o,p,q,r,av⟩++DN ⟨n,o,p,q,r,av⟩ 2) 0 1 0 1 rfl rfl wr d.o.ww O O (by have:=i.o 2;have:=l.o;rw[aJ];omega) (dU d.o.zE.lt)).mono ?_;rintro g s ⟨t,rfl,v,x,y⟩;have g:=aH (show ZF c b V u ⟨n,o,p,q,r,av⟩ 3 s t from⟨by rw[aW] at v;exact v,d.o.zE.G x (dU aa.o) d.o.Pm,d.o.bf.G x w.o.1 d.o.rf,d.o.F.trans (x.below d.o.ww (dU d.o.zE.lt)),y _ d.o.zE.lt d.o.Pm,y _ d.o.bf.lt d.o.rf⟩);clear v x y a f;go_wp2;exact⟨⟨3,by omega,rfl,t,g.o⟩,by decide⟩
  ·have a:=i.o 3
   have c:=l.o;go_wp2_with fail;refine(sB b V e _ wr d.o.ww (iJ aJ)).mono ?_;rintro e f ⟨g,i,l,rfl,n,o,p⟩;rw[<-h.o] at n;have e:b<=wr.heap.size:=by have:=d.o.zE.lt;omega
   have f:=aH n;obtain⟨h,q,r⟩:=bh (d.o.zE.ext o) (d.o.F.trans (o.mono e)) (show b+1<wr.heap.size from d.o.zE.lt);clear n o e a c;go_wp2_with ((with_reducible refine mH rfl (aI 2) (aI 47) rfl (b+1) rfl rfl h.o ?_));refine dY (dT results87 _ _ (b+1) _ _ _ rfl rfl (h.o.row _) rfl Acw nK) rfl ?_;have a:=U.o;have b:=r.o;have b:=q.o;refine⟨g,i,l,rfl,(f.o.row (fun c d=>by omega) _).NN (fun e h=>by omega),?_,p⟩;rw[<-a];exact b.trans (aO (aM _ _) O)
def LW(a:T)(b c:Nat)(d:Option Nat)(e:List Bool)(f:Ending)(g:T):Prop:=∃h,f=aK (fE #[])/\Wr g b c h e/\fO a g c d/\Rn a d h
def ur(e f g h b i)(c:Wr i e f g h)(a:h.length<=80000000)(d:e<=i.heap.size):
  aT aE 128 #[aD (M ⟨f,0,S⟩),ao b] i (LW i e f g (h++[b])):=by
 cases b with
 |false=>
  have a:=aH (fS e f g h 0 1 0 1 rfl rfl i c O O O d);go_enter func128,ntmps128;go_wp2_with fail;refine a.o.mono ?_;rintro a b ⟨l,rfl,n,o,p⟩;have a:=aH (show LW i e f g (h++[av]) (aK (fE #[])) b from⟨l,rfl,n,o,p⟩);go_wp2;go_end0;exact a.o
 |true=>
  have a:=aH (fS e f g h 1 1 1 1 rfl rfl i c O O O d);go_enter func128,ntmps128;go_wp2_with fail;refine a.o.mono ?_;rintro a b ⟨c,rfl,d,l,n⟩;have a:=aH (show LW i e f g (h++[aB]) (aK (fE #[])) b from⟨c,rfl,d,l,n⟩);go_wp2;go_end0;exact a.o
def OK(a b:Bool)(c:Nat):List Bool:=[a]++[b]++jC 24 c
def KA(c d:Bool)(e:Nat)(a:e<16777216)(b:T):aT aE 86 #[aG #[ao c,ao d,J E e]] b (Yz b 184 (kX (OK c d e++[aB]))):=by
 have f:=aH (fun g=>AQ g);have g:decide ((e:Int)<0)=av:=by simp
 have h:decide (16777216<=(e:Int))=av:=by simp;omega
 have i:lE.wrap (e:Int)=e:=by rw[ic];omega
 have l:=aH a;let ⟨n,o⟩:=aX ((b.alloc (az #[ao c,ao d,J E e] 91)).alloc (az #[J E 0,af S 0 0] 121));obtain⟨p,q,r⟩:=bh (show Bx n b.heap.size 91 #[ao c,ao d,J E e] by rw[o];exact(Bx.new _ _ _).alloc _) (show Bx n (b.heap.size+1) 121 #[J E 0,af S 0 0] by rw[o];exact Bx.D _ _ _ _ dS) (show bj b.heap.size b n by rw[o];exact(jd).alloc dS _);let ⟨s,t⟩:=aX (OK c d e++[aB]);rw[<-t];have u:=aH t;clear t;go_enter func86,ntmps86;go_upto_region 1 with fail;rw[<-o];let ⟨t,v⟩:=aX b.heap.size;rw[<-v] at p q r ⊢;have w:=aH v;clear o v;have o:=p.o.cell 2 rfl;go_wp2_with fail;refine mR (f.o _) fun v x=>?_
 subst x;let ⟨x,y⟩:=aX n.heap.size;have z:t<=n.heap.size:=by have:=q.o.lt;omega
 have H:=Wr.new n t z;rw[<-y] at H ⊢;have U:bj n.heap.size n (n.alloc (az #[af S 0 0,J E 0] 301)):=jd;let ⟨V,W⟩:=di U p q;obtain⟨Y,a0,a1,a2⟩:=dq (r.o.trans (U.mono z)) (show t+1<x by rw[y];exact q.o.lt) H (show(S:Option Nat)≠M t/\(S:Option Nat)≠M (t+1) by simp);clear y;generalize n.alloc (az #[af S 0 0,J E 0] 301)=y at*
 have a:=V.o.cell 0 rfl;go_wp2_with fail;refine(ur t x S ([]) c y a1.o dS (dU W.o.lt)).mono ?_;rintro a b ⟨f,rfl,g,h,i⟩;obtain⟨a,n,o,p,q⟩:=dZ g (V.o.G h (dU a0.o) a2.o.1) (W.o.G h (dU a0.o) a2.o.2) (Y.o.trans (h.below a1.o (dU W.o.lt))) (show f≠M t/\f≠M (t+1) from⟨i _ V.o.lt a2.o.1,i _ W.o.lt a2.o.2⟩);have g:=n.o.cell 1 rfl;go_wp2_with fail;refine(ur t x f ([]++[c]) d b a.o dS (dU o.o.lt)).mono ?_;rintro b f ⟨g,rfl,h,i,r⟩;obtain⟨b,v,y,z,H⟩:=dZ h (n.o.G i (dU a0.o) q.o.1) (o.o.G i (dU a0.o) q.o.2) (p.o.trans (i.below a.o (dU o.o.lt))) (show g≠M t/\g≠M (t+1) from⟨r _ n.o.lt q.o.1,r _ o.o.lt q.o.2⟩);have a:=v.o.cell 2 rfl;go_wp2_with fail;refine(fS t x g ([]++[c]++[d]) e 24 e 24 rfl rfl f b.o O (dU l.o) dS (dU y.o.lt)).mono ?_;rintro a f ⟨g,rfl,h,i,l⟩;obtain⟨a,n,o,p,q⟩:=dZ h (v.o.G i (dU a0.o) H.o.1) (y.o.G i (dU a0.o) H.o.2) (z.o.trans (i.below b.o (dU y.o.lt))) (show g≠M t/\g≠M (t+1) from⟨l _ v.o.lt H.o.1,l _ y.o.lt H.o.2⟩);go_wp2_with fail;refine(sB t x g _ f a.o (by simp[fX])).mono ?_;rintro a b ⟨g,h,i,rfl,l,n,q⟩;rw[show[]++[c]++[d]++jC 24 e++[aB]=s by rw[u.o];rfl] at l;have a:t<=f.heap.size:=by have:=o.o.lt;omega
 have b:=aH l;have c:=mX n o;obtain⟨d,e⟩:=aQ (p.o.trans (n.mono a)) (show t+1<f.heap.size from o.o.lt);go_wp2_with ((refine mH rfl (aI 2) (aI 30) rfl (t+1) rfl rfl c.o ?_));refine rT results86 (c.o.row _) Acw nK ?_;have a:=w.o;have c:=e.o;have c:=d.o;refine⟨g,h,i,rfl,(b.o.row (fun d e=>by omega) _).NN (fun f l=>by omega),?_,q⟩;rw[<-a];exact c.trans (aO (aM _ _) O)
def Pb(a:T)(b:List Int)(c:Ending)(d:T):Prop:=c=aK (aG (aS .u8 b))/\bj a.heap.size a d
def zZ{b c d e f g}(i:d.guard=S)(l n)(o:d.op=.store 24 l n)
  (p h)(q:e.eval l=aD (M ⟨p,0,S⟩))(r:e.eval n=aG (aS .u8 h)){s a}(t:Bn .u8 f s p a)(u:a.length=64)(v:h.length=64)
  (w:cG aE b g c (e.put d.dst sJ) (f.setRow p (aS .u8 h))):cG aE b g (d::c) e f:=
 wpList_store_row i 24 l n o p _ q r s _ t (by rw[bE,v];exact iz) (by rw[bE,bE,u,v]) (pT _ _) w
def yY(b:T)(a:fD b):aT aE 130 #[] b (Pb b Nu):=by
 let ⟨c,d⟩:=aX (b.alloc (az (aS .u8 zeros64) 24));obtain⟨e,f⟩:=aQ (show Bn .u8 c 24 b.heap.size zeros64 by rw[d];exact Bn.D _ _ _ _ _ rfl) (show bj b.heap.size b c by rw[d];exact jd);let ⟨g,h,i⟩:=(show Gn .u8 c 0 Nu by rw[d];exact a.i.alloc _);have a:=aH i;have c:=aH (show(aE.info? 24).map (·.size)=M (aS .u8 Nu).size by rw[bE];exact iz);go_enter func130,ntmps130;go_upto_region 1 with fail;refine mr d ?_;clear d;go_wp2_with (first|((refine wpList_load_row rfl 24 (.global 0) rfl 0 rfl _ _ h _ a.o fV rfl c.o ?_))|((refine zZ rfl (aI 0) (aI 1) rfl b.heap.size Nu rfl rfl e.o rfl rfl ?_)));have a:=e.o.row Nu;exact rR results130 a fV (eZ bE iz) ⟨rfl,aO f.o (aw _)⟩
def RC:List Int:=aF 64 16
def Ui:en (fun _=>16) 64=RC:=by decide
def DnB(a wr:T)(b c:Nat)(d:List Int):Prop:=Bn .u8 wr 24 b zeros64/\Bn .u8 wr 24 c d/\bj a.heap.size a wr
def yZ(a:T):aT aE 131 #[] a (Pb a RC):=by
 let ⟨b,c⟩:=aX ((a.alloc (az (aS .u8 zeros64) 24)).alloc (az (aS .u8 zeros64) 24));let ⟨d,e⟩:=aX a.heap.size;let ⟨f,g⟩:=aX (a.heap.size+1)
 have h:=aH (show DnB a b d f (en (fun _=>16) 0) from by
  have b:(en (fun _=>16) 0)=zeros64:=rfl;rw[b,c];exact⟨(Bn.D _ _ _ _ _ e).alloc _,Bn.D _ _ _ _ _ (jP g),(jd).alloc dS _⟩)
 have b:=aH (show d<f/\a.heap.size<=d by omega);go_enter func131,ntmps131;go_upto_region 2 with fail;refine mr c ?_;rw[<-g,<-e];clear c e g;go_upto_region 3 with fail
 go_loopw [3] (fun c wr=>mD 64 (fun e wr=>DnB a wr d f (en (fun _=>16) e)) c wr) (fun g _=>64-(intOf g).toNat)
 case atStart=>exact⟨0,by omega,rfl,h.o⟩
 case round=>
  obtain⟨a,c,rfl,e⟩:=hrel;have c:=aH e
  by_cases e:a<64
  ·have g:=c.o.2.1.frozen a
   let ⟨g,_,h⟩:=c.o.2.1.gZ (i:=a) (by first|(rw[jz O];omega)|(simp[Me];omega));have g:=c.o.2.1.lt;go_wp2;have g:=c.o.2.1.L a 16;rw[show(16:Int)=(fun _=>(16:Int)) a from rfl,ki e] at g;exact⟨⟨a+1,by omega,by go_num,c.o.1.C (by have:=b.o;simp;omega) _,g,FD c.o.2.2 _ (by have:=b.o;simp;omega) _⟩,by simp[intOf];omega⟩
  ·obtain rfl:a=64:=O
   have a:=c.o.2.1;have e:=aH c.o.1;have g:=aH c.o.2.2;rw[Ui] at a;obtain⟨c,h⟩:=aQ a (show(aE.info? 24).map (·.size)=M RC.length from iz);go_wp2_with (first|((refine jk rfl 24 (aI 1) rfl f rfl c.o _ rfl fV h.o ?_))|((refine zZ rfl (aI 0) (aI 9) rfl d RC rfl rfl e.o rfl rfl ?_)));have a:=e.o.row RC;exact rR results131 a fV (eZ bE iz) ⟨rfl,aO g.o b.o.2⟩
def Y5(c d)(a:c.length=64)(b:d.length=64)(e):(binOp .eql 24 (aG (aS .u8 c)) (aG (aS .u8 d))).run aE e=.ok (ao (decide (c=d))) e:=by
 have f:=pF (P:=aE) .u8 .u8 9998 64 24 5 e fV pM dK c d a b;rw[run_eql_struct];change ((Op.equalIn (9998+2) 24 (aG (aS .u8 c)) (aG (aS .u8 d))).run aE e).andThen _=_;rw[f];rfl
def WZ(c d)(a:c.length=64)(b:d.length=64)(e):(binOp .neq 24 (aG (aS .u8 c)) (aG (aS .u8 d))).run aE e=.ok (ao (!decide (c=d))) e:=by
 have f:=pF (P:=aE) .u8 .u8 9998 64 24 5 e fV pM dK c d a b;rw[run_neq_struct];change ((Op.equalIn (9998+2) 24 (aG (aS .u8 c)) (aG (aS .u8 d))).run aE e).andThen _=_;rw[f];rfl
def Zn(a:List Int):Nat->List Bool|0=>[]|b+1=>Zn a b++jC 8 (cM a (cM Gu b).toNat).toNat
def J3(a):∀b,(Zn a b).length=8*b
 |0=>rfl
 |b+1=>by simp only[Zn,aJ,J3 a b,fX];omega
def GK(a b:List Int):List Bool:=[!decide (a=b)]++(if a=b then[] else Zn a 64)
structure PmW(f:T)(a e h:Nat)(g:Option Nat)(b:List Bool)(d:List Int)(c:Nat)(wr:T)(i:Option Nat):Prop where
 ww:Wr wr a e i (b++Zn d c)
 b4:Bn .u8 wr 24 h d
 up:fO f wr e g
 rn:Rn f g i
 r4:i≠M h
def Ah(i l:Nat)(n:Option Nat)(o:List Bool)(p a:List Int)(b:Mh p)(c:a.length=64)(q:T)(d:Wr q i l n o)(e:fD q)(f:o.length<=80000)(g:i<=q.heap.size)(h:2<=i):
  aT aE 129 #[aD (M ⟨l,0,S⟩),aG (aS .u8 p),aG (aS .u8 a)] q (LW q i l n (o++GK p a)):=by
 let ⟨r,s⟩:=aX ((q.alloc (az (aS .u8 p) 24)).alloc (az (aS .u8 a) 24));let ⟨t,u⟩:=aX q.heap.size;let ⟨v,w⟩:=aX (q.heap.size+1);have x:Bn .u8 r 24 t p:=by rw[s];exact(Bn.D _ _ _ _ _ u).alloc _
 have y:Bn .u8 r 24 v a:=by rw[s];exact Bn.D _ _ _ _ _ (jP w)
 have z:fO q r l n:=by rw[s];exact((fO.refl _ _ _).alloc _).alloc _
 have H:Wr r i l n o:=by rw[s];exact(d.alloc _).alloc _
 have U:=Rn.new d (k:=t) O;have V:=Rn.new d (k:=v) O;have W:i<=r.heap.size:=by have:=z.size;omega
 obtain⟨Y,a0⟩:=aQ (show(aE.info? 24).map (·.size)=M p.length by rw[b.1];exact iz) (show(aE.info? 24).map (·.size)=M a.length by rw[c];exact iz);have a1:=fun a2=>Y5 p a b.1 c a2
 have a2:=fun a3=>WZ p a b.1 c a3
 obtain⟨a3,a4,a5,a6,a7,a8⟩:=ej (fun a9=>ur i l n o a9 r H O W) x y z (show(t≠l/\n≠M t)/\(v≠l/\n≠M v) from⟨U,V⟩) b;obtain⟨r,a9,aa,ab⟩:=dq e d W (show o.length<=80000/\2<=i/\i<=q.heap.size/\t=q.heap.size from⟨f,h,g,u⟩);unfold GK
 by_cases aa:p=a
 ·have ac:decide (p=a)=aB:=by simpa using aa
  rw[ac] at a1 a2 ⊢;rw[if_pos aa];clear b c d e f g h x y z H U V W aa ac;go_enter func129,ntmps129;go_upto_region 1 with fail;rw[<-s,<-w,<-u];clear s u w;go_wp2_with (first|((refine jk rfl 24 (aI 4) rfl t rfl a4.o _ rfl fV Y.o ?_))|((refine jk rfl 24 (aI 5) rfl v rfl a5.o _ rfl fV a0.o ?_)));refine(a3.o _).mono ?_;rintro ac ad ⟨ae,rfl,ag,ah,ai⟩;obtain⟨ac,aj,al⟩:=bh (a4.o.G ah a7.o.1.1 a7.o.1.2) (a5.o.G ah a7.o.2.1 a7.o.2.2) (show LW q i l n (o++([!aB]++[])) (aK (fE #[])) ad from⟨ae,rfl,ag,a6.o.trans ah (Rn.refl _ _),fun am ap ar=>ai am (dX ap a6.o.size) ar⟩);go_wp2_with (first|((refine jk rfl 24 (aI 4) rfl t rfl ac.o _ rfl fV Y.o ?_))|((refine jk rfl 24 (aI 5) rfl v rfl aj.o _ rfl fV a0.o ?_)));go_end0;exact al.o
 ·have ac:decide (p=a)=av:=by simpa using aa
  rw[ac] at a1 a2 ⊢;rw[if_neg aa];clear b c d e f g h x y z H U V W aa ac;go_enter func129,ntmps129;go_upto_region 1 with fail;rw[<-s,<-w,<-u];clear s u w;go_wp2_with (first|((refine jk rfl 24 (aI 4) rfl t rfl a4.o _ rfl fV Y.o ?_))|((refine jk rfl 24 (aI 5) rfl v rfl a5.o _ rfl fV a0.o ?_)));refine(a3.o _).mono ?_;rintro a b ⟨c,rfl,d,e,f⟩;obtain⟨a,g,h,s,u,w⟩:=ej (a4.o.G e a7.o.1.1 a7.o.1.2) (a5.o.G e a7.o.2.1 a7.o.2.2) d (a6.o.trans e (Rn.refl _ _)) (show Rn q n c from fun x y z=>f x (dX y a6.o.size) z) (f t a4.o.lt a7.o.1.2);have d:fD b:=r.o.below (s.o.below a9.o ab.o.2.2.1) ab.o.2.1;have e:=aH (yX av b d);go_wp2_with (first|((refine jk rfl 24 (aI 4) rfl t rfl a.o _ rfl fV Y.o ?_))|((refine jk rfl 24 (aI 5) rfl v rfl g.o _ rfl fV a0.o ?_)));refine mR e.o fun b d=>?_
  have e:=aH (show PmW q i l t n (o++[aB]) p 0 b c from⟨by simpa[Zn] using h.o.ext d,a.o.ext d,s.o.trans (fO.bS l c d) u.o,u.o,w.o⟩);go_wp2
  go_loopw [17] (fun a wr=>mD 64 (fun b wr=>∃d,PmW q i l t n (o++[aB]) p b wr d) a wr) (fun f _=>64-(intOf f).toNat)
  case atStart=>exact⟨0,by omega,rfl,c,e.o⟩
  case round=>
   obtain⟨a,b,rfl,c,d⟩:=hrel;have b:=aH d
   by_cases d:a<64
   ·let ⟨e,f,g⟩:=tA av a d
    have e:=fun f=>pG (qU av) (eh (l:=jZ av) (k:=a) (eZ qU d)) f
    let ⟨d,f⟩:=aX ((cM (jZ av) a).toNat);have g:cM (jZ av) a=(d:Nat):=O;rw[g] at e;have e:d<64:=O;let ⟨g,h,r⟩:=a8.o.at_ e;have e:=b.o.b4.cell d;rw[g] at e;simp only[bX] at e;let ⟨g,s⟩:=aX (cM p d);rw[<-s] at e h r;have d:lE.wrap g=g:=by rw[ic];omega
    have d:=b.o.b4.lt;obtain⟨d,e⟩:=aQ (show g=(g.toNat:Int)/\g.toNat<2^8 by omega) (show Zn p (a+1)=Zn p a++jC 8 g.toNat by rw[s,f];rfl);clear f s;go_wp2_with fail;refine(fS i l c _ g.toNat 8 g 8 d.o.1 rfl wr b.o.ww O d.o.2 (by have:=ab.o.1;simp only[aJ,J3,cW];omega) (gC b.o.up.size ab.o.2.2.1)).mono ?_;rintro d f ⟨g,rfl,h,r,s⟩;have d:=aH (show PmW q i l t n (o++[aB]) p (a+1) f g from⟨by rw[e.o,<-aW];exact h,b.o.b4.G r a7.o.1.1 b.o.r4,b.o.up.trans r b.o.rn,fun u v w=>s u (dX v b.o.up.size) (b.o.rn u v w),s _ b.o.b4.lt b.o.r4⟩);go_wp2;exact⟨⟨a+1,by omega,by go_num,g,d.o⟩,by simp[intOf];omega⟩
   ·obtain rfl:a=64:=O
    go_wp2;go_end0;exact⟨c,rfl,by simpa using b.o.ww,b.o.up,b.o.rn⟩
def Od(a:Sq):List Bool:=jC 8 (a.w/16).toNat++jC 8 (a.h/16).toNat++jC 32 a.num.toNat++jC 32 a.den.toNat++[a.B]++jC 32 a.br.toNat++jC 32 a.bu.toNat++GK a.X Nu++GK a.R RC
def wN(b a):(GK b a).length<=513:=by
 have:=J3 b 64;unfold GK;split<;> simp only[aJ,cW,eK]<;> omega
def rH.G{a b c d e f}(g:rH a c f)(h:fO a b d e)(i:c≠d)(l:e≠M c):rH b c f:=⟨g.j.G h i l,g.ok⟩
def Q9(d:Sq)(a:jV d)(b:T)(c:fD b):aT aE 85 #[aG d.cells] b (Yz b 179 (kX (Od d++[aB]))):=by
 obtain⟨e,f,g⟩:=bh (fun h=>na d a h) (fun i=>AQ i) c;let ⟨h,i⟩:=aX (Od d++[aB]);rw[<-i];have l:=aH i;have n:d.w.tdiv 16=d.w/16:=bB (dU a.w1);have o:d.h.tdiv 16=d.h/16:=bB (dU a.h1);have p:E.wrap (d.w/16)=d.w/16:=an _ (gC a.w1 a.w2);have q:E.wrap (d.h/16)=d.h/16:=an _ (gC a.h1 a.h2);have r:lE.wrap (d.w/16)=d.w/16:=by rw[ic];have:=a.w1;have:=a.w2;omega
 have s:lE.wrap (d.h/16)=d.h/16:=by rw[ic];have:=a.h1;have:=a.h2;omega
 have t:lE.wrap d.num=d.num:=by rw[ic];have:=a.n1;have:=a.n2;omega
 have u:lE.wrap d.den=d.den:=by rw[ic];have:=a.d1;have:=a.d2;omega
 have v:lE.wrap d.br=d.br:=by rw[ic];have:=a.r1;have:=a.r2;omega
 have w:lE.wrap d.bu=d.bu:=by rw[ic];have:=a.Q;have:=a.b2;omega
 obtain⟨x,y,z,H,U,V⟩:=ej (show d.w/16=((d.w/16).toNat:Int)/\(d.w/16).toNat<2^8 by have:=a.w1;have:=a.w2;omega) (show d.h/16=((d.h/16).toNat:Int)/\(d.h/16).toNat<2^8 by have:=a.h1;have:=a.h2;omega) (show d.num=(d.num.toNat:Int)/\d.num.toNat<2^32 by have:=a.n1;have:=a.n2;omega) (show d.den=(d.den.toNat:Int)/\d.den.toNat<2^32 by have:=a.d1;have:=a.d2;omega) (show d.br=(d.br.toNat:Int)/\d.br.toNat<2^32 by have:=a.r1;have:=a.r2;omega) (show d.bu=(d.bu.toNat:Int)/\d.bu.toNat<2^32 by have:=a.Q;have:=a.b2;omega);have W:=aH a.X;have Y:=aH a.R;have a0:=aH c.lt;let ⟨a1,a2⟩:=aX ((b.alloc (az d.cells 26)).alloc (az #[J E 0,af S 0 0] 121));obtain⟨a3,a4,a5⟩:=bh (show rH a1 b.heap.size d by rw[a2];exact(rH.new b _ d a rfl).ext (jd)) (show Bx a1 (b.heap.size+1) 121 #[J E 0,af S 0 0] by rw[a2];exact Bx.D _ _ _ _ dS) (show bj b.heap.size b a1 by rw[a2];exact(jd).alloc dS _);clear i;go_enter func85,ntmps85;go_upto_region 1 with fail;rw[<-a2];let ⟨i,a6⟩:=aX b.heap.size;rw[<-a6] at a3 a4 a5 a0 ⊢;have a7:=aH a6;clear a2 a6;go_wp2_with ((refine oe dW (aI 1) rfl rfl a3.o ?_));refine mR (e.o _) fun a2 a6=>?_
 let ⟨a8,a9⟩:=di a6 a3 a4;have aa:i<=a1.heap.size:=by have:=a4.o.lt;omega
 have ab:=aH (a5.o.trans (a6.mono aa));go_wp2_with fail;refine mR (f.o _) fun ac ad=>?_
 subst ad;let ⟨ad,ae⟩:=aX a2.heap.size;have ag:i<=a2.heap.size:=by have:=a9.o.lt;omega
 have ah:=Wr.new a2 i ag;rw[<-ae] at ah ⊢;have ai:bj a2.heap.size a2 (a2.alloc (az #[af S 0 0,J E 0] 301)):=jd;let ⟨aj,al⟩:=di ai a8 a9;obtain⟨am,ap,ar,ax⟩:=dq (ab.o.trans (ai.mono ag)) (show i+1<ad by rw[ae];exact a9.o.lt) ah (show(S:Option Nat)≠M i/\(S:Option Nat)≠M (i+1) by simp);clear ae;generalize a2.alloc (az #[af S 0 0,J E 0] 301)=ae at*
 let ⟨⟨a,b,c,e⟩,f,n,o⟩:=aj.o.all;go_wp2_with fail;refine(fS i ad S ([]) (d.w/16).toNat 8 (d.w/16) 8 x.o.1 rfl ae ar.o O x.o.2 (by simp[fX]) (dU al.o.lt)).mono ?_;rintro a b ⟨c,rfl,e,f,n⟩;obtain⟨a,o,p,q,r⟩:=dZ e (aj.o.G f (dU ap.o) ax.o.1) (al.o.G f (dU ap.o) ax.o.2) (am.o.trans (f.below ar.o (dU al.o.lt))) (show c≠M i/\c≠M (i+1) from⟨n _ aj.o.lt ax.o.1,n _ al.o.lt ax.o.2⟩);let ⟨⟨e,f,n,s⟩,t,u,v⟩:=o.o.all;go_wp2_with fail;refine(fS i ad c ([]++jC 8 (d.w/16).toNat) (d.h/16).toNat 8 (d.h/16) 8 y.o.1 rfl b a.o O y.o.2 (by simp[fX]) (dU p.o.lt)).mono ?_;rintro b c ⟨e,rfl,f,n,s⟩;obtain⟨b,t,u,v,w⟩:=dZ f (o.o.G n (dU ap.o) r.o.1) (p.o.G n (dU ap.o) r.o.2) (q.o.trans (n.below a.o (dU p.o.lt))) (show e≠M i/\e≠M (i+1) from⟨s _ o.o.lt r.o.1,s _ p.o.lt r.o.2⟩);let ⟨⟨a,f,n,o⟩,p,q,r⟩:=t.o.all;go_wp2_with fail;refine(fS i ad e ([]++jC 8 (d.w/16).toNat++jC 8 (d.h/16).toNat) (d.num).toNat 32 (d.num) 32 z.o.1 rfl c b.o O z.o.2 (by simp[fX]) (dU u.o.lt)).mono ?_;rintro a c ⟨e,rfl,f,n,o⟩;obtain⟨a,p,q,r,s⟩:=dZ f (t.o.G n (dU ap.o) w.o.1) (u.o.G n (dU ap.o) w.o.2) (v.o.trans (n.below b.o (dU u.o.lt))) (show e≠M i/\e≠M (i+1) from⟨o _ t.o.lt w.o.1,o _ u.o.lt w.o.2⟩);let ⟨⟨b,f,n,o⟩,t,u,v⟩:=p.o.all;go_wp2_with fail;refine(fS i ad e ([]++jC 8 (d.w/16).toNat++jC 8 (d.h/16).toNat++jC 32 (d.num).toNat) (d.den).toNat 32 (d.den) 32 H.o.1 rfl c a.o O H.o.2 (by simp[fX]) (dU q.o.lt)).mono ?_;rintro b c ⟨e,rfl,f,n,o⟩;obtain⟨b,t,u,v,w⟩:=dZ f (p.o.G n (dU ap.o) s.o.1) (q.o.G n (dU ap.o) s.o.2) (r.o.trans (n.below a.o (dU q.o.lt))) (show e≠M i/\e≠M (i+1) from⟨o _ p.o.lt s.o.1,o _ q.o.lt s.o.2⟩);let ⟨⟨a,f,n,o⟩,p,q,r⟩:=t.o.all;go_wp2_with fail;refine(ur i ad e ([]++jC 8 (d.w/16).toNat++jC 8 (d.h/16).toNat++jC 32 (d.num).toNat++jC 32 (d.den).toNat) d.B c b.o (by simp[fX]) (dU u.o.lt)).mono ?_;rintro a c ⟨e,rfl,f,n,o⟩;obtain⟨a,p,q,r,s⟩:=dZ f (t.o.G n (dU ap.o) w.o.1) (u.o.G n (dU ap.o) w.o.2) (v.o.trans (n.below b.o (dU u.o.lt))) (show e≠M i/\e≠M (i+1) from⟨o _ t.o.lt w.o.1,o _ u.o.lt w.o.2⟩);let ⟨⟨b,f,n,o⟩,t,u,v⟩:=p.o.all;go_wp2_with fail;refine(fS i ad e ([]++jC 8 (d.w/16).toNat++jC 8 (d.h/16).toNat++jC 32 (d.num).toNat++jC 32 (d.den).toNat++[d.B]) (d.br).toNat 32 (d.br) 32 U.o.1 rfl c a.o O U.o.2 (by simp[fX]) (dU q.o.lt)).mono ?_;rintro b c ⟨e,rfl,f,n,o⟩;obtain⟨b,t,u,v,w⟩:=dZ f (p.o.G n (dU ap.o) s.o.1) (q.o.G n (dU ap.o) s.o.2) (r.o.trans (n.below a.o (dU q.o.lt))) (show e≠M i/\e≠M (i+1) from⟨o _ p.o.lt s.o.1,o _ q.o.lt s.o.2⟩);let ⟨⟨a,f,n,o⟩,p,q,r⟩:=t.o.all;go_wp2_with fail;refine(fS i ad e ([]++jC 8 (d.w/16).toNat++jC 8 (d.h/16).toNat++jC 32 (d.num).toNat++jC 32 (d.den).toNat++[d.B]++jC 32 (d.br).toNat) (d.bu).toNat 32 (d.bu) 32 V.o.1 rfl c b.o O V.o.2 (by simp[fX]) (dU u.o.lt)).mono ?_;rintro a c ⟨e,rfl,f,n,o⟩;obtain⟨a,p,q,r,s⟩:=dZ f (t.o.G n (dU ap.o) w.o.1) (u.o.G n (dU ap.o) w.o.2) (v.o.trans (n.below b.o (dU u.o.lt))) (show e≠M i/\e≠M (i+1) from⟨o _ t.o.lt w.o.1,o _ u.o.lt w.o.2⟩);have b:=p.o.lt;have b:=aH (show 2<=c.heap.size by have:=r.o.size;have:=a7.o;have:=a0.o;omega);go_upto_region 11 with fail
 try simp only[sZ,ak]
 have f:rH c i d/\fD c:=⟨p.o,g.o.below r.o a0.o⟩;refine aL 5 (fun c=>rH c i d/\fD c) rfl (fun n o=>?_);refine gN 0 3 2 ?_;simp only[ln,eo,cZ,dP];iterate 2 (go_big_quiet_step (fail))
 refine pP rfl 24 (aI 49) rfl i 7 64 rfl (aS .u8 d.X) _ (fun c n=>by obtain⟨t,rfl⟩:=n;exact⟨_,_,(iQ (C:=fun u=>rH u i d/\fD u) f t).1.j,Sq.eA p.o.ok,by rw[jB p.o.ok];omega⟩) rfl fV iz ?_;refine aN (Ax 3 1 f ?_);simp only[sZ,ak];refine bO rfl 130 #[] (aG (aS .u8 Nu)) (fun c=>by kernel_rfl) (fun n t=>yY n t.2) ?_;refine oL 4 0 (fun c n=>⟨p.o.ext (o.trans n),f.2.below (o.trans n) b.o⟩) fun t u=>?_
 have b:=o.trans u;simp only[sZ,ak];let ⟨c,f,n⟩:=gO b a p q;have a:=aH (r.o.trans (b.mono (dU p.o.lt)));have b:=aH (show fD t from g.o.below a.o a0.o);have o:=aH s.o;have p:=aH (Ah i ad e _ d.X Nu W.o rfl t c.o b.o (by simp[fX]) (dU n.o.lt) (gC a7.o a0.o));go_wp2_with fail;refine p.o.mono ?_;rintro b e ⟨p,rfl,q,r,s⟩;obtain⟨b,e,t,u,v⟩:=dZ q (f.o.G r (dU ap.o) o.o.1) (n.o.G r (dU ap.o) o.o.2) (a.o.trans (r.below c.o (dU n.o.lt))) (show p≠M i/\p≠M (i+1) from⟨s _ f.o.lt o.o.1,s _ n.o.lt o.o.2⟩);go_wp2_with fail;refine QD (fun a c=>⟨e.o.ext c,g.o.below (u.o.trans (c.mono (dU e.o.lt))) a0.o⟩) fun f n=>?_
 let ⟨a,c,o⟩:=gO n b e t;have b:=aH (u.o.trans (n.mono (dU e.o.lt)));have e:=aH v.o;let ⟨n,q⟩:=aX p;rw[<-q] at a e;have p:=c.o.lt;have p:=aH (show 2<=f.heap.size by have:=b.o.size;have:=a7.o;have:=a0.o;omega);go_upto_region 12 with fail
 try simp only[sZ,ak]
 have q:rH f i d/\fD f:=⟨c.o,g.o.below b.o a0.o⟩;refine aL 5 (fun f=>rH f i d/\fD f) rfl (fun r s=>?_);refine gN 0 3 2 ?_;simp only[ln,eo,cZ,dP];iterate 2 (go_big_quiet_step (fail))
 refine pP rfl 24 (aI 54) rfl i 71 64 rfl (aS .u8 d.R) _ (fun f r=>by obtain⟨t,rfl⟩:=r;exact⟨_,_,(iQ (C:=fun u=>rH u i d/\fD u) q t).1.j,Sq.eR c.o.ok,by rw[jB c.o.ok];omega⟩) rfl fV iz ?_;refine aN (Ax 3 1 q ?_);simp only[sZ,ak];refine bO rfl 131 #[] (aG (aS .u8 RC)) (fun f=>by kernel_rfl) (fun r t=>yZ r) ?_;refine oL 4 0 (fun f r=>⟨c.o.ext (s.trans r),q.2.below (s.trans r) p.o⟩) fun t u=>?_
 have f:=s.trans u;simp only[sZ,ak];let ⟨p,q,r⟩:=gO f a c o;have a:=aH (b.o.trans (f.mono (dU c.o.lt)));have b:=aH (show fD t from g.o.below a.o a0.o);have c:=aH e.o;have e:=aH (Ah i ad n _ d.R RC Y.o rfl t p.o b.o (by have:=wN d.X Nu;simp only[aJ,fX,eK,cW];omega) (dU r.o.lt) (gC a7.o a0.o));go_wp2_with fail;refine e.o.mono ?_;rintro b e ⟨f,rfl,n,o,s⟩;obtain⟨b,e,t,u,v⟩:=dZ n (q.o.G o (dU ap.o) c.o.1) (r.o.G o (dU ap.o) c.o.2) (a.o.trans (o.below p.o (dU r.o.lt))) (show f≠M i/\f≠M (i+1) from⟨s _ q.o.lt c.o.1,s _ r.o.lt c.o.2⟩);go_wp2_with fail;refine QD (fun a c=>⟨e.o.ext c,g.o.below (u.o.trans (c.mono (dU e.o.lt))) a0.o⟩) fun n o=>?_
 let ⟨a,c,g⟩:=gO o b e t;have b:=aH (u.o.trans (o.mono (dU e.o.lt)));have c:=aH v.o;have c:=wN d.X Nu;have c:=wN d.R RC;have c:([]++jC 8 (d.w/16).toNat++jC 8 (d.h/16).toNat++jC 32 (d.num).toNat++jC 32 (d.den).toNat++[d.B]++jC 32 (d.br).toNat++jC 32 (d.bu).toNat++GK d.X Nu++GK d.R RC).length<=80000:=by simp only[aJ,fX,eK,cW];omega
 go_wp2_with fail;refine(sB i ad f _ n a.o O).mono ?_;rintro a c ⟨e,f,o,rfl,p,q,r⟩;rw[show[]++jC 8 (d.w/16).toNat++jC 8 (d.h/16).toNat++jC 32 (d.num).toNat++jC 32 (d.den).toNat++[d.B]++jC 32 (d.br).toNat++jC 32 (d.bu).toNat++GK d.X Nu++GK d.R RC++[aB]=h by rw[l.o];rfl] at p;have a:i<=n.heap.size:=by have:=g.o.lt;omega
 have c:=aH p;have d:=mX q g;obtain⟨h,l⟩:=aQ (b.o.trans (q.mono a)) (show i+1<n.heap.size from g.o.lt);go_wp2_with ((refine mH rfl (aI 2) (aI 60) rfl (i+1) rfl rfl d.o ?_));refine rT results85 (d.o.row _) Acw nK ?_;have a:=a7.o;have b:=l.o;have b:=h.o;refine⟨e,f,o,rfl,(c.o.row (fun d g=>by omega) _).NN (fun h i=>by omega),?_,r⟩;rw[<-a];exact b.trans (aO (aM _ _) O)
def Aar(a):1<=p7 a:=by
 have:(0:Int)<2^(7-a):=Int.pow_pos dD;unfold p7;omega
def AJ(a):Lt (kX (a++[aB])):=by
 intro b c;have b:(kX (a++[aB])).length=a.length/8+1:=by rw[lH,aJ];simp;omega
 rw[List.getLast?_eq_getElem?,b,xl] at c;rw[EO,ee] at b;rw[EO,List.getElem?_set_self O,bq] at c;have b:=(sk a (a.length/8)).1;have b:=Aar (a.length%8);have a:b2 aB=1:=rfl;rw[a,Int.one_mul] at c;omega
inductive eQ where
 |seq (s:Sq)
 |G7 (cl:Bool) (t:Nat)
 |qh (p:Pc) (sl:List (Int×List Int))
def eQ.kind:eQ->Int| .seq _=>1| .G7 _ _=>2| .qh _ _=>3
def Aj(a:List (Int×List Int)):List Int:=a.flatMap fun b=>Fj b.1 b.2
def eQ.bytes:eQ->List Int
 | .seq a=>Fj 179 (kX (Od a++[aB]))
 | .G7 a b=>Fj 184 (kX (OK a av b++[aB]))
 | .qh a b=>Fj 181 (kX (DO a++DN a 3++[aB]))++Aj b
structure UT(a:Int×List Int):Prop where
 t1:1<=a.1
 t2:a.1<=4
 len:a.2.length<=20000
 yH:∀b∈a.2,0<=b/\b<=255
 ez:Lt a.2
def UnC(a:T)(b:Int×List Int)(c:Array aq):Prop:=∃d e f,c=#[J E b.1,af d e f]/\du (fun _=>True) a d e b.2
def Zx3(a:T)(b:aq)(c:List (Int×List Int)):Prop:=
 ∃(d e f:Nat)(g:List (Array aq)),b=af (M ⟨d,e,S⟩) c.length f/\c.length<=f/\mE a d e 2 g/\g.length=c.length/\∀(h:Nat)(i:Int×List Int)(l:Array aq),c[h]?=M i->g[h]?=M l->UnC a i l
def Zx3.ext{a b c d}(e:Zx3 a c d)(f:bD a b):Zx3 b c d:=by
 let ⟨a,b,c,d,g,h,i,l,n⟩:=e;refine⟨a,b,c,d,g,h,i.ext f,l,fun e o p q r=>?_⟩;let ⟨a,b,c,d,g⟩:=n e o p q r;exact⟨a,b,c,d,g.ext f⟩
instance {w w' x1 x2}:Tr w w' (Zx3 w x1 x2) (Zx3 w' x1 x2):=⟨fun hb h=>Zx3.ext h hb⟩
def Pc.cells(a:Pc):Array aq:=#[J E a.ty,J E a.st,J E a.ord,ao a.top,ao a.M3,ao a.alt]
structure Pg(a:T)(b:Array aq)(c:eQ)(d:Int):Prop where
 k:b.size=148
 k0:b[0]?=M (J E c.kind)
 kp:b[147]?=M (J E d)
 one:b.all (·.oneCell')=aB
 seq:∀e,c=.seq e->jV e/\b.extract 1 (1+135)=e.cells
 G7:∀f g,c=.G7 f g->g<16777216/\b.extract 136 (136+3)=#[ao f,ao av,J E g]
 qh:∀h i,c=.qh h i->YC h/\∃l,b.extract 139 (139+8)=h.cells++#[af S 0 0,l]/\Zx3 a l i/\i.length<=4/\∀n∈i,UT n
def Pg.ext{a b c d e}(f:Pg a c d e)(g:bD a b):Pg b c d e:=
 ⟨f.k,f.k0,f.kp,f.one,f.seq,f.G7,fun a b c=>by obtain⟨d,e,h,i,l⟩:=f.qh a b c;exact⟨d,e,h,i.ext g,l⟩⟩
instance {w w' x1 x2 x3}:Tr w w' (Pg w x1 x2 x3) (Pg w' x1 x2 x3):=⟨fun hb h=>Pg.ext h hb⟩
def MN(d)(c:1<=d)(a:d<=4)(b):aT aE 94 #[J E d] b fun e f=>e=aK (ao aB)/\f=b:=by
 have a:decide (1<=d)=aB:=decide_eq_true c;have a:decide (d<5)=aB:=decide_eq_true O;go_enter func94,ntmps94;go_wp2;go_ret;exact⟨rfl,rfl⟩
def oh{b c d e f h g}(l:e.guard=S)(n o p)
  (q:e.op=.call {callee:=.builtin .append,args:=#[n,o],argTypes:=#[p,p]})(r s t u)(v:b.underlying p=M (.slice r))(w:(b.info? r).map (fun i=>(i.zero,i.size,i.bytes))=M (M s,t,u))(x:s.cells.size=t)(y:0<t)(a1:u<=100000)
  {base z L}(H:f.eval n=z)(a5:jW h base r t z L)(a:L.length<=100000)(a4:base<=h.heap.size)(U V)(W:f.eval o=af (M ⟨U,0,S⟩) 1 1)(a0:Bx h U r V)(a3:V.size=t)(Y:V.all (·.oneCell')=aB)
  (a2:∀a6 a7,jW a7 base r t a6 (L++[V])->bj base h a7->h.grownBy a7 z.ownBlock->(a6.ownBlock=z.ownBlock\/a6.ownBlock=M h.heap.size)->cG b c g d (f.put e.dst a6) a7):cG b c g (e::d) f h:=by
 refine uh h (p:=fun _=>True) l n o p q r s t u v w x y base z L.length (lQ L) H a5.own _ 1 1 V.toList W ⟨by simp[a3],fun _=>⟨U,0,rfl,trivial,a0.lt,fun a b c=>?_⟩⟩ (fun d e=>(bG.1 Y) d (jP e)) (by unfold maxLen;omega) ?_ a4 ?_
 ·rw[oD]
  exact a0.cell a (jP c)
 ·exact aY (Nat.mul_le_mul (show L.length+1<=100001 by omega) a1) dD
 ·intro a b c d e
  refine a2 a b ⟨by rw[Hl,aJ];exact c,fun f g=>?_⟩ ?_ d e
  ·rw[dG,dJ] at g
   rcases g with a|rfl
   ·exact a5.k f a
   ·exact a3
  ·refine Below.grown (aM _ _) d a4 fun a b=>?_
   rcases a5.own.2 with⟨rfl,_⟩|⟨a,c,d,rfl,e,_⟩
   ·simp[kC] at b
   ·simp only[kC,bq] at b
    omega
def Ku.below{d a b B}(e:Ku d a)(f:bj B a b)(c:d.heap.size<=B):Ku d b:=fun g h i l=>by
 have a:g<d.heap.size:=dH d ⟨g,h,S⟩ l;have:=e g h i l;unfold mV at this ⊢;rw[f.block g O];exact this
def iC(a:aq)(b:Nat)(c:Nat):Prop:=a.ownBlock≠M c/\b<=c
def Yw(a:Nat->Prop)(b:T)(c:Int×List Int)(d:Array aq):Prop:=∃e f g,d=#[J E c.1,af e f g]/\du a b e f c.2
def Yw.K{f q a b c d}(e:Yw f a c d)(g:∀i,f i->i<a.heap.size->b.heap[i]?=a.heap[i]?)(h:∀l,l<a.heap.size->f l->q l):Yw q b c d:=by
 let ⟨a,b,c,d,i⟩:=e;refine⟨a,b,c,d,?_⟩;exact(i.mono (q:=fun a=>f a/\q a) (fun b c d=>⟨d,h b c d⟩)).K (fun e l n=>g e l.1 n) |>.mono (fun o _ p=>p.2)
def Yw.N{a b c d e}(f:Yw a b d e)(g:Ku b c):Yw a c d e:=by
 let ⟨a,b,c,d,e⟩:=f;exact⟨a,b,c,d,e.N g⟩
def jW.ZJ{h a b c d e}(i:jW h a b c d e){g}(f:g<a)(l n):jW (h.setCell ⟨g,l,S⟩ n) a b c d e:=
 ⟨ko i.own (fun a b _=>eF h ⟨g,l,S⟩ n a (by show a≠g;have:=i.gQ b;omega)),i.k⟩
structure Mg(a:Nat->Prop)(b:T)(c:List (Int×List Int))(d:List (Array aq)):Prop where
 len:d.length=c.length
 un:∀(e:Nat)(f:Int×List Int)(g:Array aq),c[e]?=M f->d[e]?=M g->Yw a b f g
def Mg.K{a q b c d e}(f:Mg a b d e)(g:∀i,a i->i<b.heap.size->c.heap[i]?=b.heap[i]?)(h:∀l,l<b.heap.size->a l->q l):Mg q c d e:=
 ⟨f.len,fun a b c d e=>(f.un a b c d e).K g h⟩
def Mg.snoc{a b g c}(f:Mg a b g c){d e}(h:Yw a b d e):Mg a b (g++[d]) (c++[e]):=by
 refine⟨by simp[f.len],fun a b c d e=>?_⟩
 by_cases i:a<g.length
 ·rw[bo i] at d
  rw[bo (eZ f.len i)] at e;exact f.un a b c d e
 ·rw[aU O] at d
  rw[aU (iJ f.len),f.len] at e
  have b:a-g.length=0:=by
   have:=(aP.1 d).1;simp only[cW] at this;omega
  rw[b] at d e;simp only[fF,bq] at d e;subst d e;exact h
structure Vs(a:Sq)(b:Pc)(c:Bool)(d e:Nat)(f:Fr)(g:List (Int×List Int)):Prop where
 ty:∀(h:Nat)(i:Int×List Int),g[h]?=M i->i.1=1+(h:Int)
 x:∀h∈g,UT h
 X:b.ty=1->∀(h:Nat)(i:Int×List Int),g[h]?=M i->∃l,i.2=kX (jC 5 d++IF ⟨b.ty,b.st,a.B,c⟩ ((dI e).map fun n=>zK (GI a b c d aC aC aC aC l) (vu f n h)) (St.start d) e++[aB])
def SW(a b c d):
  CallsD aE 210 #[aD (M a),aD (M b),aD (M c)] .returning d fun e f g=>e=aK (fE #[])/\f=.returning/\g=d:=by
 refine callsD_of_wpS func210 rfl fun a b c=>?_
 apply wpS_seq;apply wpS_region;simp[wpOpsS,go_sem,recoverD,c,ntmps210,Exit.thenS];refine wpS_cond (t:=false) (by simp[Act.eval,Array.replicate]) ?_;simp only[Bool.false_eq_true,if_false];refine wpS_of_wp (wp_skip ?_);cases a
 simp_all [bodyPostS,Ih,results210]
def yC(d)(a:1<=d)(b:d<=31)(c):aT aE 54 #[J E d] c fun e f=>e=aK (ao aB)/\c=f:=by
 have a:decide (1<=d)=aB:=by simp;omega
 have a:decide (d<=31)=aB:=by simp;omega
 go_enter func54,ntmps54;go_wp2;go_ret;exact⟨rfl,rfl⟩
def Lu(d:FV)(a:Fr)(e:T)(c:Fv e d a)(b:bQ a=aB):aT aE 78 #[aG (au d),J E a.W,J E a.H] e (fh e (ao aB)):=by
 let ⟨f,g⟩:=aX (e.alloc (az (au d) 63));have h:aT aE 122 #[aG (au d)] f fun i l=>i=aK (ao (bQ a))/\bj f.heap.size f l:=dB d.val a f (by rw[g];exact(c.ext (jd)).1)
 rw[b] at h;obtain⟨a,b,i⟩:=bh h (show Bx f e.heap.size 63 (au d) by rw[g];exact Bx.new _ _ _) (show bj e.heap.size e f by rw[g];exact jd);have f:=c.wh;let ⟨c,l⟩:=aX e.heap.size;clear h;go_enter func78,ntmps78;go_upto_region 1 with fail;refine mr g ?_;rw[<-l] at b ⊢;clear g l;go_wp2_with refine lA 63 3 c b.o (fA _) ?_;refine mR a.o fun c g=>?_
 have a:=(b.o.ext g).cell 0 (v:=J E d.W) rfl;have h:=(b.o.ext g).cell 1 (v:=J E d.H) rfl;rw[f.1] at a;rw[f.2] at h;have a:=aH (show bD e c from i.o.trans (g.mono i.o.size));go_wp2_with fail;go_ret;exact⟨by simp,a.o⟩
def Hp:Pc:=⟨0,0,0,av,av,av⟩
def Uq(a b):jH (fR Hp b) 0 (gJ a)=fR a b:=rfl
def oR(a){b c d}:(fR a (af b c d)).all oV=aB:=by simp[fR,oV]
def Aam(a b):(fk 97 #[(0,aG (gJ a))]).run aE b=.ok (aG (fR a (af S 0 0))) b:=dK
def PO{a b c d h e}(g:bP c (xZ a d.tmps)=aB)(f)(l:c.op=.build 97 #[(0,f)])(i)(n:d.eval f=aG (gJ i))(o:cG aE a e b (d.put c.dst (aG (fR i (af S 0 0)))) h):cG aE a e (c::b) d h:=
 eI g fun _ a=>by
  have b:=Aam i h;unfold Oper.wp VI;simp only[l];simp only[qR,sH,Bh,n]
  first
   |(rw[b];exact a _ _ o)
   |(simp only[fT,iT,dv,b];exact a _ _ o)
def Xt:(aE.info? 121).map (fun i=>(i.zero,i.size))=M (M (aG #[J E 0,af S 0 0]),2):=dK
def Xs:(aE.info? 121).map (fun i=>(i.zero,i.size,i.bytes))=M (M (aG #[J E 0,af S 0 0]),2,32):=dK
def yt{a b l p s c d e}(w:b.results=#[.cell l c,.cell p d,.cell s e])(t f n q u g h i)
  (o:t.getD l sJ=aD (M n))(r:t.getD p sJ=aD (M q))(v:t.getD s sJ=aD (M u))(x:(oA c n).run a f=.ok g f)(y:(oA d q).run a f=.ok h f)(z:(oA e u).run a f=.ok i f):(Ih b t).run a f=.ok (fE #[g,h,i]) f:=by
 have a:t[l]?.getD sJ=aD (M n):=by simpa using o
 have b:t[p]?.getD sJ=aD (M q):=by simpa using r
 have c:t[s]?.getD sJ=aD (M u):=by simpa using v
 simp[Ih,w,a,b,c,asAddr,x,y,z]
def Aep(a:T)(b:FV->FV->FV->FV->dM)(c:Pc)(d:FV)(e:Ending)(f:T):Prop:=
 ∃(g:Nat)(h i l n:FV),e=aK (aD (M ⟨g,0,S⟩))/\a.heap.size<=g/\Kb f g (b h i l n)/\Fv f h (jJ d.W d.H 0 0 0)/\(c.ty=2->GQ f (b h i l n))/\bD a f
def LP(a:Sq)(b:Pc)(c d e f:FV)(g:aq):List (aR×Array aq):=[(26,a.cells),(93,(gJ b)),(63,(au c)),(158,(cq d e f)),(97,(fR b g)),(63,(au aC)),(36,#[J E 0])]
def Ku.G4{f g a b}(d:Bx f g a b)(e:b.all oV=aB)(c):Ku f (f.setRow g c):=by
 intro a b c h
 by_cases c:a=g
 ·subst c
  rw[Bf f a b _ _ (0,0) d] at h;have:=(bG.1 e) _ (nd h);simp[oV] at this
 ·rw[cell_setRow_other f g _ ⟨a,b,S⟩ c]
  exact h
def Ku.If{e f a b}(c:Bx e f a b)(d:b.all oV=aB)(g h):Ku e (e.setCell ⟨f,g,S⟩ h):=by
 intro a b i l
 by_cases i:a=f
 ·subst i
  rw[Bf e a b _ _ (0,0) c] at l;have:=(bG.1 d) _ (nd l);simp[oV] at this
 ·unfold mV at l ⊢
  rw[eF e ⟨f,g,S⟩ h a i];exact l
def dF.N{a b c d e}(f:dF a b d e)(g:Ku b c):dF a c d e:=by
 let ⟨a,b,c,d,e,h,i,l,n,o,p,q,r⟩:=f;exact⟨a,b,c,d,e,h,i,l,n,o,p.N g,q.N g,r.N g⟩
def Mg.N{a b c d e}(f:Mg a b d e)(g:Ku b c):Mg a c d e:=
 ⟨f.len,fun a b c d e=>by
  let ⟨h,i,l,n,o⟩:=f.un a b c d e;exact⟨h,i,l,n,o.N g⟩⟩
def Mg.mono{p q a b c}(d:Mg p a b c)(e:∀f,p f->q f):Mg q a b c:=
 ⟨d.len,fun a b c f g=>by
  let ⟨h,i,l,n,o⟩:=d.un a b c f g;exact⟨h,i,l,n,o.mono fun a _=>e a⟩⟩
def Dm.flat{h i a b c d e}(f:a=((16*h:Nat):Int))(g:b=((16*i:Nat):Int)):Dm h i (jJ a b c d e):=by
 subst f g;refine⟨rfl,rfl,?_,?_,?_⟩<;> simp only[jJ,List.length_replicate]
 ·rw[<-cm,jn,dh]
 ·rw[show((16*h:Nat):Int)/2=((8*h:Nat):Int) by omega,show((16*i:Nat):Int)/2=((8*i:Nat):Int) by omega,<-cm,jn,dh]
 ·rw[show((16*h:Nat):Int)/2=((8*h:Nat):Int) by omega,show((16*i:Nat):Int)/2=((8*i:Nat):Int) by omega,<-cm,jn,dh]
def Nv{a b c}(d:RE a b c):(⟨b.ty,b.st,a.B,c⟩:je).A:=by
 have a:=d.pc;refine⟨a.t1,a.t2,a.s1,a.s2,fun b=>?_,fun b=>?_⟩
 ·rcases d.v with a|a
  ·exact a
  ·exact absurd a.1 b
 ·cases hsec:c with
  |false=>rfl
  |true=>exact absurd b (d.x hsec)
def Ab8{k k'}(b:k.s=k'.s)(c:k.h=k'.h)(d:k.q=k'.q)(a):zK k a=zK k' a:=by
 obtain⟨_,a,e,f,_⟩:=k;obtain⟨_,a,e,f,_⟩:=k';dsimp only at b c d;subst b c d;rfl
def Vs.snoc{a b c d e f g}(h:Vs a b c d e f g){i l n}(o:g.length=l)(p:l<4)(q:i.c=⟨b.ty,b.st,a.B,c⟩)(r:i.s=a)(s:i.h=b)(t:i.q=(d:Int))(u:1<=d)(v:d<=31)(w:n.length=e)(x:e<=4)(y:∀H∈n,K7 i.c H)
  (z:i.h.ty=1->n=(dI e).map fun H=>zK i (vu f H l)):Vs a b c d e f (g++[(1+(l:Int),kX (jC 5 d++IF i.c n (St.start d) n.length++[aB]))]):=by
 have H:=IE (s:=St.start d) y (St.tT O O) n.length (aw _);refine⟨fun U V W=>?_,fun V W=>?_,fun Y U V W=>?_⟩
 ·by_cases a0:U<g.length
  ·rw[bo a0] at W
   exact h.ty U V W
  ·rw[aU O] at W
   have a1:U-g.length=0:=by have:=(aP.1 W).1;simp only[cW] at this;omega
   rw[a1] at W;simp only[fF,bq] at W;subst W;show 1+(l:Int)=1+(U:Int);omega
 ·rcases dG.1 W with a0|a0
  ·exact h.x V a0
  ·rw[dJ.1 a0]
   refine⟨by show 1<=1+(l:Int);omega,by show 1+(l:Int)<=4;omega,?_,uC _,AJ _⟩;show(kX _).length<=20000;rw[lH,aJ,aJ,fX,cW];have:24922*n.length<=24922*4:=Nat.mul_le_mul_left _ O;omega
 ·by_cases a0:U<g.length
  ·rw[bo a0] at W
   exact h.X Y U V W
  ·rw[aU O] at W
   have a1:U-g.length=0:=by have:=(aP.1 W).1;simp only[cW] at this;omega
   rw[a1] at W;simp only[fF,bq] at W;subst W;have W:U=l:=O;subst W;refine⟨aC,?_⟩;show kX _=kX _;rw[w,q];congr 3;rw[z (eZ s Y)];have W:=rI (l:=dI e) (f:=fun a2=>zK i (vu f a2 U)) (g:=fun a3=>zK (GI a b c d aC aC aC aC aC) (vu f a3 U)) fun a4 _=>Ab8 (k:=i) (k':=GI a b c d aC aC aC aC aC) r s t _
   rw[W]
def UU(a:T)(b:Sq)(c:Pc)(d:Bool)(e f g:Nat)(h:Fr)(i:Ending)(l:T):Prop:=
 ∃(n:aq)(o:List (Array aq))(p:List (Int×List Int))(q:FV)(r:Fr),i=aK (fE #[aG (fR c n),q.val,J E 0])/\p.length=g/\jW l a.heap.size 121 2 n o/\Mg (a.heap.size<=·) l p o/\Vs b c d e f h p/\Mi a.heap.size l q r/\Dm f g r/\bD a l
structure PiS(a:T)(h:Nat)(b:aq->List (aR×Array aq))(c:Nat)(f:List (Int×List Int)->Prop)(o p:Nat)(d:dM)(wc:T)(i:Nat)(l:aq)(e:List (Array aq))(g:List (Int×List Int))(n:FV)(q:Fr)(wr:T):Prop where
 lj:g.length=i
 fm:Fm a h (b l) wr
 kb:Kb wr c (d.re n)
 N:Ku wc wr
 k:wc.heap.size<=wr.heap.size
 ow:jW wr wc.heap.size 121 2 l e
 sr:Mg (iC l h) wr g e
 sf:f g
 fx:dF (iC l (if i=0 then 0 else h)) wr n.val q
 cp:eH n.val
 dm:Dm o p q
def PiS.ext{a b c d e f g h wc i l n o p q wr r}(s:PiS a b c d e f g h wc i l n o p q wr)(t:bD wr r):PiS a b c d e f g h wc i l n o p q r:=
 ⟨s.lj,s.fm.ext t,s.kb.ext t,s.N.trans (jU t),aY s.k t.size,s.ow.ext t,s.sr.K (fun a _ b=>t.block a b) (fun _ _ c=>c),s.sf,s.fx.ext t,s.cp,s.dm⟩
instance {w w' x0 x1 x2 x3 x4 x5 x6 x7 x8 x9 x10 x11 x12 x13 x14}:Tr w w' (PiS x0 x1 x2 x3 x4 x5 x6 x7 x8 x9 x10 x11 x12 x13 x14 w) (PiS x0 x1 x2 x3 x4 x5 x6 x7 x8 x9 x10 x11 x12 x13 x14 w'):=⟨fun hb h=>PiS.ext h hb⟩
def Nt(u:Sq)(v:Pc)(t:Bool)(a:RE u v t)(w x y:Nat)(b:1<=w)(c:w<=4)(d:1<=x)(e:x<=4)(f:u.w=((16*w:Nat):Int))(g:Dr u v=((16*x:Nat):Int))(h:1<=y)(i:y<=31)(l:v.ty=1\/v.ty=2)(z H U V:FV)(W:Fr)(Y:T)(n:Fv Y z W)(o:Dm w x W)
  (p:∀a0,bD Y a0->aT aE 103 #[aG u.cells,aG (fR v (af S 0 0)),aG (cq H U V),ao t] a0 (ZC a0))
  (q:∀a0,bD Y a0->aT aE 211 #[aG u.cells,aG (gJ v),ao t,aG (au z),aG (cq H U V),J E (y:Int)] a0 (ZA a0 u v t y z H U V))
  (r:v.ty=2->∀a0,Ku Y a0->∀a1 a2 a3 a4 a5 a6,a5<w->a6<x->JL a0 ((GI u v t y z H U V a1).wf a2 a3 a4) a5 a6)(s:fD Y):
  aT aE 172 #[aG u.cells,aG (gJ v),ao t,aG (au z),aG (cq H U V),J E (y:Int)] Y (UU Y u v t y w x W):=by
 have a0:∀(a1:Fn)(first a2:Array aq)(a3:T),(DE a1 first a2).run aE a3=.ok (.func a1 first a2) a3:=fun _ _ _ _=>rfl
 obtain⟨a1,a2,a3,a4,a5,a6⟩:=ej a (show 1<=w/\w<=4/\1<=x/\x<=4 from⟨b,c,d,e⟩) (show 1<=y/\y<=31 from⟨h,i⟩) l n o;have a7:=aH p;have a8:∀a9:FV->FV->FV->FV->dM,a9=(fun aa ab ac ad=>(GI u v t y z H U V aa).wf ab ac ad)->∀ae,bD Y ae->aT aE 211 #[aG u.cells,aG (gJ v),ao t,aG (au z),aG (cq H U V),J E (y:Int)] ae (Aep ae a9 v z):=fun ag ah ai aj=>by rw[ah];exact q ai aj
 obtain⟨a9,aa⟩:=aQ s (bZ f g);let ⟨ab,ac⟩:∃ad:FV->FV->FV->FV->dM,ad=fun ae ag ah ai=>(GI u v t y z H U V ae).wf ag ah ai:=⟨_,rfl⟩
 let ⟨ad,ae⟩:∃ag:List (Int×List Int)->Prop,ag=Vs u v t y w W:=⟨_,rfl⟩;let ⟨ag,ah⟩:∃ai:je,ai=⟨v.ty,v.st,u.B,t⟩:=⟨_,rfl⟩;obtain⟨ai,aj⟩:=aQ (show∀al am ap ar,(ab al am ap ar).c=ag/\(ab al am ap ar).h=v/\(ab al am ap ar).s=u/\(ab al am ap ar).q=y/\(ab al am ap ar).src=z/\(ab al am ap ar).re al=ab al am ap ar from fun ax ay aV b0=>by rw[ac,ah];exact⟨rfl,rfl,rfl,rfl,rfl,rfl⟩) (show ad [] by rw[ae];exact⟨fun b1 b2 b3=>by simp at b3,fun b4 b5=>by simp at b5,fun _ b6 b7 b8=>by simp at b8⟩)
 have al:=aH (show∀(am:List (Int×List Int))(ap:dM)(ar:Nat)(ax:List Mb),ad am->am.length=ar->ar<4->ap.c=ag->ap.s=u->ap.h=v->ap.q=(y:Int)->ax.length=w->(∀ay∈ax,K7 ap.c ay)->(ap.h.ty=1->ax=(dI w).map fun aV=>zK ap (vu W aV ar))->ad (am++[(1+(ar:Int),kX (jC 5 y++IF ap.c ax (St.start y) ax.length++[aB]))]) from by
  rw[ae,ah];intro ay aV b0 b1 b2 b3 b4 b5 b6 b7 b8 b9 ba bb;exact b2.snoc b3 b4 b5 b6 b7 b8 h i b9 c ba bb)
 obtain⟨am,ap⟩:=aQ (a8 ab ac) (show v.ty=2->∀ar,Ku Y ar->∀ax ay aV b0 b1 b2,b1<w->b2<x->JL ar (ab ax ay aV b0) b1 b2 by rw[ac];exact r);clear a8;obtain⟨a8,ar,ax,ay,aV,b0⟩:=ej (show ag.A/\RE u v ag.sec/\ag=⟨v.ty,v.st,u.B,ag.sec⟩ by rw[ah];exact⟨Nv a,a,rfl⟩) (show∀b1,ad b1->Vs u v t y w W b1 from fun b2 b3=>by rw[<-ae];exact b3) (jB a.sq) (show t=aB->(v.st==3)=av from fun b4=>by have:=a.x b4;simpa using this) (show∀b5,Bx b5 Y.heap.size 26 u.cells->b5.cell? ⟨Y.heap.size,0,S⟩=M (J E W.W) from fun b6 b7=>b7.cell 0 (by unfold iN;rw[bw,show W.W=u.w by rw[o.W,f]];rfl)) (show∀b8,aT aE 153 #[aG u.cells,aG (gJ v)] b8 (fh b8 (ao aB)) from fun b9=>tE u a.sq v a.pc a.v b9);have b1:=aH (show∀b2,aT aE 54 #[J E (y:Int)] b2 (fun b3 b4=>b3=aK (ao aB)/\b2=b4) from fun b5=>yC y O O b5)
 have b2:=aH (show∀b3,aT aE 158 #[aG u.cells,aG (gJ v)] b3 (fh b3 (J E (x:Int))) from fun b4=>by
  have:=wD u v t a b4;rw[g,show((16*x:Nat):Int)/16=(x:Int) by omega] at this;exact this)
 have b3:=aH (show∀b4,bD Y b4->aT aE 78 #[aG (au z),J E W.W,J E (16*(x:Int))] b4 (fh b4 (ao aB)) from fun b5 b6=>by
  have b7:=o.formed b c d e;unfold jl at b7;simp only[bT] at b7;have:=Lu z W b5 (n.ext b6) b7.1.1;rw[o.H,show((16*x:Nat):Int)=16*(x:Int) by omega] at this;exact this)
 obtain⟨b4,b5⟩:=aQ (show(gJ v).extract 0 (0+6)=gJ v/\0+6<=(gJ v).size from⟨rfl,aw 6⟩) (show(cq H U V).extract 0 (0+15)=cq H U V/\0+15<=(cq H U V).size from⟨rfl,aw 15⟩);let ⟨b6,b7⟩:=aX Y.heap.size;have b8:=aH b7;let ⟨b9,ba⟩:=aX ([(26,u.cells),(93,(gJ v)),(63,(au z)),(158,(cq H U V)),(97,(fR Hp (af S 0 0))),(63,(au aC)),(36,#[J E 0])]);let ⟨bb,bc⟩:=aX (((((((Y.alloc (az u.cells 26)).alloc (az (gJ v) 93)).alloc (az (au z) 63)).alloc (az (cq H U V) 158)).alloc (az (fR Hp (af S 0 0)) 97)).alloc (az (au aC) 63)).alloc (az #[J E 0] 36));have bd:=aH (show Fm Y b6 b9 bb by rw[bc,ba];exact((((((((Fm.start Y b7).push (oz b7) _ _).push (uM b7) _ _).push (uM b7) _ _).push (uM b7) _ _).push (uM b7) _ _).push (uM b7) _ _).push (uM b7) _ _));have be:=TX ba 7;have bf:=BQ Y b6 ba;have bi:=Du Y b6 ba;have bk:=Ln Y b6 ba;have bl:=Jp Y b6 ba;have bn:=Lm Y b6 ba;have br:=Ae3 Y b6 ba;have bs:=aH (fun(bt:T)(bu:Fm Y b6 b9 bt)=>show Bx bt (b6+1+1+1+1+1+1) 36 #[J E 0] from bu.at 6 (oz ba));have bt:=Ll b9 b8;have bu:=aH ba;rw[<-b7] at aV;clear ac ae ah;clear ba a b c d e f g h i l n o p q r s
 go_enter_defers func172,ntmps172
 go_upto_region 1 with fail
 try simp only[sZ,ak]
 refine mr bc ?_
 try simp only[dA]
 rw[<-b7];clear bc b7;go_wp2_with (first|(refine lA 26 6 b6 (bf.o _ bd.o) ax.o ?_)|(refine lS 93 7 (b6+1) 0 (bi.o _ bd.o) b4.o.1 b4.o.2 ?_));refine mR (b0.o bb) fun a b=>?_
 have c:=mX b bd;clear b0;have d:=(bi.o _ c.o).cell 1 (v:=J E v.st) rfl;cases t
 all_goals
  try have e:=ay.o rfl
  go_wp2_with fail;refine(b1.o _).mono ?_;rintro f g ⟨rfl,rfl⟩;go_wp2_with (first|(refine lA 26 6 b6 (bf.o _ c.o) ax.o ?_)|(refine lS 93 7 (b6+1) 0 (bi.o _ c.o) b4.o.1 b4.o.2 ?_));refine mR (b2.o a) fun h i=>?_
  have l:=mX i c;clear d b2 b1;have d:=aV.o _ (bf.o _ l.o);have n:E.wrap (16*(x:Int))=16*(x:Int):=an _ (dU a2.o);go_wp2_with refine lA 63 9 (b6+1+1) (bk.o _ l.o) (fA _) ?_
  try rw[show RI (16*(x:Int))=16*(x:Int) from n]
  refine mR (b3.o h (bt.o _ l.o)) fun o p=>?_
  have q:=mX p l;clear p l d n b3 aV;go_wp2_with (first|(refine lA 26 6 b6 (bf.o _ q.o) ax.o ?_)|(refine lS 93 7 (b6+1) 0 (bi.o _ q.o) b4.o.1 b4.o.2 ?_)|(refine lS 158 10 (b6+1+1+1) 0 (bl.o _ q.o) b5.o.1 b5.o.2 ?_)|(refine PO dW (aI 55) rfl v rfl ?_));refine(a7.o o (bt.o _ q.o)).mono ?_;rintro d l ⟨n,p,rfl,r⟩;have s:=mX r q;clear r q a7;go_upto_region 10 with refine ix rfl (aI 16) (aI 60) rfl _ rfl dS n rfl rfl ?_
  try simp only[ak]
  let ⟨q,r⟩:=aX (l.alloc (az (au n) 63));have t:=aH (show Fm Y b6 b9 q by rw[r];exact s.o.alloc _);rw[<-r];clear r s;go_wp2_with (first|(refine lA 26 6 b6 (bf.o _ t.o) ax.o ?_)|(refine lS 93 7 (b6+1) 0 (bi.o _ t.o) b4.o.1 b4.o.2 ?_)|(refine lA 63 9 (b6+1+1) (bk.o _ t.o) (fA _) ?_)|(refine lS 158 10 (b6+1+1+1) 0 (bl.o _ t.o) b5.o.1 b5.o.2 ?_));refine(am.o q (bt.o _ t.o)).mono ?_;rintro r s ⟨a7,ac,ae,ah,aV,rfl,b0,b1,b2,b3,b7⟩;let ⟨ba,bc⟩:=aX (ab ac ae ah aV);rw[<-bc] at b1 b3;obtain⟨bv,bx,bz,bC,bK,bL⟩:=ej bc (show Fm Y b6 ([(26,u.cells),(93,(gJ v)),(63,(au z)),(158,(cq H U V)),(97,(fR Hp (af S 0 0))),(63,(au aC)),(36,#[J E 0])]) s by have:=t.o.ext b7;rw[bu.o] at this;exact this) (show b6+7<=a7 by have:=t.o.k;rw[be.o] at this;omega) b1 b2 b3;clear bc b0 b1 b2 b3 b7 t am;obtain⟨t,am,b0,b1,b2⟩:=dZ (show Bx s (b6+1+1+1+1) 97 (fR Hp (af S 0 0)) from bx.o.at 4 rfl) (show Bx s (b6+1) 93 (gJ v) from bx.o.at 1 rfl) (show(gJ v).all (·.oneCell')=aB by simp[gJ,cJ]) (show(aE.info? 93).map (·.size)=M (gJ v).size from ja) (show 0+(gJ v).size<=(fR Hp (af S 0 0)).size from(by decide:0+6<=8));go_upto_region 12 with(first|(refine lS 93 7 (b6+1) 0 am.o b4.o.1 b4.o.2 ?_)|(refine cD rfl 93 (aI 76) (aI 75) rfl (b6+1+1+1+1) 0 (gJ v) rfl rfl _ _ (fR v (af S 0 0)) t.o (Uq v _) b1.o b2.o b0.o ?_))
  try simp only[ak]
  have b3:=aH (show Ku s (s.setRow (b6+1+1+1+1) (fR v (af S 0 0))) from Ku.G4 t.o (oR _) _);let ⟨wc,b7⟩:=aX (s.setRow (b6+1+1+1+1) (fR v (af S 0 0)));obtain⟨bc,bR,bU,bV⟩:=dq (show Fm Y b6 (LP u v z H U V (af S 0 0)) wc by rw[b7];exact bx.o.set 4 rfl (fR v (af S 0 0))) (show Kb wc a7 ba by rw[b7];exact⟨bC.o.j.m (dU bz.o),bC.o.ok⟩) (show Fv wc ac (jJ z.W z.H 0 0 0) by rw[b7];exact bK.o.N b3.o) (show v.ty=2->GQ wc ba from fun bY=>by rw[b7];exact(bL.o bY).N b3.o);have bY:=aH (show bD Y wc by have:=bc.o.F;rw[b8.o] at this;exact this);rw[<-b7];clear b7 b3 t am b0 b2 b1 bx bC bK bL
  have t:=aH (show∀(am:Nat),am<x->∀(b0:FV)(b1:Fr)(b2:T),Kb b2 a7 (ba.re b0)->Fv b2 b0 b1->Dm w x b1->Ku wc b2->bD Y b2->aT aE 212 #[aD (M ⟨a7,0,S⟩),J E am] b2 (Zz b2 a7 (ba.re b0) w x am y W) from by
   intro b3 b7 bx bC bK bL hF c0 c1 c2;let ⟨c3,c4,c5,c6,c7,_⟩:=ai.o ac ae ah aV;rw[<-bv.o] at c3 c4 c5 c6 c7;have c8:(ba.re bx).c=ag:=c3;have c9:(ba.re bx).h=v:=c4;have ca:(ba.re bx).s=u:=c5;have cb:(ba.re bx).q=y:=c6;have cc:(ba.re bx).src=z:=c7;have cd:(ba.re bx).c.A:=by rw[c8];exact a8.o.1
   have ce:=a8.o.2.2
   exact Abj a7 (ba.re bx) ⟨cd,by rw[c8,c9,ce],by rw[c8,c9,ce],by rw[c8,ca,ce],by rw[cb];have:=a3.o;omega,by rw[cb];have:=a3.o;omega⟩ w x b3 y a2.o.1 a2.o.2.1 a2.o.2.2.2 b7 (eZ c9 a4.o) cb W bC a6.o c0 bK bL (eZ cc (a5.o.ext c2)) hF
    (by rw[c8,c9,ca];exact a8.o.2.1) (by rw[c8,c9,ca];exact ce) (eZ ca aa.o.1) (by rw[c9,ca];exact aa.o.2) (fun cf=>((bV.o (D8 c9 cf)).N c1).re bx) (fun cg ch ci ck cl=>(by rw[bv.o];exact ap.o (D8 c9 cg) ch ((jU c2).trans ci.N) ac ae ah aV ck b3 cl b7:JL ch ba ck b3).re bx) (a9.o.ext c2))
  go_wp2_with fail
  go_loopw [78] (fun am wr=>∃(b0:Nat)(b1:aq)(b2:List (Array aq))(b3:List (Int×List Int))(b7:FV)(bx:Fr),b0<=x/\am=J E (b0:Int)/\PiS Y b6 (LP u v z H U V) a7 ad w x ba wc b0 b1 b2 b3 b7 bx wr) (fun bC _=>x-(intOf bC).toNat)
  case atStart=>exact⟨0,af S 0 0,[],[],ac,jJ z.W z.H 0 0 0,qo _,rfl,rfl,bc.o,by rw[show ba.re ac=ba by rw[bv.o];exact(ai.o ac ae ah aV).2.2.2.2.2];exact bR.o,Ku.refl _,aw _,jW.nil _ _ _ _,⟨rfl,fun am b0 b1 b2=>by simp at b2⟩,aj.o,bU.o.1.mono (fun _ _ _=>by simp[iC,kC]),bU.o.2,by have:=a5.o.wh;have b3:=a6.o;exact Dm.flat (by rw[this.1,b3.W]) (by rw[this.2,b3.H])⟩
  case round=>
   obtain⟨am,b0,b1,b2,b3,b7,bx,rfl,bC⟩:=hrel;have bK:=aH bC;clear bC
   by_cases bC:am<x
   ·have bL:=aH bC
    have c0:decide ((am:Int)<(x:Int))=aB:=decide_eq_true O;clear bC bx;go_upto_region 15 with fail;refine aL 8 (fun c1=>Fm Y b6 (LP u v z H U V b0) c1) rfl (fun c2 c3=>?_);have c1:=aH bK.o.fm;have c4:=mX c3 bK;clear c3;refine gN 0 4 5 ?_;simp only[sZ,ak];go_big_quiet_step (fail);refine lC c1 95 81 (b6+1+1+1+1) 7 b0 (fun _ c3=>(show Bx _ (b6+1+1+1+1) 97 (fR v b0) from c3.at 4 rfl).cell 7 rfl) JZ ?_;simp only[sZ,ak];iterate 2 (go_big_quiet_step (fail))
    refine aN (oL 4 4 (fun c3 c5=>c4.o.fm.ext c5) fun c6 c7=>?_);simp only[sZ,ak];have c3:=mX c7 c4;clear c7 c4;go_wp2_with fail;refine(t.o am bL.o b3 b7 c6 c3.o.kb ⟨c3.o.fx.mono (fun _ _ _=>trivial),c3.o.cp⟩ c3.o.dm c3.o.N (by have:=c3.o.fm.F;rw[b8.o] at this;exact this)).mono ?_;rintro c4 c5 ⟨c7,c8,c9,ca,cb,cc,rfl,cd,ce,cf,cg,ch,ci,ck,cl,cn⟩;obtain⟨co,cp,cr,cs,ct,cu⟩:=ej (show b6+7<=c6.heap.size from c3.o.fm.k) (show∀cv,b0.ownBlock=M cv->wc.heap.size<=cv/\cv<c6.heap.size from fun cw cx=>c3.o.ow.gQ cx) (show a7<wc.heap.size from bR.o.j.lt) (c3.o.fm.Af2 ch.up (show b6+7<=a7 from bz.o) c3.o.kb.j.lt) (show Kb c5 a7 (ba.re cb) from ci) (c3.o.N.trans ch.N);obtain⟨cv,cw,cx,cy,cz⟩:=dZ (aY c3.o.k ch.up.size) (show jW c5 wc.heap.size 121 2 b0 b1 from⟨ko c3.o.ow.own (fun cA cB cC=>ch.up.block cA cC (gC (cp.o cA cB) cr.o) dS),c3.o.ow.k⟩) (c3.o.sr.N ch.N) (show Yw (iC b0 b6) c5 (1+(am:Int),kX (jC 5 y++IF (ba.re b3).c c7 (St.start y) c7.length++[aB])) #[J E (1+am),af c8 c9 ca] from⟨c8,c9,ca,rfl,cf.mono (fun cE _ cF=>⟨fun cI=>by have:=cp.o cE cI;omega,by have:=co.o;omega⟩)⟩) (show dF (iC b0 b6) c5 cb.val cc from ck.1.mono (fun cL _ cN=>⟨fun cO=>by have:=cp.o cL cO;omega,by have:=co.o;omega⟩))
    have cp:=aH (by
     let ⟨cA,cB,cC,cE,cF,_⟩:=ai.o ac ae ah aV;rw[<-bv.o] at cA cB cC cE;exact al.o b2 (ba.re b3) am c7 c3.o.sf c3.o.lj (gC bL.o a2.o) cA cC cB cE cd ce cn)
    have cA:=aH ck.2;have cB:=aH cl;have cC:=aH c3.o.lj;obtain⟨cE,cF⟩:=aQ (c3.o.ow.len) (show b1.length<=100000 by rw[c3.o.sr.len,c3.o.lj];have:=bL.o;have:=a2.o;omega);clear ch ci ck cl cn ce cd cg;let ⟨cd,ce⟩:∃cg:Array aq,cg=#[J E (1+am),af c8 c9 ca]:=⟨_,rfl⟩;have cg:=aH (show cd.size=2/\cd.all (·.oneCell')=aB by rw[ce];exact⟨rfl,by simp[cJ]⟩);rw[show unV (1+(am:Int)) c8 c9 ca=aG cd by rw[ce];rfl];rw[<-ce] at cy;clear ce;go_wp2_with fail;refine fK 5 3 cs fun ce ch=>?_
    simp only[sZ,ak];let ⟨ci,ck⟩:=di ch cs ct;obtain⟨cl,cn⟩:=aQ (cu.o.trans (jU ch)) (aY cv.o ch.size);let ⟨cI,cL⟩:=di ch cw cz;obtain⟨cN,cO⟩:=aQ (cx.o.N (jU ch)) (cy.o.N (jU ch));clear ch cs ct cu cv cw cx cy cz;refine jE rfl 95 (aI 85) rfl 121 cd 2 (aG #[J E 0,af S 0 0]) JZ Xt rfl cg.o.1 dD dD _ rfl rfl ?_;let ⟨ch,cs,ct,cu,cv,cw⟩:=mY ce cd 121;rw[<-cu,<-ct];clear cu ct;let ⟨ct,cu⟩:=di cv ci ck;obtain⟨cx,cy⟩:=aQ (cl.o.trans (jU cv)) (aY cn.o cv.size);let ⟨cz,cR⟩:=di cv cI cL;obtain⟨cS,cT⟩:=aQ (cN.o.N (jU cv)) (cO.o.N (jU cv));clear cv;refine mn ⟨rfl,fK 6 2 ct fun cv cU=>?_⟩;simp only[sZ,ak];have cV:=mX cU cw;clear cw;let ⟨cw,cY⟩:=di cU ct cu;obtain⟨d0,d1⟩:=aQ (cx.o.trans (jU cU)) (aY cy.o cU.size);let ⟨d2,d3⟩:=di cU cz cR;obtain⟨d4,d5⟩:=aQ (cS.o.N (jU cU)) (cT.o.N (jU cU));clear cU ct cu cx cy cz cS cT cR;refine oh (base:=wc.heap.size) rfl (aI 82) (aI 86) 95 rfl 121 (aG #[J E 0,af S 0 0]) 2 32 JZ Xs rfl dD dD rfl d2.o cF.o d1.o _ cd rfl cV.o cg.o.1 cg.o.2 ?_;intro ct cu cx cy cz cR;obtain⟨cS,cT,cU,d6,d7⟩:=dZ (cw.o.Ga cy (show b6+7<=wc.heap.size by have:=cr.o;have:=bz.o;omega)) (show Kb cu a7 (ba.re cb) from⟨cY.o.j.below cy cr.o,cY.o.ok⟩) (d0.o.below cy (aw _)) cx (aY d1.o cy.size)
    have d8:∀d9,d9<cv.heap.size->iC b0 b6 d9->iC ct b6 d9:=fun dc df dg=>⟨fun dj=>by
     rcases cR with dk|dk
     ·exact dg.1 (dk.symm.trans dj)
     ·rw[dk] at dj;injection dj with dl;omega,dg.2⟩
    have d9:∀dc,iC b0 b6 dc->dc<cv.heap.size->cu.heap[dc]?=cv.heap[dc]?:=fun df dg dj=>cz.block df dj (fun dk=>dg.1 dk.symm)
    obtain⟨dc,df⟩:=aQ ((d4.o.snoc d5.o).K (q:=iC ct b6) d9 d8) (show dF (iC ct b6) cu cb.val cc from(d3.o.mono (q:=fun dg=>iC b0 b6 dg/\iC ct b6 dg) (fun dj dk dl=>⟨dl,d8 dj dk dl⟩)).K (fun dm dn dp=>d9 dm dn.1 dp) |>.mono (fun _ _ dr=>dr.2));clear cx cy cz cR d8 d9 cw cY d0 d1 d2 d4 d5 d3 cV;refine mn ⟨rfl,gT 7 1 1 ?_⟩;refine fK 8 0 cS fun cw cx=>?_
    simp only[sZ,ak];let ⟨cy,cz⟩:=di cx cS cT;obtain⟨cR,cV⟩:=aQ (cU.o.trans (jU cx)) (aY d7.o cx.size);let ⟨cY,d0⟩:=di cx d6 df;have d1:=aH (dc.o.N (jU cx));clear cx cS cT cU d7 d6 dc df;have cx:=aH (show Bx cw (b6+1+1+1+1) 97 (fR v b0) from cy.o.at 4 rfl);let ⟨cS,cT,cU,_⟩:=cY.o.len;let ⟨d2,d3⟩:=aX ((b1++[cd]).length);rw[<-d3] at cU;clear d3;subst cU;have cU:=aH (show(fR v b0).all oV=aB by obtain⟨d3,d4,d5,_⟩:=cE.o;rw[d5];exact oR v);have d3:=cx.o.cell 7 (v:=b0) rfl;have d4:=cx.o.frozen 7;have d5:=cx.o.lt;go_wp2_with fail;obtain⟨d6,d7,d8⟩:=bh (show Ku cw (cw.setCell ⟨b6+1+1+1+1,7,S⟩ (af cS d2 cT)) from Ku.If cx.o cU.o 7 (af cS d2 cT)) (show Fm Y b6 (LP u v z H U V (af cS d2 cT)) (cw.setCell ⟨b6+1+1+1+1,7,S⟩ (af cS d2 cT)) from cy.o.YL 4 rfl 7 (af cS d2 cT)) (show Kb (cw.setCell ⟨b6+1+1+1+1,7,S⟩ (af cS d2 cT)) a7 (ba.re cb) from⟨cz.o.j.C (by show a7≠b6+1+1+1+1;have:=bz.o;omega) (af cS d2 cT),cz.o.ok⟩);obtain⟨d9,dc,df,dg,dj⟩:=dZ (cR.o.trans d6.o) (show wc.heap.size<=(cw.setCell ⟨b6+1+1+1+1,7,S⟩ (af cS d2 cT)).heap.size by have:=cV.o;simpa[World.setCell] using this) (cY.o.ZJ (g:=b6+1+1+1+1) (gC cr.o bz.o) 7 (af cS d2 cT)) (d1.o.N d6.o) (d0.o.N d6.o);clear d3 d4 d5;refine pX fun cV d3=>?_
    let ⟨d4,d5⟩:=di d3 d7 d8;obtain⟨dk,dl⟩:=aQ (d9.o.trans (jU d3)) (aY dc.o d3.size);let ⟨dm,dn⟩:=di d3 df dj;have dp:=aH (dg.o.N (jU d3));clear d3 d7 d8 d9 dc df dg dj
    try simp only[ak]
    have d3:E.wrap ((am:Int)+1)=((am+1:Nat):Int):=by rw[show((am+1:Nat):Int)=(am:Int)+1 by omega];exact an _ (gC bL.o a2.o)
    go_wp2_with fail;exact⟨⟨am+1,(af cS d2 cT),b1++[cd],_,cb,cc,bL.o,by go_num,by rw[aJ,cW,cC.o],d4.o,d5.o,dk.o,dl.o,dm.o,dp.o,cp.o,by rw[if_neg (Nat.succ_ne_zero am)];exact dn.o,cA.o,cB.o⟩,by simp[intOf];have:=bL.o;omega⟩
   ·have bL:am=x:=O
    subst bL;clear bx bC;let ⟨bx,bC,bL,_⟩:=bK.o.ow.len;subst bL;have bL:=aH (show a7<wc.heap.size from bR.o.j.lt);go_upto_region 17 with fail;refine aL 6 (fun c0=>Fm Y b6 (LP u v z H U V (af bx b1.length bC)) c0/\Kb c0 a7 (ba.re b3)) rfl (fun c1 c2=>?_);obtain⟨c0,c3⟩:=aQ (bZ bK.o.fm bK.o.kb) (bZ bK.o.lj bK.o.sf);have c4:=aH bK.o.cp;have c5:=aH bK.o.dm;obtain⟨c6,c7,c8,c9,ca⟩:=dZ (bK.o.fm.ext c2) (bK.o.kb.ext c2) (bK.o.ow.ext c2) (bK.o.sr.N (jU c2)) (show dF (iC (af bx b1.length bC) b6) c1 b3.val b7 from by have cb:=bK.o.fx;rw[if_neg (dU a2.o)] at cb;exact cb.N (jU c2));clear c2 bK;refine gN 0 5 3 ?_;simp only[sZ,ak];refine lR c0 97 12 (b6+1+1+1+1) 0 8 (fR v (af bx b1.length bC)) (fun _ bK=>qg (show Bx _ (b6+1+1+1+1) 97 (fR v (af bx b1.length bC)) from bK.1.at 4 rfl) rfl) NR mu ?_;simp only[sZ,ak];iterate 3 (go_big_quiet_step (fail))
    refine lR c0 63 93 a7 196 5 (au b3) (fun _ bK=>bK.2.te 57 5 (au b3) rfl dD) db bM ?_;refine aN (oL 5 2 (fun bK c2=>⟨c6.o.ext c2,c7.o.ext c2⟩) fun cb cc=>?_);simp only[sZ,ak];let ⟨bK,c2,cd⟩:=gO cc c6 c7 c8;obtain⟨ce,cf⟩:=aQ (c9.o.N (jU cc)) (ca.o.N (jU cc));clear cc c6 c7 c8 c9 ca;have c6:=aH (show Bx cb (b6+1+1+1+1) 97 (fR v (af bx b1.length bC)) from bK.o.at 4 rfl);refine bm rfl 97 (aI 12) (aI 90) rfl (b6+1+1+1+1) (fR v (af bx b1.length bC)) rfl rfl c6.o mu rfl (by simp[fR,cJ]) ?_;obtain⟨c7,c8,c9,ca⟩:=dq (Ku.G4 c6.o (oR v) (fR v (af bx b1.length bC))) (show Fm Y b6 (LP u v z H U V (af bx b1.length bC)) (cb.setRow (b6+1+1+1+1) (fR v (af bx b1.length bC))) from bK.o.set 4 rfl _) (show Kb (cb.setRow (b6+1+1+1+1) (fR v (af bx b1.length bC))) a7 (ba.re b3) from⟨c2.o.j.m (dU bz.o),c2.o.ok⟩) (cd.o.rowB (g:=b6+1+1+1+1) (gC bL.o bz.o) (fR v (af bx b1.length bC)));obtain⟨cc,cg⟩:=aQ (ce.o.N c7.o) (cf.o.N c7.o);clear bK c2 cd ce cf c7 c6;refine mn ⟨rfl,oL 6 1 (fun bK c2=>⟨c8.o.ext c2,c9.o.ext c2⟩) fun c6 c7=>?_⟩;simp only[sZ,ak];let ⟨bK,c2,cd⟩:=gO c7 c8 c9 ca;obtain⟨ce,cf⟩:=aQ (cc.o.N (jU c7)) (cg.o.N (jU c7));clear c7 c8 c9 ca cc cg;have c7:=aH (show Bx c6 (b6+1+1+1+1+1) 63 (au aC) from bK.o.at 5 rfl);refine bI rfl (aI 13) (aI 94) rfl (b6+1+1+1+1+1) b3 rfl rfl c7.o rfl ?_;have c8:=aH (Ku.G4 c7.o (iq _) (au b3));let ⟨c9,ca⟩:=aX ((LP u v z H U V (af bx b1.length bC)).set 5 (63,au b3));obtain⟨cc,cg,ch,ci,ck,cl⟩:=ej ca (show Fm Y b6 c9 (c6.setRow (b6+1+1+1+1+1) (au b3)) from by rw[ca];exact bK.o.set 5 rfl _) (show Kb (c6.setRow (b6+1+1+1+1+1) (au b3)) a7 (ba.re b3) from⟨c2.o.j.m (dU bz.o),c2.o.ok⟩) (cd.o.rowB (g:=b6+1+1+1+1+1) (gC bL.o bz.o) (au b3)) (ce.o.N c8.o) (cf.o.N c8.o);clear bK c2 cd ce cf c8 c7 ca;refine mn ⟨rfl,X8 7 0 fun bK c2=>?_⟩;simp only[sZ,ak];let ⟨c7,c8⟩:=di c2 cg ci;obtain⟨ca,cd⟩:=aQ (ck.o.N (jU c2)) (cl.o.N (jU c2));clear c2 cg ch ci ck cl c0;have c0:=aH (show Bx bK (b6+1+1+1+1+1+1) 36 #[J E 0] from c7.o.at 6 (oz cc.o));have c2:=c0.o.cell 0 (v:=J E 0) rfl;have ce:=c0.o.frozen 0;have cf:=c0.o.lt;go_wp2_with fail;obtain⟨cg,ch,ci⟩:=bh (Ku.If c0.o (by simp[oV]) 0 (J E 0)) (show Fm Y b6 (c9.set 6 (36,(#[J E 0]:Array aq).setIfInBounds 0 (J E 0))) (bK.setCell ⟨b6+1+1+1+1+1+1,0,S⟩ (J E 0)) from c7.o.YL 6 (oz cc.o) 0 (J E 0)) (c8.o.ZJ (g:=b6+1+1+1+1+1+1) (gC bL.o bz.o) 0 (J E 0));obtain⟨ck,cl⟩:=aQ (ca.o.N cg.o) (cd.o.N cg.o);clear c2 ce cf;refine pX fun c2 ce=>?_
    let ⟨cf,cn⟩:=di ce ch ci;obtain⟨co,cp⟩:=aQ (ck.o.N (jU ce)) (cl.o.N (jU ce));clear ce ch ci ck cl
    try simp only[ak]
    go_wp2_with fail;have ce:Bx c2 (b6+1+1+1+1) 97 (fR v (af bx b1.length bC)):=cf.o.at 4 (oz cc.o);have ch:Bx c2 (b6+1+1+1+1+1) 63 (au b3):=cf.o.at 5 (oz cc.o);have ci:Bx c2 (b6+1+1+1+1+1+1) 36 #[J E 0]:=cf.o.at 6 (oz cc.o);have ck:=tm c2 (b6+1+1+1+1) 97 97 (fR v (af bx b1.length bC)) (0,0) _ ce NR rfl mu;have cl:=tm c2 (b6+1+1+1+1+1) 63 63 (au b3) (0,0) _ ch db rfl bM;have cr:=ci.cell 0 (v:=J E 0) rfl;have cs:(oA 36 ⟨b6+1+1+1+1+1+1,0,S⟩).run aE c2=.ok (J E 0) c2:=by simp[go_sem,cr]
    refine leaves_cons (f:=210) (args:=#[aD (M ⟨b6+1+1+1+1,0,S⟩),aD (M ⟨b6+1+1+1+1+1,0,S⟩),aD (M ⟨b6+1+1+1+1+1+1,0,S⟩)]) dS (by simp[go_sem]) ?_;refine(SW _ _ _ _).mono ?_;rintro ct cu cv ⟨rfl,rfl,rfl⟩;exact⟨_,yt results172 _ _ _ _ _ _ _ _ rfl rfl rfl ck cl cs,af bx b1.length bC,b1,b2,b3,b7,rfl,c3.o.1,by rw[<-b8.o];exact⟨iX cn.o.own (gC bL.o bz.o),cn.o.k⟩,by rw[<-b8.o];exact co.o.mono (fun _ cw=>cw.2),ar.o b2 c3.o.2,by rw[<-b8.o];exact⟨cp.o.mono (fun _ _ cx=>cx.2),c4.o⟩,c5.o,by have:=cf.o.F;rw[b8.o] at this;exact this⟩
structure TyX(a:List Int):Prop where
 n1:1<=a.length
 n2:a.length<=2
 r:∀b∈a,b=1\/b=2
 h:a[0]?=M 1
def Dv(a:T)(b:aq)(c:List Int):Prop:=∃(d e f:Nat),b=af (M ⟨d,e,S⟩) c.length f/\c.length<=f/\∀(g:Nat)(h:Int),c[g]?=M h->a.cell? ⟨d,e+g,S⟩=M (J E h)
def Dv.ext{e a b c}(d:Dv e b c)(f:bD e a):Dv a b c:=by
 let ⟨a,b,c,g,h,i⟩:=d;refine⟨a,b,c,g,h,fun d l n=>?_⟩;have:=i d l n;unfold mV at this ⊢;rw[f.block a (dH e ⟨a,b+d,S⟩ (i d l n))];exact this
instance {w w' x1 x2}:Tr w w' (Dv w x1 x2) (Dv w' x1 x2):=⟨fun hb h=>Dv.ext h hb⟩
def K6(a:T)(b c d:Nat)(e:List (Array aq)):Prop:=
 ∃f g h,a.heap[b]?=M (az f g h)/\∀i l,e[i]?=M l->l.size=d/\f.extract (c+d*i) (c+d*i+d)=l/\c+d*i+d<=f.size
def mE.rd{a b c n d}(e:mE a b c n d):K6 a b c n d:=by
 let ⟨a,b,c,d⟩:=e;exact⟨a,b,_,c,d⟩
def K6.lt{a b c d e}(f:K6 a b c d e):b<a.heap.size:=by
 let ⟨a,b,c,d,_⟩:=f;exact(eJ.1 d).1
def K6.ext{a b g c d e}(f:K6 a g c d e)(h:bD a b):K6 b g c d e:=by
 have a:=f.lt;let ⟨b,c,d,e,i⟩:=f;exact⟨b,c,d,(h.block g a).trans e,i⟩
instance {w w' x1 x2 x3 x4}:Tr w w' (K6 w x1 x2 x3 x4) (K6 w' x1 x2 x3 x4):=⟨fun hb h=>K6.ext h hb⟩
def K6.row{a b c d e}(f:K6 a b c d e){k g}(h:e[k]?=M g):∃i l n,a.heap[b]?=M (az l i n)/\l.extract (c+k*d) (c+k*d+d)=g/\c+k*d+d<=l.size:=by
 let ⟨a,c,d,e,i⟩:=f;let ⟨_,f,l⟩:=i k g h;rw[dh] at f l;exact⟨c,a,d,e,f,l⟩
def K6.cell{a b c d e}(f:K6 a b c d e){k m}(g:e[k]?=M m){j v}(i:m[j]?=M v)(off)(h:off=c+d*k+j):a.cell? ⟨b,off,S⟩=M v:=by
 let ⟨a,b,c,d,e⟩:=f;let ⟨a,b,c⟩:=e k m g;subst h;have a:j<m.size:=(eJ.1 i).1;rw[<-b,iL,if_pos O] at i;simp[mV,d,i]
def Ms{c:nt}{d:Array cQ}{e:List cQ}{f:cQ}{g:Act}{q:T}{h:Exit->Act->T->Prop}(i:bP f (xZ d g.tmps)=aB)(r:aR)(a:Gc)(s:f.op=.load r a)(t u off v w:Nat)(p:off=u+v*w)(x:g.eval a=aD (M ⟨t,off,S⟩)){b:List (Array aq)}(l:K6 q t u v b){n:Array aq}(o:b[w]?=M n)
  {y:Ac5}(z:(match y with| .struct _| .array _ _=>aB|_=>av)=aB)(H:c.underlying r=M y)(U:(c.info? r).map (·.size)=M v)(V:cG c d h e (g.put f.dst (aG n)) q):cG c d h (f::e) g q:=
 eI i fun _ a=>by
  let ⟨b,c,d,e,f⟩:=l;let ⟨_,g,h⟩:=f w n o;subst p g;unfold Oper.wp VI;simp only[s,x,yp,nO,fT,iT,dv,tB q t (u+v*w) v c r b d y e H (by cases y<;> exact z) U h];exact a _ _ V
def s7{b:nt}{c:Array cQ}{d:List cQ}{e:cQ}{f:Act}{g:T->Prop}{h:Act->Prop}(i:bP e (xZ c f.tmps)=aB)(p:aR)(a:Gc)(q:e.op=.load p a)
  (r off s:Nat)(t:f.eval a=aD (M ⟨r,off,S⟩))(l:Array aq)(u:Ac5)(o:∀y,g y->∃z H U,y.heap[r]?=M (az H z U)/\H.extract off (off+s)=l/\off+s<=H.size)
  (v:(match u with| .struct _| .array _ _=>aB|_=>av)=aB)(w:b.underlying p=M u)(x:(b.info? p).map (·.size)=M s)
  (n:wpQuiet b c g h d (f.put e.dst (aG l))):wpQuiet b c g h (e::d) f:=
 lZ i fun _ a=>by
  refine⟨aG l,fun b c=>?_,a _ n⟩;let ⟨a,d,e,f,g,h⟩:=o b c;subst g;unfold Oper.quietAt VI;simp only[q,t,yp,nO,fT,iT,dv,tB b r off s a p d e u f w (by cases u<;> exact v) x h];exact⟨rfl,rfl⟩
def FR(a:T)(b:aq)(c:List (FV×Fr)):Prop:=∃(d e f:Nat),b=af (M ⟨d,e,S⟩) c.length f/\c.length<=f/\K6 a d e 5 (c.map fun g=>au g.1)/\∀h∈c,Fv a h.1 h.2
def FR.ext{a b c d}(e:FR a c d)(f:bD a b):FR b c d:=by
 let ⟨a,b,c,d,g,h,i⟩:=e;exact⟨a,b,c,d,g,h.ext f,fun e l=>(i e l).ext f⟩
instance {w w' x1 x2}:Tr w w' (FR w x1 x2) (FR w' x1 x2):=⟨fun hb h=>FR.ext h hb⟩
def QM(c:Option Addr)(d:Nat)(b:Bool)(e:aq)(f:List Int)(g:TyX f)(h:T)(a:Dv h e f):aT aE 75 #[af c f.length d,e,ao b] h fun i l=>i=aK (ao aB)/\l=h:=by
 obtain⟨i,l,n,rfl,o,p⟩:=a;have a:=dH h ⟨i,l+0,S⟩ (p 0 1 g.h);let ⟨q,r⟩:=aQ p g;let ⟨s,t⟩:=aX f.length;obtain⟨u,v⟩:=aQ (show 1<=s/\s<=2/\s<=n by rw[t];exact⟨g.n1,g.n2,o⟩) t;rw[<-t];have w:decide ((s:Int)<1)=av:=decide_eq_false (dU u.o);have x:decide ((256:Int)<(s:Int))=av:=decide_eq_false (dU u.o);have y:decide ((128:Int)<(s:Int))=av:=decide_eq_false (dU u.o);clear t;cases b
 all_goals
  go_enter func75,ntmps75;go_wp2_with fail
  go_loopw [33] (fun b wr=>∃t:Nat,t<=s/\b=J E (t:Int)/\wr=h) (fun z _=>s-(intOf z).toNat)
  case atStart=>exact⟨0,qo _,rfl,rfl⟩
  case round=>
   obtain⟨b,t,rfl,rfl⟩:=hrel
   by_cases z:b<s
   ·let ⟨H,U⟩:∃V,f[b]?=M V:=⟨_,aA (D8 v.o z)⟩
    have V:=q.o b H U;have W:decide ((b:Int)<(s:Int))=aB:=decide_eq_true O;have Y:decide (H<1)=av:=decide_eq_false (by have:=r.o.r H (bg U);omega);have a0:decide ((3:Int)<H)=av:=decide_eq_false (by have:=r.o.r H (bg U);omega);have a1:E.wrap ((b:Int)+1)=((b+1:Nat):Int):=by rw[show((b+1:Nat):Int)=(b:Int)+1 by omega];exact an _ (dU u.o)
    go_wp2_with fail;exact⟨⟨b+1,z,by go_num,trivial⟩,by simp[intOf];omega⟩
   ·obtain rfl:b=s:=O
    have H:=q.o 0 1 r.o.h;rw[Ck] at H;obtain rfl|rfl:b=1\/b=2:=by have:=u.o;omega
    ·go_wp2_with fail
     go_ret;exact⟨rfl,rfl⟩
    ·let ⟨u,U⟩:∃V,f[1]?=M V:=⟨_,aA (by rw[<-v.o];decide)⟩
     have V:=q.o 1 u U;have W:(u==3)=av:=by have:=r.o.r u (bg U);simp;omega
     go_wp2_with fail;go_ret;exact⟨by show aK (ao (u !=3))=_;rw[bne,W];rfl,rfl⟩
def Ub(a:Nat)(g:Sq)(i:FV)(b:Fr)(l:T)(h:Bx l a 26 g.cells)(c:Fv l i b)(d:bQ b=aB)(e:b.W=g.w)(f:b.H=g.h):aT aE 77 #[aG (au i),aD (M ⟨a,0,S⟩)] l (fh l (ao av)):=by
 let ⟨a,n⟩:=aX (l.alloc (az (au i) 63));obtain⟨o,p⟩:=aQ (show bD l a by rw[n];exact jd) (show Bx a l.heap.size 63 (au i) by rw[n];exact Bx.new _ _ _);have q:=aH (show aT aE 78 #[aG (au i),J E g.w,J E g.h] a (fh a (ao aB)) by rw[<-e,<-f];exact Lu i b a (c.ext o.o) d);have a:=(h.ext o.o).cell 0 (v:=J E g.w) (by unfold iN;rw[bw];rfl);have a:=(h.ext o.o).cell 1 (v:=J E g.h) (by unfold iN;rw[bw];rfl);let ⟨a,b⟩:=aX l.heap.size;go_enter func77,ntmps77;go_upto_region 1 with fail;change Code.wp _ _ _ _ (l.alloc (az (au i) 63));rw[<-n,<-b];rw[<-b] at p;clear n b;go_wp2_with refine lA 63 2 a p.o (fA _) ?_;refine mR q.o fun a b=>?_
 have a:=mX b o;go_wp2_with fail;go_ret;exact⟨rfl,a.o⟩
def Ua(a:Nat)(b:Sq)(c:List (FV×Fr))(d:aq)(e:T)(f:Bx e a 26 b.cells)(hF:FR e d c)(g:1<=c.length/\c.length<=2)(h:∀i∈c,bQ i.2=aB/\i.2.W=b.w/\i.2.H=b.h):aT aE 121 #[d,.func (Fn.func 77) #[] #[aD (M ⟨a,0,S⟩)]] e (fh e (J E (-1))):=by
 obtain⟨i,l,n,rfl,o,p,q⟩:=hF;let ⟨r,s,t,u⟩:=dq f p q h;let ⟨v,w⟩:=aX c.length;have x:=aH w;rw[<-w] at g o ⊢;have y:=aH (bZ g o);clear w;go_enter func121,ntmps121;go_wp2_with fail
 go_loopw [8] (fun w wr=>∃z:Nat,z<=v/\w=J E (z:Int)/\bD e wr) (fun H _=>v-(intOf H).toNat)
 case atStart=>exact⟨0,qo _,rfl,aM _ _⟩
 case round=>
  obtain⟨w,z,rfl,H⟩:=hrel;have U:=aH H
  by_cases V:w<v
  ·let ⟨W,Y⟩:∃a0,c[w]?=M a0:=⟨_,aA (D8 x.o V)⟩
   obtain⟨a0,a1,a2,a3⟩:=dq (u.o W (bg Y)) (t.o W (bg Y)) (show(c.map fun a4=>au a4.1)[w]?=M (au W.1) by rw[bN,Y];rfl) (s.o.ext U.o);have a4:decide ((w:Int)<(v:Int))=aB:=decide_eq_true O;have a5:=a3.o.lt;have a6:E.wrap ((w:Int)+1)=((w+1:Nat):Int):=by rw[show((w+1:Nat):Int)=(w:Int)+1 by omega];exact an _ (dU y.o)
   go_wp2_with refine Ms dW 63 (aI 14) rfl i l _ 5 w O rfl a3.o a2.o rfl db bM ?_;refine mR (Ub a b W.1 W.2 _ (r.o.ext U.o) (a1.o.ext U.o) a0.o.1 a0.o.2.1 a0.o.2.2) fun a7 a8=>?_
   have a9:=mX a8 U;go_wp2_with fail;exact⟨⟨w+1,V,by go_num,a9.o⟩,by simp[intOf];omega⟩
  ·obtain rfl:w=v:=O
   go_wp2_with fail;go_ret;exact⟨rfl,U.o⟩
def Ly{a:T->Prop}{b:aq}{c:aq}(d:∀g,a g->aT aE 121 #[b,c] g (fh g (J E (-1))))(e:T)(f:a e):aT aE 76 #[b,c] e (fh e (ao av)):=by
 have a:=aH (d e f);go_enter func76,ntmps76;go_wp2_with fail;refine mR a.o fun b c=>?_
 have a:=aH c;go_wp2_with fail;go_ret;exact⟨rfl,a.o⟩
def AK(g:Sq)(a:jV g)(h:List (FV×Fr))(i:List Int)(l n o:Bool)(p q:aq)(r:T)(hF:FR r p h)(b:Dv r q i)(c:TyX i)(d:h.length=i.length)(e:∀s∈h,bQ s.2=aB/\s.2.W=g.w/\s.2.H=g.h)(f:g.B=aB\/(l=av/\o=aB)):aT aE 40 #[aG g.cells,p,q,aG #[ao l,ao n,ao o]] r (fh r (ao aB)):=by
 have s:∀(t:Fn)(first u:Array aq)(v:T),(DE t first u).run aE v=.ok (.func t first u) v:=fun _ _ _ _=>rfl
 obtain⟨t,u,v,w,x,y⟩:=ej (jB a) hF b e (fun z=>na g a z) (show 1<=h.length/\h.length<=2 by rw[d];exact⟨c.n1,c.n2⟩)
 have z:=aH (show∀H,bD r H->aT aE 75 #[p,q,ao l] H (fun U V=>U=aK (ao aB)/\V=H) from fun W Y=>by
  let ⟨U,V,a0,a1,a2,_⟩:=hF;rw[a1,d];exact QM _ a0 l q i c W (b.ext Y))
 have H:=aH (show∀U,Bx U r.heap.size 26 g.cells->U.cell? ⟨r.heap.size,4,S⟩=M (ao g.B) from fun V W=>W.cell 4 (by unfold iN;rw[bw];rfl));let ⟨U,V,W,Y,a0,a1,a2,a3,a4,a5,a6⟩:=Jo r g.cells 26 (#[ao l,ao n,ao o]) 48;have a7:=aH (show∀a8,Fm r U V a8->aT aE 121 #[p,.func (Fn.func 77) #[] #[aD (M ⟨U,0,S⟩)]] a8 (fh a8 (J E (-1))) from fun a9 aa=>Ua U g h p a9 (a5.o _ aa) (u.o.ext (a4.o _ aa)) y.o w.o);rw[<-Y] at H;clear a hF b c d e;go_enter func40,ntmps40;go_upto_region 1 with fail
 try simp only[sZ,ak]
 refine mr a0 ?_
 try simp only[dA]
 rw[<-Y];clear a0 Y;go_wp2_with refine lA 26 4 U (a5.o _ a3.o) t.o ?_;refine mR (x.o W) fun a b=>?_
 have c:=mX b a3;clear x;have d:=(a6.o _ c.o).cell 0 (v:=ao l) rfl;have e:=(a6.o _ c.o).cell 2 (v:=ao o) rfl;have x:=H.o _ (a5.o _ c.o);go_wp2_with fail;refine(z.o a (a4.o _ c.o)).mono ?_;rintro Y a0 ⟨rfl,rfl⟩;have a8:=aH (show∀a9,Fm r U V a9->aT aE 76 #[p,.func (Fn.func 77) #[] #[aD (M ⟨U,0,S⟩)]] a9 (fh a9 (ao av)) from fun aa ab=>Ly a7.o aa ab);rcases f with a9|⟨a9,aa⟩
 ·rw[a9] at x
  go_wp2_with fail;refine(a8.o a0 c.o).mono ?_;rintro f ab ⟨rfl,ac⟩;have ad:=aH ((a4.o _ c.o).trans ac);clear ac;go_wp2_with fail;go_ret;exact⟨rfl,ad.o⟩
 ·subst a9
  subst aa;cases hil:g.B
  all_goals
   rw[hil] at x;go_wp2_with fail;refine(a8.o a0 c.o).mono ?_;rintro f g ⟨rfl,a9⟩;have aa:=aH ((a4.o _ c.o).trans a9);clear a9;go_wp2_with fail;go_ret;exact⟨rfl,aa.o⟩
def sN(a:Fr)(b c:Int):Bool:=bQ a&&decide (a.W=b)&&decide (a.H=c)
def Qi{e:Nat->Prop}(a:aq)(f:Fr)(b c:Int)(g:T)(d:dF e g a f):
  aT aE 71 #[a,J E b,J E c] g fun h i=>h=aK (ao (sN f b c))/\bj g.heap.size g i:=by
 have a:=d;obtain⟨b,c,h,i,l,n,o,p,q,rfl,r,s,t⟩:=d
 by_cases b:bQ f=aB
 ·go_enter func71,ntmps71
  go_wp2_with fail;refine mR (Ez (p:=e) _ f _ (by(repeat with_reducible apply dF.alloc);exact a)) fun c d=>?_
  let ⟨h,i⟩:=gU d;have l:=d.size
  try simp at l
  try simp at h
  try simp at i
  have h:g.heap.size<c.heap.size:=O;go_wp2_with fail
  all_goals
   go_ret;refine⟨gB ?_,((aM _ g).alloc dS _).trans (d.mono dS)⟩;rw[Bool.eq_iff_iff];simp[sN, *]
 ·have c:bQ f=av:=by simpa using b
  go_enter func71,ntmps71;go_wp2_with fail;refine mR (Ez (p:=e) _ f _ (by(repeat with_reducible apply dF.alloc);exact a)) fun b d=>?_
  go_wp2_with fail;go_ret;exact⟨gB (by simp[sN,c]),((aM _ g).alloc dS _).trans (d.mono dS)⟩
structure Dw(c:T)(a d:aq)(b:List (FV×Fr))(e:List Int):Prop where
 fr:∃f g,a=af f b.length g
 fs:b≠[]->FR c a b
 ty:∃a b,d=af a e.length b
 ts:e≠[]->Dv c d e
def Dw.ext{a b c d e f}(g:Dw a c d e f)(h:bD a b):Dw b c d e f:=⟨g.fr,fun i=>(g.fs i).ext h,g.ty,fun l=>(g.ts l).ext h⟩
instance {w w' x1 x2 x3 x4}:Tr w w' (Dw w x1 x2 x3 x4) (Dw w' x1 x2 x3 x4):=⟨fun hb h=>Dw.ext h hb⟩
def YB(a:Nat)(b:List Int):Prop:=b.length=a/\TyX b
def Aa4{a f}(b:1<=f)(c:f<=2)(d:a.length=f)(e:∀(i:Nat)(l:Int),i<f->a[i]?=M l->1<=l/\l<=3)(h:a[0]?=M 1)(g:a[f-1]?≠M 3):TyX a:=by
 refine⟨by omega,by omega,fun a b=>?_,h⟩;let ⟨c,d⟩:=List.mem_iff_getElem?.1 b;have b:=(aP.1 d).1;have b:=e c a O d
 have b:a≠3:=fun e=>by
  rcases(show c=f-1\/c=0 by omega) with rfl|rfl
  ·exact g (by rw[d,e])
  ·rw[h] at d
   injection d with a;omega
 omega
def MT(a b c:Bool)(d:Option Addr)(e f:Nat)(g:f<=2)(h:aq)(i:List Int)(l:T)(n:∃p q,h=af p i.length q)(o:i≠[]->Dv l h i):aT aE 70 #[af d f e,h,aG #[ao a,ao b,ao c]] l (GR l (YB f i)):=by
 have p:=aH g;have q:∀r s,bD l s->(r=aB->YB f i)->GR l (YB f i) (aK (ao r)) s:=fun t u v w=>⟨t,rfl,w,v⟩
 have r:=aH q;let ⟨s,t⟩:=aX (l.alloc (az #[ao a,ao b,ao c] 30));have u:=Gl t;have v:=aH u;let ⟨w,x⟩:=aX l.heap.size;have y:Bx s w 30 #[ao a,ao b,ao c]:=by rw[t,x];exact Bx.new _ _ _
 have z:=aH y;have H:=y.cell 0 (v:=ao a) rfl;have U:=y.lt;have V:decide ((256:Int)<(f:Int))=av:=decide_eq_false O;have W:decide ((128:Int)<(f:Int))=av:=decide_eq_false O;let ⟨Y,a0,a1⟩:=n
 by_cases a2:f=0
 ·subst a2 a1
  clear q;go_enter func70,ntmps70;go_upto_region 1 with fail;rw[<-t,<-x];clear t x;go_wp2_with fail;go_ret;exact r.o av _ v.o (fun a3=>by cases a3)
 ·have a3:decide ((f:Int)<1)=av:=decide_eq_false O
  by_cases a4:i.length=f
  ·have a5:=o (by intro a6;rw[a6] at a4;exact a2 (by rw[<-a4];rfl))
   let ⟨a6,a7,a8,a9,aa,ab⟩:=a5;rw[a1] at a9;injection a9 with ac _ ad;subst ac ad a1
   have a9:=aH (show∀(ac:Nat)(ad:Int),i[ac]?=M ad->s.cell? ⟨a6,a7+ac,S⟩=M (J E ad) from fun ae ag ah=>by
    have:=ab ae ag ah;unfold mV at this ⊢;rw[u.block a6 (dH l ⟨a6,a7+ae,S⟩ (ab ae ag ah))];exact this)
   have ac:=aH a4;let ⟨ad,ae⟩:∃ag,i[0]?=M ag:=⟨_,aA O⟩;obtain⟨ag,ah,ai⟩:=bh ae aa (show 1<=f by omega);have aj:=dH s ⟨a6,a7+0,S⟩ (a9.o 0 ad ae);rw[a4] at aa ⊢;clear q;cases a
   all_goals
    go_enter func70,ntmps70;go_upto_region 1 with fail;rw[<-t,<-x];clear t x;go_wp2_with fail
    go_loopw [8] (fun al wr=>∃am:Nat,am<=f/\al=J E (am:Int)/\wr=s/\fj (∀(ap:Nat)(ar:Int),ap<am->i[ap]?=M ar->1<=ar/\ar<=3)) (fun ax _=>f-(intOf ax).toNat)
    case atStart=>exact⟨0,qo _,rfl,rfl,aH (fun al am ap=>absurd ap (Nat.not_lt_zero al))⟩
    case round=>
     obtain⟨al,am,rfl,rfl,ap⟩:=hrel
     by_cases ar:al<f
     ·let ⟨ax,ay⟩:∃aV,i[al]?=M aV:=⟨_,aA (eZ ac.o ar)⟩
      have aV:=aH ay;have b0:=a9.o al ax ay;have b1:decide ((al:Int)<(f:Int))=aB:=decide_eq_true O;have b2:E.wrap ((al:Int)+1)=((al+1:Nat):Int):=by rw[show((al+1:Nat):Int)=(al:Int)+1 by omega];exact an _ (dU p.o)
      by_cases b3:1<=ax/\ax<=3
      ·have b4:decide (ax<1)=av:=decide_eq_false O
       have b5:decide ((3:Int)<ax)=av:=decide_eq_false O
       have b6:=aH (show∀(b7:Nat)(b8:Int),b7<al+1->i[b7]?=M b8->1<=b8/\b8<=3 from fun b9 ba bb bc=>by
        rcases Nat.lt_or_ge b9 al with bd|bd
        ·exact ap.o b9 ba bd bc
        ·obtain rfl:b9=al:=O
         rw[aV.o] at bc;injection bc with be;omega)
       go_wp2_with fail;exact⟨⟨al+1,ar,by go_num,trivial,b6⟩,by simp[intOf];omega⟩
      ·go_wp2_with fail
       all_goals first
        |(go_ret;exact r.o av _ v.o (fun b4=>by cases b4))
        |(exfalso;omega)
     ·obtain rfl:al=f:=O
      have ax:=a9.o 0 ad ag.o;rw[Ck] at ax;let ⟨ay,aV⟩:∃b0,i[al-1]?=M b0:=⟨_,aA (by rw[ac.o];have:=ai.o;omega)⟩;have b0:=a9.o (al-1) ay aV;have b1:=aH aV;have b2:E.wrap ((al:Int)-1)=((al-1:Nat):Int):=by rw[show((al-1:Nat):Int)=(al:Int)-1 by have:=ai.o;omega];exact an _ (dU p.o)
      by_cases b3:ad=1
      ·by_cases b4:ay=3
       ·have b5:(ad==1)=aB:=by simp[b3]
        have b6:(ay !=3)=av:=by simp[b4]
        clear b3 b4
        obtain⟨rfl,b7⟩|rfl:(al=1/\ad=ay)\/al=2:=by
         rcases(show al=1\/al=2 by have:=ai.o;have:=p.o;omega) with b8|b8
         ·refine .inl ⟨b8,?_⟩
          have b9:=b1.o;rw[b8,ag.o] at b9;injection b9
         ·exact .inr b8
        all_goals try subst b7
        all_goals
         go_wp2_with fail;go_ret;exact r.o av _ v.o (fun b8=>by cases b8)
       ·have b5:(ad==1)=aB:=by simp[b3]
        have b6:(ay !=3)=aB:=by simp[b4]
        have b7:=aH (show TyX i from Aa4 ai.o p.o ac.o ap.o (by rw[ag.o,b3]) (by rw[b1.o];intro b8;injection b8 with b9;exact b4 b9));clear b3 b4
        obtain⟨rfl,b4⟩|rfl:(al=1/\ad=ay)\/al=2:=by
         rcases(show al=1\/al=2 by have:=ai.o;have:=p.o;omega) with b8|b8
         ·refine .inl ⟨b8,?_⟩
          have b9:=b1.o;rw[b8,ag.o] at b9;injection b9
         ·exact .inr b8
        all_goals try subst b4
        all_goals
         go_wp2_with fail;go_ret;exact r.o aB _ v.o (fun _=>⟨ac.o,b7.o⟩)
      ·have b4:(ad==1)=av:=by simp[b3]
       obtain rfl|rfl:al=1\/al=2:=by have:=ai.o;have:=p.o;omega
       all_goals
        go_wp2_with fail;go_ret;exact r.o av _ v.o (fun ai=>by cases ai)
  ·subst a1
   have a1:((i.length:Int)!=(f:Int))=aB:=by simp;omega
   clear q;cases a
   all_goals
    go_enter func70,ntmps70;go_upto_region 1 with fail;rw[<-t,<-x];clear t x;go_wp2_with fail;go_ret;exact r.o av _ v.o (fun a=>by cases a)
section
open Go.ChangeAt Go.ChangeShapes Go.Deep Go.Joins Go.WideShapes
section
variable {H:Type} {enc:aR×aq->H} {w:T} {base:Nat} {spare:Nat->Bool} {held:Bool}
def iM{a:Type}(b:List a)(c d):b.drop c=(b.drop c).take d++b.drop (c+d):=by
 rw[<-gK,kS]
def Br{a}(b:(Lit.int .i64 a).wf=aB):Zu a:=by
 simp[Lit.wf,Mp,Mq,fQ,ig] at b;unfold Zu;omega
def Ado{a}(b:(Lit.int .u8 a).wf=aB):0<=a/\a<=255:=by
 simp[Lit.wf,Mp,Mq,fQ,ig] at b;omega
def AR{a d b}(c:kQ enc aE w base spare held a 24 d=M b):∃e:List Int,e.length=64/\d=Gi e/\∀f∈e,0<=f/\f<=255:=by
 have a:aE.cellsOf 5=1:=dK;have b:aE.cellsOf 24=64:=dK;let ⟨e,f,_,_,g,h,i⟩:=DataW.trod_array fV c;rw[b] at g
 have b:∀c,c<64->∃e:Int,d[c]?=M (.int .u8 e)/\0<=e/\e<=255:=fun c f=>by
  have e:=i c f;rw[a,Nat.mul_one,aA O] at e;let ⟨a,f,_,g⟩:=iH pM e;refine⟨a,?_,Ado g⟩;have e:((d.drop c).take 1)[0]?=M (.int .u8 a):=by rw[f];rfl
  simpa using e
 let ⟨a,c⟩:=choose_lt b;refine⟨(dI 64).map a,by simp,?_,fun b d=>?_⟩
 ·apply oB
  intro a
  by_cases b:a<64
  ·rw[(c a b).1,Gi,qe,bN,jo b];rfl
  ·rw[de O,de (by simp[Gi];omega)]
 ·obtain⟨a,b,rfl⟩:=iy.1 d
  exact(c a (jP b)).2
def KD{a d b}(c:kQ enc aE w base spare held a 26 d=M b):∃e:Sq,JJ e/\d=e.cells.toList:=by
 have a:aE.cellsOf 3=1:=dK;have b:aE.cellsOf 2=1:=dK;have e:aE.cellsOf 4=1:=dK;have f:aE.cellsOf 23=2:=dK;have g:aE.cellsOf 24=64:=dK;have h:aE.cellsOf 26=135:=dK;let ⟨i,l,_,_,n,o,p⟩:=pK ik c;rw[h] at n;have c:i.length=8:=o;have c:∀h,h<8->∃l,i[h]?=M l:=fun n o=>⟨_,aA O⟩
 let ⟨h,i⟩:=c 0 dD;let ⟨h,l⟩:=c 1 dD;let ⟨h,n⟩:=c 2 dD;let ⟨h,o⟩:=c 3 dD;let ⟨h,q⟩:=c 4 dD;let ⟨h,r⟩:=c 5 dD;let ⟨h,s⟩:=c 6 dD;let ⟨h,t⟩:=c 7 dD;have c:=p 0 _ rfl;have h:=p 1 _ rfl;have u:=p 2 _ rfl;have v:=p 3 _ rfl;have x:=p 4 _ rfl;have y:=p 5 _ rfl;have z:=p 6 _ rfl;have U:=p 7 _ rfl;simp only[a,e,f,g,i,l,n,o,q,r,s,t] at c h u v x y z U;let ⟨a,e,_,g⟩:=iH bJ c;let ⟨c,i,_,l⟩:=iH bJ h;let ⟨h,n,_⟩:=DataW.trod_bool jD v;let ⟨o,p,_,q⟩:=iH bJ x;let ⟨r,s,_,t⟩:=iH bJ y;let ⟨v,x,y,V⟩:=AR z;let ⟨z,W,Y,a0⟩:=AR U;let ⟨U,a1,_,_,a2,a3,a4⟩:=pK underlying23 u;have u:U.length=2:=a3;have u:=a4 0 _ rfl;have a1:=a4 1 _ rfl;simp only[b,aA (show 0<U.length by omega),aA (show 1<U.length by omega)] at u a1;let ⟨U,a2,_,a3⟩:=iH qJ u;let ⟨u,a4,_,a5⟩:=iH qJ a1
 have a1:(d.drop 2).take 2=[.int .i64 U,.int .i64 u]:=by
  have a6:=iM ((d.drop 2).take 2) 0 1;have a7:=iM ((d.drop 2).take 2) 1 1;have a8:((d.drop 2).take 2).drop 2=[]:=fU eB;rw[eo] at a6;rw[a6];have a6:((d.drop 2).take 2).take 1=[.int .i64 U]:=by simpa[b,f] using a2
  rw[a6,a7];have a2:(((d.drop 2).take 2).drop 1).take 1=[.int .i64 u]:=by simpa[b,f] using a4
  rw[a2,a8];rfl
 have b:d=(d.drop 0).take 1++((d.drop 1).take 1++((d.drop 2).take 2++((d.drop 4).take 1++((d.drop 5).take 1++((d.drop 6).take 1++((d.drop 7).take 64++((d.drop 71).take 64++d.drop 135))))))):=by
  rw[<-iM d 71 64,<-iM d 7 64,<-iM d 6 1,<-iM d 5 1,<-iM d 4 1,<-iM d 2 2,<-iM d 1 1,<-iM d 0 1,eo]
 refine⟨⟨a,c,U,u,h,o,r,v,z⟩,⟨Br g,Br l,Br a3,Br a5,Br q,Br t,x,W,V,a0⟩,?_⟩;have a:d.drop 135=[]:=fU O;rw[b,a];rw[show(d.drop 0).take 1=_ from e,show(d.drop 1).take 1=_ from i,a1,show(d.drop 4).take 1=_ from n,show(d.drop 5).take 1=_ from p,show(d.drop 6).take 1=_ from s,show(d.drop 7).take 64=_ from y,show(d.drop 71).take 64=_ from Y];simp[iN,Sq.head]
def uN{b a c d e}(f:aE.underlying b=M (.slice a))(g:aE.underlying a=M (.int .u8))(h:aE.cellsOf a=1)
  (i:kQ enc aE w base spare held c b [d]=M e):∃l n o p,d=.slice l n o/\du (fun _=>True) w l n p/\n<=o:=by
 obtain⟨a,b,c,d,rfl,e⟩:=LF f g h i;refine⟨a,b,c,d,rfl,e,?_⟩;rcases open_ints f g h i with⟨a,_⟩|⟨b,c,d,e,a,_,l,_⟩
 ·simp at a;omega
 ·simp at a;omega
def Nh{a b c}(d:kQ enc aE w base spare held a 63 b=M c):∃e:FV×Fr,b=(au e.1).toList/\Fv w e.1 e.2:=by
 have e:aE.cellsOf 5=1:=dK;have f:aE.cellsOf 54=1:=dK;have g:aE.cellsOf 3=1:=dK;have h:aE.cellsOf 63=5:=dK;let ⟨i,l,_,_,n,o,p⟩:=pK db d;rw[h] at n
 match b,n,i,o with
 |[q,r,s,t,u],_,[v,x,y,z,U],_=>
  have V:=p 0 _ rfl;have W:=p 1 _ rfl;have Y:=p 2 _ rfl;have a0:=p 3 _ rfl;have a1:=p 4 _ rfl;simp[f,g] at V W Y a0 a1;let ⟨a2,a3,_,a4⟩:=iH bJ V;let ⟨a5,a6,_,a7⟩:=iH bJ W;let ⟨a8,a9,aa,ab,ac,ad,ae⟩:=uN dw pM e Y;let ⟨ag,ah,ai,aj,al,am,ap⟩:=uN dw pM e a0;let ⟨ar,ax,ay,aV,b0,b1,b2⟩:=uN dw pM e a1;simp at a3 a6;subst a3 a6 ac al b0;exact⟨(⟨a2,a5,a8,a9,aa,ag,ah,ai,ar,ax,ay⟩,⟨a2,a5,ab,aj,aV⟩),rfl,⟨_,_,_,_,_,_,_,_,_,rfl,ad,am,b1⟩,eH.mk ae ap b2⟩
def Li{a d b}(c:kQ enc aE w base spare held a 27 [d]=M b):∃e f g,d=.slice e (g:List (FV×Fr)).length f/\(g≠[]->FR w d g):=by
 have a:aE.cellsOf 63=5:=dK;rcases open_slice oa c with⟨b,_⟩|⟨e,f,g,h,i,l,n,b,_,o,_,p,_,q⟩
 ·exact⟨S,0,[],by simpa using b,fun c=>absurd rfl c⟩
 ·obtain rfl:d=.slice (M e) f g:=by simpa using b
  have b:f<=h:=by rw[p];split<;> omega
  have b:∀c,c<f->∃d:FV×Fr,(∀h i,(au d.1)[h]?=M i->w.cell? (e.add (c*5+h))=M i)/\Fv w d.1 d.2:=by
   intro c d;let ⟨d,h,i⟩:=q c O;rw[a] at h;obtain⟨a,rfl,c⟩:=Nh i;let ⟨_,d,i⟩:=World.cells?_some h;refine⟨a,fun d h l=>?_,c⟩
   have a:d<5:=by
    have:=(eJ.1 l).1;rwa [fA] at this
   rw[<-Go.Deep.add_add,i d a,Array.getElem?_toList];exact l
  haveI:Inhabited (FV×Fr):=⟨(aC,⟨0,0,[],[],[]⟩)⟩
  let ⟨a,c⟩:=choose_lt b;refine⟨M e,g,(dI f).map a,by simp,fun b=>?_⟩
  have d:0<f:=by
   rcases ns f with h|h
   ·subst h;exact absurd rfl b
   ·exact h
  have b:=(c 0 d).1 0 _ rfl;let ⟨h,i,l⟩:=e;have e:l=S:=by simpa[Addr.add] using World.cell?_spot b
  subst e
  have b:∀e,e<f->∀l n,(au (a e).1)[l]?=M n->w.cell? ⟨h,i+(e*5+l),S⟩=M n:=fun p q r s t=>by
   have e:=(c p q).1 r s t
   have l:∀n:Nat,Addr.add ⟨h,i,S⟩ n=⟨h,i+n,S⟩:=fun p=>by
    unfold Addr.add;split
    ·rename_i n
     subst n;rfl
    ·rfl
   rwa [l] at e
  have e:∃l n p,w.heap[h]?=M (.cells l n p):=by
   have l:=b 0 d 0 _ rfl;unfold mV at l;simp only at l;split at l
   ·rename_i d n p q
    exact⟨d,n,p,q⟩
   ·cases l
  let ⟨d,l,n,p⟩:=e;refine⟨h,i,g,by simp,by simpa using o,⟨d,l,n,p,fun e q r=>?_⟩,fun s t=>?_⟩
  ·have g:=(aP.1 r).1
   have h:e<f:=by simpa using g
   obtain rfl:au (a e).1=q:=by
    rw[qe,bN,jo h] at r;simpa using r
   have f:∀g,g<5->d[i+5*e+g]?=(au (a e).1)[g]?:=fun l n=>by
    let ⟨g,o⟩:∃q,(au (a e).1)[l]?=M q:=⟨_,Array.getElem?_eq_getElem (eZ fA n)⟩;have n:=b e h l g o;unfold mV at n;simp only[p] at n;rw[o,<-n,show i+5*e+l=i+(e*5+l) by omega];simp
   have b:i+5*e+5<=d.size:=by
    have d:=f 4 dD;have:(au (a e).1)[4]?=M (.slice (a e).1.va (a e).1.vn (a e).1.vc):=rfl;rw[this] at d;have:=(eJ.1 d).1;omega
   refine⟨fA _,?_,b⟩;apply Array.ext_getElem?;intro a;rw[iL];split
   ·rename_i b
    exact f a O
   ·rename_i a
    exact(Array.getElem?_eq_none (iJ fA)).symm
  ·obtain⟨a,b,rfl⟩:=iy.1 t
   exact(c a (jP b)).2
def Km{a b c}(d:kQ enc aE w base spare held a 28 [b]=M c):∃e f g,b=.slice e (g:List Int).length f/\(g≠[]->Dv w b g):=by
 rcases open_ints underlying28 bJ dK d with⟨e,_⟩|⟨f,g,h,i,e,_,l,_,n,_,o,_⟩
 ·exact⟨S,0,[],by simpa using e,fun p=>absurd rfl p⟩
 ·obtain rfl:b=.slice (M f) g h:=by simpa using e
  have p:g<=i.length:=by rw[n];split<;> omega
  have q:(i.take g).length=g:=by simp;omega
  refine⟨M f,h,i.take g,by rw[q],fun r=>?_⟩
  have s:0<g:=by
   rcases ns g with t|t
   ·subst t;exact absurd rfl r
   ·exact t
  obtain⟨t,u,rfl,v⟩:=ints_at o O;refine⟨t,u,h,by rw[q],by rw[q];exact l,fun x y z=>?_⟩;rw[List.getElem?_take] at z;split at z
  ·rename_i U
   rw[v x O,List.getD_eq_getElem?_getD,z];rfl
  ·cases z
end
end
def Qb{a:List (Int×List Int)}{b c}(d:a[b]?=M c):Aj (a.take (b+1))=Aj (a.take b)++Fj c.1 c.2:=by
 unfold Aj;rw[qi,d,Ec];simp
def Sx{sl}(a:∀b∈sl,UT b):(Aj sl).length<=40004*sl.length:=by
 induction sl with
 |nil=>simp[Aj]
 |cons b c d=>
  have e:=d fun f g=>a f (by simp[g])
  have f:=(a b dS).len;have g:=(oQ b.2).2;have h:=q8 b.1 b.2;unfold Aj at*;simp only[gL,aJ,eu];omega
def Hi{c:List (Int×List Int)}(b:∀e∈c,UT e)(a:c.length<=4)(d):(Aj (c.take d)).length<=160016:=by
 have a:=Sx (sl:=c.take d) fun e f=>b e (List.mem_of_mem_take f)
 have:(c.take d).length<=4:=by rw[dE];omega
 omega
def Jh{a b c}(d:c=a.heap.size)(e:bj c a b):bD a b:=by subst d;exact e
def xq{c:nt}{d:Array cQ}{e:List cQ}{f:cQ}{g:Act}{h:T}{i:Exit->Act->T->Prop}(s:bP f (xZ d g.tmps)=aB)(t:aR)(u:Gc)(v:f.op=.load t u)(w a off x o:Nat)(r:off=a+x*o)(y:g.eval u=aD (M ⟨w,off,S⟩)){b:List (Array aq)}(n:mE h w a x b){p:Array aq}(q:b[o]?=M p)
  {l:Ac5}(z:(match l with| .struct _| .array _ _=>aB|_=>av)=aB)(H:c.underlying t=M l)(U:(c.info? t).map (·.size)=M x)(V:cG c d i e (g.put f.dst (aG p)) h):cG c d i (f::e) g h:=by
 let ⟨a,b,c,d⟩:=n;let ⟨_,a,b⟩:=d o p q;subst r;exact bA s t u v w _ x y _ _ _ _ c a b z H U V
def ApW(a:List Int)(b:List (Int×List Int))(c:Nat)(d:T)(e f:aq)(wr:T):Prop:=
 ∃g:Nat,g<=b.length/\f=J E g/\jX wr c 5 e (a++Aj (b.take g))/\bj c d wr
def Is0(a:T)(b c d:aq)(wr:T):Prop:=c=b/\d=J E 0/\wr=a
def Bz(p b:T)(q:Nat)(c:q=p.heap.size)(d:bj q p b)(e:aq)(f:List Int)(g:jX b q 5 e f)(h:f.length<=100000)(i:Pc)(l:aq)(r:List (Int×List Int))(a:Zx3 p l r)(n:r.length<=4)(o:∀s∈r,UT s):
  aT aE 89 #[e,aG (i.cells++#[af S 0 0,l])] b fun s t=>∃u,s=aK (fE #[u,J E 0])/\jX t q 5 u (f++Aj r)/\bj q p t:=by
 let ⟨s,t⟩:=aX b.heap.size;obtain⟨u,v,w,x,rfl,y,z,H,U⟩:=a;let ⟨a,V,W,Y,a0,a1⟩:=i;simp only[Pc.cells];let ⟨a2,a3⟩:=aX (b.alloc (az #[J E a,J E V,J E W,ao Y,ao a0,ao a1,af S 0 0,af (M ⟨u,v,S⟩) r.length w] 97));have a4:Bx a2 s 97 #[J E a,J E V,J E W,ao Y,ao a0,ao a1,af S 0 0,af (M ⟨u,v,S⟩) r.length w]:=by rw[a3];exact Bx.D _ _ _ _ t
 have a5:=a4.cell 6 rfl;have a6:=a4.cell 7 rfl;have a7:=Gl a3;obtain⟨a8,a9,aa,ab,ac,ad⟩:=ej (show bj q p a2 from d.trans (a7.mono (eZ c d.size))) (g.ext a7) c o n h;let ⟨ae,ag,ah⟩:=bh z H U;go_enter func89,ntmps89;go_upto_region 1 with fail;refine mr a3 ?_;rw[<-t];clear a3 t;go_wp2_with fail
 go_loopw [0,18] (fun t a3 wr=>Is0 a2 e t a3 wr) (fun _ _ _=>0)
 case atStart=>exact⟨rfl,rfl,rfl⟩
 case round=>
  obtain⟨rfl,rfl,rfl⟩:=hrel;go_wp2_with fail
  go_loopw [0,49] (fun t a3 wr=>ApW f r q p t a3 wr) (fun _ ai _=>r.length-(intOf ai).toNat)
  case atStart=>exact⟨0,by omega,rfl,by simpa[Aj] using a9.o,a8.o⟩
  case round=>
   obtain⟨t,a3,rfl,ai,aj⟩:=hrel;let ⟨al,am,ap⟩:=bh ai aj a3
   by_cases ar:t<r.length
   ·have ax:r[t]?=M r[t]:=aA ar
    have ay:x[t]?=M (x[t]'(dU ag.o)):=aA _;generalize r[t]=aV at*
    generalize x[t]'(dU ag.o)=b0 at*
    have b1:=aH (ab.o aV (bg ax));obtain⟨b2,b3,b4,rfl,b5⟩:=ah.o t aV b0 ax ay;obtain⟨ah,b6,b7⟩:=bh (b5.ext (Jh aa.o am.o)) (Qb ax) (ae.o.ext (Jh aa.o am.o));let ⟨b8,b9⟩:=aV;have ba:=aH ay;have bb:E.wrap ((t:Int)+1)=((t+1:Nat):Int):=by rw[show((t+1:Nat):Int)=(t:Int)+1 by omega];exact an _ (dU ac.o)
    clear ax ay;go_wp2_with ((refine xq dW 121 (aI 51) rfl u v _ 2 t O rfl b7.o ba.o rfl Acw nK ?_));refine sQ (MN b8 b1.o.t1 b1.o.t2 _) ?_;have ax:=aH (show bD wr (wr.alloc (az #[J E b8,af b2 b3 b4] 121)) from jd);obtain⟨ay,bc⟩:=aQ (xu (fun _=>True) _ b8 b2 b3 b4 b9 b1.o.t1 (dU b1.o.t2) (ah.o.ext ax.o) b1.o.ez (by have:=b1.o.len;have:=ah.o.1;dsimp only at*;omega)) (wW b1.o.t1 (dU b1.o.t2) b1.o.yH);go_wp2_with fail;refine ay.o.mono ?_;rintro bd be ⟨bf,rfl,bi,bk⟩;obtain⟨bl,bn,rfl,br⟩:=bi.ret (p:=fun _=>True) (fun _ _=>trivial) bc.o;obtain⟨bi,bs,bt⟩:=bh br (al.o.ext (ax.o.trans bk)) (show bj q p be from am.o.trans ((ax.o.trans bk).mono (eZ aa.o am.o.size)));go_wp2_with (first|(at_builtin;go_must (refine jw _ rfl (aI 65) (aI 66) 54 rfl 5 dw nL q _ (f++Aj (r.take t)) rfl bs.o bl _ bn (Fj b8 b9) rfl bi.o (by have:=q8 b8 b9;have:=(oQ b9).2;have:=b1.o.len;have:=Hi ab.o ac.o t;have:=ad.o;rw[aJ];dsimp only at*;omega) (eZ aa.o bt.o.size) ?_;intro bu w7 ho7 hg7 _)));obtain⟨a,b⟩:=aQ ho7 (show bj q p w7 from bt.o.grown hg7 (eZ aa.o bt.o.size) (fun c d=>(bs.o.lt c d).1));go_wp2;refine⟨⟨t+1,by omega,by go_num,by rw[b6.o,<-aW];exact a.o,b.o⟩,by simp[intOf];omega⟩
   ·have a:t=r.length:=O
    have b:=aH a;have c:decide ((t:Int)<(r.length:Int))=av:=decide_eq_false O;clear a;go_wp2;go_ret2;refine⟨_,rfl,?_,am.o⟩;have:=al.o;rw[b.o,u7q] at this;exact this
def Rj:(aE.info? 91).map (·.size)=M 3:=dK
def Ib:(aE.info? 93).map (·.size)=M 6:=dK
def Zv:(aE.info? 97).map (·.size)=M 8:=dK
def FM:(aE.info? 99).map (·.size)=M 148:=dK
def Jt{a b:Array aq}{i c j k}(f:a.extract i (i+c)=b)(d:j+k<=c)(e:i+c<=a.size):a.extract (i+j) (i+j+k)=b.extract j (j+k):=by
 subst f;rw[Array.extract_extract];congr 1;omega
def lJ(a b)(c:a.length<=b):(kX (a++[aB])).length<=(b+8)/8:=by rw[lH,aJ];simp;omega
def IC(a):(Od a).length<=1171:=by
 have b:=wN a.X Nu;have b:=wN a.R RC;unfold Od;simp only[aJ,fX,eu,eK];omega
def Jj(a b c):(OK a b c).length<=26:=by unfold OK;simp[fX]
def J0(a):(DO a++DN a 3).length<=100:=by
 unfold DO DN;simp[fX]
def MK(g:Sq)(a:Array aq)(b:Int)(h:T)(c:Pg h a (.seq g) b)(d:0<=b)(e:b<=1048576)(f:fD h):aT aE 43 #[aG a] h (LS h (eQ.bytes (.seq g))):=by
 let ⟨i,l⟩:=aX h.heap.size;let ⟨n,o⟩:=aX (h.alloc (az a 99));have p:Bx n i 99 a:=by rw[o];exact Bx.D _ _ _ _ l
 have q:=Gl o;let ⟨r,s,t,u,v⟩:=dZ c p q l f;have w:=p.cell 0 c.k0;have x:=p.cell 147 c.kp;have y:decide (b<0)=av:=decide_eq_false O;have z:decide (1048576<b)=av:=decide_eq_false O;simp only[eQ.kind] at w;have H:=aH (c.seq g rfl);simp only[eQ.bytes];go_enter func43,ntmps43;go_upto_region 1 with fail;refine mr o ?_;rw[<-l];clear o l;go_upto_region 5 with fail;obtain⟨l,o,U⟩:=bh (show Bx (n.alloc (az #[J E 0,af S 0 0] 121)) n.heap.size 121 #[J E 0,af S 0 0] from Bx.new _ _ _) (show bD n (n.alloc (az #[J E 0,af S 0 0] 121)) from jd) (show i<n.heap.size/\h.heap.size<=n.heap.size from⟨s.o.lt,t.o.size⟩);let ⟨V,W⟩:=aX n.heap.size;have Y:=aH W;rw[<-W] at l U ⊢;clear W;generalize n.alloc (az #[J E 0,af S 0 0] 121)=W at*
 have a0:=aH (s.o.ext o.o);have a1:=a0.o.cell 0 r.o.k0;simp only[eQ.kind] at a1;go_wp2_with (refine lS 26 30 i 1 a0.o H.o.2 (yD r.o.k) ?_);refine(Q9 g H.o.1 W (v.o.ext (t.o.trans o.o))).mono ?_;rintro a2 a3 ⟨a4,a5,a6,rfl,a7,a8,a9⟩;let ⟨aa,ab⟩:=di a8 a0 l;obtain⟨ac,ad⟩:=aQ a7 (show bD n a3 from o.o.trans a8);have ae:=aa.o.cell 0 r.o.k0;simp only[eQ.kind] at ae;go_upto_region 14 with(refine mH rfl (aI 4) (aI 33) rfl V rfl rfl ab.o ?_);obtain⟨ag,ah,ai,aj,al⟩:=dZ (show Bx (a3.setRow V #[J E 179,af a4 a5 a6]) V 121 #[J E 179,af a4 a5 a6] from ab.o.row _) (show Bx (a3.setRow V #[J E 179,af a4 a5 a6]) i 99 a from aa.o.m (dU U.o)) (show du (fun _=>True) (a3.setRow V #[J E 179,af a4 a5 a6]) a4 a5 (kX (Od g++[aB])) from(ac.o.row (fun am ap=>by have:=l.o.lt;omega) _).NN fun _ _=>trivial) (show bD h (a3.setRow V #[J E 179,af a4 a5 a6]) from aO (t.o.trans ad.o) U.o.2) (show bj V n (a3.setRow V #[J E 179,af a4 a5 a6]) from aO (eZ Y.o ad.o) (aw _));generalize a3.setRow V #[J E 179,af a4 a5 a6]=l at*
 have a:=ah.o.cell 0 r.o.k0;simp only[eQ.kind] at a;have a:=ag.o.cell 0 rfl;have a:=ag.o.cell 1 rfl;obtain⟨a,b⟩:=aQ (xu (fun _=>True) l 179 a4 a5 a6 (kX (Od g++[aB])) dD dD ai.o (AJ _) (by have:=ai.o.1;have:=lJ (Od g) 1171 (IC g);omega)) (show h.heap.size<=l.heap.size from aj.o.size);go_wp2_with fail;refine a.o.mono ?_;rintro a c ⟨d,rfl,e,f⟩;let ⟨a,c⟩:=aQ e f;have d:=mX f ah;have e:=d.o.cell 0 r.o.k0;simp only[eQ.kind] at e;go_wp2;go_ret2;exact⟨_,rfl,a.o.mono b.o,aj.o.trans c.o⟩
def MM(g:Bool)(h:Nat)(a:Array aq)(b:Int)(i:T)(c:Pg i a (.G7 g h) b)(d:0<=b)(e:b<=1048576)(f:fD i):aT aE 43 #[aG a] i (LS i (eQ.bytes (.G7 g h))):=by
 let ⟨l,n⟩:=aX i.heap.size;let ⟨o,p⟩:=aX (i.alloc (az a 99));have q:Bx o l 99 a:=by rw[p];exact Bx.D _ _ _ _ n
 have r:=Gl p;let ⟨s,t,u,v,w⟩:=dZ c q r n f;have x:=q.cell 0 c.k0;have y:=q.cell 147 c.kp;have z:decide (b<0)=av:=decide_eq_false O;have H:decide (1048576<b)=av:=decide_eq_false O;simp only[eQ.kind] at x;have U:=aH (c.G7 g h rfl);simp only[eQ.bytes];go_enter func43,ntmps43;go_upto_region 1 with fail;refine mr p ?_;rw[<-n];clear p n;go_upto_region 5 with fail;obtain⟨n,p,V⟩:=bh (show Bx (o.alloc (az #[J E 0,af S 0 0] 121)) o.heap.size 121 #[J E 0,af S 0 0] from Bx.new _ _ _) (show bD o (o.alloc (az #[J E 0,af S 0 0] 121)) from jd) (show l<o.heap.size/\i.heap.size<=o.heap.size from⟨t.o.lt,u.o.size⟩);let ⟨W,Y⟩:=aX o.heap.size;have a0:=aH Y;rw[<-Y] at n V ⊢;clear Y;generalize o.alloc (az #[J E 0,af S 0 0] 121)=Y at*
 have a1:=aH (t.o.ext p.o);have a2:=a1.o.cell 0 s.o.k0;simp only[eQ.kind] at a2;go_wp2_with (refine bA dW 91 (aI 38) rfl l 136 3 rfl _ _ _ _ a1.o U.o.2 (yD s.o.k) rfl underlying91 Rj ?_);refine(KA g av h U.o.1 Y).mono ?_;rintro a3 a4 ⟨a5,a6,a7,rfl,a8,a9,aa⟩;let ⟨ab,ac⟩:=di a9 a1 n;obtain⟨ad,ae⟩:=aQ a8 (show bD o a4 from p.o.trans a9);have ag:=ab.o.cell 0 s.o.k0;simp only[eQ.kind] at ag;go_upto_region 14 with(refine mH rfl (aI 4) (aI 41) rfl W rfl rfl ac.o ?_);obtain⟨ah,ai,aj,al,am⟩:=dZ (show Bx (a4.setRow W #[J E 184,af a5 a6 a7]) W 121 #[J E 184,af a5 a6 a7] from ac.o.row _) (show Bx (a4.setRow W #[J E 184,af a5 a6 a7]) l 99 a from ab.o.m (dU V.o)) (show du (fun _=>True) (a4.setRow W #[J E 184,af a5 a6 a7]) a5 a6 (kX (OK g av h++[aB])) from(ad.o.row (fun ap ar=>by have:=n.o.lt;omega) _).NN fun _ _=>trivial) (show bD i (a4.setRow W #[J E 184,af a5 a6 a7]) from aO (u.o.trans ae.o) V.o.2) (show bj W o (a4.setRow W #[J E 184,af a5 a6 a7]) from aO (eZ a0.o ae.o) (aw _));generalize a4.setRow W #[J E 184,af a5 a6 a7]=n at*
 have a:=ai.o.cell 0 s.o.k0;simp only[eQ.kind] at a;have a:=ah.o.cell 0 rfl;have a:=ah.o.cell 1 rfl;obtain⟨a,b⟩:=aQ (xu (fun _=>True) n 184 a5 a6 a7 (kX (OK g av h++[aB])) dD dD aj.o (AJ _) (by have:=aj.o.1;have:=lJ (OK g av h) 26 (Jj g av h);omega)) (show i.heap.size<=n.heap.size from al.o.size);go_wp2_with fail;refine a.o.mono ?_;rintro a c ⟨d,rfl,e,f⟩;let ⟨a,c⟩:=aQ e f;have d:=mX f ai;have e:=d.o.cell 0 s.o.k0;simp only[eQ.kind] at e;go_wp2;go_ret2;exact⟨_,rfl,a.o.mono b.o,al.o.trans c.o⟩
def ML(h:Pc)(i:List (Int×List Int))(a:Array aq)(b:Int)(g:T)(c:Pg g a (.qh h i) b)(d:0<=b)(e:b<=1048576)(f:fD g):aT aE 43 #[aG a] g (LS g (eQ.bytes (.qh h i))):=by
 let ⟨l,n⟩:=aX g.heap.size;let ⟨o,p⟩:=aX (g.alloc (az a 99));have q:Bx o l 99 a:=by rw[p];exact Bx.D _ _ _ _ n
 have r:=Gl p;let ⟨s,t,u,v,w⟩:=dZ c q r n f;have x:=q.cell 0 c.k0;have y:=q.cell 147 c.kp;have z:decide (b<0)=av:=decide_eq_false O;have H:decide (1048576<b)=av:=decide_eq_false O;simp only[eQ.kind] at x;have U:=c.qh h i rfl;let ⟨V,W,Y,a0,a1,a2⟩:=U;obtain⟨a3,a4,a5,a6,a7⟩:=dZ V Y (a0.ext r) a1 a2
 have a8:=aH (show a.extract 139 (139+6)=h.cells by
  have:=Jt (j:=0) (k:=6) Y dD (yD c.k);rw[Ck] at this;rw[this];rfl)
 let ⟨a9,aa⟩:=aX (eQ.bytes (.qh h i));rw[<-aa];have ab:=aH aa;clear aa;go_enter func43,ntmps43;go_upto_region 1 with fail;refine mr p ?_;rw[<-n];clear p n;go_upto_region 5 with fail;obtain⟨n,p,aa⟩:=bh (show Bx (o.alloc (az #[J E 0,af S 0 0] 121)) o.heap.size 121 #[J E 0,af S 0 0] from Bx.new _ _ _) (show bD o (o.alloc (az #[J E 0,af S 0 0] 121)) from jd) (show l<o.heap.size/\g.heap.size<=o.heap.size from⟨t.o.lt,u.o.size⟩);let ⟨ac,ad⟩:=aX o.heap.size;have ae:=aH ad;rw[<-ad] at n aa ⊢;clear ad;generalize o.alloc (az #[J E 0,af S 0 0] 121)=ad at*
 have ag:=aH (t.o.ext p.o);have ah:=ag.o.cell 0 s.o.k0;simp only[eQ.kind] at ah;have ai:=aH (GH h a3.o ad);rw[show h.v=aG h.cells from rfl] at ai;go_wp2_with (refine lS 93 47 l 139 ag.o a8.o (yD s.o.k) ?_);refine(ai.o).mono ?_;rintro aj al ⟨am,ap,ar,rfl,ax,ay,aV⟩;let ⟨b0,b1⟩:=di ay ag n;obtain⟨b2,b3⟩:=aQ ax (show bD o al from p.o.trans ay);have b4:=b0.o.cell 0 s.o.k0;simp only[eQ.kind] at b4;go_upto_region 14 with(refine mH rfl (aI 4) (aI 50) rfl ac rfl rfl b1.o ?_);obtain⟨b5,b6,b7,b8,b9⟩:=dZ (show Bx (al.setRow ac #[J E 181,af am ap ar]) ac 121 #[J E 181,af am ap ar] from b1.o.row _) (show Bx (al.setRow ac #[J E 181,af am ap ar]) l 99 a from b0.o.m (dU aa.o)) (show du (fun _=>True) (al.setRow ac #[J E 181,af am ap ar]) am ap (kX (DO h++DN h 3++[aB])) from(b2.o.row (fun ba bb=>by have:=n.o.lt;omega) _).NN fun _ _=>trivial) (show bD g (al.setRow ac #[J E 181,af am ap ar]) from aO (u.o.trans b3.o) aa.o.2) (show bj ac o (al.setRow ac #[J E 181,af am ap ar]) from aO (eZ ae.o b3.o) (aw _));generalize al.setRow ac #[J E 181,af am ap ar]=n at*
 have a:=b6.o.cell 0 s.o.k0;simp only[eQ.kind] at a;have a:=b5.o.cell 0 rfl;have a:=b5.o.cell 1 rfl;obtain⟨a,b⟩:=aQ (xu (fun _=>True) n 181 am ap ar (kX (DO h++DN h 3++[aB])) dD dD b7.o (AJ _) (by have:=b7.o.1;have:=lJ (DO h++DN h 3) 100 (J0 h);omega)) (show g.heap.size<=n.heap.size from b8.o.size);go_wp2_with fail;refine a.o.mono ?_;rintro a c ⟨d,rfl,e,f⟩;let ⟨a,g⟩:=aQ e f;have e:=mX f b6;have f:=e.o.cell 0 s.o.k0;simp only[eQ.kind] at f
 have f:=aH (Bz n c n.heap.size rfl g.o d _ a.o (by
  have a:=q8 181 (kX (DO h++DN h 3++[aB]));have a:=(oQ (kX (DO h++DN h 3++[aB]))).2;have a:=lJ (DO h++DN h 3) 100 (J0 h);omega) h W i (a5.o.ext (Jh ae.o b9.o)) a6.o a7.o)
 go_wp2_with (refine lS 97 70 l 139 e.o a4.o (yD s.o.k) ?_);refine f.o.mono ?_;rintro a c ⟨d,rfl,e,f⟩;let ⟨a,c⟩:=aQ e f;go_wp2;go_ret2;exact⟨_,rfl,by rw[ab.o];exact a.o.mono b.o,b8.o.trans c.o⟩
def Ai(a:eQ)(b:Array aq)(c:Int)(d:T)(e:Pg d b a c)(f:0<=c)(g:c<=1048576)(h:fD d):aT aE 43 #[aG b] d (LS d a.bytes):=by
 cases a with
 |seq a=>exact MK a b c d e f g h
 |G7 a i=>exact MM a i b c d e f g h
 |qh a i=>exact ML a i b c d e f g h
def DV(a:eQ)(b:∀c d,a=.qh c d->d.length<=4/\∀e∈d,UT e):a.bytes.length<=160100:=by
 cases a with
 |seq a=>
  have c:=q8 179 (kX (Od a++[aB]));have c:=(oQ (kX (Od a++[aB]))).2;have c:=lJ (Od a) 1171 (IC a);simp only[eQ.bytes];omega
 |G7 a c=>
  have d:=q8 184 (kX (OK a av c++[aB]));have d:=(oQ (kX (OK a av c++[aB]))).2;have d:=lJ (OK a av c) 26 (Jj a av c);simp only[eQ.bytes];omega
 |qh a c=>
  let ⟨d,e⟩:=b a c rfl;have b:=q8 181 (kX (DO a++DN a 3++[aB]));have b:=(oQ (kX (DO a++DN a 3++[aB]))).2;have b:=lJ (DO a++DN a 3) 100 (J0 a);have a:=Hi e d c.length;rw[u7q] at a;simp only[eQ.bytes,aJ];omega
def Wk(h:eQ)(b:Array aq)(g:Int)(a:T)(c:Pg a b h g)(d:0<=g)(e:g<=1048576)(f:fD a):aT aE 32 #[aG b] a (fh a (fE #[J E ((h.bytes.length:Int)+g),J E 0])):=by
 let ⟨i,l⟩:=aX a.heap.size;let ⟨n,o⟩:=aX (a.alloc (az b 99));have a:Bx n i 99 b:=by rw[o];exact Bx.D _ _ _ _ l
 have p:=GL o;obtain⟨q,r,s,t⟩:=dq a c (Ai h b g n (c.ext p.o) d e (f.ext p.o)) (DV h (fun u v w=>by obtain⟨_,_,_,_,x,y⟩:=c.qh u v w;exact⟨x,y⟩));have a:E.wrap ((h.bytes.length:Int)+g)=(h.bytes.length:Int)+g:=an _ (dU t.o);go_enter func32,ntmps32;go_upto_region 1 with fail;refine mr o ?_;rw[<-l];clear o l;go_wp2_with (refine lA 99 1 i q.o r.o.k ?_);refine s.o.mono ?_;rintro a b ⟨c,rfl,d,e⟩;have a:=aH e;have b:=(q.o.ext e).cell 147 r.o.kp
 obtain⟨b,e,rfl⟩:∃f g,c=af f h.bytes.length g:=by
  rcases d.2 with⟨rfl,b⟩|⟨c,e,f,rfl,_⟩
  ·exact⟨S,0,by rw[b]⟩
  ·exact⟨_,e,rfl⟩
 go_wp2;go_ret2;exact⟨rfl,p.o.trans a.o⟩
def SH{P}(e f g a i b)(o:P.underlying f=M (.slice a))(p:P.underlying i=M (.int b))(l:(P.info? a).map (fun i=>(i.zero,i.size,i.bytes))=M (M (J .u8 0),1,1)){c h d}(n:jX e c a h d):
  (fW #[f,i] g #[h,J E 0]).run P e=.ok h e:=by
 let ⟨a,b,_,_,_⟩:=info_parts l;have a:E.wrap 0=0:=rfl;rcases n.2 with⟨rfl,c⟩|⟨d,e,f,rfl,_,_,g,_⟩
 ·simp[fW,fI o,fI p,sizeOf,typeInfo,b,asInt,asIntOf,a]
 ·simp[fW,fI o,fI p,sizeOf,typeInfo,b,asInt,asIntOf,a,g,storeCells]
def Cy{o p a b q c d}(n:q.guard=S)(e f r i)
  (y:q.op=.call {callee:=.builtin .append,args:=#[e,f],argTypes:=#[r,i]})(s t)(u:o.underlying r=M (.slice s))(v:o.underlying i=M (.int t))(w:(o.info? s).map (fun i=>(i.zero,i.size,i.bytes))=M (M (J .u8 0),1,1))
  {g h l}(z:c.eval e=h)(H:c.eval f=J E 0)(x:jX p g s h l)(U:cG o a d b (c.put q.dst h) p):cG o a d (q::b) c p:=by
 refine wpList_plain n fun a b=>?_
 have a:=SH (P:=o) p r q.type s i t u v w x;unfold Oper.wp VI;simp only[y,resolve,invoke,builtin,fT,iT,dv,qR,sH,Bh,z,H,a];exact b _ _ U
def Sw{a}(b:∀c∈a,UT c):∀d∈Aj a,0<=d/\d<=255:=by
 intro a c;unfold Aj at c;let ⟨d,e,f⟩:=List.mem_flatMap.1 c;have:=b d e;exact wW this.t1 (dU this.t2) this.yH a f
def Xo(a:eQ)(b:∀c d,a=.qh c d->∀e∈d,UT e):∀f∈a.bytes,0<=f/\f<=255:=by
 cases a with
 |seq a=>exact wW dD dD (uC _)
 |G7 a c=>exact wW dD dD (uC _)
 |qh a c=>
  intro d e;simp only[eQ.bytes,dG] at e;rcases e with f|f
  ·exact wW dD dD (uC _) d f
  ·exact Sw (b a c rfl) d f
def FP(a:T)(b c:Nat)(d:List (eQ×Int)):Prop:=
 ∃e:List (Array aq),mE a b c 148 e/\e.length=d.length/\∀(f:Nat)(g:eQ×Int)(h:Array aq),d[f]?=M g->e[f]?=M h->Pg a h g.1 g.2
def FP.ext{a b c d e}(f:FP a c d e)(g:bD a b):FP b c d e:=by
 let ⟨a,b,c,d⟩:=f;exact⟨a,b.ext g,c,fun e f h i l=>(d e f h i l).ext g⟩
instance {w w' x1 x2 x3}:Tr w w' (FP w x1 x2 x3) (FP w' x1 x2 x3):=⟨fun hb h=>FP.ext h hb⟩
def FP.at{a b c d}(e:FP a b c d){f i}(g:d[f]?=M i):∃h,Pg a h i.1 i.2/\a.cell? ⟨b,c+148*f,S⟩=M (J E i.1.kind)/\a.cell? ⟨b,c+148*f+147,S⟩=M (J E i.2)/\∃l,mE a b c 148 l/\l[f]?=M h:=by
 let ⟨a,b,c,d⟩:=e;have c:=(aP.1 g).1;have c:a[f]?=M (a[f]'O):=aA _;have e:=d f i _ g c;exact⟨_,e,b.cell c e.k0 _ O,b.cell c e.kp _ O,a,b,c⟩
def szF(a:List (eQ×Int))(b:Nat):Nat:=((a.take b).map (fun c=>c.1.bytes.length)).sum
def pcF(a:List (eQ×Int))(b:Nat):Nat:=((a.take b).map (fun c=>if c.1.kind=3 then 1 else 0)).sum
def Sl{a b i}(c:a[b]?=M i):szF a (b+1)=szF a b+i.1.bytes.length:=by
 unfold szF;rw[qi,c];simp
def SX{a b i}(c:a[b]?=M i):pcF a (b+1)=pcF a b+if i.1.kind=3 then 1 else 0:=by
 unfold pcF;rw[qi,c];simp
def Aa7(a):∀b,szF a b<=szF a a.length:=by
 intro b;unfold szF;rw[u7q];have:=kS b a
 conv=>rhs;rw[<-this]
 rw[fY,VJ];omega
def Aap(a):∀b,pcF a b<=a.length:=by
 intro b
 have:∀c:List (eQ×Int),(c.map (fun d=>if d.1.kind=3 then 1 else 0)).sum<=c.length:=by
  intro c
  induction c with
  |nil=>simp
  |cons c d e=>simp only[sH,List.sum_cons,eu];split<;> omega
 have c:=this (a.take b);rw[dE] at c;unfold pcF;omega
def FmW(a:List (eQ×Int))(b:Nat)(c:T)(d e f g:aq)(wr:T):Prop:=
 ∃(h:Nat)(i:List Int),h<=a.length/\g=J E h/\f=J E (szF a h:Nat)/\e=J E (pcF a h:Nat)/\jX wr b 5 d i/\i.length=szF a h/\bj b c wr
def Qa(n:List (eQ×Int))(g:T)(h l a:Nat)(b:FP g h l n)(c:∀i∈n,i.2=0)(d:szF n n.length<=1048576)(e:n.length<=256)(f:fD g):
  aT aE 14 #[af (M ⟨h,l,S⟩) n.length a] g fun o p=>∃q,o=aK (fE #[q,J E 0])/\bD g p:=by
 obtain⟨o,p,q,r,s,t⟩:=ej b c (fun u=>aY (Aa7 n u) d) (fun v=>aY (Aap n v) e) e f;go_enter func14,ntmps14;go_wp2_with fail
 go_loopw [4,5,6,12] (fun u v w x wr=>FmW n g.heap.size g u v w x wr) (fun _ _ _ y _=>n.length-(intOf y).toNat)
 case atStart=>exact⟨0,[],by omega,rfl,by simp[szF],by simp[pcF],jX.nil,by simp[szF],aM _ _⟩
 case round=>
  obtain⟨u,v,w,rfl,rfl,rfl,x,y,z⟩:=hrel;let ⟨H,U,V⟩:=bh x y z
  by_cases W:u<n.length
  ·have Y:n[u]?=M n[u]:=aA W
   generalize n[u]=a0 at*
   have a:=aH Y;let ⟨b,c,d,e,f,w,x⟩:=(o.o.ext z).at Y;have f:=p.o a0 (bg Y);have p:=aH f;rw[f] at c e;let ⟨y,W⟩:=a0;dsimp only at c d e f;obtain⟨f,W,a0,a1,a2,a3⟩:=ej c d e w x (fun a4 a5 (a6:y=.qh a4 a5)=>by obtain⟨_,_,_,_,a7,a8⟩:=c.qh a4 a5 a6;exact bZ a7 a8);obtain⟨d,e,w,x,a0,a4⟩:=ej (DV y a3.o) (Sl Y) (SX Y) (q.o (u+1)) (r.o (u+1)) (Xo y fun a5 a6 a7=>(a3.o a5 a6 a7).2);let ⟨a3,a5⟩:=aX y.bytes;have a6:=aH (Ai y b 0 wr c O O (t.o.ext z));dsimp only at e w;rw[<-a5] at a6 d e a4;have b:E.wrap ((u:Int)+1)=((u+1:Nat):Int):=by rw[show((u+1:Nat):Int)=(u:Int)+1 by omega];exact an _ (dU s.o)
   have b:E.wrap ((szF n u:Int)+(a3.length:Int))=((szF n (u+1):Nat):Int):=by rw[e.o,Kf];exact an _ (gC x.o e.o)
   have b:E.wrap ((a3.length:Int))=(a3.length:Int):=an _ (dU d.o);have b:decide ((szF n (u+1):Int)<=1048576)=aB:=decide_eq_true (dU x.o);let ⟨b,c⟩:=aX y.kind;rw[<-c] at W w;have d:=aH c;clear Y a5 c;go_upto_region 9 with refine xq dW 99 (aI 18) rfl h l _ 148 u O rfl a1.o a2.o rfl underlying99 FM ?_;refine a6.o.mono ?_;rintro c s ⟨t,rfl,y,z⟩;obtain⟨c,t,rfl,W⟩:=y.ret (p:=fun _=>True) (fun _ _=>trivial) a4.o;have y:=aH W;have W:=mX z H;have H:=aH (show bj g.heap.size g s from V.o.trans (z.mono V.o.size));have s:=a1.o.ext z;have z:=s.cell a2.o f.o.k0 (l+u*148) O;have Y:=s.cell a2.o f.o.kp (l+u*148+147) O;rw[<-d.o] at z
   by_cases d:b=3
   ·have f:(b==3)=aB:=by simpa using d
    have f:E.wrap ((pcF n u:Int)+1)=((pcF n (u+1):Nat):Int):=by rw[w.o,if_pos d,Kf];exact an _ (by have:=a0.o;have:=w.o;rw[if_pos d] at this;omega)
    go_upto_region 14 with(first|(at_builtin;go_must (refine jw _ rfl (aI 46) (aI 47) 54 rfl 5 dw nL g.heap.size _ v rfl W.o c _ t a3 rfl y.o (uL U.o e.o x.o) H.o.size ?_;intro f w5 ho5 hg5 _)));obtain⟨f,s⟩:=aQ ho5 (show bj g.heap.size g w5 from H.o.grown hg5 H.o.size (fun z Y=>(W.o.lt z Y).1));have z:=aH (show FP w5 h l n from o.o.ext s.o);let ⟨_,_,_,Y,_⟩:=z.o.at a.o;rw[p.o,show l+148*u=l+u*148 by omega] at Y;go_wp2_with (first|(at_builtin;go_must (refine Cy rfl (aI 49) (aI 54) 54 3 rfl 5 E dw bJ nL rfl rfl f.o ?_)));refine⟨⟨u+1,_,by omega,by go_num,rfl,rfl,f.o,by rw[aJ,U.o,e.o],s.o⟩,by simp[intOf];omega⟩
   ·have f:(b==3)=av:=by simpa using d
    have b:=aH (show pcF n (u+1)=pcF n u by rw[w.o,if_neg d];rfl);go_upto_region 14 with(first|(at_builtin;go_must (refine jw _ rfl (aI 46) (aI 47) 54 rfl 5 dw nL g.heap.size _ v rfl W.o c _ t a3 rfl y.o (uL U.o e.o x.o) H.o.size ?_;intro d w5 ho5 hg5 _)));obtain⟨c,d⟩:=aQ ho5 (show bj g.heap.size g w5 from H.o.grown hg5 H.o.size (fun f s=>(W.o.lt f s).1));have f:=aH (show FP w5 h l n from o.o.ext d.o);let ⟨_,_,_,g,_⟩:=f.o.at a.o;rw[p.o,show l+148*u=l+u*148 by omega] at g;go_wp2_with (first|(at_builtin;go_must (refine Cy rfl (aI 49) (aI 54) 54 3 rfl 5 E dw bJ nL rfl rfl c.o ?_)));refine⟨⟨u+1,_,by omega,by go_num,rfl,by rw[b.o],c.o,by rw[aJ,U.o,e.o],d.o⟩,by simp[intOf];omega⟩
  ·have a:u=n.length:=O
   have b:decide ((u:Int)<(n.length:Int))=av:=decide_eq_false O;have b:decide (256<(pcF n u:Int))=av:=decide_eq_false (dU (r.o u));have b:decide (1048576<(szF n u:Int))=av:=decide_eq_false (dU (q.o u));clear a;go_wp2;go_ret2;exact⟨_,rfl,V.o⟩
section
structure Mk where
 s:Sq
 fl:Bool
 alt:Bool
 top:Bool
 q:Int
 fr:aq
 ty:aq
 it:aq
 re:aq
 Ru:FV
 new:FV
 first:Int
def Mk.tail(m:Mk):List aq:=[ao m.fl,ao m.alt,ao m.top,J E m.q,m.fr,m.ty,m.it,m.re,J E m.Ru.W,J E m.Ru.H,af m.Ru.ya m.Ru.yn m.Ru.yc,af m.Ru.ua m.Ru.un m.Ru.uc,af m.Ru.va m.Ru.vn m.Ru.vc,J E m.new.W,J E m.new.H,af m.new.ya m.new.yn m.new.yc,af m.new.ua m.new.un m.new.uc,af m.new.va m.new.vn m.new.vc,J E m.first]
def Mk.cells(m:Mk):Array aq:=(m.s.cells.toList++m.tail).toArray
structure jY(w:T)(g:Nat)(m:Mk):Prop where
 j:Bx w g 153 m.cells
 ok:jV m.s
section
variable {w w':T} {g:Nat} {m:Mk}
def Mk.xj(m:Mk):m.tail.length=19:=rfl
def Mk.jQ(a:jV m.s):m.s.cells.toList.length=135:=by rw[cj];exact jB a
def Mk.size(a:jV m.s):m.cells.size=154:=by rw[Mk.cells,List.size_toArray,aJ,Mk.jQ a,Mk.xj]
def jY.ext(a:jY w g m)(b:bD w w'):jY w' g m:=⟨a.j.ext b,a.ok⟩
instance {w w' x1 x2}:Tr w w' (jY w x1 x2) (jY w' x1 x2):=⟨fun hb h=>jY.ext h hb⟩
def jY.t(a:jY w g m)(b){v}(c:m.tail[b]?=M v):w.cell? ⟨g,135+b,S⟩=M v:=by
 refine a.j.cell _ ?_;rw[Mk.cells,bw,aU (iJ (Mk.jQ a.ok)),Mk.jQ a.ok,show 135+b-135=b by omega];exact c
def jY.te(c:jY w g m)(d e a)(f:(m.tail.drop d).take e=a.toList)(b:d+e<=19):∃h i,Bx w g h i/\i.extract (135+d) (135+d+e)=a/\135+d+e<=i.size:=by
 refine⟨_,_,c.j,?_,by rw[Mk.size c.ok];omega⟩;rw[Mk.cells,List.extract_toArray,List.extract_eq_take_drop,show 135+d=m.s.cells.toList.length+d by rw[Mk.jQ c.ok],List.drop_length_add_append,show m.s.cells.toList.length+d+e-(m.s.cells.toList.length+d)=e by omega,f]
def jY.seq(a:jY w g m):∃b c,Bx w g b c/\c.extract 0 (0+135)=m.s.cells/\0+135<=c.size:=by
 refine⟨_,_,a.j,?_,by rw[Mk.size a.ok];omega⟩;have:=jv [] m.s.cells.toList m.tail 0 135 rfl (Mk.jQ a.ok);rw[oT] at this;exact this
def Mk.YL(c:jV m.s)(d a){b:Mk}(e:b.s=m.s)(f:m.tail.set d a=b.tail):m.cells.setIfInBounds (135+d) a=b.cells:=by
 unfold Mk.cells;rw[iU,jT _ _ (iJ (Mk.jQ c)),Mk.jQ c,show 135+d-135=d by omega,f,e]
def Mk.YK(c:jV m.s)(d e){a:Mk}(f:a.s=m.s)(b:d+5<=19)(g:m.tail.take d++FV.l e++m.tail.drop (d+5)=a.tail):jH m.cells (135+d) (au e)=a.cells:=by
 have a:m.cells=((m.s.cells.toList++m.tail.take d)++(m.tail.drop d).take 5++m.tail.drop (d+5)).toArray:=by
  unfold Mk.cells;rw[aW,aW,show m.tail.drop (d+5)=(m.tail.drop d).drop 5 by rw[gK],kS,kS]
 have b:((m.tail.drop d).take 5).length=5:=by rw[dE,List.length_drop,Mk.xj];omega
 have:=Af (m.s.cells.toList++m.tail.take d) ((m.tail.drop d).take 5) (m.tail.drop (d+5)) (135+d) 0 (au e) (by rw[aJ,Mk.jQ c,dE,Mk.xj];omega) (by rw[b];show 0+5<=5;decide);rw[a,show 135+d=135+d+0 from rfl,this];have a:((m.tail.drop d).take 5).drop (0+(au e).size)=[]:=fU (eZ b (aw 5));rw[a,dP,List.nil_append,List.append_nil];unfold Mk.cells;rw[<-g,f];simp only[aW];rfl
end
structure zL(b:Nat->Prop)(w:T)(c:Array aq)(d:eQ)(a:Int):Prop where
 k:c.size=148
 k0:c[0]?=M (J E d.kind)
 kp:c[147]?=M (J E a)
 one:c.all (·.oneCell')=aB
 seq:∀a,d=.seq a->jV a/\c.extract 1 (1+135)=a.cells
 G7:∀a e,d=.G7 a e->e<16777216/\c.extract 136 (136+3)=#[ao a,ao av,J E e]
 qh:∀a e,d=.qh a e->YC a/\(∃(f g:Nat)(h:List (Array aq)),c.extract 139 (139+8)=a.cells++#[af S 0 0,af (M ⟨f,0,S⟩) e.length g]/\e.length<=g/\b f/\f<w.heap.size/\mE w f 0 2 h/\Mg b w e h)/\e.length<=4/\∀i∈e,UT i
def mE.K{w w' a b c d}(e:mE w a b c d)(f:w'.heap[a]?=w.heap[a]?):mE w' a b c d:=by
 let ⟨a,b,c,d⟩:=e;exact⟨a,b,c.K f,d⟩
def zL.K{a q w w' b c d}(f:zL a w b c d)(e:w.heap.size<=w'.heap.size)(g:∀i,a i->i<w.heap.size->w'.heap[i]?=w.heap[i]?)(h:∀l,l<w.heap.size->a l->q l):zL q w' b c d:=
 ⟨f.k,f.k0,f.kp,f.one,f.seq,f.G7,fun a b c=>by
  let ⟨d,⟨e,i,l,n,o,p,r,s,t⟩,u⟩:=f.qh a b c;exact⟨d,⟨e,i,l,n,o,h e r p,by omega,s.K (g e p r),t.K g h⟩,u⟩⟩
def zL.itc{a w b c d}(e:zL a w b c d):Pg w b c d:=
 ⟨e.k,e.k0,e.kp,e.one,e.seq,e.G7,fun a b c=>by
  let ⟨d,⟨f,g,h,i,l,n,o,p,q⟩,r⟩:=e.qh a b c;refine⟨d,_,i,⟨f,0,g,h,rfl,l,p,q.len,fun a b c e n=>?_⟩,r⟩;let ⟨d,f,g,h,i⟩:=q.un a b c e n;exact⟨d,f,g,h,i.mono fun _ _ _=>trivial⟩⟩
structure pI(w:T)(a:Nat)(b:aq)(c:List (eQ×Int))(d:List (Array aq)):Prop where
 ow:jW w a 99 148 b d
 len:d.length=c.length
 it:∀(e:Nat)(f:eQ×Int)(g:Array aq),c[e]?=M f->d[e]?=M g->zL (iC b a) w g f.1 f.2
def pI.nil(w a):pI w a (af S 0 0) [] []:=⟨jW.nil _ _ _ _,rfl,fun b c d e=>by simp at e⟩
def pI.ext{w w' a b c d}(e:pI w a b c d)(f:bD w w'):pI w' a b c d:=
 ⟨e.ow.ext f,e.len,fun a b c d g=>(e.it a b c d g).K f.size (fun h _ i=>f.block h i) (fun _ _ l=>l)⟩
instance {w w' x1 x2 x3 x4}:Tr w w' (pI w x1 x2 x3 x4) (pI w' x1 x2 x3 x4):=⟨fun hb h=>pI.ext h hb⟩
def pI.C{w w' a b c d e}(g:pI w a c d e)(h:fO w w' b S)(f:b<a):pI w' a c d e:=
 ⟨⟨ko g.ow.own fun a b c=>h.block a c (dU (g.ow.gQ b)) dS,g.ow.k⟩,g.len,fun d e f i l=>(g.it d e f i l).K h.size (fun n o p=>h.block n p (dU o.2) dS) (fun _ _ q=>q)⟩
def pI.snoc{w w' e f c l a}(h:pI w e f l a){i b}(n:zL (iC f e) w b i.1 i.2)(g:jW w' e 99 148 c (a++[b]))(o:w.grownBy w' f.ownBlock)(d:c.ownBlock=f.ownBlock\/c.ownBlock=M w.heap.size):pI w' e c (l++[i]) (a++[b]):=by
 have a:∀b,b<w.heap.size->iC f e b->iC c e b:=fun p q r=>⟨fun s=>by
  rcases d with b|b
  ·exact r.1 (D8 b s)
  ·rw[b] at s;injection s with c;omega,r.2⟩
 have b:∀c,iC f e c->c<w.heap.size->w'.heap[c]?=w.heap[c]?:=fun d p q=>o.block d q (fun r=>p.1 r.symm)
 refine⟨g,by simp[h.len],fun c d e f p=>?_⟩
 by_cases g:c<l.length
 ·rw[bo g] at f
  rw[bo (eZ h.len g)] at p;exact(h.it c d e f p).K o.size b a
 ·rw[aU O] at f
  rw[aU (iJ h.len),h.len] at p
  have d:c-l.length=0:=by
   have:=(aP.1 f).1;simp only[cW] at this;omega
  rw[d] at f p;simp only[fF,bq] at f p;subst f p;exact n.K o.size b a
def pI.itl{w a b c e}(f:pI w a b c e)(d:c≠[]):∃g h,b=af (M ⟨g,0,S⟩) c.length h/\a<=g/\c.length<=h/\FP w g 0 c:=by
 let ⟨a,b,c,g,h,i⟩:=f.ow.rows (by intro l;apply d;have:=f.len;rw[l] at this;exact List.eq_nil_of_length_eq_zero this.symm);rw[f.len] at c h;exact⟨a,b,c,g,h,e,i,f.len,fun d l n o p=>(f.it d l n o p).itc⟩
end
section
section
variable {P:nt} {ops:Array cQ} {md:Region.Mode} {C:T->Prop} {kw:Nat}
variable {Q:Act->T->Prop} {w w0:T} {a:Act} {listed:Array Bool} {F:Nat} {D:T->Prop}
def mb3(b c i d)(hF:F=d+1)(e:(ops.toList.drop b).take 1=(ops[b]?).toList)(f:(ops.toList.drop c).take 1=(ops[c]?).toList)(g:(ops.toList.drop i).take 1=(ops[i]?).toList)(h:eO .any ops listed=[b,c,i])(l:listed.getD kw av=av->∀q,bD w q->D q)
  (n:∀q,bD w q->cG P ops (fun r s w'=>r=.normal/\gi P ops kw D w0 Q d (listed.setIfInBounds b aB) s w') ((ops.toList.drop b).take 1) a q)
  (o:∀q,bD w q->cG P ops (fun r s w'=>r=.normal/\gi P ops kw D w0 Q d (listed.setIfInBounds c aB) s w') ((ops.toList.drop c).take 1) a q)
  (p:∀q,bD w q->cG P ops (fun r s w'=>r=.normal/\gi P ops kw D w0 Q d (listed.setIfInBounds i aB) s w') ((ops.toList.drop i).take 1) a q):gi P ops kw D w0 Q F listed a w:=by
 subst hF;intro q r;replace s:=n q r;replace t:=o q r;replace u:=p q r;refine⟨fun v=>As (l v q r),fun x=>(by rw[h] at x;cases x),fun y z=>?_⟩;have x:y∈eO .any ops listed:=z;let ⟨_,H,U,_⟩:=mem_ready.1 x;rw[h] at z;simp only[oU,List.mem_nil_iff,or_false] at z;rcases z with rfl|rfl|rfl
 ·rw[e,U] at s;exact tI U s
 ·rw[f,U] at t;exact tI U t
 ·rw[g,U] at u;exact tI U u
end
def Q5{a:Prop}{b c d e:Type}(A:T->b->c->d->e->Prop)(f:T->b->c->d->e->Prop)(g:(∀w i l v n,A w i l v n->f w i l v n)->a)(h:∀w o p v q,A w o p v q->f w o p v q):a:=g h
def Mk.lh(a:Mk)(v:aq):Mk:={a with it:=v}
def jY.set{w a b m'}(c:jY w a b)(j v)(d:m'.s=b.s)(e:b.tail.set j v=m'.tail):jY (w.setCell ⟨a,135+j,S⟩ v) a m':=
 ⟨by rw[<-Mk.YL c.ok j v d e];exact c.j.L _ _,by rw[d];exact c.ok⟩
def jY.row{w a b c}(d:jY w a b)(e:c.s=b.s):jY (w.setRow a c.cells) a c:=⟨d.j.row _,by rw[e];exact d.ok⟩
def uP(B:Nat)(s:Sq)(hp:Pc)(sec:Bool)(q a b:Nat)(fs:Fr)(w:T)(v:aq)(x:FV):Prop:=∃(c:List (Array aq))(d:List (Int×List Int))(e:Fr),d.length=b/\jW w B 121 2 v c/\Mg (B<=·) w d c/\Vs s hp sec q a fs d/\Mi B w x e/\Dm a b e
section
variable {B:Nat} {s:Sq} {hp:Pc} {sec:Bool} {q a b:Nat} {fs:Fr} {w w':T} {v:aq} {x:FV}
def uP.ext(c:uP B s hp sec q a b fs w v x)(d:bD w w'):uP B s hp sec q a b fs w' v x:=by
 let ⟨e,f,g,h,i,l,n,o,p⟩:=c;exact⟨e,f,g,h,i.ext d,l.N (jU d),n,o.ext d,p⟩
instance {w w' x0 x1 x2 x3 x4 x5 x6 x7 x9 x10}:Tr w w' (uP x0 x1 x2 x3 x4 x5 x6 x7 w x9 x10) (uP x0 x1 x2 x3 x4 x5 x6 x7 w' x9 x10):=⟨fun hb h=>uP.ext h hb⟩
def uP.gQ(d:uP B s hp sec q a b fs w v x){c}(e:v.ownBlock=M c):c<w.heap.size:=by
 let ⟨c,f,g,h,i,_⟩:=d;exact(i.gQ e).2
def uP.val(c:uP B s hp sec q a b fs w v x):∃d e f,v=af d e f:=by
 let ⟨d,e,f,g,h,_⟩:=c;let ⟨c,d,e,_⟩:=h.len;exact⟨c,_,d,e⟩
def uP.row(e:uP B s hp sec q a b fs w v x){f c d}(g:Bx w f c d)(h:d.all oV=aB)(i:v.ownBlock≠M f)(l):uP B s hp sec q a b fs (w.setRow f l) v x:=by
 let ⟨c,d,n,o,p,r,t,u,y⟩:=e;exact⟨c,d,n,o,⟨ko p.own (fun e z _=>iD w f e l (fun H=>i (D8 H z))),p.k⟩,r.N (Ku.G4 g h l),t,u.row g h l,y⟩
end
def zSq:List aq:=[J E 0,J E 0,J E 0,J E 0,ao av,J E 0,J E 0]++aF 128 (J .u8 0)
def zq(hp:Pc)(v:aq):Array aq:=((J E 3::(zSq++[ao av,ao av,J E 0]))++(fR hp v).toList++[J E 0]).toArray
def WA(hp v w):(fk 99 #[(0,J E 3),(3,aG (fR hp v))]).run aE w=.ok (aG (zq hp v)) w:=dK
def Jb:(aE.info? 99).map (fun i=>(i.zero,i.size))=M (M (aG fJ),148):=dK
def AF:(aE.info? 99).map (fun i=>(i.zero,i.size,i.bytes))=M (M (aG fJ),148,296):=dK
def zIt:(aG fJ).cells.size=148:=dK
def BL(hp v):(zq hp v).size=148:=dK
def QH:(zSq++[ao av,ao av,J E 0]).all (·.oneCell')=aB:=dK
def Tz(hp){a b c}:(zq hp (af a b c)).all (·.oneCell')=aB:=by
 unfold zq;rw[O0,uU,uU,RH,QH];rfl
def Ab4(hp v):(zq hp v)[0]?=M (J E 3):=rfl
def TA(hp v):(zq hp v)[147]?=M (J E 0):=dK
def Ty(hp v):(zq hp v).extract 139 (139+8)=fR hp v:=dK
def Aeq(w:T)(c d:Nat)(e:Mk)(f:List (Array aq))(hp:Pc)(sec:Bool)(q a b:Nat)(fs:Fr)(g:Ending)(w':T):Prop:=
 ∃(x:FV)(h:Fr)(v:aq)(i:List (Int×List Int))(l:Array aq),g=aK (aG (au x))/\dF (fun n=>w.heap.size<=n/\v.ownBlock≠M n) w' x.val h/\eH x.val/\Dm a b h/\jY w' c (e.lh v)/\jW w' d 99 148 v (f++[l])/\zL (fun o=>w.heap.size<=o/\v.ownBlock≠M o) w' l (.qh hp i) 0/\i.length=b/\Vs e.s hp sec q a fs i/\fO w w' c e.it.ownBlock/\(v.ownBlock=e.it.ownBlock\/∀p,v.ownBlock=M p->w.heap.size<=p)
def fO.grown{w a b c d}(f:bD w a)(g:a.grownBy b d)(e:∀h,d=M h->h<w.heap.size):fO w b c d:=
 ⟨g.os.trans f.os,g.tape.trans f.tape,g.output.trans f.output,aY f.size g.size,fun a b c d=>(g.block a (dX b f.size) (fun e=>d e.symm)).trans (f.block a b)⟩
def fO.Bb{w b c a}(d:fO w b c a)(e):fO w (b.setRow c e) c a:=
 ⟨d.os,d.tape,d.output,by rw[kB];exact d.size,fun a f g h=>(iD b c a e g).trans (d.block a f g h)⟩
def fO.join{w a b c d}(e:fO w a c S)(f:fO a b c d):fO w b c d:=
 ⟨f.os.trans e.os,f.tape.trans e.tape,f.output.trans e.output,aY e.size f.size,fun a b c d=>(f.block a (dX b e.size) c d).trans (e.block a b c dS)⟩
def zL.G{a w w' k c d e}(f:zL a w c d e)(g:fO w w' k S)(hp:∀b,a b->b≠k):zL a w' c d e:=f.K g.size (fun b h i=>g.block b i (hp b h) dS) (fun _ _ l=>l)
def zL.ext{a w w' c d e}(f:zL a w c d e)(g:bD w w'):zL a w' c d e:=f.K g.size (fun b _ h=>g.block b h) (fun _ _ i=>i)
instance {w w' x0 x2 x3 x4}:Tr w w' (zL x0 w x2 x3 x4) (zL x0 w' x2 x3 x4):=⟨fun hb h=>zL.ext h hb⟩
def jW.G{w w' a k b c v d}(e:jW w a b c v d)(f:fO w w' k S)(g:v.ownBlock≠M k):jW w' a b c v d:=⟨ko e.own (fun h i l=>f.block h l (fun n=>g (n▸i)) dS),e.k⟩
def dF.G{a w w' k v c}(d:dF a w v c)(e:fO w w' k S)(hp:∀b,a b->b≠k):dF a w' v c:=d.K fun b f g=>e.block b g (hp b f) dS
def pI.join{w g h a v e p b}(o:pI w h v p b)(n:fO w g a v.ownBlock)(c:a<h)(f:e.ownBlock=v.ownBlock\/∀r,e.ownBlock=M r->w.heap.size<=r){i d}(l:jW g h 99 148 e (b++[d]))(q:zL (iC e h) g d i.1 i.2):pI g h e (p++[i]) (b++[d]):=by
 have a:∀b,b<w.heap.size->iC v h b->iC e h b:=fun c d r=>⟨fun s=>by
  rcases f with b|b
  ·exact r.1 (D8 b s)
  ·have:=b c s;omega,r.2⟩
 have b:∀c,iC v h c->c<w.heap.size->g.heap[c]?=w.heap[c]?:=fun d e f=>n.block d f (dU e.2) e.1
 refine⟨l,by simp[o.len],fun c d e f g=>?_⟩
 by_cases h:c<p.length
 ·rw[bo h] at f
  rw[bo (eZ o.len h)] at g;exact(o.it c d e f g).K n.size b a
 ·rw[aU O] at f
  rw[aU (iJ o.len),o.len] at g
  have a:c-p.length=0:=by
   have:=(aP.1 f).1;simp only[cW] at this;omega
  rw[a] at f g;simp only[fF,bq] at f g;subst f g;exact q
def fO.G5{w d a k b}(e:fO w d a b)(c:w.heap.size<=k)(f):fO w (d.setRow k f) a b:=
 ⟨e.os,e.tape,e.output,by rw[kB];exact e.size,fun a b c g=>(iD d k a f O).trans (e.block a b c g)⟩
def zi(c d:Nat)(e:Mk)(f:List (eQ×Int))(g:List (Array aq))(hp:Pc)(h:YC hp)(sec:Bool)(q a b:Nat)(i:1<=b)(l:b<=4)(n o p r:FV)(fs:Fr)(w:T)(t:jY w c e)(u:c<d)(y:d<=w.heap.size)(z:pI w d e.it f g)(H:f.length<=100)
  (U:∀w',bD w w'->aT aE 172 #[aG e.s.cells,aG (gJ hp),ao sec,aG (au n),aG (cq o p r),J E e.q] w' (UU w' e.s hp sec q a b fs)):
  aT aE 116 #[aD (M ⟨c,0,S⟩),aG (gJ hp),ao sec,aG (au n),aG (cq o p r)] w (Aeq w c d e g hp sec q a b fs):=by
 obtain⟨V,W,Y,a0,a1⟩:=dZ t U z h (show 1<=b/\b<=4/\c<d/\d<=w.heap.size/\f.length<=100 from⟨i,l,u,y,H⟩);have a2:=aH t.j.lt;let ⟨a3,a4,a5,a6,a7,a8,a9,aa,ab,ac,ad,ae,ag⟩:=Dt w (gJ hp) 93 (au n) 63 (cq o p r) 158 (au aC) 63;have ah:=aH (show a3+a4.length=w.heap.size+4 by rw[a9.o,a6]);go_enter func116,ntmps116;go_upto_region 1 with fail
 try simp only[sZ,ak]
 refine mr a7 ?_
 try simp only[dA]
 rw[<-a6];clear a7 a6;have ai:=(V.o.ext (ab.o _ aa.o)).j.lt;apply Q5 (A:=fun aj kD kF x v=>Fm w a3 a4 aj/\jY aj c e/\bD w aj/\Bx aj kD 97 (fR hp v)/\Bx aj kF 63 (au x)/\(w.heap.size<=kD/\w.heap.size<=kF)/\uP (w.heap.size+4) e.s hp sec q a b fs aj v x)
 ·rintro(aj:fj _)
  refine aL 99 (fun al=>Fm w a3 a4 al/\jY al c e) rfl (fun w0 am=>?_);obtain⟨al,ap⟩:=aQ (show Fm w a3 a4 a5/\jY a5 c e from⟨aa.o,V.o.ext (ab.o _ aa.o)⟩) ((ab.o _ aa.o).trans am);have ar:=mX am al;refine gN 0 12 10 ?_;simp only[sZ,ak];iterate 3 (go_big_quiet_step (fail))
  refine lR al 26 17 c 0 135 e.s.cells (fun _ ax=>ax.2.seq) ik ew ?_;refine lR al 93 6 a3 0 6 (gJ hp) (fun _ ax=>qg (ac.o _ ax.1) rfl) zV ja ?_;simp only[sZ,ak];go_big_quiet_step (fail);refine lF al 8 (a3+1) n (fun _ ax=>ad.o _ ax.1) ?_;refine lR al 158 9 (a3+1+1) 0 15 (cq o p r) (fun _ ax=>qg (ae.o _ ax.1) rfl) Kg kK ?_;simp only[sZ,ak];iterate 3 (go_big_quiet_step (fail))
  refine lC al 3 25 c 138 (J E e.q) (fun _ ax=>ax.2.t 3 rfl) bJ ?_;refine aN ?_;refine mb3 12 17 18 9 rfl rfl rfl rfl dK (fun _ ax ay=>⟨ar.o.1.ext ay,ar.o.2.ext ay⟩) (fun aV b0=> ?Xq19) (fun b1 b2=> ?Xq20) (fun b3 b4=> ?Xq21)
  case' Xq19=>
   simp only[sZ,ak];let ⟨ax,ay⟩:=di b0 ar ap;go_wp2_with fail;refine(W.o aV ay.o).mono ?_;rintro b5 b6 ⟨v,b7,b8,x,b9,rfl,ba,bb,bc,bd,be,bf,bi⟩;have bk:w.heap.size+4<=aV.heap.size:=by have:=ax.o.1.k;have:=ah.o;omega
   have bl:=aH (show uP (w.heap.size+4) e.s hp sec q a b fs b6 v x from⟨b7,b8,b9,ba,⟨iX bb.own bk,bb.k⟩,bc.mono (fun _ bn=>aY bk bn),bd,⟨be.1.mono (fun _ _ br=>aY bk br),be.2⟩,bf⟩);let ⟨bn,br⟩:=di bi ax ay;go_wp2_with fail;refine gT 13 4 5 ?_;refine Md 17 18 4 bn (fun bs bt=> ?Xq13) fun bu bv=> ?Xq14
   case' Xq13=>
    simp only[sZ,ak];let ⟨bx,bz,bC⟩:=gO bt bn br bl;go_wp2_with fail;let ⟨kD,bK,bL,bR,bU,bV⟩:=mY bs (fR Hp (af S 0 0)) 97;have HKD:=aH (show a3+a4.length<=kD by rw[bL];exact bx.o.1.k);have bY:=aH (show v.ownBlock≠M kD from fun c0=>by have c1:=bC.o.gQ c0;omega);let ⟨c0,c1,c2⟩:=gO bU bx bz bC;refine tf bR ?_;rw[<-bL];clear bR bL;refine fK 18 3 c0 fun c3 c4=>?_
    simp only[sZ,ak];let ⟨c5,c6,c7,c8⟩:=nj c4 c0 c1 c2 bV;go_wp2_with fail;let ⟨kF,c9,ca,cb,cc,cd⟩:=mY c3 (au aC) 63;have HKF:=aH (show a3+a4.length<=kF by rw[ca];exact c5.o.1.k);obtain⟨ce,cf⟩:=aQ (show v.ownBlock≠M kF from fun cg=>by have ch:=c7.o.gQ cg;omega) (show kD≠kF by have ci:=c8.o.lt;omega);let ⟨cg,ch,ci,ck⟩:=nj cc c5 c6 c7 c8;refine tf cb ?_;rw[<-ca];clear cb ca;refine fK 19 2 cg fun cl cn=>?_
    simp only[sZ,ak];let ⟨co,cp,cr,cs,ct⟩:=tN cn cg ch ci ck cd;let ⟨cu,cv,cw,cx⟩:=cr.o.val;refine bm rfl 97 (aI 11) (aI 28) rfl kD (fR hp v) rfl rfl cs.o mu rfl (by rw[cx];simp[fR,cJ]) ?_;obtain⟨cy,cz,cA,cB,cC⟩:=dZ (show Fm w a3 a4 (cl.setRow kD (fR hp v))/\jY (cl.setRow kD (fR hp v)) c e from⟨co.o.1.C (k:=kD) HKD.o _,⟨co.o.2.j.m (uL HKD.o a2.o ah.o),co.o.2.ok⟩⟩) (show bD w (cl.setRow kD (fR hp v)) from aO cp.o (gC HKD.o ah.o)) (cr.o.row cs.o (oR _) bY.o (fR hp v)) (cs.o.row (fR hp v)) (ct.o.m (g':=kD) (cs':=fR hp v) (dU cf.o));refine mn ⟨rfl,fK 20 1 cy fun cE cF=>?_⟩;simp only[sZ,ak];let ⟨cI,cL,cN,cO,cR⟩:=tN cF cy cz cA cB cC;refine bI rfl (aI 12) (aI 29) rfl kF x rfl rfl cR.o rfl ?_;obtain⟨HSz,HEz,HRz,HFz,HDz⟩:=dZ (show Fm w a3 a4 (cE.setRow kF (au x))/\jY (cE.setRow kF (au x)) c e from⟨cI.o.1.C (k:=kF) HKF.o _,⟨cI.o.2.j.m (uL HKF.o a2.o ah.o),cI.o.2.ok⟩⟩) (show bD w (cE.setRow kF (au x)) from aO cL.o (gC HKF.o ah.o)) (cN.o.row cR.o (iq _) ce.o (au x)) (cR.o.row (au x)) (cO.o.m (g':=kF) (cs':=au x) (dU cf.o))
   case' Xq14=>
    simp only[sZ,ak];let ⟨bx,bz,bC⟩:=gO bv bn br bl;go_wp2_with fail;let ⟨kF,bK,bL,bR,bU,bV⟩:=mY bu (au aC) 63;have HKF:=aH (show a3+a4.length<=kF by rw[bL];exact bx.o.1.k);have bY:=aH (show v.ownBlock≠M kF from fun c0=>by have c1:=bC.o.gQ c0;omega);let ⟨c0,c1,c2⟩:=gO bU bx bz bC;refine tf bR ?_;rw[<-bL];clear bR bL;refine fK 17 3 c0 fun c3 c4=>?_
    simp only[sZ,ak];let ⟨c5,c6,c7,c8⟩:=nj c4 c0 c1 c2 bV;go_wp2_with fail;let ⟨kD,c9,ca,cb,cc,cd⟩:=mY c3 (fR Hp (af S 0 0)) 97;have HKD:=aH (show a3+a4.length<=kD by rw[ca];exact c5.o.1.k);obtain⟨ce,cf⟩:=aQ (show v.ownBlock≠M kD from fun cg=>by have ch:=c7.o.gQ cg;omega) (show kD≠kF by have ci:=c8.o.lt;omega);let ⟨cg,ch,ci,ck⟩:=nj cc c5 c6 c7 c8;refine tf cb ?_;rw[<-ca];clear cb ca;refine fK 19 2 cg fun cl cn=>?_
    simp only[sZ,ak];let ⟨co,cp,cr,cs,ct⟩:=tN cn cg ch ci ck cd;let ⟨cu,cv,cw,cx⟩:=cr.o.val;refine bm rfl 97 (aI 11) (aI 28) rfl kD (fR hp v) rfl rfl ct.o mu rfl (by rw[cx];simp[fR,cJ]) ?_;obtain⟨cy,cz,cA,cB,cC⟩:=dZ (show Fm w a3 a4 (cl.setRow kD (fR hp v))/\jY (cl.setRow kD (fR hp v)) c e from⟨co.o.1.C (k:=kD) HKD.o _,⟨co.o.2.j.m (uL HKD.o a2.o ah.o),co.o.2.ok⟩⟩) (show bD w (cl.setRow kD (fR hp v)) from aO cp.o (gC HKD.o ah.o)) (cr.o.row ct.o (oR _) ce.o (fR hp v)) (ct.o.row (fR hp v)) (cs.o.m (g':=kD) (cs':=fR hp v) (dU cf.o));refine mn ⟨rfl,fK 20 1 cy fun cE cF=>?_⟩;simp only[sZ,ak];let ⟨cI,cL,cN,cO,cR⟩:=tN cF cy cz cA cB cC;refine bI rfl (aI 12) (aI 29) rfl kF x rfl rfl cR.o rfl ?_;obtain⟨HSz,HEz,HRz,HFz,HDz⟩:=dZ (show Fm w a3 a4 (cE.setRow kF (au x))/\jY (cE.setRow kF (au x)) c e from⟨cI.o.1.C (k:=kF) HKF.o _,⟨cI.o.2.j.m (uL HKF.o a2.o ah.o),cI.o.2.ok⟩⟩) (show bD w (cE.setRow kF (au x)) from aO cL.o (gC HKF.o ah.o)) (cN.o.row cR.o (iq _) bY.o (au x)) (cR.o.row (au x)) (cO.o.m (g':=kF) (cs':=au x) (dU cf.o))
  case' Xq20=>
   simp only[sZ,ak];let ⟨ax,ay⟩:=di b2 ar ap;go_wp2_with fail;let ⟨kD,b5,b6,b7,b8,b9⟩:=mY b1 (fR Hp (af S 0 0)) 97;have HKD:=aH (show a3+a4.length<=kD by rw[b6];exact ax.o.1.k);let ⟨ba,bb⟩:=di b8 ax ay;refine tf b7 ?_;rw[<-b6];clear b7 b6;refine Md 12 18 8 ba (fun bc bd=> ?Xq15) fun be bf=> ?Xq16
   case' Xq15=>
    simp only[sZ,ak];let ⟨bi,bk,bl⟩:=gO bd ba bb b9;go_wp2_with fail;refine(W.o bc bk.o).mono ?_;rintro bn br ⟨v,bs,bt,x,bu,rfl,bv,bx,bz,bC,bK,bL,bR⟩;have bU:w.heap.size+4<=bc.heap.size:=by have:=bi.o.1.k;have:=ah.o;omega
    obtain⟨bV,bY⟩:=aQ (show uP (w.heap.size+4) e.s hp sec q a b fs br v x from⟨bs,bt,bu,bv,⟨iX bx.own bU,bx.k⟩,bz.mono (fun _ c0=>aY bU c0),bC,⟨bK.1.mono (fun _ _ c1=>aY bU c1),bK.2⟩,bL⟩) (show v.ownBlock≠M kD from fun c2=>by have c3:=(bx.gQ c2).1;have c4:=bl.o.lt;omega);let ⟨c0,c1,c2⟩:=gO bR bi bk bl;go_wp2_with fail;refine gT 13 4 4 ?_;refine fK 18 3 c0 fun c3 c4=>?_
    simp only[sZ,ak];let ⟨c5,c6,c7,c8⟩:=nj c4 c0 c1 c2 bV;go_wp2_with fail;let ⟨kF,c9,ca,cb,cc,cd⟩:=mY c3 (au aC) 63;have HKF:=aH (show a3+a4.length<=kF by rw[ca];exact c5.o.1.k);obtain⟨ce,cf⟩:=aQ (show v.ownBlock≠M kF from fun cg=>by have ch:=c8.o.gQ cg;omega) (show kD≠kF by have ci:=c7.o.lt;omega);let ⟨cg,ch,ci,ck⟩:=nj cc c5 c6 c7 c8;refine tf cb ?_;rw[<-ca];clear cb ca;refine fK 19 2 cg fun cl cn=>?_
    simp only[sZ,ak];let ⟨co,cp,cr,cs,ct⟩:=tN cn cg ch ci ck cd;let ⟨cu,cv,cw,cx⟩:=cs.o.val;refine bm rfl 97 (aI 11) (aI 28) rfl kD (fR hp v) rfl rfl cr.o mu rfl (by rw[cx];simp[fR,cJ]) ?_;obtain⟨cy,cz,cA,cB,cC⟩:=dZ (show Fm w a3 a4 (cl.setRow kD (fR hp v))/\jY (cl.setRow kD (fR hp v)) c e from⟨co.o.1.C (k:=kD) HKD.o _,⟨co.o.2.j.m (uL HKD.o a2.o ah.o),co.o.2.ok⟩⟩) (show bD w (cl.setRow kD (fR hp v)) from aO cp.o (gC HKD.o ah.o)) (cs.o.row cr.o (oR _) bY.o (fR hp v)) (cr.o.row (fR hp v)) (ct.o.m (g':=kD) (cs':=fR hp v) (dU cf.o));refine mn ⟨rfl,fK 20 1 cy fun cE cF=>?_⟩;simp only[sZ,ak];let ⟨cI,cL,cN,cO,cR⟩:=tN cF cy cz cA cB cC;refine bI rfl (aI 12) (aI 29) rfl kF x rfl rfl cR.o rfl ?_;obtain⟨HSz,HEz,HRz,HFz,HDz⟩:=dZ (show Fm w a3 a4 (cE.setRow kF (au x))/\jY (cE.setRow kF (au x)) c e from⟨cI.o.1.C (k:=kF) HKF.o _,⟨cI.o.2.j.m (uL HKF.o a2.o ah.o),cI.o.2.ok⟩⟩) (show bD w (cE.setRow kF (au x)) from aO cL.o (gC HKF.o ah.o)) (cN.o.row cR.o (iq _) ce.o (au x)) (cR.o.row (au x)) (cO.o.m (g':=kF) (cs':=au x) (dU cf.o))
   case' Xq16=>
    simp only[sZ,ak];let ⟨bi,bk,bl⟩:=gO bf ba bb b9;go_wp2_with fail;let ⟨kF,bn,br,bs,bt,bu⟩:=mY be (au aC) 63;have HKF:=aH (show a3+a4.length<=kF by rw[br];exact bi.o.1.k);have bv:=aH (show kD≠kF by have bx:=bl.o.lt;omega);let ⟨bx,bz,bC⟩:=gO bt bi bk bl;refine tf bs ?_;rw[<-br];clear bs br;refine fK 12 7 bx fun bK bL=>?_
    simp only[sZ,ak];let ⟨bR,bU,bV,bY⟩:=nj bL bx bz bC bu;go_wp2_with fail;refine(W.o bK bU.o).mono ?_;rintro c0 c1 ⟨v,c2,c3,x,c4,rfl,c5,c6,c7,c8,c9,ca,cb⟩;have cc:w.heap.size+4<=bK.heap.size:=by have:=bR.o.1.k;have:=ah.o;omega
    obtain⟨cd,ce,cf⟩:=bh (show uP (w.heap.size+4) e.s hp sec q a b fs c1 v x from⟨c2,c3,c4,c5,⟨iX c6.own cc,c6.k⟩,c7.mono (fun _ cg=>aY cc cg),c8,⟨c9.1.mono (fun _ _ ch=>aY cc ch),c9.2⟩,ca⟩) (show v.ownBlock≠M kD from fun ci=>by have ck:=(c6.gQ ci).1;have cl:=bV.o.lt;omega) (show v.ownBlock≠M kF from fun cn=>by have co:=(c6.gQ cn).1;have cp:=bY.o.lt;omega);let ⟨cg,ch,ci,ck⟩:=nj cb bR bU bV bY;go_wp2_with fail;refine gT 13 4 3 ?_;refine fK 19 2 cg fun cl cn=>?_
    simp only[sZ,ak];let ⟨co,cp,cr,cs,ct⟩:=tN cn cg ch ci ck cd;let ⟨cu,cv,cw,cx⟩:=ct.o.val;refine bm rfl 97 (aI 11) (aI 28) rfl kD (fR hp v) rfl rfl cr.o mu rfl (by rw[cx];simp[fR,cJ]) ?_;obtain⟨cy,cz,cA,cB,cC⟩:=dZ (show Fm w a3 a4 (cl.setRow kD (fR hp v))/\jY (cl.setRow kD (fR hp v)) c e from⟨co.o.1.C (k:=kD) HKD.o _,⟨co.o.2.j.m (uL HKD.o a2.o ah.o),co.o.2.ok⟩⟩) (show bD w (cl.setRow kD (fR hp v)) from aO cp.o (gC HKD.o ah.o)) (ct.o.row cr.o (oR _) ce.o (fR hp v)) (cr.o.row (fR hp v)) (cs.o.m (g':=kD) (cs':=fR hp v) (dU bv.o));refine mn ⟨rfl,fK 20 1 cy fun cE cF=>?_⟩;simp only[sZ,ak];let ⟨cI,cL,cN,cO,cR⟩:=tN cF cy cz cA cB cC;refine bI rfl (aI 12) (aI 29) rfl kF x rfl rfl cR.o rfl ?_;obtain⟨HSz,HEz,HRz,HFz,HDz⟩:=dZ (show Fm w a3 a4 (cE.setRow kF (au x))/\jY (cE.setRow kF (au x)) c e from⟨cI.o.1.C (k:=kF) HKF.o _,⟨cI.o.2.j.m (uL HKF.o a2.o ah.o),cI.o.2.ok⟩⟩) (show bD w (cE.setRow kF (au x)) from aO cL.o (gC HKF.o ah.o)) (cN.o.row cR.o (iq _) cf.o (au x)) (cR.o.row (au x)) (cO.o.m (g':=kF) (cs':=au x) (dU bv.o))
  case' Xq21=>
   simp only[sZ,ak];let ⟨ax,ay⟩:=di b4 ar ap;go_wp2_with fail;let ⟨kF,b5,b6,b7,b8,b9⟩:=mY b3 (au aC) 63;have HKF:=aH (show a3+a4.length<=kF by rw[b6];exact ax.o.1.k);let ⟨ba,bb⟩:=di b8 ax ay;refine tf b7 ?_;rw[<-b6];clear b7 b6;refine Md 12 17 8 ba (fun bc bd=> ?Xq17) fun be bf=> ?Xq18
   case' Xq17=>
    simp only[sZ,ak];let ⟨bi,bk,bl⟩:=gO bd ba bb b9;go_wp2_with fail;refine(W.o bc bk.o).mono ?_;rintro bn br ⟨v,bs,bt,x,bu,rfl,bv,bx,bz,bC,bK,bL,bR⟩;have bU:w.heap.size+4<=bc.heap.size:=by have:=bi.o.1.k;have:=ah.o;omega
    obtain⟨bV,bY⟩:=aQ (show uP (w.heap.size+4) e.s hp sec q a b fs br v x from⟨bs,bt,bu,bv,⟨iX bx.own bU,bx.k⟩,bz.mono (fun _ c0=>aY bU c0),bC,⟨bK.1.mono (fun _ _ c1=>aY bU c1),bK.2⟩,bL⟩) (show v.ownBlock≠M kF from fun c2=>by have c3:=(bx.gQ c2).1;have c4:=bl.o.lt;omega);let ⟨c0,c1,c2⟩:=gO bR bi bk bl;go_wp2_with fail;refine gT 13 4 4 ?_;refine fK 17 3 c0 fun c3 c4=>?_
    simp only[sZ,ak];let ⟨c5,c6,c7,c8⟩:=nj c4 c0 c1 c2 bV;go_wp2_with fail;let ⟨kD,c9,ca,cb,cc,cd⟩:=mY c3 (fR Hp (af S 0 0)) 97;have HKD:=aH (show a3+a4.length<=kD by rw[ca];exact c5.o.1.k);obtain⟨ce,cf⟩:=aQ (show v.ownBlock≠M kD from fun cg=>by have ch:=c8.o.gQ cg;omega) (show kD≠kF by have ci:=c7.o.lt;omega);let ⟨cg,ch,ci,ck⟩:=nj cc c5 c6 c7 c8;refine tf cb ?_;rw[<-ca];clear cb ca;refine fK 19 2 cg fun cl cn=>?_
    simp only[sZ,ak];let ⟨co,cp,cr,cs,ct⟩:=tN cn cg ch ci ck cd;let ⟨cu,cv,cw,cx⟩:=cs.o.val;refine bm rfl 97 (aI 11) (aI 28) rfl kD (fR hp v) rfl rfl ct.o mu rfl (by rw[cx];simp[fR,cJ]) ?_;obtain⟨cy,cz,cA,cB,cC⟩:=dZ (show Fm w a3 a4 (cl.setRow kD (fR hp v))/\jY (cl.setRow kD (fR hp v)) c e from⟨co.o.1.C (k:=kD) HKD.o _,⟨co.o.2.j.m (uL HKD.o a2.o ah.o),co.o.2.ok⟩⟩) (show bD w (cl.setRow kD (fR hp v)) from aO cp.o (gC HKD.o ah.o)) (cs.o.row ct.o (oR _) ce.o (fR hp v)) (ct.o.row (fR hp v)) (cr.o.m (g':=kD) (cs':=fR hp v) (dU cf.o));refine mn ⟨rfl,fK 20 1 cy fun cE cF=>?_⟩;simp only[sZ,ak];let ⟨cI,cL,cN,cO,cR⟩:=tN cF cy cz cA cB cC;refine bI rfl (aI 12) (aI 29) rfl kF x rfl rfl cR.o rfl ?_;obtain⟨HSz,HEz,HRz,HFz,HDz⟩:=dZ (show Fm w a3 a4 (cE.setRow kF (au x))/\jY (cE.setRow kF (au x)) c e from⟨cI.o.1.C (k:=kF) HKF.o _,⟨cI.o.2.j.m (uL HKF.o a2.o ah.o),cI.o.2.ok⟩⟩) (show bD w (cE.setRow kF (au x)) from aO cL.o (gC HKF.o ah.o)) (cN.o.row cR.o (iq _) bY.o (au x)) (cR.o.row (au x)) (cO.o.m (g':=kF) (cs':=au x) (dU cf.o))
   case' Xq18=>
    simp only[sZ,ak];let ⟨bi,bk,bl⟩:=gO bf ba bb b9;go_wp2_with fail;let ⟨kD,bn,br,bs,bt,bu⟩:=mY be (fR Hp (af S 0 0)) 97;have HKD:=aH (show a3+a4.length<=kD by rw[br];exact bi.o.1.k);have bv:=aH (show kD≠kF by have bx:=bl.o.lt;omega);let ⟨bx,bz,bC⟩:=gO bt bi bk bl;refine tf bs ?_;rw[<-br];clear bs br;refine fK 12 7 bx fun bK bL=>?_
    simp only[sZ,ak];let ⟨bR,bU,bV,bY⟩:=nj bL bx bz bC bu;go_wp2_with fail;refine(W.o bK bU.o).mono ?_;rintro c0 c1 ⟨v,c2,c3,x,c4,rfl,c5,c6,c7,c8,c9,ca,cb⟩;have cc:w.heap.size+4<=bK.heap.size:=by have:=bR.o.1.k;have:=ah.o;omega
    obtain⟨cd,ce,cf⟩:=bh (show uP (w.heap.size+4) e.s hp sec q a b fs c1 v x from⟨c2,c3,c4,c5,⟨iX c6.own cc,c6.k⟩,c7.mono (fun _ cg=>aY cc cg),c8,⟨c9.1.mono (fun _ _ ch=>aY cc ch),c9.2⟩,ca⟩) (show v.ownBlock≠M kD from fun ci=>by have ck:=(c6.gQ ci).1;have cl:=bY.o.lt;omega) (show v.ownBlock≠M kF from fun cn=>by have co:=(c6.gQ cn).1;have cp:=bV.o.lt;omega);let ⟨cg,ch,ci,ck⟩:=nj cb bR bU bV bY;go_wp2_with fail;refine gT 13 4 3 ?_;refine fK 19 2 cg fun cl cn=>?_
    simp only[sZ,ak];let ⟨co,cp,cr,cs,ct⟩:=tN cn cg ch ci ck cd;let ⟨cu,cv,cw,cx⟩:=ct.o.val;refine bm rfl 97 (aI 11) (aI 28) rfl kD (fR hp v) rfl rfl cs.o mu rfl (by rw[cx];simp[fR,cJ]) ?_;obtain⟨cy,cz,cA,cB,cC⟩:=dZ (show Fm w a3 a4 (cl.setRow kD (fR hp v))/\jY (cl.setRow kD (fR hp v)) c e from⟨co.o.1.C (k:=kD) HKD.o _,⟨co.o.2.j.m (uL HKD.o a2.o ah.o),co.o.2.ok⟩⟩) (show bD w (cl.setRow kD (fR hp v)) from aO cp.o (gC HKD.o ah.o)) (ct.o.row cs.o (oR _) ce.o (fR hp v)) (cs.o.row (fR hp v)) (cr.o.m (g':=kD) (cs':=fR hp v) (dU bv.o));refine mn ⟨rfl,fK 20 1 cy fun cE cF=>?_⟩;simp only[sZ,ak];let ⟨cI,cL,cN,cO,cR⟩:=tN cF cy cz cA cB cC;refine bI rfl (aI 12) (aI 29) rfl kF x rfl rfl cR.o rfl ?_;obtain⟨HSz,HEz,HRz,HFz,HDz⟩:=dZ (show Fm w a3 a4 (cE.setRow kF (au x))/\jY (cE.setRow kF (au x)) c e from⟨cI.o.1.C (k:=kF) HKF.o _,⟨cI.o.2.j.m (uL HKF.o a2.o ah.o),cI.o.2.ok⟩⟩) (show bD w (cE.setRow kF (au x)) from aO cL.o (gC HKF.o ah.o)) (cN.o.row cR.o (iq _) cf.o (au x)) (cR.o.row (au x)) (cO.o.m (g':=kF) (cs':=au x) (dU bv.o))
  all_goals
   all_goals
    refine mn ⟨rfl,gT 21 1 0 ?_⟩;refine zI HSz fun ax ay=>?_
    have b5:=aj.o ax kD kF x v ⟨HSz.o.1.ext ay,HSz.o.2.ext ay,HEz.o.trans ay,HDz.o.ext ay,HFz.o.ext ay,⟨by have:=HKD.o;have:=ah.o;omega,by have:=HKF.o;have:=ah.o;omega⟩,HRz.o.ext ay⟩;exact b5
 intro aj kD kF x v ⟨al,am,ap,ar,ax,ay,aV⟩
 try dsimp only
 obtain⟨b0,b1,b2,b3,b4⟩:=dZ (show Fm w a3 a4 aj/\jY aj c e/\Bx aj kD 97 (fR hp v) from⟨al,am,ar⟩) ap ax ay aV;have b5:=b0.o.2.1.j.lt;go_upto_region 4 with fail;refine aL 11 (fun b6=>jY b6 c e/\Bx b6 kD 97 (fR hp v)) rfl (fun b7 b8=>?_);have b6:=aH b0.o.2;let ⟨b9,ba,bb,bc⟩:=nj b8 b0 b1 b2 b4;refine gN 0 7 5 ?_;simp only[sZ,ak];iterate 4 (go_big_quiet_step (fail))
 refine lC b6 35 38 c 141 e.it (fun _ bd=>bd.1.t 6 rfl) nC ?_;refine lR b6 97 11 kD 0 8 (fR hp v) (fun _ bd=>qg bd.2 rfl) NR mu ?_;simp only[sZ,ak];refine ei rfl (aG (zq hp v)) (fun bd=>iW (qs:=#[(0,J E 3),(3,aG (fR hp v))]) rfl dK (WA hp v bd)) ?_;refine aN (oL 7 4 (fun bd be=>⟨b9.o.2.1.ext be,b9.o.2.2.ext be⟩) fun bf bi=>?_);simp only[sZ,ak];let ⟨bd,be,bk,bl⟩:=nj bi b9 ba bb bc;let ⟨bn,br,bs,bt⟩:=bl.o.val;have bu:=aH (show(zq hp v).all (·.oneCell')=aB by rw[bt];exact Tz hp);refine jE rfl 35 (aI 41) rfl 99 (zq hp v) 148 (aG fJ) nC Jb zIt (BL hp v) dD dD _ rfl rfl ?_;let ⟨bv,bx,bz,bC,bK,bL⟩:=mY bf (zq hp v) 99;rw[<-bC,<-bz];clear bC bz;let ⟨bR,bU,bV,bY⟩:=nj bK bd be bk bl;refine mn ⟨rfl,oL 8 3 (fun c0 c1=>⟨bR.o.2.1.ext c1,bR.o.2.2.ext c1⟩) fun c2 c3=>?_⟩;simp only[sZ,ak];let ⟨c0,c1,c4,c5,c6⟩:=tN c3 bR bU bV bY bL;have c7:=aH (Y.o.ext c1.o);refine oh (base:=d) rfl (aI 39) (aI 42) 35 rfl 99 (aG fJ) 148 296 nC AF zIt dD dD rfl c7.o.ow (by rw[c7.o.len];have:=a1.o;omega) (gC c1.o.size a1.o) _ (zq hp v) rfl c6.o (BL hp v) bu.o ?_;intro c8 c9 ca cb cc cd;have ce:=aH (show∀cf,e.it.ownBlock=M cf->d<=cf/\cf<w.heap.size from fun cg ch=>Y.o.ow.gQ ch);obtain⟨cf,cg,ch,ci,ck⟩:=dZ (show fO w c9 c e.it.ownBlock from fO.grown c1.o cc (fun cl cn=>(ce.o cl cn).2)) (show jY c9 c e from⟨c0.o.2.1.j.below cb a1.o.2.2.1,c0.o.2.1.ok⟩) (show Bx c9 kD 97 (fR hp v) from c0.o.2.2.K (cc.block _ c0.o.2.2.lt (fun co=>by have:=ce.o _ co.symm;have:=b3.o;omega))) (show Bx c9 (a3+1+1+1) 63 (au aC) from(ag.o _ c0.o.1).K (cc.block _ (ag.o _ c0.o.1).lt (fun cp=>by have:=ce.o _ cp.symm;have:=ah.o;rw[a9.o] at this;omega))) (show Bx c9 kF 63 (au x) from c4.o.K (cc.block _ c4.o.lt (fun cr=>by have:=ce.o _ cr.symm;have:=b3.o;omega)))
 have cl:∀cn,cn<c2.heap.size->w.heap.size+4<=cn->c8.ownBlock≠M cn:=fun co cp cr cs=>by
  rcases cd with ct|ct
  ·rw[ct] at cs;have:=ce.o co cs;omega
  ·rw[ct] at cs;injection cs with cu;omega
 have cn:∀co,w.heap.size+4<=co->co<c2.heap.size->c9.heap[co]?=c2.heap[co]?:=fun cp cr cs=>cc.block cp cs (fun ct=>by have:=ce.o cp ct.symm;omega)
 let ⟨co,cp,cr,cs,ct,cu,cv,cw,cx⟩:=c5.o;obtain⟨cy,cz,cA⟩:=bh (bZ cs cv) (bZ cx cw.2) (show dF (fun cB=>w.heap.size+4<=cB/\c8.ownBlock≠M cB) c9 x.val cr from(cw.1.mono (q:=fun cC=>w.heap.size+4<=cC/\c8.ownBlock≠M cC) (fun cE cF cI=>⟨cI,cl cE cF cI⟩)).K (fun cL cN cO=>cn cL cN.1 cO))
 have cB:=aH (show zL (fun cC=>w.heap.size+4<=cC/\c8.ownBlock≠M cC) c9 (zq hp v) (.qh hp cp) 0 from by
  let ⟨cC,cE,cF,cI,cL,cN⟩:=ct.rows (by intro cO;have:=cu.len;rw[cO,cs] at this;have:=a1.o;simp at*;omega);rw[cu.len] at cF cL
  have cO:zL (w.heap.size+4<=·) c2 (zq hp v) (.qh hp cp) 0:=by
   refine⟨BL hp v,Ab4 hp v,TA hp v,bu.o,fun s cR=>by(cases cR),fun cS cT cR=>by(cases cR),fun cU cV cR=>?_⟩;cases cR;refine⟨a0.o,⟨cC,cE,co,?_,cL,cI,cN.lt,cN,cu⟩,by rw[cs];exact a1.o.2.1,cv.x⟩;rw[Ty,cF];rfl
  exact cO.K cb.size cn (fun cR cS cT=>⟨cT,cl cR cS cT⟩))
 have cC:=aH ca
 have cE:=aH (show∀cF,c8.ownBlock=M cF->cF≠a3+1+1+1/\cF≠c from fun cF cI=>by
  have cL:=(ca.gQ cI).1;have:=a1.o;refine⟨fun cN=>?_,by omega⟩;rcases cd with cO|cO
  ·rw[cO] at cI;have:=ce.o cF cI;have:=ah.o;rw[a9.o] at this;omega
  ·rw[cO] at cI;injection cI with cR;have:=c0.o.1.k;rw[a9.o] at this;omega)
 have cL:=aH (show c8.ownBlock=e.it.ownBlock\/∀cN,c8.ownBlock=M cN->w.heap.size<=cN from by
  rcases cd with cO|cO
  ·exact .inl cO
  ·refine .inr fun cR cS=>?_
   rw[cO] at cS;injection cS with cT;have:=c1.o.size;omega)
 clear cn;refine mn ⟨rfl,gT 9 2 1 ?_⟩;refine oL 11 0 (fun cO cR=>⟨cg.o.ext cR,ch.o.ext cR⟩) fun cS cT=>?_
 simp only[sZ,ak];let ⟨cO,cR,cU,cV,cY,d0⟩:=rM cT cf cg ci ck cA cB;have d1:=mX cT cC;let ⟨d2,d3,d4,_⟩:=d1.o.len;let ⟨d5,d6⟩:=aX ((g++[zq hp v]).length);rw[<-d6] at d4;clear d6;subst d4;have d7:=cR.o.t 6 (v:=e.it) rfl;have d8:=cR.o.j.frozen 141;have d9:=cR.o.j.lt;go_wp2_with fail;refine pX fun dc df=>?_
 obtain⟨dg,dj⟩:=aQ ((cR.o.set (m':=e.lh (af d2 d5 d3)) 6 (af d2 d5 d3) rfl rfl).ext df) ((cO.o.set (a:=⟨c,141,S⟩) (.inl rfl) (af d2 d5 d3)).ext df);have dk:fO cS (cS.setCell ⟨c,141,S⟩ (af d2 d5 d3)) c S:=(fO.refl cS c S).set (a:=⟨c,141,S⟩) (.inl rfl) (af d2 d5 d3);obtain⟨dl,dm,dn,dp,dr⟩:=dZ ((d0.o.G dk (fun ds hp=>by have:=hp.1;have:=a2.o;omega)).ext df) ((d1.o.G dk (fun dx=>(cE.o _ dx).2 rfl)).ext df) ((cU.o.G dk (by have:=a2.o;have:=ah.o;rw[a9.o] at this;omega) dS).ext df) ((cV.o.G dk (gC b3.o a2.o) dS).ext df) ((cY.o.G dk (fun dy hp=>by have:=hp.1;have:=a2.o;omega)).ext df)
 try simp only[ak]
 go_wp2_with (first|(refine lA 63 12 kF dp.o (fA _) ?_)|(refine bI rfl (aI 10) (aI 46) rfl (a3+1+1+1) x rfl rfl dn.o (fA _) ?_));have ds:=aH (show w.heap.size<=a3+1+1+1 by rw[a8.o];omega);have dx:=dj.o.G5 ds.o (au x);have HRz:=aH (dn.o.row (au x));refine rR results116 HRz.o db bM ?_;have dy:a3+1+1+1≠c:=by have:=a2.o;have:=ds.o;omega
 have dC:∀dL,fO dL (dL.setRow (a3+1+1+1) (au x)) (a3+1+1+1) S:=fun dO=>(fO.refl dO _ S).Bb _
 have dL:∀dO,(w.heap.size+4<=dO/\(af d2 d5 d3).ownBlock≠M dO)->dO≠a3+1+1+1:=fun dQ dV=>by have:=dV.1;have:=ah.o;rw[a9.o] at this;omega
 have dO:=dl.o.G (dC _) dL;have dQ:=dm.o.G (dC _) (fun dV=>(cE.o _ dV).1 rfl);have dV:=dr.o.G (dC _) dL;exact⟨x,cr,(af d2 d5 d3),cp,_,rfl,dV.mono (fun dW _ e0=>⟨by have:=e0.1;omega,e0.2⟩),cz.o.2,cz.o.1,⟨dg.o.j.m (fun e1=>dy e1.symm),dg.o.ok⟩,dQ,dO.K (aw _) (fun _ _ _=>rfl) (fun e2 _ e3=>⟨by have:=e3.1;omega,e3.2⟩),cy.o.1,cy.o.2,dx,cL.o⟩
end
def Dq(a:Bool)(b:Int):Array aq:=((J E 2::zSq)++[ao a,ao av,J E b]++((fR Hp (af S 0 0)).toList++[J E 0])).toArray
def Aal(a b c):(fk 91 #[(0,ao a),(2,J E b)]).run aE c=.ok (aG #[ao a,ao av,J E b]) c:=dK
def WB(a b c):(fk 99 #[(0,J E 2),(2,aG #[ao a,ao av,J E b])]).run aE c=.ok (aG (Dq a b)) c:=dK
def BM(a b):(Dq a b).size=148:=dK
def Xr:zSq.all (·.oneCell')=aB:=dK
def Xq:((fR Hp (af S 0 0)).toList++[J E 0]).all (·.oneCell')=aB:=dK
def La(a b):(Dq a b).all (·.oneCell')=aB:=by
 unfold Dq;rw[O0,uU,uU,RH,Xr,Xq];rfl
def TC(a b):(Dq a b)[147]?=M (J E 0):=dK
def TB(a b):(Dq a b).extract 136 (136+3)=#[ao a,ao av,J E b]:=dK
def Mz{a b c d g e}(f:bP c (xZ a d.tmps)=aB)(h:c.op=.build 63 #[])(i:cG aE a e b (d.put c.dst (aG (au aC))) g):cG aE a e (c::b) d g:=
 eI f fun _ a=>by
  have b:(fk 63 #[]).run aE g=.ok (aG (au aC)) g:=dK;unfold Oper.wp VI;simp only[h];simp only[qR,Bh]
  first
   |(rw[b];exact a _ _ i)
   |(simp only[fT,iT,dv,b];exact a _ _ i)
def Aes(a:T)(b c:Nat)(d:Mk)(e:List (eQ×Int))(f:List (Array aq))(g:Nat)(h:Ending)(i:T):Prop:=
 ∃(l:aq)(n:Array aq),h=aK (fE #[])/\jY i b {d with first:=g,Ru:=aC,new:=aC,it:=l}/\pI i c l (e++[(.G7 aB g,0)]) (f++[n])/\fO a i b d.it.ownBlock/\(l.ownBlock=d.it.ownBlock\/∀o,l.ownBlock=M o->a.heap.size<=o)
def Ta(p g:Nat)(i:Mk)(h:List (eQ×Int))(n:List (Array aq))(o:Nat)(b:o<=1000)(l:T)(c:jY l p i)(d:p<g)(a:g<=l.heap.size)(e:pI l g i.it h n)(f:h.length<=100):
  aT aE 65 #[aD (M ⟨p,0,S⟩),J E (o:Int),J E 0] l (Aes l p g i h n o):=by
 obtain⟨q,r,s⟩:=bh c e (show p<g/\g<=l.heap.size/\h.length<=100/\o<=1000 from⟨d,a,f,b⟩);have a:E.wrap (o:Int)=(o:Int):=an _ O;have t:=c.t 18 (v:=J E i.first) rfl;have u:=c.j.frozen 153;have v:=c.j.lt;clear c e d f b;go_enter func65,ntmps65;go_upto_region 3 with fail
 try simp only[ak]
 let ⟨b,c⟩:∃d:Mk,d={i with first:=o}:=⟨_,rfl⟩;let ⟨d,e⟩:=aX (l.setCell ⟨p,153,S⟩ (J E (o:Int)));obtain⟨f,w,x⟩:=bh (show jY d p b by rw[e,c];exact q.o.set 18 (J E (o:Int)) rfl rfl) (show fO l d p S by rw[e];exact(fO.refl l p S).set (.inl rfl) _) c
 try rw[show RI (o:Int)=(o:Int) from a]
 rw[<-e];clear e c t u v a;have a:=f.o.j.lt;let ⟨c,e⟩:∃q:Mk,q={b with Ru:=aC}:=⟨_,rfl⟩;let ⟨q,t⟩:∃u:Mk,u={c with new:=aC}:=⟨_,rfl⟩;obtain⟨u,v⟩:=aQ (show jY (d.setRow p c.cells) p c from f.o.row (by rw[e])) (show jH b.cells 143 (au aC)=c.cells from Mk.YK f.o.ok 8 aC (by rw[e]) dD (oz e));obtain⟨y,z,H,U,V⟩:=dZ (show jH c.cells 148 (au aC)=q.cells from Mk.YK u.o.ok 13 aC (by rw[t]) dD (oz t)) (show 143+(au aC).size<=b.cells.size by rw[Mk.size f.o.ok,fA];decide) (show 148+(au aC).size<=c.cells.size by rw[Mk.size u.o.ok,fA];decide) e t;clear e t;have b:=aH (show(aE.info? 63).map (·.size)=M (au aC).size from bM);go_upto_region 4 with(first|(refine Mz dW rfl ?_)|(refine cD rfl 63 (aI 21) (aI 18) rfl p 143 (au aC) rfl rfl _ _ c.cells f.o.j v.o b.o z.o (FV.one aC) ?_)|(refine cD rfl 63 (aI 23) (aI 19) rfl p 148 (au aC) rfl rfl _ _ q.cells u.o.j y.o b.o H.o (FV.one aC) ?_))
 try simp only[ak]
 obtain⟨e,t⟩:=aX ((d.setRow p c.cells).setRow p q.cells);obtain⟨c,d,W⟩:=bh (show jY e p q by rw[t];exact u.o.row (by rw[V.o])) (show fO l e p S by rw[t];exact(w.o.Bb _).Bb _) (show q={i with first:=o,Ru:=aC,new:=aC} by rw[V.o,U.o,x.o]);rw[<-t];clear t U V b v y z H f u w x a;have a:=aH (show pI e g q.it h n by rw[W.o];exact r.o.C d.o s.o.1);have b:=c.o.j.lt;refine aL 16 (fun f=>jY f p q) rfl (fun r t=>?_);have f:=c;have r:=aH t;clear b;refine gN 0 12 5 ?_;simp only[sZ,ak];iterate 4 (go_big_quiet_step (fail))
 refine lC f 35 27 p 141 q.it (fun _ b=>b.t 6 rfl) nC ?_;simp only[sZ,ak];iterate 4 (go_big_quiet_step (fail))
 refine lC f 3 32 p 153 (J E q.first) (fun _ b=>b.t 18 rfl) bJ ?_;refine ei rfl (aG #[ao aB,ao av,J E (o:Int)]) (fun b=>iW (qs:=#[(0,ao aB),(2,J E (o:Int))]) rfl (by rw[show q.first=(o:Int) by rw[W.o]];kernel_rfl) (Aal aB o b)) ?_;simp only[sZ,ak];refine ei rfl (aG (Dq aB o)) (fun b=>iW (qs:=#[(0,J E 2),(2,aG #[ao aB,ao av,J E (o:Int)])]) rfl dK (WB aB o b)) ?_;refine aN (oL 12 4 (fun b f=>(c.o.ext r.o).ext f) fun t u=>?_);simp only[sZ,ak];have b:=mX u r;clear u r;refine jE rfl 35 (aI 35) rfl 99 (Dq aB o) 148 (aG fJ) nC Jb zIt (BM aB o) dD dD _ rfl rfl ?_;let ⟨f,r⟩:=aX t.heap.size;let ⟨f,u⟩:=aX (t.alloc (az (Dq aB o) 99));have t:=aH (show bD e f by rw[u];exact b.o.trans (jd));have f:=DZ u r;rw[<-u,<-r];clear u r b;refine mn ⟨rfl,oL 13 3 (fun b r=>(c.o.ext t.o).ext r) fun u v=>?_⟩;simp only[sZ,ak];let ⟨b,r⟩:=di v t f;clear v t f;have f:=aH (a.o.ext b.o);refine oh (base:=g) rfl (aI 28) (aI 36) 35 rfl 99 (aG fJ) 148 296 nC AF zIt dD dD rfl f.o.ow (by rw[f.o.len];have:=s.o;omega) (uL b.o.size s.o d.o.size) _ (Dq aB o) rfl r.o (BM aB o) (La aB o) ?_;intro r t u v w x;have y:=aH (show∀z,q.it.ownBlock=M z->z<e.heap.size from fun H U=>(a.o.ow.gQ U).2);obtain⟨a,z,H⟩:=bh (show fO e t p q.it.ownBlock from fO.grown b.o w y.o) (show jY t p q from⟨(c.o.ext b.o).j.below v s.o.1,c.o.ok⟩) (show pI t g r (h++[(.G7 aB o,0)]) (n++[Dq aB o]) from f.o.snoc (i:=(.G7 aB o,0)) ⟨BM aB o,rfl,TC aB o,La aB o,fun U V=>(by cases V),fun Y a0 a1=>(by cases a1;exact⟨by have:=s.o;omega,TB aB o⟩),fun a2 a3 a4=>(by cases a4)⟩ u w x)
 have c:=aH (show r.ownBlock=i.it.ownBlock\/∀e,r.ownBlock=M e->l.heap.size<=e from by
  rcases x with e|e
  ·exact .inl ((show r.ownBlock=q.it.ownBlock from e).trans (by rw[W.o]))
  ·refine .inr fun f g=>?_
   rw[e] at g;injection g with e;have:=b.o.size;have:=d.o.size;omega)
 clear u w x;refine mn ⟨rfl,gT 14 2 1 ?_⟩;refine fK 16 0 z fun b e=>?_
 simp only[sZ,ak];let ⟨f,g,h⟩:=gO e a z H;clear e a z H;let ⟨a,e,i,_⟩:=h.o.ow.len;let ⟨l,r⟩:=aX ((n++[Dq aB o]).length);rw[<-r] at i;clear r;subst i;have i:=g.o.t 6 (v:=q.it) rfl;have n:=g.o.j.frozen 141;have o:=g.o.j.lt;go_wp2_with fail;refine pX fun r t=>?_
 obtain⟨r,u,v⟩:=bh ((g.o.set (m':={q with it:=(af a l e)}) 6 (af a l e) rfl rfl).ext t) ((f.o.set (a:=⟨p,141,S⟩) (.inl rfl) (af a l e)).ext t) ((h.o.C ((fO.refl b p S).set (a:=⟨p,141,S⟩) (.inl rfl) (af a l e)) s.o.1).ext t);clear i n o
 try simp only[ak]
 go_wp2_with fail;exact dY (v:=fE #[]) (by simp[Ih,results65]) rfl ⟨(af a l e),_,rfl,by have:=r.o;rw[W.o] at this;exact this,v.o,d.o.join (by rw[W.o] at u;exact u.o),c.o⟩
section
def Dm.field{a b e}(d:Dm a (2*b) e)(c):Dm a b (fw e c):=by
 let ⟨c,f,g,h,i⟩:=d;have d:e.W.toNat=16*a:=O;have f:(e.W/2).toNat=8*a:=O;have g:(e.H/2).toNat=16*b:=O;have h:(e.H/4).toNat=8*b:=O;refine⟨c,?_,?_,?_,?_⟩
 ·show e.H/2=_
  omega
 ·show(mT _ _ _ _ _).length=_
  rw[q9,d,g]
 ·show(mT _ _ _ _ _).length=_
  rw[q9,f,h]
 ·show(mT _ _ _ _ _).length=_
  rw[q9,f,h]
def Dm.srf{a b c}(d:Dm a b c)(e:1<=a)(f:a<=4)(g:1<=b)(h:b<=4):SrF c (16*a) (16*b):=⟨d.W,d.H,by omega,by omega,by omega,by omega,by rw[d.Y,dh]⟩
def Dm.okF{a b c}(i:Dm a b c)(e:1<=a)(f:a<=4)(g:1<=b)(h:b<=4){d}(l:d=0\/d=1):pH c d:=by
 have c:=i.formed e f g h;unfold jl at c;simp only[bT] at c;exact⟨c.1.1,by rw[i.H];omega,l⟩
def Dm.lens{a b c}(d:Dm a b c)(e:1<=a)(f:a<=4)(g:1<=b)(h:b<=4):(0<c.Y.length/\c.Y.length<=100000)/\(0<c.U.length/\c.U.length<=100000)/\(0<c.V.length/\c.V.length<=100000):=by
 have i:a=1\/a=2\/a=3\/a=4:=O;have l:b=1\/b=2\/b=3\/b=4:=O;rw[d.Y,d.U,d.V];rcases i with rfl|rfl|rfl|rfl<;> rcases l with rfl|rfl|rfl|rfl<;> decide
def Dm.mis{a b c w d}(p:Fv w d c)(q:Dm a b c)(g:1<=a)(h:a<=4)(i:1<=b)(l:b<=4){e f}(n:e=((16*a:Nat):Int))(o:f=((16*b:Nat):Int)):kZ w d e f:=by
 have c:=q.formed g h i l;unfold jl at c;simp only[bT] at c;rw[n,o,<-q.W,<-q.H];exact kZ.fr p c.1.1 (iJ q.W)
def rfN(hp:Pc)(s:Sq)(sec:Bool)(fp f1:Fr)(a:Int):Fr:=if hp.st=3 then fp else if sec=aB/\a≠tG ⟨hp.ty,hp.st,s.B,sec⟩ then f1 else fw fp a.toNat
structure JM(s:Sq)(hp:Pc)(sec:Bool)(a B b q:Nat)(src rx rz:FV)(fs fp f1:Fr)(w:T):Prop where
 ft:RE s hp sec
 a1:1<=a
 a2:a<=4
 Q:1<=b
 b2:b<=4
 B2:B<=4
 sw:s.w=((16*a:Nat):Int)
 sh:s.h=((16*B:Nat):Int)
 hh:(hp.st=3/\B=b)\/(hp.st≠3/\B=2*b)
 q1:1<=q
 q2:q<=31
 src:Fv w src fs
 ds:Dm a b fs
 x:(hp.ty=1/\rx=aC)\/(hp.ty=2/\Fv w rx fp/\Dm a B fp)
 z:(sec=av/\rz=aC)\/(sec=aB/\Fv w rz f1/\Dm a b f1)
 gl:fD w
section
variable {s:Sq} {hp:Pc} {sec:Bool} {a B b q:Nat} {src rx rz:FV} {fs fp f1:Fr} {w:T}
def JM.B1(c:JM s hp sec a B b q src rx rz fs fp f1 w):1<=B:=by have:=c.Q;rcases c.hh with⟨_,d⟩|⟨_,d⟩<;> omega
def JM.ht(c:JM s hp sec a B b q src rx rz fs fp f1 w):Dr s hp=((16*b:Nat):Int):=by
 unfold Dr;have:=c.sh;rcases c.hh with⟨d,e⟩|⟨d,e⟩
 ·rw[if_pos d];omega
 ·rw[if_neg d];omega
def JM.Ic(d:JM s hp sec a B b q src rx rz fs fp f1 w)(c:hp.ty=2){n}:Dm a b (rfN hp s sec fp f1 n):=by
 unfold rfN;have c:Dm a B fp:=by rcases d.x with⟨e,_⟩|⟨_,_,e⟩;omega;exact e
 rcases d.hh with⟨e,f⟩|⟨e,f⟩
 ·rw[if_pos e,<-f];exact c
 ·rw[if_neg e]
  split
  ·rename_i e
   rcases d.z with⟨g,_⟩|⟨_,_,g⟩
   ·rw[g] at e;exact absurd e.1 dS
   ·exact g
  ·rw[f] at c
   exact c.field _
def JM.ZH(d:JM s hp sec a B b q src rx rz fs fp f1 w)(e:hp.ty=2){g}(h:g=0\/g=1)(c)(f:Ku w c):tS c ⟨hp.ty,hp.st,s.B,sec⟩ rx aC rz g (rfN hp s sec fp f1 g):=by
 intro c i;have l:=Nv d.ft;let ⟨n,o⟩:Fv w rx fp/\Dm a B fp:=by rcases d.x with⟨p,_⟩|⟨_,p⟩;omega;exact p
 have p:=o.formed d.a1 d.a2 d.B1 d.B2;have r:=(n.N f).ext i;have n:fp.W≠0:=by rw[o.W];have:=d.a1;omega
 unfold rfN;rcases d.hh with⟨t,u⟩|⟨t,u⟩
 ·rw[if_pos t]
  exact X9 ⟨hp.ty,hp.st,s.B,sec⟩ l rx aC rz fp t g c r p n
 ·rw[if_neg t]
  split
  ·rename_i v
   obtain⟨x,y⟩:Fv w rz f1/\Dm a b f1:=by
    rcases d.z with⟨z,_⟩|⟨_,z⟩
    ·rw[z] at v;exact absurd v.1 dS
    ·exact z
   exact Xa ⟨hp.ty,hp.st,s.B,sec⟩ l rx aC rz f1 t v.1 e g h v.2 c ((x.N f).ext i) (y.formed d.a1 d.a2 d.Q d.b2) (by rw[y.W];have:=d.a1;omega)
  ·rename_i d
   refine Xb ⟨hp.ty,hp.st,s.B,sec⟩ l rx aC rz fp t g h (fun e _=>?_) (by rw[o.H,u];omega) c r p n;exact Classical.byContradiction fun c=>d ⟨e,c⟩
def JM.rc(r:JM s hp sec a B b q src rx rz fs fp f1 w)(p:hp.ty=2)(i)(l:Ku w i)(c d e f g h)(n:g<a)(o:h<b):JL i ((GI s hp sec q src rx aC rz c).wf d e f) g h:=by
 intro c d;obtain⟨c,e,f,g,h,t,u,rfl,v,x,y,z,H,U,V⟩:=d.ex;refine⟨rfN hp s sec fp f1 t,⟨(r.Ic p).has r.a2 r.b2 n o,?_,fun _=>?_,fun c=>?_⟩,r.ZH p y i l⟩
 ·exact decide_eq_true ⟨v.x1,v.x2,v.y1,v.y2⟩
 ·exact decide_eq_true ⟨x.x1,x.x2,x.y1,x.y2⟩
 ·have d:(s.B&&decide (hp.st=3))=aB:=H c
  simp only[bT,decide_eq_true_eq] at d;refine⟨(r.Ic p).has r.a2 r.b2 n o,?_,y,z⟩;have c:=r.ft.sq.B d.1;rw[(r.Ic p).H];have:=r.sh;rcases r.hh with⟨_,c⟩|⟨e,_⟩
  ·omega
  ·exact absurd d.2 e
def BY(c:JM s hp sec a B b q src rx rz fs fp f1 w):
  aT aE 172 #[aG s.cells,aG (gJ hp),ao sec,aG (au src),aG (cq rx aC rz),J E (q:Int)] w (UU w s hp sec q a b fs):=by
 have d:hp.ty=1\/hp.ty=2:=by rcases c.x with⟨e,_⟩|⟨e,_⟩;exact .inl e;exact .inr e
 have e:=c.ht;have f:=c.B1;refine Nt s hp sec c.ft a b q c.a1 c.a2 c.Q c.b2 c.sw e c.q1 c.q2 d src rx aC rz fs w c.src c.ds ?_ ?_ (fun g h i l n o p r t u v=>c.rc g h i l n o p r t u v) c.gl
 ·intro g h
  have i:kZ g rz s.w (s.h/2):=by
   rcases c.z with⟨_,l⟩|⟨l,n,o⟩
   ·rw[l];exact kZ.zero _ _ _
   ·refine Dm.mis (n.ext h) o c.a1 c.a2 c.Q c.b2 c.sw ?_
    have:=c.sh;rcases c.hh with⟨n,_⟩|⟨_,n⟩
    ·exact absurd n (c.ft.x l)
    ·omega
  have l:kZ g rx s.w s.h:=by
   rcases c.x with⟨_,n⟩|⟨_,o,p⟩
   ·rw[n];exact kZ.zero _ _ _
   ·exact Dm.mis (o.ext h) p c.a1 c.a2 f c.B2 c.sw c.sh
  refine KQ s hp sec c.ft rx aC rz g l (kZ.zero _ _ _) i ?_ ?_
  ·rcases c.x with⟨g,_⟩|⟨g,i,l⟩
   ·exact .inl g
   ·refine .inr ⟨g,by rw[i.wh.1,l.W];have:=c.a1;omega,fun n=>?_⟩
    rcases c.z with⟨g,_⟩|⟨_,g,i⟩
    ·rw[g] at n;cases n
    ·rw[g.wh.1,i.W];have:=c.a1;omega
  ·intro g i
   rcases c.x with⟨_,l⟩|⟨_,n,o⟩
   ·rw[l]
    have l:ng s.w (Dr s hp)=aB:=by
     rw[c.sw,e];unfold ng;have:=c.a1;have:=c.a2;have:=c.Q;have:=c.b2;simp only[decide_eq_true_eq];omega
    exact(tD s c.ft.sq hp l g).mono fun e p ⟨r,t,_,u⟩=>⟨r,t,u⟩
   ·have e:=o.lens c.a1 c.a2 f c.B2
    have l:=c.ft.pc;exact Di s hp (gC l.s1 l.s2) rx fp g ((n.ext h).ext i) (by rw[n.wh.1,o.W];have:=c.a1;omega) e.1 e.2.1 e.2.2 (fun _=>⟨o.okF c.a1 c.a2 f c.B2 (.inl rfl),o.okF c.a1 c.a2 f c.B2 (.inr rfl)⟩)
 ·intro e f
  refine Lv s c.ft.sq hp d sec q src rx aC rz ?_ e (fun g=>rfN hp s sec fp f1 (g:Int)) ?_ ?_ ?_ ?_
  ·rw[c.src.wh.1,c.src.wh.2,c.ds.W,c.ds.H]
   unfold ng;have:=c.a1;have:=c.a2;have:=c.Q;have:=c.b2;simp only[decide_eq_true_eq];omega
  ·intro d e g h i
   exact c.ZH d O h ((jU f).trans i)
  ·intro d e f
   exact(c.Ic d).lens c.a1 c.a2 c.Q c.b2
  ·intro d e f
   exact⟨_,_,(c.Ic d).srf c.a1 c.a2 c.Q c.b2⟩
  ·intro d e f g h
   have h:=c.Ic d (n:=(g:Int));have d:=c.ft.sq.B f;have d:=c.sh;have d:B=b:=by rcases c.hh with⟨_,f⟩|⟨f,_⟩;exact f;exact absurd e f
   let ⟨d,e⟩:∃f,b=2*f:=⟨b/2,by omega⟩;have d:=c.Q;have f:=c.b2;refine⟨h.okF c.a1 c.a2 c.Q c.b2 O,?_⟩;rw[e] at h;exact⟨_,_,(h.field g).srf c.a1 c.a2 O O⟩
end
end
def BD{a}:∀{L:List (Array aq)},(∀b∈L,b.size=a)->∀{k:Nat}{m:Array aq},L[k]?=M m->∀c,c<a->∀d,(lQ L).set (a*k+c) d=lQ (L.set k (m.setIfInBounds c d))
 |[],_,_,_,b,_,_,_=>by simp at b
 |b::c,d,0,e,f,g,h,i=>by
  simp only[fF,bq] at f;subst f;have c:=d b dS;unfold lQ;rw[mo,gL,gL,Nat.mul_zero,oD,List.set_append_left _ _ (by simp[c];omega),tZ]
 |b::c,d,e+1,f,g,h,i,l=>by
  have n:=d b dS;have o:=BD (L:=c) (fun p q=>d p (by simp[q])) (k:=e) (m:=f) (jP g) h i l;unfold lQ at*;rw[nX,gL,gL,jT _ _ (by simp[n,zS];omega),<-o];congr 2;simp only[cj,n,zS];omega
def jW.setCell{a b c h i l d e}(g:jW a b c h (af (M ⟨i,0,S⟩) e l) d){n q}(r:d[n]?=M q){j}(o:j<h)(p){off}(f:off=h*n+j):
  jW (a.setCell ⟨i,off,S⟩ p) b c h (af (M ⟨i,0,S⟩) e l) (d.set n (q.setIfInBounds j p)):=by
 subst f;let ⟨⟨a,b⟩,c⟩:=g;have d:=(aP.1 r).1;refine⟨⟨?_,?_⟩,?_⟩
 ·rw[<-BD c r j o p,ee,ee];exact a
 ·rcases b with⟨a,_⟩|⟨d,e,f,g,s,t,u,v,w,x⟩
  ·cases a
  ·simp only[dt,bq,Addr.mk.injEq,and_true] at g
   obtain⟨rfl,rfl,rfl⟩:=g;refine .inr ⟨i,l,f.setIfInBounds (h*n+j) p,by rw[ee],s,Bx.L t _ _,by rw[ee];exact u,v,by simpa using w,?_⟩;rw[ee,tZ,List.take_set,x,BD c r j o p]
 ·intro a b
  rcases List.mem_or_eq_of_mem_set b with d|rfl
  ·exact c a d
  ·rw[Array.size_setIfInBounds];exact c q (bg r)
def nE(a b:Pc):Bool:=(a.st !=3)&&(b.st !=3)&&(a.st !=b.st)&&(a.ty==b.ty)&&(a.ord==b.ord)&&(a.top==b.top)&&(a.M3==b.M3)
def VR(a b c):aT aE 73 #[aG a.cells,aG b.cells] c (fh c (ao (nE a b))):=by
 let ⟨d,e,f,g,h,i⟩:=a;let ⟨a,l,n,o,p,q⟩:=b;simp only[Pc.cells];have b:=aH (show bD c ((c.alloc (az #[J E d,J E e,J E f,ao g,ao h,ao i] 93)).alloc (az #[J E a,J E l,J E n,ao o,ao p,ao q] 93)) from(jd).alloc dS _)
 by_cases c:e=3
 ·subst c
  go_enter Il,Co;go_wp2;go_ret;exact⟨rfl,b.o⟩
 have r:(e==3)=av:=by simpa using c
 by_cases r:l=3
 ·subst r
  have s:=aH (show nE ⟨d,e,f,g,h,i⟩ ⟨a,3,n,o,p,q⟩=av by simp[nE]);go_enter Il,Co;go_wp2;go_ret;exact⟨by rw[s.o];rfl,b.o⟩
 have s:(l==3)=av:=by simpa using r
 by_cases s:e=l
 ·subst s
  have t:=aH (show nE ⟨d,e,f,g,h,i⟩ ⟨a,e,n,o,p,q⟩=av by simp[nE]);go_enter Il,Co;go_wp2;go_ret;exact⟨by rw[t.o];rfl,b.o⟩
 have t:(e==l)=av:=by simpa using s
 by_cases t:d=a
 rotate_left
 ·have u:(d==a)=av:=by simpa using t
  have v:=aH (show nE ⟨d,e,f,g,h,i⟩ ⟨a,l,n,o,p,q⟩=av by simp[nE,u]);go_enter Il,Co;go_wp2;go_ret;exact⟨by rw[v.o];rfl,b.o⟩
 subst t
 by_cases a:f=n
 rotate_left
 ·have t:(f==n)=av:=by simpa using a
  have u:=aH (show nE ⟨d,e,f,g,h,i⟩ ⟨d,l,n,o,p,q⟩=av by simp[nE,t]);go_enter Il,Co;go_wp2;go_ret;exact⟨by rw[u.o];rfl,b.o⟩
 subst a
 by_cases a:g=o
 rotate_left
 ·have n:(g==o)=av:=by simpa using a
  have t:=aH (show nE ⟨d,e,f,g,h,i⟩ ⟨d,l,f,o,p,q⟩=av by simp[nE,n]);go_enter Il,Co;go_wp2;go_ret;exact⟨by rw[t.o];rfl,b.o⟩
 subst a;have a:=aH (show nE ⟨d,e,f,g,h,i⟩ ⟨d,l,f,g,p,q⟩=(h==p) by simp[nE,c,r,s]);go_enter Il,Co;go_wp2;go_ret;exact⟨by rw[a.o];rfl,b.o⟩
def shS(d:List (Nat×Nat))(c:Nat)(b a:Option eQ):List (Nat×Nat):=
 match a with
 |some (.qh a _)=>
  match d.getLast?,b with
  |some (b,_),M (.qh e _)=>if b+1=c/\nE e a=aB then d.dropLast++[(b,c)] else d++[(c,c)]
  |_,_=>d++[(c,c)]
 |_=>d
def qf(a:List (eQ×Int)):Nat->List (Nat×Nat)
 |0=>[]
 |b+1=>shS (qf a b) b (if b=0 then S else(a[b-1]?).map (·.1)) ((a[b]?).map (·.1))
section
def vQ(its n):qf its (n+1)=shS (qf its n) n (if n=0 then S else(its[n-1]?).map (·.1)) ((its[n]?).map (·.1)):=rfl
section
variable {its:List (eQ×Int)} {n:Nat} {i:eQ×Int}
def IH(a:its[n]?=M i)(b:i.1.kind≠3):qf its (n+1)=qf its n:=by
 rw[vQ,a];simp only[bX];cases hi:i.1 with
 |qh a c=>rw[hi] at b;exact absurd rfl b
 |seq a=>rfl
 |G7 a b=>rfl
def II{a b}(c:its[n]?=M i)(e:i.1=.qh a b)(d:qf its n=[]):qf its (n+1)=qf its n++[(n,n)]:=by
 rw[vQ,c,d];simp only[bX,e];rfl
def IJ{a b c d e}(f:its[n]?=M i)(h:i.1=.qh a b)(g:qf its n=c++[(d,e)])(l:d+1≠n):qf its (n+1)=qf its n++[(n,n)]:=by
 rw[vQ,f,g];simp only[bX,h];generalize (if n=0 then S else(its[n-1]?).map (·.1))=a;unfold shS;simp only[Gd,Cm,Mr];rcases a with _|(_|_|_)
 ·rfl
 ·rfl
 ·rfl
 ·dsimp only
  rw[if_neg (fun a=>l a.1)]
def DI{e f a b g h c d}(o:its[n]?=M i)(r:i.1=.qh f a)(p:qf its n=g++[(h,c)])(l:h+1=n)(q:its[h]?=M d)(s:d.1=.qh e b):
  qf its (n+1)=if nE e f=aB then g++[(h,n)] else qf its n++[(n,n)]:=by
 subst l;rw[vQ,o,p,if_neg O,xl,q];simp only[bX,r,s];unfold shS;simp only[Gd,Cm,Mr];simp
end
def IG(its):∀n,n<=its.length->∀a b,(a,b)∈qf its n->a<n/\a<=b/\b<n/\∃i c d,its[a]?=M i/\i.1=.qh c d
 |0,_,a,b,c=>by simp[qf] at c
 |n+1,a,b,c,d=>by
  have a:=IG its n O;have e:its[n]?=M its[n]:=aA O;generalize its[n]=i at e
  have f:∀{g h},i.1=.qh g h->(b,c)∈qf its n++[(n,n)]->b<n+1/\b<=c/\c<n+1/\∃i l o,its[b]?=M i/\i.1=.qh l o:=by
   intro g h l o;rw[dG,dJ] at o;rcases o with p|p
   ·let ⟨o,q,r,s⟩:=a b c p
    exact⟨by omega,q,by omega,s⟩
   ·simp only[rK] at p
    obtain⟨rfl,rfl⟩:=p;exact⟨by omega,by omega,by omega,i,g,h,e,l⟩
  cases hc:i.1 with
  |seq g=>
   rw[IH e (by rw[hc];simp[eQ.kind])] at d;let ⟨g,h,l,o⟩:=a b c d;exact⟨by omega,h,by omega,o⟩
  |G7 g h=>
   rw[IH e (by rw[hc];simp[eQ.kind])] at d;let ⟨g,h,l,o⟩:=a b c d;exact⟨by omega,h,by omega,o⟩
  |qh g h=>
   rcases zU (qf its n) with g|⟨h,⟨l,o⟩,g⟩
   ·rw[II e hc g] at d
    exact f hc d
   ·have p:qf its n=h++[(l,o)]:=by rw[g];simp
    by_cases g:l+1=n
    ·let ⟨_,h,_,q,r,s,t,u⟩:=a l o (uM p)
     rw[DI e hc p g t u] at d;split at d
     ·rw[dG,dJ] at d
      rcases d with h|h
      ·let ⟨l,o,v,w⟩:=a b c (by rw[p];simp[h])
       exact⟨by omega,o,by omega,w⟩
      ·simp only[rK] at h
       obtain⟨rfl,rfl⟩:=h;exact⟨by omega,by omega,by omega,q,r,s,t,u⟩
     ·exact f hc d
    ·rw[IJ e hc p g] at d
     exact f hc d
def Am{its}:∀n,(qf its n).length<=n
 |0=>by simp[qf]
 |n+1=>by
  have a:=Am (its:=its) n;rw[vQ];generalize (if n=0 then S else(its[n-1]?).map (·.1))=a;generalize (its[n]?).map (·.1)=a;unfold shS;split
  ·split
   ·split
    ·simp;omega
    ·simp;omega
   ·simp;omega
  ·omega
def IL(a:Nat×Nat):Array aq:=Un.cells ⟨a.1,a.2,0,0⟩
def Ce:(aE.info? 102).map (fun i=>(i.zero,i.size,i.bytes))=M (M (aG (IL (0,0))),4,32):=dK
def IK(a):(IL a).all (·.oneCell')=aB:=by simp[IL,Un.cells,cJ]
def ShW(its:List (eQ×Int))(a:Nat)(b:T)(c d:aq)(wr:T):Prop:=
 ∃n:Nat,n<=its.length/\d=J E n/\jW wr a 102 4 c ((qf its n).map IL)/\bj a b wr
def FP.part{a b l its}(c:FP a b l its){n i}(d:its[n]?=M i){e f}(g:i.1=.qh e f){off}(h:off=l+n*148+139):∃o p,Bx a b o p/\p.extract off (off+6)=e.cells/\off+6<=p.size:=by
 let ⟨o,⟨p,q,r,s⟩,t,u⟩:=c;have v:=(aP.1 d).1;have w:o[n]?=M (o[n]'O):=aA _;have x:=u n i _ d w;let ⟨y,z,H⟩:=s n _ w;let ⟨_,U,V,_⟩:=x.qh e f g;generalize o[n]'O=W at*
 have a:=Jt (j:=0) (k:=6) V dD (yD x.k);have b:=Jt (j:=139) (k:=6) z dD O;rw[Ck] at a;refine⟨q,p,r,?_,by omega⟩;rw[show off=l+148*n+139 by omega,b];exact a
def S5(its:List (eQ×Int))(f:T)(d e c:Nat)(a:FP f d e its)(b:its.length<=256):
  aT aE 33 #[af (M ⟨d,e,S⟩) its.length c] f fun g h=>∃l,g=aK l/\jW h f.heap.size 102 4 l ((qf its its.length).map IL)/\bD f h:=by
 obtain⟨g,h,l⟩:=bh a b (fun o p q=>VR o p q);clear a b;go_enter func33,ntmps33;go_wp2_with fail
 go_loopw [3,8] (fun a i wr=>ShW its f.heap.size f a i wr) (fun _ i _=>its.length-(intOf i).toNat)
 case atStart=>exact⟨0,by omega,rfl,jW.nil _ _ _ _,aM _ _⟩
 case round=>
  obtain⟨n,a,rfl,b,o⟩:=hrel;let ⟨p,q⟩:=aQ b o
  by_cases r:n<its.length
  ·have s:its[n]?=M its[n]:=aA r
   generalize its[n]=i at*
   have t:=aH s;have u:=mX o g;let ⟨_,_,v,_,_⟩:=u.o.at s;rw[show e+148*n=e+n*148 by omega] at v;have w:E.wrap ((n:Int)+1)=((n+1:Nat):Int):=by rw[show((n+1:Nat):Int)=(n:Int)+1 by omega];exact an _ (dU h.o)
   by_cases x:i.1.kind=3
   ·obtain⟨y,z,H⟩:∃U V,i.1=.qh U V:=by
     cases hc:i.1 with
     |qh U V=>exact⟨U,V,rfl⟩
     |seq U=>rw[hc] at x;simp[eQ.kind] at x
     |G7 U V=>rw[hc] at x;simp[eQ.kind] at x
    rw[x] at v;have U:=aH H;clear x s b o H;let ⟨H,V,W,Y⟩:=p.o.len;rw[cX] at W Y;rcases zU (qf its n) with a0|⟨a1,⟨a2,a3⟩,a0⟩
    ·have a4:=aH (II t.o U.o a0)
     rw[a0] at W;subst W;obtain⟨a5,a6⟩:=aQ a0 (show(qf its n).length<=n by rw[a0];simp);clear a0 Y;go_upto_region 7 with fail;go_quiet (fail);let ⟨a5,a6⟩:=aX (wr.drewN nq);rw[<-a6];have a7:bD wr a5:=by rw[a6];exact(bD.refl wr).drewN nq
     have a8:=mX a7 p;have a9:=aH (show bj f.heap.size f a5 from q.o.trans (a7.mono q.o.size));clear a6 a7 p q u;go_wp2_with (first|(at_builtin;go_must (refine mN rfl (aI 53) (aI 57) 39 rfl 102 (aG (IL (0,0))) 4 32 K0 Ce rfl dD dD rfl (a8.o.alloc _) (by rw[cX];have:=Am (its:=its) n;have:=h.o;omega) (by have:=a9.o.size;simp;omega) _ (IL (n,n)) rfl (Bx.new _ _ _) rfl (IK _) ?_;intro a5 w9 ho9 hb9 _)));obtain⟨a5,a6⟩:=aQ ho9 (show bj f.heap.size f w9 from a9.o.trans (((aM _ _).alloc a9.o.size _).trans hb9));clear ho9;go_wp2;exact⟨⟨n+1,by omega,by go_num,by rw[a4.o,fY];exact a5.o,a6.o⟩,by simp[intOf];omega⟩
    ·have a4:qf its n=a1++[(a2,a3)]:=by rw[a0];simp
     have a5:(qf its n).length=a1.length+1:=by rw[a4];simp
     have a6:=aH (show a1.length+1<=n by have:=Am (its:=its) n;omega);let ⟨a7,a8,a9,aa,ab,ac⟩:=p.o.rows (uM a4);rw[cX,a5] at a9 ab;subst a9;have a9:=aH ab;have ad:((qf its n).map IL)[a1.length]?=M (IL (a2,a3)):=by rw[a4,fY,aU dS];simp
     have ae:=aH ad;have ag:=ac.cell ad (j:=0) (v:=J E (a2:Int)) rfl (a1.length*4) O;have ah:E.wrap (((a1.length+1:Nat):Int)-1)=(a1.length:Int):=by rw[show((a1.length+1:Nat):Int)-1=(a1.length:Int) by omega];exact an _ (gC a6.o h.o)
     have ai:=aH a4;let ⟨aj,al⟩:=aQ ac aa;clear a0 W Y ac ad a5 ab a4 aa;generalize W:a1.length=Y at*
     have a:=aH W;clear W;have c:E.wrap (Y:Int)=(Y:Int):=an _ (gC a6.o h.o);have c:=a6.o
     by_cases c:a2+1=n
     ·have g:E.wrap ((n:Int)-1)=(a2:Int):=by rw[show(n:Int)-1=(a2:Int) by omega];exact an _ (dU h.o)
      obtain⟨g,r,w,z,H⟩:∃V W a0,its[a2]?=M V/\V.1=.qh W a0:=by
       let ⟨_,_,_,g,w,V,W,a0⟩:=IG its n O a2 a3 (uM ai.o);exact⟨g,w,V,W,a0⟩
      obtain⟨g,w,V,W⟩:=dq (DI t.o U.o ai.o c z H) z H c;clear z H c;obtain⟨z,H,W⟩:=bh (fun a0 (a4:bD wr a0)=>FP.part (u.o.ext a4) w.o V.o (off:=e+a2*148+139) rfl) (fun a5 (a6:bD wr a5)=>FP.part (u.o.ext a6) t.o U.o (off:=e+n*148+139) rfl) (fun a8 (a9:bD wr a8)=>(aj.o.ext a9).cell ae.o (j:=0) (v:=J E (a2:Int)) rfl (Y*4) O);have V:a2<its.length:=by have:=(aP.1 w.o).1;omega
      clear ag;go_upto_region 7 with fail;refine aL 99 (fun w=>bD wr w) rfl (fun V a0=>?_);obtain⟨w,V⟩:=aQ (bD.refl wr) a0;clear a0;refine gN 0 26 2 ?_;simp only[sZ,ak];iterate 7 (go_big_quiet_step (fail))
      refine pQ dW 3 (aI 26) rfl a7 (Y*4) rfl (J E (a2:Int)) _ (fun a0 a4=>by obtain⟨n,rfl⟩:=a4;exact W.o _ (iQ (C:=fun a5=>bD wr a5) w.o n)) rfl bJ ?_;simp only[sZ,ak];iterate 11 (go_big_quiet_step (fail))
      refine pP dW 93 (aI 38) rfl d (e+a2*148+139) 6 rfl r.cells _ (fun a0 a4=>by obtain⟨n,rfl⟩:=a4;exact z.o _ (iQ (C:=fun a5=>bD wr a5) w.o n)) rfl zV Ib ?_;simp only[sZ,ak];iterate 5 (go_big_quiet_step (fail))
      refine pP dW 93 (aI 44) rfl d (e+n*148+139) 6 rfl y.cells _ (fun z a0=>by obtain⟨n,rfl⟩:=a0;exact H.o _ (iQ (C:=fun a4=>bD wr a4) w.o n)) rfl zV Ib ?_;refine aN (zj 26 1 ?_);simp only[sZ,ak];refine bO rfl 73 #[aG r.cells,aG y.cells] (ao (nE r y)) (fun d=>by kernel_rfl) (fun e w=>l.o r y e) ?_;refine gN 27 1 0 ?_;simp only[sZ,ak];go_big_quiet_step (fail);refine aN (zI V fun d e=>?_);have l:bD wr d:=V.o.trans e;have e:=mX l p;obtain⟨w,z⟩:=aQ (show bj f.heap.size f d from q.o.trans (l.mono q.o.size)) (W.o _ l);have d:=mX l aj;clear l;cases hpp:nE r y with
      |true=>
       have l:=aH (show qf its (n+1)=a1++[(a2,n)] by rw[g.o,if_pos hpp]);clear hpp;let ⟨r,y,z,_⟩:=d.o;have r:=z.frozen (Y*4+1);have r:=z.lt;have r:=ae.o;have r:=d.o.cell ae.o (j:=1) (v:=J E (a3:Int)) rfl (Y*4+1) O;clear z;go_wp2;refine⟨⟨n+1,by omega,by go_num,?_,w.o.setCell (by show f.heap.size<=a7;exact al.o) _⟩,by simp[intOf];omega⟩;have d:=e.o.setCell ae.o (j:=1) dD (J E (n:Int)) (off:=Y*4+1) O;rw[l.o]
       have l:((qf its n).map IL).set Y ((IL (a2,a3)).setIfInBounds 1 (J E (n:Int)))=(a1++[(a2,n)]).map IL:=by
        rw[ai.o,fY,fY,jT _ _ (by simp[a.o])];simp[a.o,IL,Un.cells]
       rw[l] at d;exact d
      |false=>
       have a:=aH (show qf its (n+1)=qf its n++[(n,n)] by rw[g.o,if_neg (yD hpp)]);clear hpp;go_wp2_with (first|(at_builtin;go_must (refine mN rfl (aI 53) (aI 57) 39 rfl 102 (aG (IL (0,0))) 4 32 K0 Ce rfl dD dD rfl (e.o.alloc _) (by rw[cX];have:=Am (its:=its) n;have:=h.o;omega) (by have:=w.o.size;simp;omega) _ (IL (n,n)) rfl (Bx.new _ _ _) rfl (IK _) ?_;intro d w9 ho9 hb9 _)));obtain⟨d,e⟩:=aQ ho9 (show bj f.heap.size f w9 from w.o.trans (((aM _ _).alloc w.o.size _).trans hb9));clear ho9;go_wp2;exact⟨⟨n+1,by omega,by go_num,by rw[a.o,fY];exact d.o,e.o⟩,by simp[intOf];omega⟩
     ·have a:E.wrap ((n:Int)-1)=(n:Int)-1:=an _ (dU h.o)
      have a:((a2:Int)==(n:Int)-1)=av:=by simp;omega
      have a:=aH (IJ t.o U.o ai.o c);clear c;go_upto_region 7 with fail;go_quiet (fail);let ⟨c,d⟩:=aX (wr.drewN nq);rw[<-d];have e:bD wr c:=by rw[d];exact(bD.refl wr).drewN nq
      have g:=mX e p;have l:=aH (show bj f.heap.size f c from q.o.trans (e.mono q.o.size));clear d e p q u;go_wp2_with (first|(at_builtin;go_must (refine mN rfl (aI 53) (aI 57) 39 rfl 102 (aG (IL (0,0))) 4 32 K0 Ce rfl dD dD rfl (g.o.alloc _) (by rw[cX];have:=Am (its:=its) n;have:=h.o;omega) (by have:=l.o.size;simp;omega) _ (IL (n,n)) rfl (Bx.new _ _ _) rfl (IK _) ?_;intro c w9 ho9 hb9 _)));obtain⟨c,d⟩:=aQ ho9 (show bj f.heap.size f w9 from l.o.trans (((aM _ _).alloc l.o.size _).trans hb9));clear ho9;go_wp2;exact⟨⟨n+1,by omega,by go_num,by rw[a.o,fY];exact c.o,d.o⟩,by simp[intOf];omega⟩
   ·have a:=aH (IH s x)
    let ⟨c,d⟩:=aX i.1.kind;rw[<-d] at v x;clear d s b o;go_wp2;exact⟨⟨n+1,by omega,by go_num,by rw[a.o];exact p.o,q.o⟩,by simp[intOf];omega⟩
  ·have a:n=its.length:=O
   subst a;clear b o;go_wp2;go_ret;exact⟨_,rfl,p.o,q.o⟩
end
section
inductive YG:List (eQ×Int)->Prop
 |one {p:Pc} {sl:List (Int×List Int)} {a:Int}:p.st=3->p.M3=av->p.ty≠3->YG [(.qh p sl,a)]
 |two {p q:Pc} {sl sl':List (Int×List Int)} {a b:Int}:nE p q=aB->p.M3=av->p.ty≠3->YG [(.qh p sl,a),(.qh q sl',b)]
structure Gr where
 pre:List (eQ×Int)
 tl:List (eQ×Int)
def Gr.its(a:Gr):List (eQ×Int):=a.pre++a.tl
structure GS(a:Gr):Prop where
 pre:∀b∈a.pre,b.1.kind≠3
 tl:YG a.tl
def bF(a:List Gr):List (eQ×Int):=a.flatMap Gr.its
def YG.ne{a}(b:YG a):1<=a.length/\a.length<=2:=by cases b<;> simp
def Rt(its:List (eQ×Int))(n:Nat):Prop:=∀a b c,qf its n=a++[(b,c)]->b+1=n->∃d e f,its[b]?=M d/\d.1=.qh e f/\e.st=3
section
variable {its:List (eQ×Int)} {n:Nat}
def Rt.zero:Rt its 0:=fun a b c d=>by simp[qf] at d
def Aaf(a:n<=its.length){b c d}(e:qf its n=b++[(c,d)]):c<n:=(IG its n a c d (uM e)).1
def Rt.no{i}(b:its[n]?=M i)(a:i.1.kind≠3):qf its (n+1)=qf its n/\Rt its (n+1):=by
 have c:=IH b a;refine⟨c,fun a d e f g=>?_⟩;have:=Aaf (by have:=(aP.1 b).1;omega) (c▸f);omega
def Rt.new(c:Rt its n){i a b}(d:its[n]?=M i)(e:i.1=.qh a b):qf its (n+1)=qf its n++[(n,n)]:=by
 rcases zU (qf its n) with a|⟨b,⟨f,g⟩,a⟩
 ·exact II d e a
 ·have h:qf its n=b++[(f,g)]:=by rw[a];simp
  by_cases a:f+1=n
  ·let ⟨l,o,p,q,r,s⟩:=c b f g h a
   rw[DI d e h a q r];rw[if_neg (by simp[nE,s])]
  ·exact IJ d e h a
def Oh{R}:∀(a b:List (eQ×Int)),its=b++a++R->(∀i∈a,i.1.kind≠3)->Rt its b.length->qf its (b.length+a.length)=qf its b.length/\Rt its (b.length+a.length)
 |[],_,_,_,a=>⟨rfl,a⟩
 |a::b,c,d,e,f=>by
  have f:its[c.length]?=M a:=by
   rw[d,bo dS,aU dS];simp
  let ⟨g,h⟩:=Rt.no f (e a dS);let ⟨f,l⟩:=Oh (R:=R) b (c++[a]) (uM d) (fun n o=>e n (by simp[o])) (by rw[aJ,cW];exact h);rw[aJ,cW] at f l;rw[eu,show c.length+(b.length+1)=c.length+1+b.length by omega];exact⟨f.trans g,l⟩
def Aae{P a b}(c:YG b)(d:its=P++b++a)(e:Rt its P.length):qf its (P.length+b.length)=qf its P.length++[(P.length,P.length+b.length-1)]/\Rt its (P.length+b.length):=by
 cases c with
 |@one a b c f g h=>
  have g:its[P.length]?=M (.qh a b,c):=by rw[d,bo dS,aU dS];simp
  have c:=e.new g rfl;refine⟨by simpa using c,fun h i l n o=>?_⟩;have c:qf its (P.length+1)=h++[(i,l)]:=n;have c:i=P.length:=by simpa using o
  subst c;exact⟨_,a,b,g,rfl,f⟩
 |@two a b c f g h i l n=>
  have l:its[P.length]?=M (.qh a c,g):=by rw[d,bo dS,aU dS];simp
  have a:its[P.length+1]?=M (.qh b f,h):=by rw[d,bo dS,aU dS];simp
  have b:=e.new l rfl;have c:=DI a rfl b rfl l rfl;rw[if_pos i] at c;refine⟨c,fun a b d e f=>?_⟩;have g:qf its (P.length+1+1)=a++[(b,d)]:=e;rw[c] at g;have a:=List.append_inj_right' g rfl;simp only[List.cons.injEq,rK,and_true] at a;have:b+1=P.length+2:=f;omega
end
def Zm:Nat->List Gr->List (Nat×Nat)
 |_,[]=>[]
 |a,b::c=>(a+b.pre.length,a+b.its.length-1)::Zm (a+b.its.length) c
def KB{its}:∀(a:List Gr)(b:List (eQ×Int)),its=b++bF a->(∀c∈a,GS c)->Rt its b.length->qf its its.length=qf its b.length++Zm b.length a
 |[],a,b,_,_=>by
  have:its=a:=by simpa[bF] using b
  rw[this];simp[Zm]
 |a::b,c,d,e,f=>by
  let ⟨g,h⟩:=e a dS;have i:its=c++a.pre++(a.tl++bF b):=by rw[d];simp[bF,Gr.its]
  let ⟨d,l⟩:=Oh a.pre c i g f;have f:its=(c++a.pre)++a.tl++bF b:=by rw[i];simp
  let ⟨g,i⟩:=Aae (P:=c++a.pre) h f (eZ aJ l)
  have h:=KB (its:=its) b (c++a.its) (by rw[f];simp[Gr.its]) (fun l n=>e l (by simp[n])) (by
   rw[Gr.its,<-aW,aJ];exact i)
  rw[h];have b:(c++a.its).length=(c++a.pre).length+a.tl.length:=by simp[Gr.its];omega
  rw[b,g,aJ,d,Zm,aW];congr 1;simp only[Gr.its,aJ,List.singleton_append];rw[show c.length+a.pre.length+a.tl.length=c.length+(a.pre.length+a.tl.length) by omega]
def Wn{a}(b:∀c∈a,GS c):qf (bF a) (bF a).length=Zm 0 a:=by
 have:=KB a [] rfl b Rt.zero;simpa[qf] using this
def offG(a:List Gr)(b:Nat):Nat:=(bF (a.take b)).length
def yk(a:List Gr)(b:Nat):Nat:=offG a b+((a[b]?).map (fun c=>c.pre.length)).getD 0
def lstG(a:List Gr)(b:Nat):Nat:=offG a (b+1)-1
def Hh(i:eQ×Int):Int:=(i.1.bytes.length:Int)+i.2
def pn(a:List (eQ×Int)):Int:=(a.map Hh).sum
def Ix(a b):pn (a++b)=pn a+pn b:=by simp[pn,VJ]
def qy(a:List Gr)(b:Nat):Int:=((a[b]?).map (fun c=>8*pn c.its)).getD 0
def tJ(a):offG a 0=0:=by simp[offG,bF]
def BK{a b c}(d:a[b]?=M c):offG a (b+1)=offG a b+c.its.length:=by
 unfold offG bF;rw[qi,d];simp
def EZ(a):offG a a.length=(bF a).length:=by unfold offG;rw[u7q]
def Gr.pos{a}(b:GS a):a.pre.length+1<=a.its.length:=by have:=b.tl.ne;simp[Gr.its];omega
def WW{G k}:offG G k<=(bF G).length:=by
 have:=kS k G
 conv=>rhs;rw[<-this]
 unfold offG bF;rw[Ec,aJ];omega
def uD{c}(a:∀f∈c,GS f){d b}(e:c[d]?=M b):offG c d<=yk c d/\yk c d<=lstG c d/\lstG c d+1=offG c (d+1)/\offG c (d+1)<=(bF c).length:=by
 have f:=Gr.pos (a b (bg e));have a:=BK e;have a:=WW (G:=c) (k:=d+1);unfold yk lstG;rw[e];simp only[bX,vl];omega
def tK(a b c):offG (a::b) (c+1)=a.its.length+offG b c:=by simp[offG,bF]
def Og:∀(a:List Gr)(b:Nat),(∀c∈a,GS c)->Zm b a=(dI a.length).map fun d=>(b+yk a d,b+lstG a d)
 |[],a,_=>by simp[Zm]
 |a::b,c,d=>by
  have e:=Gr.pos (d a dS);rw[Zm,Og b _ (fun f g=>d f (by simp[g])),eu,List.range_succ_eq_map,sH,qe];congr 1
  ·have f:=tK a b 0
   rw[tJ] at f;have f:=tJ (a::b);simp only[yk,lstG,fF,bX,vl,rK];omega
  ·refine rI fun f g=>?_
   have h:f<b.length:=by simpa using g
   have i:=uD (fun l n=>d l (by simp[n])) (aA h);have l:=tK a b f;have n:=tK a b (f+1);simp only[Function.comp,yk,lstG,List.getElem?_cons_succ,rK,Nat.succ_eq_add_one] at*;omega
def Bd(a:List Gr)(b c d e:Nat):Un:=⟨if e<b then offG a e else yk a e,lstG a e,if e<c then qy a e else 0,if e<d then 2 else 0⟩
def xt(a:List Gr)(b c d:Nat):List (Array aq):=(dI a.length).map fun e=>(Bd a b c d e).cells
def xC{a:Type}{b c:Nat->a}{g d}(h:∀i,i≠d->b i=c i){e}(f:e=c d):((dI g).map b).set d e=(dI g).map c:=by
 subst f;apply oB;intro a;rw[List.getElem?_set];split
 ·rename_i b
  subst b;simp only[cX,List.length_range,bN];split
  ·rename_i b;rw[jo b];rfl
  ·rename_i b;rw[de (jP b)];rfl
 ·rename_i b
  rw[bN,bN];cases hj:(dI g)[a]? with
  |none=>rfl
  |some c=>
   have:c=a:=by
    have a:=(aP.1 hj).1;rw[jo (jP a)] at hj;exact(fB hj).symm
   subst this;simp only[bX];rw[h c (fun a=>b a.symm)]
def Ad(a b c d):(xt a b c d).length=a.length:=by simp[xt]
def oG{d a b c e}(f:e<d.length):(xt d a b c)[e]?=M (Bd d a b c e).cells:=by simp[xt,f]
def VW{a b c e}(d:e<a.length):(xt a b c e).set e ((Bd a b c e e).cells.setIfInBounds 3 (J E 2))=xt a b c (e+1):=by
 unfold xt;refine xC (fun a b=>?_) ?_
 ·simp only[Bd,show(a<e+1)↔(a<e) by omega]
 ·simp[Bd,Un.cells]
def O7{a b c e}(d:e<a.length):(xt a e b c).set e ((Bd a e b c e).cells.setIfInBounds 0 (J E (offG a e:Nat)))=xt a (e+1) b c:=by
 unfold xt;refine xC (fun a b=>?_) ?_
 ·simp only[Bd,show(a<e+1)↔(a<e) by omega]
 ·simp[Bd,Un.cells]
def O6{a b c d e}(f:e<a.length):(xt a b c d).set e ((Bd a b c d e).cells.setIfInBounds 1 (J E (lstG a e:Nat)))=xt a b c d:=by
 unfold xt;refine xC (fun a b=>rfl) ?_;simp[Bd,Un.cells]
def VX{a b c g}(d:g<a.length){e}(f:e=qy a g):(xt a b g c).set g ((Bd a b g c g).cells.setIfInBounds 2 (J E e))=xt a b (g+1) c:=by
 subst f;unfold xt;refine xC (fun a b=>?_) ?_
 ·simp only[Bd,show(a<g+1)↔(a<g) by omega]
 ·simp[Bd,Un.cells]
def cP(a:List Gr):List Un:=(dI a.length).map fun b=>⟨offG a b,lstG a b,qy a b,2⟩
def VY(a):xt a a.length a.length a.length=(cP a).map Un.cells:=by
 unfold xt cP;rw[qe];refine rI fun b c=>?_
 have d:b<a.length:=by simpa using c
 simp[Bd,d]
def pk(a):(cP a).map (·.bits)=a.map fun b=>8*pn b.its:=by
 unfold cP;rw[qe];apply oB;intro b;rw[bN,bN]
 by_cases c:b<a.length
 ·rw[jo c,aA c]
  simp[qy,c]
 ·rw[de (jP c),de O]
  rfl
end
def JM.ext{a b c d e f g h i l n o p q r}(s:JM a b c d e f g h i l n o p q)(t:bD q r):JM a b c d e f g h i l n o p r:=
 ⟨s.ft,s.a1,s.a2,s.Q,s.b2,s.B2,s.sw,s.sh,s.hh,s.q1,s.q2,s.src.ext t,s.ds,s.x.imp id (fun⟨a,b,c⟩=>⟨a,b.ext t,c⟩),s.z.imp id (fun⟨d,e,f⟩=>⟨d,e.ext t,f⟩),s.gl.ext t⟩
instance {w w' x0 x1 x2 x3 x4 x5 x6 x7 x8 x9 x10 x11 x12}:Tr w w' (JM x0 x1 x2 x3 x4 x5 x6 x7 x8 x9 x10 x11 x12 w) (JM x0 x1 x2 x3 x4 x5 x6 x7 x8 x9 x10 x11 x12 w'):=⟨fun hb h=>JM.ext h hb⟩
def KF(a b c d e f):(fk 93 #[(0,J E a),(1,J E b),(2,J E c),(3,ao d),(5,ao e)]).run aE f=.ok (aG (gJ ⟨a,b,c,d,av,e⟩)) f:=dK
def mE.row{a b c d e}(f:mE a b c d e){k g}(h:e[k]?=M g):∃i l,Bx a b i l/\l.extract (c+k*d) (c+k*d+d)=g/\c+k*d+d<=l.size:=by
 let ⟨a,c,d,e⟩:=f;let ⟨_,f,i⟩:=e k g h;rw[dh] at f i;exact⟨c,a,d,f,i⟩
def fO.yG{a b c d e}(g:fO b c d e)(h:bD a b)(f:a.heap.size<=d)(i:∀l,e=M l->a.heap.size<=l):bD a c:=
 ⟨g.os.trans h.os,g.tape.trans h.tape,g.output.trans h.output,aY h.size g.size,fun a b=>(g.block a (dX b h.size) O (fun c=>by have:=i a c;omega)).trans (h.block a b)⟩
structure Gp(g:T)(f:Mk)(b c a:Nat)(d:List (FV×Fr))(e:List Int):Prop where
 sq:jV f.s
 a1:1<=b
 a2:b<=4
 B1:1<=c
 B2:c<=4
 sw:f.s.w=((16*b:Nat):Int)
 sh:f.s.h=((16*c:Nat):Int)
 mq:f.q=(a:Int)
 q1:1<=a
 q2:a<=31
 fr:FR g f.fr d
 ty:Dv g f.ty e
 dm:∀a∈d,Dm b c a.2
 len:d.length=e.length
 tx:TyX e
 B:f.s.B=aB\/(f.fl=av/\f.top=aB)
 gl:fD g
structure TlX(a:Mk)(c d e:Nat)(f:Fr)(h i:Int)(l:List (eQ×Int)):Prop where
 g:YG l
 z:∀n∈l,n.2=0
 b:∀n∈l,∃o p,n.1=.qh o p/\p.length<=4/\∀q∈p,UT q
 w:a.fl=av->∃n,l=[(.qh ⟨h,3,i,a.top,av,a.alt⟩ n,0)]/\n.length=d/\Vs a.s ⟨h,3,i,a.top,av,a.alt⟩ av e c f n
def Pd(a:T)(b c:Nat)(d:Mk)(e:List (eQ×Int))(f:List (Array aq))(g h i:Nat)(l:Fr)(n o:Int)(p:Ending)(q:T):Prop:=
 ∃(r:FV)(s:Fr)(t:aq)(u:List (eQ×Int))(v:List (Array aq)),p=aK (aG (au r))/\dF (iC t c) q r.val s/\eH r.val/\Dm g h s/\jY q b (d.lh t)/\pI q c t (e++u) (f++v)/\TlX d g h i l n o u/\fO a q b d.it.ownBlock/\(t.ownBlock=d.it.ownBlock\/∀w,t.ownBlock=M w->a.heap.size<=w)
def QB(a0 a1:Nat)(a2:Mk)(w:List (eQ×Int))(x:List (Array aq))(y z H v:Nat)(a:List (FV×Fr))(b:List Int)(a4:Int)(U:FV)(V:Fr)(W:T)(hF:Gp W a2 y z H a b)(d:b[v]?=M a4)(e:a[v]?=M (U,V))(f:a2.fl=av)(Y:FV)(c:Fr)(a3:T)(g:jY a3 a0 a2)(h:a0<a1)(i:a1<=a3.heap.size)(l:bD W a3)(n:W.heap.size<=a0)(o:pI a3 a1 a2.it w x)(p:w.length<=90)
  (q:(a4=1/\Y=aC)\/(a4=2/\Fv a3 Y c/\Dm y z c))(u:Int)(r:u=(v:Int)-a2.first)(s:0<=u)(t:u<=1023):
  aT aE 67 #[aD (M ⟨a0,0,S⟩),J E (v:Int),aG (cq Y aC aC)] a3 (Pd a3 a0 a1 a2 w x y z H V a4 u):=by
 let ⟨a5,a6,a7,a8⟩:=dq g o hF q;have a9:=(aP.1 d).1;have aa:=aH (show a0<a1/\a1<=a3.heap.size/\w.length<=90/\W.heap.size<=a0/\v<b.length/\b.length<=2 from⟨h,i,p,n,a9,hF.tx.n2⟩);have ab:=aH g.j.lt;have ac:=aH l;let ⟨ad,ae,ag,ah,ai,aj⟩:=hF.ty;let ⟨al,am,ap,ar,ax,ay,aV⟩:=hF.fr
 have b0:=aH (show∀b1,bD W b1->b1.cell? ⟨ad,ae+v,S⟩=M (J E a4) from fun b2 b3=>by
  have b1:=aj v a4 d;have b2:=dH W ⟨ad,ae+v,S⟩ b1;unfold mV at b1 ⊢;rw[b3.block ad b2];exact b1)
 obtain⟨b1,b2,b3⟩:=bh (show(a.map fun b4=>au b4.1)[v]?=M (au U) by rw[bN,e];rfl) ay (show Fv W U V/\Dm y z V from⟨aV _ (bg e),hF.dm _ (bg e)⟩);have a:=ay.lt;have a:=dH W ⟨ad,ae+v,S⟩ (aj v a4 d);let ⟨a,b3⟩:=aX b.length;have b:=aH (show v<a/\a<=ag/\a<=ap by rw[b3];exact⟨a9,ai,by rw[<-hF.len];exact ax⟩);rw[<-b3] at ah;rw[hF.len,<-b3] at ar;obtain⟨b4,b5⟩:=aQ (bZ ah ar) (show RI ((v:Int)-a2.first)=u by rw[<-r];exact kE _ O);let ⟨b6,b7⟩:∃b8:Pc,b8=⟨a4,3,u,a2.top,av,a2.alt⟩:=⟨_,rfl⟩;let ⟨b8,b9⟩:=aQ b7 f
 have ba:=aH (show∀bb,bD a3 bb->JM a2.s b6 av y z z H U Y aC V c c bb from fun bb bc=>by
  rw[b7];have c:=(aV _ (bg e)).ext (l.trans bc);have bb:a4=1\/a4=2:=hF.tx.r a4 (bg d);refine⟨⟨hF.sq,⟨by show 1<=a4;omega,by show a4<=3;omega,by show(1:Int)<=3;decide,by show(3:Int)<=3;decide,s,t⟩,?_,fun bb=>by cases bb⟩,hF.a1,hF.a2,hF.B1,hF.B2,hF.B2,hF.sw,hF.sh,.inl ⟨rfl,rfl⟩,hF.q1,hF.q2,c,hF.dm _ (bg e),?_,.inl ⟨rfl,rfl⟩,hF.gl.ext (l.trans bc)⟩
  ·rcases hF.B with c|⟨_,c⟩
   ·exact .inl c
   ·exact .inr ⟨rfl,c,rfl⟩
  ·exact q.imp id (fun⟨c,bb,bd⟩=>⟨c,bb.ext bc,bd⟩))
 let ⟨c,bb,bc,bd,be,bf,bi,bk,bl,bn,br⟩:=Jo a3 (cq Y aC aC) 158 (au aC) 63;clear b7 g o hF q d e h i l n p aj ay aV r s t f ah ar ai ax a9 b3;go_enter func67,ntmps67;go_upto_region 1 with fail
 try simp only[sZ,ak]
 refine mr be ?_
 try simp only[dA]
 rw[<-bd];clear be;have d:=aH bd;clear bd;obtain⟨e,f⟩:=aQ (show Bx bc c 158 (cq Y aC aC)/\Bx bc (c+1) 63 (au aC)/\jY bc a0 a2/\bD W bc from⟨bn.o _ bk.o,br.o _ bk.o,a5.o.ext (bl.o _ bk.o),ac.o.trans (bl.o _ bk.o)⟩) (bl.o _ bk.o);have g:=e.o.2.2.1.j.lt;have h:=b.o.1;refine aL 25 (fun b=>Bx b c 158 (cq Y aC aC)/\Bx b (c+1) 63 (au aC)/\jY b a0 a2/\bD W b) rfl (fun h i=>?_);let ⟨b,h⟩:=di i e f;clear g;refine gN 0 24 2 ?_;simp only[sZ,ak];iterate 3 (go_big_quiet_step (fail))
 refine lC e 28 13 a0 140 (af (M ⟨ad,ae,S⟩) a ag) (fun _ f=>(b4.o.1▸f.2.2.1.t 5 rfl)) underlying28 ?_;simp only[sZ,ak];iterate 2 (go_big_quiet_step (fail))
 refine lC e 3 16 ad (ae+v) (J E a4) (fun _ f=>b0.o _ f.2.2.2) bJ ?_;simp only[sZ,ak];iterate 4 (go_big_quiet_step (fail))
 refine lC e 3 21 a0 153 (J E a2.first) (fun _ f=>f.2.2.1.t 18 rfl) bJ ?_;simp only[sZ,ak];iterate 5 (go_big_quiet_step (fail))
 refine lC e 4 27 a0 137 (ao a2.top) (fun _ f=>f.2.2.1.t 2 rfl) jD ?_;simp only[sZ,ak];iterate 4 (go_big_quiet_step (fail))
 refine lC e 4 32 a0 136 (ao a2.alt) (fun _ f=>f.2.2.1.t 1 rfl) jD ?_;refine ei rfl (aG (gJ b6)) (fun f=>iW (qs:=#[(0,J E a4),(1,J E 3),(2,J E (RI ((v:Int)-a2.first))),(3,ao a2.top),(5,ao a2.alt)]) rfl dK (by rw[b5.o,b8.o];exact KF a4 3 u a2.top a2.alt f)) ?_;refine aN (fK 24 1 b fun f g=>?_);simp only[sZ,ak];let ⟨i,l⟩:=di g b h;clear g b h;go_wp2_with fail;let ⟨b,g,h,n,o,p⟩:=mY f (gJ Hp) 93;let ⟨f,g⟩:=di o i l;have q:=aH (show a3.heap.size+2<=b by rw[h];have:=i.o.2.1.lt;have:=d.o;omega);refine tf n ?_;rw[<-h];clear n h o i l;refine fK 25 0 f fun h i=>?_
 simp only[sZ,ak];let ⟨l,n,o⟩:=gO i f g p;clear i f g p;refine bm rfl 93 (aI 7) (aI 34) rfl b (gJ b6) rfl rfl o.o ja rfl (by simp[gJ,cJ]) ?_;obtain⟨f,g,i⟩:=bh (show Bx (h.setRow b (gJ b6)) c 158 (cq Y aC aC)/\Bx (h.setRow b (gJ b6)) (c+1) 63 (au aC)/\(∃p,jY (h.setRow b (gJ b6)) a0 (a2.lh p))/\bD W (h.setRow b (gJ b6))/\Bx (h.setRow b (gJ b6)) b 93 (gJ b6) from⟨l.o.1.m (gC q.o d.o),l.o.2.1.m (gC q.o d.o),⟨a2.it,⟨l.o.2.2.1.j.m (gC q.o ab.o),l.o.2.2.1.ok⟩⟩,aO l.o.2.2.2 (uL q.o aa.o ab.o),o.o.row _⟩) (show jY (h.setRow b (gJ b6)) a0 a2 from⟨l.o.2.2.1.j.m (gC q.o ab.o),l.o.2.2.1.ok⟩) (show bD a3 (h.setRow b (gJ b6)) from aO n.o (dU q.o));clear l n o e;refine mn ⟨rfl,pX fun e h=>?_⟩;have l:=aH (show Bx e c 158 (cq Y aC aC)/\Bx e (c+1) 63 (au aC)/\(∃n,jY e a0 (a2.lh n))/\bD W e/\Bx e b 93 (gJ b6) from⟨f.o.1.ext h,f.o.2.1.ext h,(let ⟨o,p⟩:=f.o.2.2.1;⟨o,p.ext h⟩),f.o.2.2.2.1.trans h,f.o.2.2.2.2.ext h⟩);let ⟨e,n⟩:=di h g i;clear h f g i
 try simp only[ak]
 have f:=e.o.t 0 (v:=ao a2.fl) rfl;rw[b9.o] at f;have g:=e.o.j.lt;go_upto_region 3 with fail;clear f;refine aL 11 (fun f=>Bx f c 158 (cq Y aC aC)/\Bx f (c+1) 63 (au aC)/\(∃h,jY f a0 (a2.lh h))/\bD W f/\Bx f b 93 (gJ b6)) rfl (fun i o=>?_);have f:=l;have h:=aH (show Bx i c 158 (cq Y aC aC)/\Bx i (c+1) 63 (au aC)/\(∃p,jY i a0 (a2.lh p))/\bD W i/\Bx i b 93 (gJ b6) from⟨l.o.1.ext o,l.o.2.1.ext o,(let ⟨r,s⟩:=l.o.2.2.1;⟨r,s.ext o⟩),l.o.2.2.2.1.trans o,l.o.2.2.2.2.ext o⟩);let ⟨i,l⟩:=di o e n;clear o e n;refine gN 0 10 2 ?_;simp only[sZ,ak];go_big_quiet_step (fail);refine lR f 93 7 b 0 6 (gJ b6) (fun _ e=>qg e.2.2.2.2 rfl) zV ja ?_;simp only[sZ,ak];iterate 3 (go_big_quiet_step (fail))
 refine lC f 27 45 a0 139 (af (M ⟨al,am,S⟩) a ap) (fun _ e=>(let ⟨n,o⟩:=e.2.2.1;b4.o.2▸o.t 4 rfl)) oa ?_;simp only[sZ,ak];iterate 2 (go_big_quiet_step (fail))
 refine s7 rfl 63 (aI 48) rfl al (am+v*5) 5 rfl (au U) _ (fun a e=>by obtain⟨n,rfl⟩:=e;exact(b2.o.ext (iQ (C:=fun o=>Bx o c 158 (cq Y aC aC)/\Bx o (c+1) 63 (au aC)/\(∃p,jY o a0 (a2.lh p))/\bD W o/\Bx o b 93 (gJ b6)) f.o n).2.2.2.1).row b1.o) rfl db bM ?_;simp only[sZ,ak];refine lR f 158 5 c 0 15 (cq Y aC aC) (fun _ a=>qg a.1 rfl) Kg kK ?_;refine aN (oL 10 1 (fun a e=>⟨h.o.1.ext e,h.o.2.1.ext e,(let ⟨n,o⟩:=h.o.2.2.1;⟨n,o.ext e⟩),h.o.2.2.2.1.trans e,h.o.2.2.2.2.ext e⟩) fun p r=>?_);simp only[sZ,ak];have a:=aH (show Bx p c 158 (cq Y aC aC)/\Bx p (c+1) 63 (au aC)/\(∃e,jY p a0 (a2.lh e))/\bD W p/\Bx p b 93 (gJ b6) from⟨h.o.1.ext r,h.o.2.1.ext r,(let ⟨n,o⟩:=h.o.2.2.1;⟨n,o.ext r⟩),h.o.2.2.2.1.trans r,h.o.2.2.2.2.ext r⟩);let ⟨e,h⟩:=di r i l;clear g;go_wp2_with fail;refine(zi a0 a1 a2 w x b6 (ba.o a3 (bD.refl a3)).ft.pc av H y z a7.o.B1 a7.o.B2 U Y aC aC V p e.o aa.o.1 (gC h.o.size aa.o) (a6.o.ext h.o) (dU aa.o) (fun g i=>by rw[a7.o.mq];exact BY (ba.o g (h.o.trans i)))).mono ?_;rintro e g ⟨i,l,n,o,r,rfl,s,t,u,v,w,x,y,z,H,U⟩;obtain⟨e,V⟩:=aQ (show∀a5,a2.it.ownBlock=M a5->a1<=a5/\a5<a3.heap.size from fun a9 ac=>a6.o.ow.gQ ac) (show c+2<=p.heap.size by have:=a.o.2.1.lt;omega);obtain⟨a5,a9,ac,ad,ae,ag⟩:=ej (show Bx g (c+1) 63 (au aC) from a.o.2.1.G H (gC ab.o d.o) (fun ah=>by have:=e.o _ ah;have:=d.o;omega)) (show bD W g from H.yG a.o.2.2.2.1 aa.o.2.2.2.1 (fun ai aj=>by have:=e.o ai aj;have:=aa.o;omega)) s v w x;obtain⟨ah,ai,aj,al,am⟩:=dZ (show fO a3 g a0 a2.it.ownBlock from(fO.bS a0 S h.o).join H) U (bZ y z) (bZ t u) (show Bx g c 158 (cq Y aC aC)/\Bx g (c+1) 63 (au aC)/\(∃ap,jY g a0 (a2.lh ap))/\bD W g/\Bx g b 93 (gJ b6) from⟨a.o.1.G H (gC ab.o d.o) (fun ar=>by have:=e.o _ ar;have:=d.o;omega),a5.o,⟨n,v⟩,a9.o,a.o.2.2.2.2.G H (gC ab.o q.o) (fun ax=>by have:=e.o _ ax;have:=q.o;omega)⟩);clear s t u v w x y z H U;go_wp2_with fail;refine oL 11 0 (fun a b=>⟨am.o.1.ext b,am.o.2.1.ext b,(let ⟨g,q⟩:=am.o.2.2.1;⟨g,q.ext b⟩),am.o.2.2.2.1.trans b,am.o.2.2.2.2.ext b⟩) fun s t=>?_
 simp only[sZ,ak];let ⟨a,b,g,q,u,v⟩:=rM t a5 ac ad ae ag ah;clear t am a5 ac ad ae ag ah f;refine bI rfl (aI 6) (aI 51) rfl (c+1) i rfl rfl a.o (fA _) ?_;have f:fO s (s.setRow (c+1) (au i)) (c+1) S:=(fO.refl s _ S).Bb _;have t:∀w,p.heap.size<=w/\n.ownBlock≠M w->w≠c+1:=fun x y=>by have:=y.1;have:=V.o;omega
 obtain⟨w,x,y⟩:=bh (a.o.row (au i)) (b.o.G f t) (u.o.G f t)
 have a:=aH (q.o.G f (fun b=>by
  rcases ai.o with q|q
  ·have:=e.o _ (q.symm.trans b);have:=d.o;omega
  ·have:=q _ b;have:=V.o;omega))
 obtain⟨b,e⟩:=aQ (show jY (s.setRow (c+1) (au i)) a0 (a2.lh n) from⟨g.o.j.m (gC ab.o d.o),g.o.ok⟩) (v.o.G5 (k:=c+1) (dU d.o) (au i));clear f t;refine mn ⟨rfl,pX fun c d=>?_⟩;let ⟨c,f,g,q,s,t⟩:=rM d w x y a b e;clear d w x y a b e
 try simp only[ak]
 go_wp2_with fail;have a:∀b,(p.heap.size<=b/\n.ownBlock≠M b)->iC n a1 b:=fun d e=>⟨e.2,by have:=e.1;have:=h.o.size;have:=aa.o;omega⟩
 have b:n.ownBlock=a2.it.ownBlock\/∀d,n.ownBlock=M d->a3.heap.size<=d:=ai.o.imp id (fun e p u=>by have:=e p u;have:=h.o.size;omega);refine rR results67 c.o db bM ?_;refine⟨i,l,n,[(.qh b6 o,0)],[r],rfl,f.o.mono (fun c _ d=>a c d),al.o.1,al.o.2,s.o,a6.o.join t.o aa.o.1 b (i:=(.qh b6 o,0)) q.o (g.o.K (aw _) (fun _ _ _=>rfl) (fun e _ h=>a e h)),⟨?_,fun p u=>by rw[dJ.1 u],fun v w=>by rw[dJ.1 w];exact⟨b6,o,rfl,by rw[aj.o.1];exact a7.o.B2,aj.o.2.x⟩,fun _=>⟨o,by rw[b8.o],aj.o.1,by rw[<-b8.o];exact aj.o.2⟩⟩,t.o,b⟩;have a:a4=1\/a4=2:=by rcases a8.o with⟨b,_⟩|⟨b,_⟩;exact .inl b;exact .inr b
 rw[b8.o];exact .one rfl rfl (by show a4≠3;omega)
def WK(a b):(fk 158 #[(0,aG (au a))]).run aE b=.ok (aG (cq a aC aC)) b:=dK
def Sv{b vs off}(a:off+vs.size<=b.size):(jH b off vs).extract off (off+vs.size)=vs/\off+vs.size<=(jH b off vs).size:=by
 refine⟨?_,by rw[qT a];exact a⟩;have:=jv (b.toList.take off) vs.toList (b.toList.drop (off+vs.size)) off vs.size eB dS;rw[oT] at this;exact this
def Aem(a b:T)(c d e:Nat)(f:aR)(g:Array aq)(h:Mk)(i:List (eQ×Int))(l:List (Array aq))(n o p q:Nat)(r:Fr)(s t:Int)(u:Ending)(v:T):Prop:=
 ∃(w:FV)(x:Fr)(y:aq)(z:List (eQ×Int))(H:List (Array aq)),u=aK (fE #[])/\dF (iC y d) v w.val x/\eH w.val/\Dm n o x/\jY v c {h with it:=y,Ru:=h.new,new:=w}/\pI v d y (i++z) (l++H)/\TlX h n o p r s t z/\Bx v e f (jH g (q*5) (au w))/\bD a v/\b.heap.size<=v.heap.size
def dF.low{a b c d e f g}(h:dF (iC f d) a e g)(i:fO a b c S)(l:c<d):dF (iC f d) b e g:=h.G i (fun n o=>by have:=o.2;omega)
def Av(a2 H a0:Nat)(W:aR)(U:Array aq)(Y:Nat)(V:Mk)(a:List (eQ×Int))(b:List (Array aq))(c d e a1:Nat)(f:Fr)(g h:Int)(a3 a4:T)(y:jY a4 a2 V)(i:a2<H)(l:a0<H)(n:a0≠a2)(o:H<=a4.heap.size)(x:bD a3 a4)(p:a3.heap.size<=a2)(q:a3.heap.size<=a0)(r:pI a4 H V.it a b)(s:V.re=af (M ⟨a0,0,S⟩) Y Y)(z:a1<Y)(t:Y<=2)(u:Bx a4 a0 W U)(v:U.size=Y*5)
  (w:∀a5,bD a4 a5->aT aE 67 #[aD (M ⟨a2,0,S⟩),J E (a1:Int),aG (cq V.new aC aC)] a5 (Pd a5 a2 H V a b c d e f g h)):
  aT aE 66 #[aD (M ⟨a2,0,S⟩),J E (a1:Int)] a4 (Aem a3 a4 a2 H a0 W U V a b c d e a1 f g h):=by
 obtain⟨a,b,c,d,e,f⟩:=ej y r w s (bZ u v) (show a2<H/\a0<H/\a0≠a2/\H<=a4.heap.size/\a3.heap.size<=a2/\a3.heap.size<=a0/\a1<Y/\Y<=2 from⟨i,l,n,o,p,q,z,t⟩);have g:=aH x;have h:=y.j.lt;have h:=z;go_enter func66,ntmps66;go_upto_region 0 with fail;refine aL 14 (fun h=>(∃i,jY h a2 (V.lh i))) rfl (fun l n=>?_);obtain⟨h,i⟩:=aQ (show(∃l,jY a4 a2 (V.lh l)) from⟨V.it,a.o⟩) n;refine gN 0 12 3 ?_;simp only[sZ,ak];iterate 3 (go_big_quiet_step (fail))
 refine lC h 27 6 a2 142 (af (M ⟨a0,0,S⟩) Y Y) (fun _ l=>(let ⟨n,o⟩:=l;d.o▸o.t 7 rfl)) oa ?_;simp only[sZ,ak];iterate 6 (go_big_quiet_step (fail))
 refine lR h 63 13 a2 148 5 (au V.new) (fun _ l=>(let ⟨n,o⟩:=l;o.te 13 5 (au V.new) rfl dD)) db bM ?_;simp only[sZ,ak];refine ei rfl (aG (cq V.new aC aC)) (fun h=>iW (qs:=#[(0,aG (au V.new))]) rfl dK (WK V.new h)) ?_;refine aN (oL 12 2 (fun h l=>⟨V.it,(a.o.ext i.o).ext l⟩) fun n o=>?_);simp only[sZ,ak];have a:=mX o i;go_wp2_with fail;refine(c.o n a.o).mono ?_;rintro c h ⟨i,l,n,o,p,rfl,q,r,s,t,u,v,w,x⟩;obtain⟨c,x,y,z,a5⟩:=dZ (show∀a6,V.it.ownBlock=M a6->H<=a6 from fun a7 a8=>(b.o.ow.gQ a8).1) q t u (bZ r (bZ s v));obtain⟨b,q,r⟩:=bh (show Bx h a0 W U from(e.o.1.ext a.o).G w f.o.2.2.1 (fun s=>by have:=c.o _ s;have:=f.o;omega)) (show bD a3 h from w.yG (g.o.trans a.o) f.o.2.2.2.2.1 (fun t u=>by have:=c.o t u;have:=f.o;omega)) (aY a.o.size w.size);go_wp2_with fail;refine gT 13 1 1 ?_;refine oL 14 0 (fun a c=>⟨n,y.o.ext c⟩) fun g h=>?_
 simp only[sZ,ak];let ⟨a,c,s,t,u⟩:=tN h x y z b q;have b:=aH (aY r.o h.size);let ⟨h,q⟩:=aX (jH U (a1*5) (au i));refine cD rfl 63 (aI 17) (aI 16) rfl a0 (a1*5) (au i) rfl rfl _ _ h t.o q.symm bM (by rw[e.o.2,fA];have:=f.o;omega) (FV.one i) ?_;have r:=aH q;have v:fO g (g.setRow a0 h) a0 S:=(fO.refl g _ S).Bb _;obtain⟨w,x,y,z,H,U⟩:=ej (a.o.low v f.o.2.1) (show jY (g.setRow a0 h) a2 (V.lh n) from⟨c.o.j.m (dU f.o),c.o.ok⟩) (s.o.C v f.o.2.1) (t.o.row h) (show bD a3 (g.setRow a0 h) from aO u.o f.o.2.2.2.2.2.1) (show a4.heap.size<=(g.setRow a0 h).heap.size by rw[kB];exact b.o);clear q;refine mn ⟨rfl,pX fun a b=>?_⟩;let ⟨c,g⟩:=aX (V.lh n);have q:=mX b w;have s:=aH (show jY a a2 c by rw[g];exact x.o.ext b);let ⟨a,t,u⟩:=gO b y z H;obtain⟨v,w,x⟩:=bh (aY U.o b.size) g (show c.re=af (M ⟨a0,0,S⟩) Y Y by rw[g];exact d.o);clear g
 try simp only[ak]
 have b:=aH (show h.extract (a1*5) (a1*5+5)=au i/\a1*5+5<=h.size from by rw[r.o];exact Sv (by rw[e.o.2,fA];have:=f.o;omega));have d:=s.o.j.lt;go_upto_region 1 with fail;refine aL 15 (fun d=>jY d a2 c/\Bx d a0 W h) rfl (fun e g=>?_);have d:=aH (bZ s.o t.o);let ⟨e,h,y,z,H⟩:=tN g q s a t u;have a:=aH (aY v.o g.size);refine gT 0 5 14 ?_;refine gN 5 1 13 ?_;simp only[sZ,ak];refine lR d 63 22 a2 148 5 (au c.new) (fun _ g=>g.1.te 13 5 (au c.new) rfl dD) db bM ?_;refine aN (gT 6 3 10 ?_);refine gN 9 1 9 ?_;simp only[sZ,ak];refine lC d 27 26 a2 142 (af (M ⟨a0,0,S⟩) Y Y) (fun _ g=>(x.o▸g.1.t 7 rfl)) oa ?_;refine aN (gT 10 2 7 ?_);refine gN 12 1 6 ?_;simp only[sZ,ak];refine lR d 63 29 a0 (a1*5) 5 (au i) (fun _ g=>⟨_,_,g.2,b.o⟩) db bM ?_;refine aN (gT 13 2 4 ?_);refine oL 15 3 (fun b d=>⟨h.o.ext d,z.o.ext d⟩) fun g q=>?_
 simp only[sZ,ak];let ⟨b,d,s,t,u⟩:=tN q e h y z H;have e:=aH (aY a.o q.size);let ⟨a,h⟩:∃q:Mk,q={c with Ru:=c.new}:=⟨_,rfl⟩;have q:=aH h;refine cD rfl 63 (aI 32) (aI 23) rfl a2 143 (au c.new) rfl rfl _ _ a.cells d.o.j (Mk.YK d.o.ok 8 c.new (by rw[q.o]) dD (oz q.o)) bM (by rw[Mk.size d.o.ok,fA];decide) (FV.one c.new) ?_;have c:fO g (g.setRow a2 a.cells) a2 S:=(fO.refl g _ S).Bb _;obtain⟨h,v,x,y,z,H⟩:=ej (b.o.low c f.o.1) (show jY (g.setRow a2 a.cells) a2 a from d.o.row (by rw[q.o])) (s.o.C c f.o.1) (t.o.G c f.o.2.2.1 dS) (show bD a3 (g.setRow a2 a.cells) from aO u.o f.o.2.2.2.2.1) (show a4.heap.size<=(g.setRow a2 a.cells).heap.size by rw[kB];exact e.o);refine mn ⟨rfl,gT 16 2 1 ?_⟩;refine X8 18 0 fun b c=>?_
 simp only[sZ,ak];let ⟨d,e,g,s,t⟩:=tN c h v x y z;have h:=aH (aY H.o c.size);let ⟨c,u⟩:∃v:Mk,v={a with new:=i}:=⟨_,rfl⟩;have a:=aH u;refine cD rfl 63 (aI 34) (aI 30) rfl a2 148 (au i) rfl rfl _ _ c.cells e.o.j (Mk.YK e.o.ok 13 i (by rw[a.o]) dD (oz a.o)) bM (by rw[Mk.size e.o.ok,fA];decide) (FV.one i) ?_;have u:fO b (b.setRow a2 c.cells) a2 S:=(fO.refl b _ S).Bb _;obtain⟨v,x,y,z,H,U⟩:=ej (d.o.low u f.o.1) (show jY (b.setRow a2 c.cells) a2 c from e.o.row (by rw[a.o])) (g.o.C u f.o.1) (s.o.G u f.o.2.2.1 dS) (show bD a3 (b.setRow a2 c.cells) from aO t.o f.o.2.2.2.2.1) (show a4.heap.size<=(b.setRow a2 c.cells).heap.size by rw[kB];exact h.o);refine mn ⟨rfl,pX fun wc b=>?_⟩;let ⟨c,d,e,f,g⟩:=tN b v x y z H;have h:=aH (aY U.o b.size)
 try simp only[ak]
 go_wp2_with fail;exact dY (v:=fE #[]) (by simp[Ih,results66]) rfl ⟨i,l,n,o,p,rfl,c.o,a5.o.1,a5.o.2.1,by have:=d.o;rw[a.o,q.o,w.o] at this;exact this,e.o,a5.o.2.2,by rw[<-r.o];exact f.o,g.o,h.o⟩
def XJ{c}(a:∀f∈c,GS f){d e}(b:c[d]?=M e):∃g h i,(bF c)[yk c d]?=M (.qh g h,i)/\g.M3=av/\g.ty≠3:=by
 have f:=a e (bg b)
 have a:bF c=bF (c.take d)++(e.its++bF (c.drop (d+1))):=by
  have g:=kS d c
  have h:c.drop d=e::c.drop (d+1):=by
   have i:=(aP.1 b).1;rw[nD i];congr 1;have:=aA i;rw[b] at this;exact(fB this).symm
  conv=>lhs;rw[<-g,h]
  unfold bF;rw[Ec,gL]
 have g:yk c d=(bF (c.take d)).length+e.pre.length:=by unfold yk offG;rw[b];rfl
 have b:(bF c)[yk c d]?=e.tl[0]?:=by
  rw[g,a,aU O,Nat.add_sub_cancel_left,bo (dU (Gr.pos f)),Gr.its,aU O,Nat.sub_self]
 rw[b];have a:=f.tl;generalize e.tl=b at a ⊢
 cases a with
 |@one a b c d e f=>exact⟨a,b,c,rfl,e,f⟩
 |@two a b c d e f g h i=>exact⟨a,c,e,rfl,h,i⟩
def SfW(a:List Gr)(b c d:Nat)(e:T)(f g:aq)(wr:T):Prop:=
 ∃h:Nat,h<=a.length/\f=J E 2/\g=J E h/\jW wr b 102 4 (af (M ⟨c,0,S⟩) a.length d) (xt a 0 0 h)/\bj b e wr
def Iu(r:List Gr)(a:∀s∈r,GS s)(o b:T)(p l n c q d:Nat)(e:p=o.heap.size)(f:bj p o b)(g:(bF r).length<=256)(h:FP o l n (bF r))(i:jW b p 102 4 (af (M ⟨q,0,S⟩) r.length d) (xt r 0 0 0)):
  aT aE 34 #[af (M ⟨l,n,S⟩) (bF r).length c,af (M ⟨q,0,S⟩) r.length d] b fun s t=>s=aK (fE #[])/\jW t p 102 4 (af (M ⟨q,0,S⟩) r.length d) (xt r 0 0 r.length)/\bj p o t:=by
 let ⟨s,t,u,v,w⟩:=dZ a h g e f
 have x:=aH (show r.length<=256 by
  have:∀y:List Gr,(∀z∈y,GS z)->y.length<=(bF y).length:=by
   intro z
   induction z with
   |nil=>simp
   |cons H U V=>
    intro W;have Y:=V fun a0 a1=>W a0 (by simp[a1])
    have a0:=Gr.pos (W H dS);simp only[bF,gL,aJ,eu] at*;omega
  have:=this r a;omega)
 have y:=aH i;go_enter func34,ntmps34;go_wp2_with fail
 go_loopw [4,10] (fun z H wr=>SfW r p q d o z H wr) (fun _ U _=>r.length-(intOf U).toNat)
 case atStart=>exact⟨0,by omega,rfl,rfl,y.o,w.o⟩
 case round=>
  obtain⟨z,H,rfl,rfl,U,V⟩:=hrel;let ⟨W,Y⟩:=aQ U V;have a0:E.wrap ((z:Int)+1)=((z+1:Nat):Int):=by rw[show((z+1:Nat):Int)=(z:Int)+1 by omega];exact an _ (dU x.o)
  by_cases a1:z<r.length
  ·have a2:r[z]?=M r[z]:=aA a1
   generalize r[z]=a3 at*
   let ⟨⟨a,b,c,d,e,f⟩,g,h,i,u,w⟩:=XJ s.o a2;dsimp only at u w;subst u;have b:=aH i;have c:FP wr l n (bF r):=t.o.ext (Jh v.o V);let ⟨d,e⟩:=aX (yk r z);have f:=aH (uD s.o a2);rw[<-e] at i b f;let ⟨b,f,g,h,s⟩:=FP.part c i rfl (off:=n+d*148+139) rfl;simp only[Pc.cells] at h;have b:d<(bF r).length:=(aP.1 i).1;have b:=U.own
   have b:wr.cell? ⟨q,z*4,S⟩=M (J E (d:Int)):=by
    have:=U.rows (by intro b;have:=congrArg mZ b;rw[Ad,eK] at this;omega);let ⟨b,c,f,_,_,i⟩:=this;simp only[dt,bq,Addr.mk.injEq,and_true] at f;obtain⟨rfl,_,rfl⟩:=f;exact i.cell (oG (a:=0) (b:=0) (c:=z) a1) (j:=0) (v:=J E (d:Int)) (by simp[Bd,Un.cells,e]) (z*4) O
   have b:wr.cell? ⟨q,z*4+3,S⟩=M (J E 0)/\wr.frozen? ⟨q,z*4+3,S⟩=av/\q<wr.heap.size/\p<=q:=by
    have:=U.rows (by intro c;have:=congrArg mZ c;rw[Ad,eK] at this;omega);let ⟨c,f,i,t,_,u⟩:=this;simp only[dt,bq,Addr.mk.injEq,and_true] at i;obtain⟨rfl,_,rfl⟩:=i;have c:=u.cell (oG (a:=0) (b:=0) (c:=z) a1) (j:=3) (v:=J E 0) (by simp[Bd,Un.cells]) (z*4+3) O;let ⟨f,i,x,_⟩:=u;exact⟨c,x.frozen _,x.lt,t⟩
   let ⟨c,f,i,t⟩:=b;let ⟨b,c,f,i⟩:=dq t h s g;have g:(a==3)=av:=by simpa using w
   have a:=aH a1;clear a2 e;go_upto_region 9 with(refine lS 93 21 l (n+d*148+139) i.o c.o f.o ?_);go_wp2;have c:=W.o.setCell (oG (a:=0) (b:=0) (c:=z) a.o) (j:=3) dD (J E 2) (off:=z*4+3) O;rw[VW a.o] at c;have a:bj p o (wr.setCell ⟨q,z*4+3,S⟩ (J E 2)):=Y.o.setCell (by show p<=q;exact b.o) _;exact⟨⟨z+1,by omega,rfl,by go_num,c.alloc _,a.alloc (eZ v.o a.size) _⟩,by simp[intOf];omega⟩
  ·have a:z=r.length:=O
   subst a;go_wp2;exact Great.bodyPost_end0 rfl rfl ⟨rfl,W.o,Y.o⟩
def Sq.JP(a:Sq)(b:List Un):Option Int:=mQ a.cap (a.cost 8) (a.arr 2) a.bit 0 (b.map (·.bits))
def Ai3:Option Int->Int|some _=>0|none=>9
def Hv{a b c d e}:∀(f:List Int)(g:Nat),mQ a b c d e (f.drop g)=S->mQ a b c d e f=S
 |a,0,b=>b
 |[],a+1,b=>by simpa using b
 |a::b,c+1,d=>by
  have:=Hv b c (jP d);unfold mQ;rw[this];rfl
def NdW(a:Sq)(b:List Un)(c:T->Prop)(d e:aq)(wr:T):Prop:=
 ∃(f:Nat)(g h:Int),f<=b.length/\d=J E g/\e=J E h/\h=(f:Int)-1/\mQ a.cap (a.cost 8) (a.arr 2) a.bit 0 ((b.map (·.bits)).drop f)=M g/\0<=g/\g<=a.cap-a.cost 8/\c wr
def jV.Ig{a}(b:jV a):a.cost 8<=a.cap/\a.arr 2+a.cost 8<=a.cap/\0<a.cost 8/\a.cost 8=8*a.bit:=by
 have c:=b.buf;have d:=b.n1;have e:=b.NP.1;have f:3*a.den*a.br=3*(a.br*a.den):=by rw[Int.mul_assoc,Int.mul_comm a.den a.br]
 unfold Sq.arr Sq.cost Sq.cap Sq.bit;rw[f] at c;generalize a.br*a.den=g at*
 generalize 2*a.num*a.bu=h at*
 omega
def Sq.one(a:Sq):a.cells.all (·.oneCell')=aB:=by
 rw[bG];intro a b;simp only[iN,Sq.head,Gi,List.mem_toArray,dG,iy,oU,List.not_mem_nil,or_false] at b;rcases b with((rfl|rfl|rfl|rfl|rfl|rfl|rfl)|⟨_,_,rfl⟩)|⟨_,_,rfl⟩<;> rfl
def SD(a c)(d:c.op=.alloc 105)(b):(VI a c).run aE b=.ok (.value (aD (M ⟨b.heap.size,0,S⟩))) (b.alloc (az vm 105)):=by
 obtain⟨a,b,e,f,g,guard⟩:=c;dsimp only at d;subst d
 kernel_rfl
def vL{a b e c f d}(g:e.guard=S)(h)(i:e.dst=h)(l:e.op=.alloc 105)
  (n:cG aE a d b (c.put h (aD (M ⟨f.heap.size,0,S⟩))) (f.alloc (az vm 105))):cG aE a d (e::b) c f:=
 Go.Great.wpList_allocTo g h i _ _ (SD _ e l f) n
def VS(l:Sq)(a:jV l)(h i b:Nat)(n:List Un)(c:n.length<=256)(d:∀o∈n,Rc o)(e:T)(f:E0 e h i n)(g:n.length<=b):
  aT aE 10 #[aG l.cells,af (M ⟨h,i,S⟩) n.length b,J E 0] e (fh e (fE #[J E ((l.JP n).getD 0),J E (Ai3 (l.JP n))])):=by
 let ⟨o,p⟩:=aX e.heap.size;let ⟨q,r⟩:=aX ((e.alloc (az l.cells 26)).alloc (az l.cells 105));obtain⟨s,t⟩:=aQ (show sE q (o+1) 105 l by rw[r];exact sE.new _ _ _ l a (uM p)) (show bD e q by rw[r];exact(jd).alloc dS _);obtain⟨u,v,w,x,y,z⟩:=ej (f.ext t.o) (sE.new e o 26 l a p) (fun H U=>Bt l a h i b n 0 O a.qA.1 c d H U g) (fun V=>pR l a V) (fun W=>Ab l 8 a O O W) (fun Y=>yT l a Y);obtain⟨H,U,V,W⟩:=dq (fun Y a0 a1 a2=>Ab l Y a a0 a1 a2) d c a;have Y:=aH a.Ig;have a0:=aH a.qA;have a1:=aH a.V5;let ⟨a2,a3⟩:=aX l.cap;let ⟨a4,a5⟩:=aX (l.cost 8);let ⟨a6,a7⟩:=aX (l.arr 2);obtain⟨a8,a9,aa,ab,ac⟩:=dZ (show l.JP n=mQ a2 a4 a6 l.bit 0 (n.map (·.bits)) by rw[a3,a5,a7];rfl) (fun ad ae ag wr=>show NdW l n ad ae ag wr=∃(ah:Nat)(ai aj:Int),ah<=n.length/\ae=J E ai/\ag=J E aj/\aj=(ah:Int)-1/\mQ a2 a4 a6 l.bit 0 ((n.map (·.bits)).drop ah)=M ai/\0<=ai/\ai<=a2-a4/\ad wr by rw[a3,a5,a7];rfl) (show a4<=a2/\a6+a4<=a2/\0<a4/\a4=8*l.bit by rw[a3,a5,a7];exact a.Ig) (show 0<=a2/\a2<=17592186044416/\0<=a6/\a6<=2199023255552 by rw[a3,a7];exact⟨a.qA.1,a.qA.2,a.V5⟩) (show l.cap=a2/\l.cost 8=a4/\l.arr 2=a6 from⟨a3.symm,a5.symm,a7.symm⟩);rw[<-a3] at x;rw[<-a5] at y;rw[<-a7] at z;have ad:E.wrap (a2-a4)=a2-a4:=an _ (gC aa.o ab.o);have ae:decide (a2-a4<0)=av:=by have:=aa.o;simp;omega
 have ag:E.wrap ((n.length:Int)-1)=(n.length:Int)-1:=an _ O;clear a3 a5 a7;go_enter func10,ntmps10;go_upto_region 1 with fail;refine wp_region_list ?_;simp only[ln];rw[<-p];refine mJ rfl (aI 3) rfl rfl v.o ?_;simp only[sZ,ak];refine gV rfl 105 #[(0,aI 12)] rfl #[(0,aG l.cells)] dK (aG l.cells) (xQ l W.o _) ?_;simp only[sZ,ak];refine vL rfl (M 8) rfl rfl ?_;simp only[sZ,ak];refine dd rfl 105 (aI 8) (aI 13) rfl _ rfl (eZ (jB W.o) nc) (by rw[jB W.o];kernel_rfl) (Sq.one l) rfl rfl ?_;simp only[ak,iU,nX,mo,dA];rw[<-r,<-p];clear r p;go_wp2_with ((refine gY dW (aI 8) rfl rfl s.o ?_));refine mR (w.o _ u.o) fun p r=>?_
 let ⟨a3,a5,a7⟩:=gO r s u t;go_upto_region 4 with fail;refine aL 99 (fun ah=>sE ah (o+1) 105 l/\E0 ah h i n) rfl (fun ai aj=>?_);let ⟨ah,al,am⟩:=gO aj a3 a5 a7;have ap:=aH (show sE p (o+1) 105 l/\E0 p h i n from⟨a3.o,a5.o⟩);refine gN 0 1 5 ?_;simp only[sZ,ak];refine lR ap 105 8 (o+1) 0 135 l.cells (fun _ ar=>⟨_,_,ar.1.j,Sq.NQ W.o,by rw[jB W.o];omega⟩) pO nc ?_;refine aN (Ax 1 4 ap.o ?_);simp only[sZ,ak];refine bO rfl 36 #[aG l.cells] (J E a2) (fun ar=>by kernel_rfl) (fun ax ay=>x.o ax) ?_;refine gN 2 1 3 ?_;simp only[sZ,ak];refine lR ap 105 8 (o+1) 0 135 l.cells (fun _ ar=>⟨_,_,ar.1.j,Sq.NQ W.o,by rw[jB W.o];omega⟩) pO nc ?_;refine aN (Ax 3 2 ap.o ?_);simp only[sZ,ak];refine bO rfl 37 #[aG l.cells,J E 8] (J E a4) (fun ar=>by kernel_rfl) (fun ax ay=>y.o ax) ?_;refine gN 4 2 0 ?_;simp only[sZ,ak];iterate 2 (go_big_quiet_step (fail))
 refine aN (QD (fun ar ax=>⟨ah.o.ext ax,al.o.ext ax⟩) fun ay aV=>?_);let ⟨ar,ax,b0⟩:=gO aV ah al am;go_wp2_with fail
 go_loopw [10,11] (fun b1 b2 wr=>NdW l n (fun wr=>bD e wr/\sE wr (o+1) 105 l/\E0 wr h i n) b1 b2 wr) (fun _ b3 _=>(intOf b3+1).toNat)
 case atStart=>
  rw[a9.o];refine⟨n.length,0,_,by omega,rfl,rfl,rfl,?_,by omega,by have:=aa.o;omega,b0.o,ar.o,ax.o⟩;rw[fU dS];unfold mQ;rw[if_neg (dU aa.o)]
 case round=>
  rw[a9.o] at hrel;obtain⟨b1,b2,b3,b4,rfl,rfl,b5,b6,b7,b8,b9,ba,bb⟩:=hrel;cases b1 with
  |zero=>
   have b1:decide (0<=b3)=av:=by simp;omega
   have b1:l.JP n=M b2:=by rw[a8.o];exact b6
   let ⟨bc,bd⟩:=aQ b9 b1;clear b1;go_wp2;go_ret2;exact⟨by rw[bd.o];rfl,bc.o⟩
  |succ b1=>
   have bc:b3=(b1:Int):=by rw[b5];omega
   subst bc;have bc:b1<n.length:=b4;have bd:n[b1]?=M n[b1]:=aA bc;generalize n[b1]=be at*
   have a:=aH (U.o be (bg bd));let ⟨b,c,d,e⟩:=be;have f:=aH bd;have g:e=2:=a.o.2.2;subst g;have e:=aH (W.o.Ea a.o.1 a.o.2.1);let ⟨g,p⟩:=aX (l.cost d);have q:=aH (show l.bit*d=g by rw[p];rfl);rw[<-p] at e;have r:=aH (fun s=>H.o d a.o.1 a.o.2.1 s);rw[<-p] at r;have a:=aH b6
   have s:=aH (show(n.map (·.bits)).drop b1=d::(n.map (·.bits)).drop (b1+1) by
    rw[nD (jP bc),List.getElem_map];have:n[b1]=⟨b,c,d,2⟩:=by have:=aA bc;rw[f.o] at this;exact(fB this).symm
    rw[this])
   have b:E.wrap (b2-a6)=b2-a6:=an _ (gC ab.o aa.o);have b:E.wrap (g+max 0 (b2-a6))=g+max 0 (b2-a6):=an _ (uL ab.o aa.o e.o);have b:E.wrap ((b1:Int)-1)=(b1:Int)-1:=an _ (dU V.o);have b:decide ((0:Int)<=(b1:Int))=aB:=by simp
   obtain⟨b,c,t,u⟩:=dq (show 0<=b2/\b2<=a2-a4 from⟨b7,b8⟩) ba bb b9;clear b6 bd b9 ba bb b5 ar ax b0 p b7 b8;go_upto_region 11 with fail;refine aL 99 (fun b=>sE b (o+1) 105 l/\E0 b h i n) rfl (fun p v=>?_);let ⟨b,p,w⟩:=gO v c t u;have u:=aH (show sE wr (o+1) 105 l/\E0 wr h i n from⟨c.o,t.o⟩);refine gN 0 6 13 ?_;simp only[sZ,ak];refine lR u 105 8 (o+1) 0 135 l.cells (fun _ c=>⟨_,_,c.1.j,Sq.NQ W.o,by rw[jB W.o];omega⟩) pO nc ?_;simp only[sZ,ak];iterate 4 (go_big_quiet_step (fail))
   refine lC u 2 42 h (i+b1*4+2) (J E d) (fun _ c=>(c.2.at f.o (off:=i+b1*4) O).2.2.1) qJ ?_;refine aN (Ax 6 12 u.o ?_);simp only[sZ,ak];refine bO rfl 37 #[aG l.cells,J E d] (J E g) (fun c=>by kernel_rfl) (fun t v=>r.o t) ?_;refine gN 7 7 5 ?_;simp only[sZ,ak];go_big_quiet_step (fail);refine lR u 105 8 (o+1) 0 135 l.cells (fun _ c=>⟨_,_,c.1.j,Sq.NQ W.o,by rw[jB W.o];omega⟩) pO nc ?_;simp only[sZ,ak];iterate 4 (go_big_quiet_step (fail))
   refine lC u 3 50 h (i+b1*4+3) (J E 2) (fun _ c=>(c.2.at f.o (off:=i+b1*4) O).2.2.2) bJ ?_;refine aN (Ax 14 4 u.o ?_);simp only[sZ,ak];refine bO rfl 38 #[aG l.cells,J E 2] (J E a6) (fun c=>by kernel_rfl) (fun d f=>z.o d) ?_;refine gN 15 1 3 ?_;simp only[sZ,ak];go_big_quiet_step (fail);refine aN (oL 16 2 (fun c d=>⟨b.o.ext d,p.o.ext d⟩) fun f h=>?_);simp only[sZ,ak];let ⟨c,d,f⟩:=gO h b p w;go_wp2_with fail;refine gN 17 2 0 ?_;simp only[sZ,ak];iterate 2 (go_big_quiet_step (fail))
   refine aN (QD (fun b h=>⟨c.o.ext h,d.o.ext h⟩) fun i o=>?_);let ⟨b,h,i⟩:=gO o c d f
   by_cases c:a2-a4<g+max 0 (b2-a6)
   ·have d:l.JP n=S:=by
     rw[a8.o];refine Hv _ b1 ?_;rw[s.o];unfold mQ;rw[a.o];simp only[Gb,q.o];rw[if_pos c]
    have f:decide (a2-a4<g+max 0 (b2-a6))=aB:=by simp;omega
    have f:=aH d;clear d;go_wp2;go_ret2;exact⟨by rw[f.o];rfl,i.o⟩
   ·have d:=aH (show mQ a2 a4 a6 l.bit 0 ((n.map (·.bits)).drop b1)=M (g+max 0 (b2-a6)) by
     rw[s.o];unfold mQ;rw[a.o];simp only[Gb,q.o];rw[if_neg c])
    have a:decide (a2-a4<g+max 0 (b2-a6))=av:=by simp;omega
    obtain⟨a,c⟩:=aQ (show 0<=g+max 0 (b2-a6) by have:=e.o;omega) (show g+max 0 (b2-a6)<=a2-a4 by omega);go_wp2;rw[a9.o];exact⟨⟨b1,_,_,by omega,rfl,rfl,rfl,d.o,a.o,c.o,i.o,b.o,h.o⟩,by simp[intOf]⟩
end Go.Proofs.YtbdhieahnneebaaGreatDoor
