/- Laws that TopChains leans on. -/
import Derived.Test.YtbdhieahnneebaaGreatDoorB00
import Derived.Laws.CopyRow
import Derived.Laws.StructEq
import Derived.Laws.Tables
import Derived.Lib.SmallJoins
import Derived.OpenShut
import Derived.ProofKit
import Derived.Shelf.SlSortCmp.Small
import Derived.Shelf.SlicesG.Cmp
import Derived.Test.YtbdhieahnneebaaGreatDoorRows
set_option maxRecDepth 100000
set_option maxHeartbeats 32000000
set_option linter.all false
open Go.Proofs.Tryz
open Array renaming all_eq_true_iff_forall_mem->bG,ext_getElem?->oZ,extract_size->VF,getElem?_eq_some_iff->eJ,getElem?_extract->iL,getElem?_modify->qF,length_toList->cj,mem_of_getElem?->nd
open Bool renaming eq_iff_iff->iF,false->av,false_eq_true->yP,true->aB
open Exists renaming intro->vG
open Go renaming Calls->aT,DataW->M6,IntKind->yf,MemPlace->sL,Oper->cQ,Operand->Gc,Program->nt,TypeDesc->Ac5,TypeId->aR,Value->aq,World->T,bodyPost_ret->dY,cell_of_row->Bf,execOp->VI,laidOutB->Acp,loadVar->oA,results->Ih,results_cell_row->Ke,run_eql_struct->V9,run_loadVar_row->tm,run_underlying->fI,setRow_other->iD,sizeOf->K3,size_setRow->kB,undef->sJ,wpList->cG,wpList_load_row->Alq,wpList_store_row->vA,wpQuiet->kL,wpQuiet_nil->aN,yielded->xZ
open Go.Act renaming put->ak
open Go.BigFrame renaming wpList_want->eI,wpQuiet_want->lZ
open Go.Calls renaming quiet_of->Acs,quiet_of_same->uX
open Go.Code renaming wp->yN
open Go.DataW renaming TrodAll->uV,Whole->Vk
open Go.Ending renaming returned->aK
open Go.Instr renaming build->fk,fill->nz,index->eT,loadAt->yp,sureAddr->nO
open Go.IntKind renaming bits->ig,i64->E,max->Mq,min->Mp,signed->fQ,u64->jg,wrap->jc,wrap_u64->Ml
open Go.IntWalk renaming i64_in->an,wrap64_in->kE
open Go.Lib renaming compareInt->nW
open Go.Obj renaming cells->az
open Go.Op renaming equalIn->mF
open Go.Oper renaming quietAt->nQ,wp->Bg
open Go.Operand renaming tmp->aI
open Go.Proofs.Tryz renaming func229->RW,func301->qq,isAgg3->YY,ntmps119->Zc,ntmps225->Za,ntmps227->Z9,ntmps229->NW,ntmps301->oc,ntmps303->Z1,ntmps304->Z0,prog->aE,results225->PE,sizeOf3->PB,underlying24->fV,underlying26->ik,underlying276->Zf,underlying277->ji,underlying280->mG,underlying3->bJ,underlying324->kR,underlying4->jD,underlying63->db,zeroValue3->Ij
open Go.Region renaming noSelect->gA,ready->eO,wanted->bP
open Go.Result renaming andThen_ok->dv
open Go.RowKit renaming Below->bj,wrap64->RI
open Go.RowKit.Below renaming heap_setCell->eF,refl->aM
open Go.Sem renaming run_bind->fT,run_pure->iT
open Go.Sort renaming insOuter->YZ,insertionSort->VM,mapBlock->Acq,putRow->DC
open Go.Value renaming agg->aG,bool->ao,int->J,okWide->DB,oneCell'->cJ,pointer->aD,slice->af,tuple->fE
open Go.World renaming cell?_of_block->xn,drewN->Vj,drewN_drewN->YW,setCell->gS
open Int renaming add_mul_ediv_right->DA,add_zero->Ps,ediv_eq_zero_of_lt->Dz,ediv_le_self->M9,ediv_nonneg->H7,emod_lt_of_pos->uR,emod_nonneg->zH,le_trans->Vf,mul_assoc->Kc,mul_comm->uT,mul_le_mul->xm,mul_le_mul_of_nonneg_right->qj,mul_nonneg->nA,tdiv->V7,tdiv_eq_ediv_of_nonneg->bB,tmod_eq_emod_of_nonneg->iG,toNat_natCast->jn
open List renaming append_assoc->aW,append_nil->kg,drop->zF,drop_drop->gK,drop_succ_cons->eN,drop_zero->eo,ext_getElem?->oB,forall_mem_cons->Ge,getD->jr,getD_eq_getElem?_getD->jS,getElem?_append_left->bo,getElem?_append_right->aU,getElem?_drop->iZ,getElem?_eq_getElem->aA,getElem?_eq_none->de,getElem?_eq_some_iff->aP,getElem?_map->bN,getElem?_range->jo,getElem?_set->uf,getElem?_take->gH,getElem?_toArray->bw,length_append->aJ,length_drop->jO,length_map->cX,length_nil->eK,length_range->qD,length_set->ee,length_singleton->cW,length_take_le->YO,map_congr_left->rI,mem_append_left->nT,mem_append_right->zT,mem_of_getElem?->bg,mem_of_mem_drop->iw,mem_of_mem_take->jb,mem_or_eq_of_mem_set->s6,mem_range'_1->JW,range'->JV,range->dI,replicate->aF,setIfInBounds_toArray->iU,set_append_right->jT,set_set->Pz,size_toArray->qY,take_append_drop->kS,take_succ_cons->cZ,take_zero->dP
open Nat renaming add_assoc->qX,add_sub_cancel_left->gj,add_zero->Ck,gcd->ZM,gcd_comm->Gg,gcd_rec->Aka,gcd_zero_right->Ac1,le_refl->aw,le_trans->aY,lt_of_lt_of_le->dX,mod_lt->rZ,mul_one->Mn,mul_zero->Pr,reduceAdd->Ka,reduceMul->Pq,zero_add->oD
open Option renaming bind_eq_some_iff->kO,map_some->bX,none->S,some->M
namespace Go.Proofs.YtbdhieahnneebaaGreatDoor
open Go.RowKit Go.Top
section
def sM(a:Nat):Int:=tM (a/8) (a%8)*mM (a/8)
def Qd(a:Nat):List Int:=(dI a).map sM++Ks.drop a
def Wp{a}(b:a<64):(Qd a).set a (sM a)=Qd (a+1):=by
 have c:Ks.drop a=Ks[a]'b::Ks.drop (a+1):=List.drop_eq_getElem_cons b;unfold Qd;rw[jT _ _ dS,c,List.range_succ,List.map_append];simp
def SB{a i d}(b:i<8)(c:d<8)(e:8*i+d<a):(Qd a)[8*i+d]?=M (tM i d*mM i):=by
 unfold Qd;rw[bo (jP e)];have a:(8*i+d)/8=i:=O;have b:(8*i+d)%8=d:=O;simp only[bN,jo e,bX,sM,a,b]
def Wq{b i c}(d:i<8)(e:c<8)(a:b<=8*i+c):(Qd b)[8*i+c]?=M (tM i c):=by
 unfold Qd;rw[aU (jP a)];simp only[cX,qD,iZ];rw[show b+(8*i+c-b)=8*i+c by omega];exact MJ i c d e
def Ti(i)(a:i<8):1280<=mM i/\mM i<=2312/\V7 739840 (nM i)=mM i/\739840/nM i=mM i/\320<=nM i/\nM i<=578:=by
 have b:∀c:Fin 8,1280<=mM c.val/\mM c.val<=2312/\V7 739840 (nM c.val)=mM c.val/\739840/nM c.val=mM c.val/\320<=nM c.val/\nM c.val<=578:=by decide
 exact b ⟨i,a⟩
def sMr(i b)(a:i<8):-27744<=tM i b*mM i/\tM i b*mM i<=27744:=by
 have c:=Ti i a;have:=ju (c:=12) (d:=2312) (yU i b) ⟨by omega,c.2.1⟩ (by omega);omega
def Uo(a:Int):Int:=min (max a (-2097152)) 2097152
def JD(a):-2097152<=Uo a/\Uo a<=2097152:=by unfold Uo;omega
def uy(a:List Int)(b:Nat):Int:=S8 fun c=>(tM c (b%8)*mM c)*Uo (cM a (8*(b/8)+c))
def BN(a:List Int)(b:Nat):Int:=S8 fun c=>(tM c (b/8)*mM c)*uy a (8*c+b%8)
def vd(a:Int):Int:=(2*a+547363225600)/1094726451200
def yj(a:List Int):List Int:=(dI 64).map fun b=>vd (BN a b)
def Eo{f c}(b:∀i,i<8->-c<=f i/\f i<=c)(d)(a:d<=8):-(8*c)<=p9 f d/\p9 f d<=8*c:=by
 have e:=qS b d a;have a:=b 0 (by omega);have a:(d:Int)*c<=8*c:=qj (by omega) (by omega);omega
def Ew(a b):-465467080704<=uy a b/\uy a b<=465467080704:=by
 unfold uy;rw[<-yV];have:=Eo (f:=fun c=>(tM c (b%8)*mM c)*Uo (cM a (8*(b/8)+c))) (c:=27744*2097152) (fun d e=>ju (sMr _ _ e) (JD _) (by omega)) 8 (by omega);omega
def TE(a b):-103311349496414208<=BN a b/\BN a b<=103311349496414208:=by
 unfold BN;rw[<-yV];have:=Eo (f:=fun c=>(tM c (b/8)*mM c)*uy a (8*c+b%8)) (c:=27744*465467080704) (fun d e=>ju (sMr _ _ e) (Ew _ _) (by omega)) 8 (by omega);omega
def ME(c)(a:-103311349496414208<=c/\c<=103311349496414208)(b):aT aE 271 #[J E c] b fun d e=>d=aK (J E (vd c))/\b=e:=by
 have a:=Int.mul_tdiv_add_tmod (2*c+547363225600) 1094726451200;have a:=Int.tmod_lt_of_pos (2*c+547363225600) (show(0:Int)<1094726451200 by decide);have a:=Int.lt_tmod_of_pos (2*c+547363225600) (show(0:Int)<1094726451200 by decide);go_enter func271,ntmps271;go_wp2
 all_goals
  go_ret;refine⟨Ol ?_,rfl⟩;unfold vd
  try simp only[RI]
  omega
structure Gm(f wr:T)(a c d:Nat)(b e:List Int):Prop where
 Q:Bn E wr 277 a b
 b2:Bn E wr 277 c zeros64
 b6:Bn E wr 211 d e
 F:bj f.heap.size f wr
def Gm.ext{a wr b c d e f g}(h:Gm a wr c d e f g)(i:bj wr.heap.size wr b):Gm a b c d e f g:=⟨h.Q.ext i,h.b2.ext i,h.b6.ext i,h.F.trans (i.mono h.F.size)⟩
def Gm.drewN{a wr b c d e f}(g:Gm a wr b c d e f)(h):Gm a (wr.drewN h) b c d e f:=⟨g.Q,g.b2,g.b6,FJ g.F h⟩
def Gm.set{b wr c d e f g}(o:Gm b wr c d e f g){a}(h:e<a.block)(i:c<d)(l:d<e)(n:b.heap.size<=c)(p):Gm b (wr.setCell a p) c d e f g:=
 ⟨o.Q.C (by omega) p,o.b2.C (by omega) p,o.b6.C (by omega) p,FD o.F _ (by omega) p⟩
def Gm.Af6{f wr g h l a b}(n:Gm f wr g h l a b)(c:g<h)(d:h<l)(e:f.heap.size<=g)(i o):Gm f (wr.setCell ⟨l,i,S⟩ (J E o)) g h l a (b.set i o):=
 ⟨n.Q.C (show g≠l by omega) _,n.b2.C (show h≠l by omega) _,n.b6.L i o,FD n.F _ (show f.heap.size<=l by omega) _⟩
def TN{x}{d:Nat}{a}(b:x.length=8)(e:x[d]?=M a)(c):(eT 210 (aG (aS E x)) (J E (d:Int))).run aE c=.ok (J E a) c:=by
 have a:d<8:=by have:=(aP.1 e).1;omega
 have b:∀c,(K3 3).run aE c=.ok 1 c:=fun _=>by kernel_rfl
 have c:∀d,(isAgg 3).run aE d=.ok av d:=fun _=>by kernel_rfl
 simp[eT,fI underlying210,part,b,c,aS,go_sem,a,e]
def IvP(a:T)(b c d e:Nat)(f g:List Int)(wr:T):Prop:=Gm a wr b c d f (Qd 64)/\Bn E wr 208 e g
def YF(a:T)(b c d e f:Nat)(g h:List Int)(wr:T):Prop:=IvP a b c d e g (en (uy g) 64) wr/\Bn E wr 277 f h
attribute [local go_sem ↓] kH kI
def MF(c:List Int)(a:c.length=64)(b:T):aT aE 234 #[aG (aS E c)] b (zu b (yj c)):=by
 obtain⟨d,e,f,g⟩:=dq a He Kn ME;obtain⟨h,i⟩:=aX ((b.alloc (az (aS E c) 277)).alloc (az (aS E zeros64) 277));have l:Bn E h 277 b.heap.size c:=by rw[i];exact(Bn.D _ _ _ _ _ rfl).alloc _
 have n:Bn E h 277 (b.heap.size+1) zeros64:=by rw[i];exact Bn.D _ _ _ _ _ dS
 obtain⟨o,p,q⟩:=bh l n (show bj b.heap.size b h by rw[i];exact((aM _ _).alloc (aw _) _).alloc dS _);have r:h.heap.size=b.heap.size+2:=by rw[i];simp
 have s:=aH r;clear a l n r;go_enter func234,ntmps234;go_upto_region 1 with fail;change yN _ _ _ _ ((b.alloc (az (aS E c) 277)).alloc (az (aS E zeros64) 277));rw[<-i];clear i;go_wp2_with fail;refine(e.o _).mono ?_;rintro a i ⟨rfl,l⟩;have n:=aH (o.o.ext l);have r:=aH (p.o.ext l);have t:=aH (q.o.trans (l.mono q.o.size));have u:=l.size;clear o p q l e;go_upto_region 2 with(refine ug rfl (aI 3) (aI 17) 211 rfl Ks rfl rfl rfl AW ?_;intro w2 hB6 hbe2);have e:Gm b w2 b.heap.size (b.heap.size+1) i.heap.size c Ks:=⟨n.o.ext hbe2,r.o.ext hbe2,hB6,t.o.trans (hbe2.mono t.o.size)⟩;clear n r t hbe2 hB6;obtain⟨l,n⟩:=aX b.heap.size;obtain⟨o,p⟩:=aX (b.heap.size+1);obtain⟨q,r⟩:=aX i.heap.size;have t:Gm b w2 l o q c Ks:=by rw[n,p,r];exact e
 rw[<-p,<-n,<-r];obtain⟨v,w,x,y⟩:=dq (show l<o by omega) (show o<q by have:=s.o;omega) (show b.heap.size<=l by omega) t;clear t e n p r u s;go_wp2_with fail;refine(f.o _).mono ?_;rintro e n ⟨rfl,p⟩;have r:=aH (y.o.ext p);clear y p f;go_wp2_with fail
 go_loopw [19] (fun f wr=>mD 8 (fun p wr=>Gm b wr l o q c (Qd (8*p))) f wr) (fun s _=>8-(intOf s).toNat)
 case atStart=>exact⟨0,by omega,rfl,r.o⟩
 case round=>
  obtain⟨f,p,rfl,s⟩:=hrel;have t:=aH s;clear s r
  by_cases r:f<8
  ·have s:=Ti f r
   have u:=fun y=>TN (x:=X0) rfl (T7 f r) y
   obtain⟨y,z⟩:=aX (nM f);rw[<-z] at s u;obtain⟨H,U,V,W,Y,a0⟩:=s;obtain⟨s,Y⟩:=aQ V W;clear V W z;go_wp2;clear u
   go_loopw [23] (fun u wr=>mD 8 (fun z wr=>Gm b wr l o q c (Qd (8*f+z))) u wr) (fun V _=>8-(intOf V).toNat)
   case atStart=>exact⟨0,by omega,rfl,t.o⟩
   case round=>
    obtain⟨u,z,rfl,V⟩:=hrel;have z:=aH V;clear V t
    by_cases V:u<8
    ·have W:=z.o.b6.cell (8*f+u)
     rw[Wq r V (aw _),show 8*f+u=f*8+u by omega] at W;simp only[bX] at W;have V:=z.o.b6.frozen (f*8+u);have V:=z.o.b6.lt;have V:=sMr f u r;have a0:=yU f u;obtain⟨a1,a2⟩:=aX (tM f u);obtain⟨a3,a4⟩:=aX (mM f);rw[<-a2] at a0 V W;rw[<-a4] at H U V;obtain⟨H,U⟩:=aX (a1*a3);rw[<-U] at V;have V:V7 739840 y=a3:=by rw[a4];exact s.o
     have s:739840/y=a3:=by rw[a4];exact Y.o
     have s:E.wrap (a1*a3)=H:=by rw[<-U];exact an _ (by omega)
     have s:E.wrap a3=a3:=an _ (by omega);obtain⟨s,V,W⟩:=bh U a2 a4;have Y:¬y=0:=O;clear U a2 a4;go_wp2
     try simp only[sZ,ak]
     refine cH 10 dK dK ?_;simp only[cZ,dP,eN,eo]
     repeat(go_big_quiet_step (fail))
     refine aN ?_;go_wp2;have y:=z.o.Af6 v.o w.o x.o (8*f+u) H
     have y:H=sM (8*f+u):=by
      unfold sM;rw[s.o,V.o,W.o,show(8*f+u)/8=f by omega,show(8*f+u)%8=u by omega]
     have s:f*8+u=8*f+u:=O;refine⟨⟨u+1,by omega,by go_num,?_⟩,by simp[intOf];omega⟩;rw[s];have s:=Gm.Af6 (z.o.drewN 1) v.o w.o x.o (8*f+u) H;rw[show(Qd (8*f+u)).set (8*f+u) H=Qd (8*f+(u+1)) by rw[y,Wp (by omega)];rfl] at s;exact s
    ·obtain rfl:u=8:=O
     go_wp2;exact⟨⟨f+1,by omega,by go_num,by have:=z.o;rw[show 8*f+8=8*(f+1) by omega] at this;exact this⟩,by simp[intOf];omega⟩
  ·have s:f=8:=O
   have u:fj (Gm b wr l o q c (Qd 64)):=by have:=t.o;rw[s] at this;exact aH this
   clear s;have s:=u.o.b6.lt;go_wp2;change yN _ _ _ _ (wr.alloc (az (aS E zeros64) 208));obtain⟨y,z⟩:=aX wr.heap.size;have H:IvP b l o q y c (en (uy c) 0) (wr.alloc (az (aS E zeros64) 208)):=⟨u.o.ext ((aM _ _).alloc (aw _) _),Bn.D _ _ _ _ _ z⟩;rw[<-z];obtain⟨U,V⟩:=aQ (show q<y by omega) H;clear z H s u;generalize wr.alloc (az (aS E zeros64) 208)=s at*
   go_loopw [38] (fun u wr=>mD 8 (fun z wr=>IvP b l o q y c (en (uy c) (8*z)) wr) u wr) (fun H _=>8-(intOf H).toNat)
   case atStart=>exact⟨0,by omega,rfl,V.o⟩
   case round=>
    obtain⟨u,z,rfl,H⟩:=hrel;have W:=aH H;clear H V
    by_cases H:u<8
    ·go_wp2
     go_loopw [41] (fun V wr=>mD 8 (fun Y wr=>IvP b l o q y c (en (uy c) (8*u+Y)) wr) V wr) (fun a0 _=>8-(intOf a0).toNat)
     case atStart=>exact⟨0,by omega,rfl,W.o⟩
     case round=>
      obtain⟨V,Y,rfl,a0⟩:=hrel;have Y:=aH a0;clear a0 W
      by_cases a0:V<8
      ·go_wp2
       go_loopw [10,44] (fun a1 a2 wr=>Yy 8 (fun a3=>tM a3 V*mM a3*Uo (cM c (8*u+a3))) (IvP b l o q y c (en (uy c) (8*u+V))) a1 a2 wr) (fun _ a4 _=>8-(intOf a4).toNat)
       case atStart=>exact⟨0,by omega,rfl,rfl,Y.o⟩
       case round=>
        obtain⟨a1,a2,rfl,rfl,a3⟩:=hrel;have a4:=aH a3;clear a3 Y;have a3:=qS (f:=fun a5=>tM a5 V*mM a5*Uo (cM c (8*u+a5))) (c:=27744*2097152) (fun a6 a7=>ju (sMr _ _ a7) (JD _) (by omega)) a1 a2;have a2:(a1:Int)*(27744*2097152)<=465467080704:=O;obtain⟨a5,a6⟩:=aX (p9 (fun a7=>tM a7 V*mM a7*Uo (cM c (8*u+a7))) a1);rw[<-a6] at a3 ⊢
        by_cases a7:a1<8
        ·have a8:=JD (cM c (8*u+a1))
         have a9:=sMr a1 V a7;have aa:=ju a9 a8 (by omega);have ab:p9 (fun ac=>tM ac V*mM ac*Uo (cM c (8*u+ac))) (a1+1)=a5+tM a1 V*mM a1*Uo (cM c (8*u+a1)):=by rw[a6];rfl
         have ac:=a4.o.1.b6.cell (8*a1+V);rw[SB a7 a0 (by omega),show 8*a1+V=a1*8+V by omega] at ac;have a0:=a4.o.1.Q.cell (8*u+a1);rw[aA (iJ d.o),show c[8*u+a1]'(iJ d.o)=cM c (8*u+a1) by unfold cM;rw[jr,aA (iJ d.o)];rfl] at a0;simp only[bX] at ac a0;obtain⟨a7,ad⟩:=aQ a6 ab;obtain⟨a7,ae⟩:=aX (tM a1 V*mM a1);obtain⟨ag,ah⟩:=aX (cM c (8*u+a1));obtain⟨ai,aj⟩:=aX (Uo (cM c (8*u+a1)));have al:min (max ag (-2097152)) 2097152=ai:=by rw[aj,<-ah];rfl
         rw[<-ae] at a9 aa ac;rw[<-ah] at a0;rw[<-aj] at a8 aa;obtain⟨a0,a8⟩:=aX (a7*ai);rw[<-a8] at aa;obtain⟨a9,aa,ac⟩:=bh a8 ae aj;have ag:E.wrap (a7*ai)=a0:=by rw[<-a8];exact an _ (by omega)
         have a7:E.wrap (a5+a0)=a5+a0:=an _ (by omega);have a0:E.wrap (8*(u:Int))=8*u:=an _ (by omega);have a0:E.wrap (8*(u:Int)+a1)=8*u+a1:=an _ (by omega);have a0:(8*(u:Int)+a1).toNat=8*u+a1:=O;have a0:0<=8*(u:Int)+a1:=O;have a0:8*(u:Int)+a1<64:=O;clear a6 ab ae aj a8 ah;go_wp2;go_quiet (fail);go_wp2;exact⟨⟨a1+1,by omega,by rw[ad.o,a9.o,aa.o,ac.o],by go_num,a4.o.1.drewN nq,a4.o.2⟩,by simp[intOf];omega⟩
        ·obtain rfl:a1=8:=O
         have a0:a5=uy c (8*u+V):=by
          rw[a6,yV];unfold uy;rw[show(8*u+V)%8=V by omega,show(8*u+V)/8=u by omega]
         have a1:=aH a0;have a7:=a4.o.2;have a8:8*u+V<64:=O;obtain⟨a9,aa,ab⟩:=a7.gZ (i:=8*u+V) (by rw[jz (by omega)];exact a8);have a9:=a7.frozen (8*u+V);have a9:=a7.lt;have a9:(8*(u:Int)+V).toNat=8*u+V:=O;clear a6 a0 a7 aa a3 a2;go_wp2;have a0:=a4.o.2.L (8*u+V) a5;rw[a1.o,ki a8] at a0;refine⟨⟨V+1,by omega,by go_num,a4.o.1.set U.o v.o w.o x.o _,?_⟩,by simp[intOf];omega⟩;rw[a1.o];exact a0
      ·obtain rfl:V=8:=O
       go_wp2;exact⟨⟨u+1,by omega,by go_num,by have:=Y.o;rw[show 8*u+8=8*(u+1) by omega] at this;exact this⟩,by simp[intOf];omega⟩
    ·have V:u=8:=O
     have Y:fj (IvP b l o q y c (en (uy c) 64) wr):=by have:=W.o;rw[V] at this;exact aH this
     clear V;have V:=Y.o.2.lt;go_wp2;change yN _ _ _ _ (wr.alloc (az (aS E zeros64) 277));obtain⟨a0,a1⟩:=aX wr.heap.size;have a2:YF b l o q y a0 c (en (fun a3=>vd (BN c a3)) 0) (wr.alloc (az (aS E zeros64) 277)):=⟨⟨Y.o.1.ext ((aM _ _).alloc (aw _) _),Y.o.2.alloc _⟩,Bn.D _ _ _ _ _ a1⟩;rw[<-a1];obtain⟨a3,a4,a5⟩:=bh (show y≠a0 by omega) (show q<a0 by have:=U.o;omega) a2;clear a1 a2 V Y;generalize wr.alloc (az (aS E zeros64) 277)=U at*
     go_loopw [72] (fun a wr=>mD 8 (fun d wr=>YF b l o q y a0 c (en (fun e=>vd (BN c e)) (8*d)) wr) a wr) (fun f _=>8-(intOf f).toNat)
     case atStart=>exact⟨0,by omega,rfl,a5.o⟩
     case round=>
      obtain⟨a,d,rfl,e⟩:=hrel;have d:=aH e;clear e a5
      by_cases e:a<8
      ·have f:decide ((a:Int)<8)=aB:=by simp;omega
       go_wp2
       go_loopw [75] (fun f wr=>mD 8 (fun h wr=>YF b l o q y a0 c (en (fun i=>vd (BN c i)) (8*a+h)) wr) f wr) (fun n _=>8-(intOf n).toNat)
       case atStart=>exact⟨0,by omega,rfl,d.o⟩
       case round=>
        obtain⟨f,h,rfl,i⟩:=hrel;have h:=aH i;clear i d
        by_cases i:f<8
        ·go_wp2
         go_loopw [15,78] (fun i n wr=>Yy 8 (fun p=>tM p a*mM p*uy c (8*p+f)) (YF b l o q y a0 c (en (fun r=>vd (BN c r)) (8*a+f))) i n wr) (fun _ s _=>8-(intOf s).toNat)
         case atStart=>exact⟨0,by omega,rfl,rfl,h.o⟩
         case round=>
          obtain⟨b,i,rfl,rfl,l⟩:=hrel;have n:=aH l;clear l h;have l:=qS (f:=fun p=>tM p a*mM p*uy c (8*p+f)) (c:=27744*465467080704) (fun q r=>ju (sMr _ _ r) (Ew _ _) (by omega)) b i;have i:(b:Int)*(27744*465467080704)<=103311349496414208:=O;obtain⟨p,q⟩:=aX (p9 (fun r=>tM r a*mM r*uy c (8*r+f)) b);rw[<-q] at l ⊢
          by_cases r:b<8
          ·have s:=Ew c (8*b+f)
           have t:=sMr b a r;have u:=ju t s (by omega);have y:p9 (fun z=>tM z a*mM z*uy c (8*z+f)) (b+1)=p+tM b a*mM b*uy c (8*b+f):=by rw[q];rfl
           have z:=n.o.1.1.b6.cell (8*b+a);rw[SB r e (by omega),show 8*b+a=b*8+a by omega] at z;have e:=n.o.1.2.cell (8*b+f);rw[tO (by omega)] at e;simp only[bX] at z e;obtain⟨r,H⟩:=aQ q y;obtain⟨r,U⟩:=aX (tM b a*mM b);obtain⟨V,W⟩:=aX (uy c (8*b+f));rw[<-U] at t u z;rw[<-W] at s u e;obtain⟨e,s⟩:=aX (r*V);rw[<-s] at u;obtain⟨t,u,z⟩:=bh s U W;have Y:E.wrap (r*V)=e:=by rw[<-s];exact an _ (by omega)
           have r:E.wrap (p+e)=p+e:=an _ (by omega);have e:E.wrap (8*(b:Int))=8*b:=an _ (by omega);have e:E.wrap (8*(b:Int)+f)=8*b+f:=an _ (by omega);have e:(8*(b:Int)+f).toNat=8*b+f:=O;have e:0<=8*(b:Int)+f:=O;have e:8*(b:Int)+f<64:=O;clear q y U W s;go_wp2;go_quiet (fail);go_wp2;exact⟨⟨b+1,by omega,by rw[H.o,t.o,u.o,z.o],by go_num,⟨n.o.1.1.drewN nq,n.o.1.2⟩,n.o.2⟩,by simp[intOf];omega⟩
          ·obtain rfl:b=8:=O
           have b:p=BN c (8*a+f):=by
            rw[q,yV];unfold BN;rw[show(8*a+f)%8=f by omega,show(8*a+f)/8=a by omega]
           have e:=n.o.2;have r:8*a+f<64:=O;obtain⟨s,t,u⟩:=e.gZ (i:=8*a+f) (by rw[jz (by omega)];exact r);have s:=e.frozen (8*a+f);have s:=e.lt;have s:(8*(a:Int)+f).toNat=8*a+f:=O;have s:=TE c (8*a+f);rw[<-b] at s;obtain⟨u,y⟩:=aQ (g.o p s) (show vd p=vd (BN c (8*a+f)) by rw[b]);obtain⟨g,z⟩:=aX (vd p);rw[<-z] at u y;clear q b e t l i z s;go_wp2_with fail;refine(u.o _).mono ?_;rintro b e ⟨rfl,rfl⟩;go_wp2;have b:=n.o.2.L (8*a+f) g;rw[y.o,ki (F:=fun e=>vd (BN c e)) r] at b;refine⟨⟨f+1,by omega,by go_num,⟨n.o.1.1.set a4.o v.o w.o x.o _,n.o.1.2.C a3.o _⟩,?_⟩,by simp[intOf];omega⟩;rw[y.o];exact b
        ·obtain rfl:f=8:=O
         go_wp2;exact⟨⟨a+1,by omega,by go_num,by have:=h.o;rw[show 8*a+8=8*(a+1) by omega] at this;exact this⟩,by simp[intOf];omega⟩
      ·obtain rfl:a=8:=O
       have a:=d.o.1.1.b2;have b:=d.o.2;have e:en (fun f=>vd (BN c f)) (8*8)=yj c:=by unfold en yj;simp
       rw[e] at b;obtain⟨f,g⟩:=aQ a b;have h:=aH d.o.1.1.F;have i:=aH (show(yj c).length=64 by simp[yj]);clear a b e d;go_wp2_with (first|((with_reducible refine fL rfl (aI 12) rfl a0 rfl g.o i.o ?_))|((with_reducible refine eD rfl (aI 2) (aI 105) rfl o (yj c) rfl rfl f.o rfl i.o ?_)));have a:Bn E (wr.setRow o (aS E (yj c))) 277 o (yj c):=f.o.row _;exact dY (v:=aG (aS E (yj c))) (Ke results234 _ _ o 277 _ (0,0) _ rfl a ji rfl (by rw[bE,i.o];exact gP)) rfl ⟨rfl,aO h.o (gC v.o x.o)⟩
end
section
def oI(a:List Bool):Array aq:=(a.map ao).toArray
section
variable {P:nt}
def Ls{a:Type}[DecidableEq a](i)(q:a)(d h e l n)(f:P.underlying e=M (.array h l))
  (g:(K3 l).run P n=.ok 1 n)(o:(isAgg l).run P n=.ok av n)(p:∀t u,(mF d l (i t) (i u)).run P n=.ok (decide (t=u)) n)
  (r s:List a)(b:r.length=h)(c:s.length=h):
  (mF (d+1) e (aG (r.map i).toArray) (aG (s.map i).toArray)).run P n=.ok (decide (r=s)) n:=by
 have a:decide (r=s)=decide (∀b∈JV 0 h 1,r.getD b q=s.getD b q):=by
  rw[iF,decide_eq_true_eq,decide_eq_true_eq];constructor
  ·rintro rfl b _;rfl
  ·intro b
   apply oB;intro c
   by_cases d:c<h
   ·have:=b c (JW.2 O)
    rw[aA O,aA O];simp only[jr,aA (show c<r.length by omega),aA (show c<s.length by omega),Option.getD_some] at this;rw[this]
   ·rw[de O,de O]
 rw[a,mF];simp only[fT,fI f,dv,g,Std.Legacy.Range.forIn_eq_forIn_range',Std.Legacy.Range.size,Nat.sub_zero,Nat.add_sub_cancel,Nat.div_one];have a:∀b∈JV 0 h 1,b<h:=fun c d=>by have:=(JW.1 d).2;omega
 generalize JV 0 h 1=b at a ⊢
 induction b with
 |nil=>simp
 |cons b c d=>
  have e:b<h:=a b dS
  have e:(part l (r.map i).toArray (b*1)).run P n=.ok (i (r.getD b q)) n:=by
   simp[part,o,jr,aA (show b<r.length by omega)]
  have f:(part l (s.map i).toArray (b*1)).run P n=.ok (i (s.getD b q)) n:=by
   simp[part,o,jr,aA (show b<s.length by omega)]
  have g:=d fun h i=>a h (by simp[i])
  simp only[List.forIn_cons,fT,e,f,p,dv]
  by_cases a:r.getD b q=s.getD b q
  ·have d:decide (r.getD b q=s.getD b q)=aB:=by simpa using a
   rw[d];simp only[Bool.not_true,yP,if_false,iT,dv]
   have d:decide (∀e∈b::c,r.getD e q=s.getD e q)=decide (∀f∈c,r.getD f q=s.getD f q):=by
    rw[iF,decide_eq_true_eq,decide_eq_true_eq,Ge];exact⟨fun e=>e.2,fun f=>⟨a,f⟩⟩
   rw[d];exact g
  ·have d:decide (r.getD b q=s.getD b q)=av:=by simpa using a
   have e:decide (∀f∈b::c,r.getD f q=s.getD f q)=av:=by
    rw[decide_eq_false_iff_not,Ge];exact fun b=>a b.1
   rw[d,e];simp
def pF(a b c d e f g)(h:P.underlying e=M (.array d f))(i:P.underlying f=M (.int b))
  (l:(K3 f).run P g=.ok 1 g)(n o)(p:n.length=d)(q:o.length=d):
  (mF (c+2) e (aG (aS a n)) (aG (aS a o))).run P g=.ok (decide (n=o)) g:=
 Ls (J a) 0 (c+1) d e f g h l (by simp[isAgg,fI i]) (fun r s=>by rw[run_equalIn_int g c f a b r s i,show(r==s)=decide (r=s) by rw[iF];simp]) n o p q
def Nq(a b c d e)(f:P.underlying c=M (.array b d))(g:P.underlying d=M .bool)
  (h:(K3 d).run P e=.ok 1 e)(i l)(n:i.length=b)(o:l.length=b):
  (mF (a+2) c (aG (oI i)) (aG (oI l))).run P e=.ok (decide (i=l)) e:=
 Ls ao av (a+1) b c d e f h (by simp[isAgg,fI g]) (fun p q=>by rw[run_equalIn_bool' e a d p q g,show(p==q)=decide (p=q) by rw[iF];simp]) i l n o
end
def Abi(a b c d e):(binOp .eql 217 (aG #[J E a,J E b]) (aG #[J E c,J E d])).run aE e=.ok (ao (decide (a=c/\b=d))) e:=by
 have f:=pF (P:=aE) E E 9998 2 217 3 e underlying217 bJ dK [a,b] [c,d] rfl rfl;rw[V9];change ((mF (9998+2) 217 (aG (aS E [a,b])) (aG (aS E [c,d]))).run aE e).andThen _=_;rw[f];simp
def Y1(c d)(a:c.length=64)(b:d.length=64)(e):(binOp .eql 277 (aG (aS E c)) (aG (aS E d))).run aE e=.ok (ao (decide (c=d))) e:=by
 have f:=pF (P:=aE) E E 9998 64 277 3 e ji bJ dK c d a b;rw[V9];change ((mF (9998+2) 277 (aG (aS E c)) (aG (aS E d))).run aE e).andThen _=_;rw[f];rfl
end
section
def gn(a b:Int):Int:=if a=512/\b=512 then 32 else if a=578/\b=578 then 36 else if (a=512/\b=578)\/(a=578/\b=512) then 34 else if (a=512/\b=320)\/(a=320/\b=512) then 25 else if (a=578/\b=320)\/(a=320/\b=578) then 27 else 20
def gE(a:Nat):Int:=gn (nM (a/8)) (nM (a%8))
def Jk(a):20<=gE a/\gE a<=36:=by unfold gE gn;repeat' split<;> omega
def nf(a b:Int)(c:Nat):Int:=a*b*gE c
attribute [local go_sem ↓] kH kI
def pq(d)(a:1<=d)(b:d<=31)(c):aT aE 108 #[J E d] c fun e f=>e=aK (ao aB)/\c=f:=by
 have a:decide (1<=d)=aB:=by simp;omega
 have a:decide (d<=31)=aB:=by simp;omega
 go_enter func108,ntmps108;go_wp2;go_ret;exact⟨rfl,rfl⟩
def W7(i:Nat)(a:i<8)(b):aT aE 111 #[J E i] b (fh b (J E (nM i))):=by
 have c:=aH Kn;have d:=fun e=>TN (x:=X0) rfl (T7 i a) e
 have e:decide ((i:Int)<0)=av:=by simp
 have f:decide (8<=(i:Int))=av:=by simp;omega
 generalize nM i=g at*
 go_enter func111,ntmps111;go_wp2_with fail;refine(c.o _).mono ?_;rintro a b ⟨rfl,c⟩;go_wp2;go_ret;exact⟨rfl,c⟩
def MU(a b:Int)(d:a=512\/a=578\/a=320)(e:b=512\/b=578\/b=320)(c:T):aT aE 166 #[J E a,J E b] c fun f g=>f=aK (J E (gn a b))/\c=g:=by
 have a:=Abi;rcases d with rfl|rfl|rfl<;> rcases e with rfl|rfl|rfl
 all_goals
  go_enter func166,ntmps166;go_wp2;go_ret;exact⟨rfl,rfl⟩
end
def L1(i)(a:i<8):nM i=512\/nM i=578\/nM i=320:=by
 have b:∀c:Fin 8,nM c.val=512\/nM c.val=578\/nM c.val=320:=by decide
 exact b ⟨i,a⟩
def Ko(i:Nat)(a:Int)(b:a=i)(c:i<8)(d):aT aE 111 #[J E a] d (fh d (J E (nM i))):=by
 subst b;exact W7 i c d
def EC(h i:Int)(g:Nat)(a:8<=h)(b:h<=255)(e:1<=i)(f:i<=31)(c:g<64)(d:T):
  aT aE 109 #[J E h,J E i,J E g] d (fh d (J E (nf h i g))):=by
 obtain⟨a,b,c,d⟩:=dq (pq i e f) (Ko (g/8) ((g:Int)/8) (by push_cast;rfl) O) (Ko (g%8) ((g:Int)%8) (by push_cast;rfl) O) (MU (nM (g/8)) (nM (g%8)) (L1 _ O) (L1 _ O));have e:=Jk g;obtain⟨f,l⟩:=aX (h*i);have n:=ju (a:=h) (b:=i) (c:=255) (d:=31) O O O;rw[<-l] at n;have n:nf h i g=f*gE g:=by rw[l];rfl
 have o:gE g=gn (nM (g/8)) (nM (g%8)):=rfl;obtain⟨p,q⟩:=aX (gE g);obtain⟨r,s⟩:=aX (f*p);have t:=ju (a:=f) (b:=p) (c:=7905) (d:=36) O O O;rw[<-q] at e n o;rw[<-s] at t n;rw[<-o] at d;have e:=aH n;have t:decide (h<8)=av:=by simp;omega
 have t:decide (255<h)=av:=by simp;omega
 have t:decide ((g:Int)<0)=av:=by simp
 have t:decide (64<=(g:Int))=av:=by simp;omega
 have g:RI (h*i)=f:=by rw[<-l];exact kE _ O
 have g:RI (f*p)=r:=by rw[<-s];exact kE _ O
 clear l n o q s;go_enter func109,ntmps109;go_wp2_with fail;refine(a.o _).mono ?_;rintro a f ⟨rfl,rfl⟩;go_wp2_with fail;refine(b.o _).mono ?_;rintro a b ⟨rfl,f⟩;go_wp2_with fail;refine(c.o _).mono ?_;rintro a b ⟨rfl,c⟩;go_wp2_with fail;refine(d.o _).mono ?_;rintro a b ⟨rfl,rfl⟩;go_wp2;go_ret;refine⟨?_,f.trans (c.mono f.size)⟩;rw[e.o];exact Ol g
def jk{a:yf}{b:Array cQ}{c:List cQ}{d:cQ}{e:Act}{f:T}{g:Exit->Act->T->Prop}(i:d.guard=S)(l:aR)(n:Gc)(o:d.op=.load l n)
  (p:Nat)(q:e.eval n=aD (M ⟨p,0,S⟩)){r:aR}{h:List Int}(s:Bn a f r p h)(t:Ac5)(u:(match t with| .struct _| .array _ _=>aB|_=>av)=aB)(v:aE.underlying l=M t)(w:(aE.info? l).map (·.size)=M h.length)
  (x:cG aE b g c (e.put d.dst (aG (aS a h))) f):cG aE b g (d::c) e f:=
 Alq i l n o p q r _ (0,0) t s v (by cases t<;> exact u) (eZ bE w) x
def xU:(aE.info? 24).map (·.size)=M 64:=dK
def TO{a}{e:Nat}{b}(c:a.length=64)(f:a[e]?=M b)(d):(eT 24 (aG (aS .u8 a)) (J E (e:Int))).run aE d=.ok (J .u8 b) d:=by
 have a:e<64:=by have:=(aP.1 f).1;omega
 have b:∀c,(K3 5).run aE c=.ok 1 c:=fun _=>by kernel_rfl
 have c:∀d,(isAgg 5).run aE d=.ok av d:=fun _=>by kernel_rfl
 simp[eT,fI fV,part,b,c,aS,go_sem,a,f]
def Mh(a:List Int):Prop:=a.length=64/\∀b∈a,8<=b/\b<=255
def eh{l k}(a:k<l.length):l[k]?=M (cM l k):=by unfold cM;rw[jr,aA a];rfl
def Mh.at_{a}(c:Mh a){k}(b:k<64):a[k]?=M (cM a k)/\8<=cM a k/\cM a k<=255:=by
 have d:=eh (l:=a) (k:=k) (eZ c.1 b);exact⟨d,c.2 _ (bg d)⟩
def jx(b:List Int)(a:Mh b)(c:T):aT aE 84 #[aG (aS .u8 b)] c (fh c (ao aB)):=by
 obtain⟨d,e,f⟩:=bh (Bn.D c .u8 24 b c.heap.size rfl) (show(aE.info? 24).map (·.size)=M b.length by rw[a.1];exact xU) a;clear a;go_enter func84,ntmps84;go_wp2_with ((with_reducible refine jk rfl 24 (aI 1) rfl c.heap.size rfl d.o _ rfl fV e.o ?_))
 go_loop [6] (NH 64) (fun a=>64-(intOf a).toNat)
 case atStart=>exact⟨0,by omega,rfl⟩
 case round=>
  obtain⟨a,g,rfl⟩:=hrel
  by_cases h:a<64
  ·obtain⟨i,l,n⟩:=f.o.at_ h
   have o:=fun p=>TO f.o.1 i p
   generalize cM b a=p at*
   have q:decide (p<8)=av:=by simp;omega
   clear i;go_wp2
   go_round
   case rel=>exact⟨a+1,by omega,by go_num⟩
   case measure=>simp[intOf];omega
  ·go_wp2
   go_ret;exact⟨rfl,(aM _ _).alloc (aw _) _⟩
def Dp(a b:Int):Int:=if a<0 then-((2*-a+b)/(2*b)) else(2*a+b)/(2*b)
def mO(a b:List Int)(c:Int):List Int:=(dI 64).map fun d=>Dp (cM a d) (nf (cM b d) c d)
def vg(a b:List Int)(c:Int):List Int:=(dI 64).map fun d=>cM a d*nf (cM b d) c d
structure NJ(f wr:T)(a c e:Nat)(b d:List Int):Prop where
 b3:Bn E wr 277 a b
 b4:Bn .u8 wr 24 c d
 b6:Bn E wr 277 e zeros64
 F:bj f.heap.size f wr
def NJ.ext{a wr b c d e f g}(h:NJ a wr c d e f g)(i:bj wr.heap.size wr b):NJ a b c d e f g:=⟨h.b3.ext i,h.b4.ext i,h.b6.ext i,h.F.trans (i.mono h.F.size)⟩
def NJ.drewN{a wr b c d e f}(g:NJ a wr b c d e f)(h):NJ a (wr.drewN h) b c d e f:=⟨g.b3,g.b4,g.b6,FJ g.F h⟩
def NJ.set{b wr c d e f g}(o:NJ b wr c d e f g){a}(h:e<a.block)(i:c<d)(l:d<e)(n:b.heap.size<=c)(p):NJ b (wr.setCell a p) c d e f g:=
 ⟨o.b3.C O p,o.b4.C O p,o.b6.C O p,FD o.F _ O p⟩
def Vu(a:T)(b c d e:Nat)(f g h:List Int)(wr:T):Prop:=NJ a wr b c d f g/\Bn E wr 277 e h
def Vu.ext{a wr b c d e f g h i}(l:Vu a c d e f g h i wr)(n:bj wr.heap.size wr b):Vu a c d e f g h i b:=⟨l.1.ext n,l.2.ext n⟩
def OF{a s:Int}(b:0<=a)(c:0<s):(s-a%s<=a%s->(2*a+s)/(2*s)=a/s+1)/\(¬s-a%s<=a%s->(2*a+s)/(2*s)=a/s):=by
 have d:=Int.mul_ediv_add_emod a s;have e:=zH a (show s≠0 by omega);have f:=uR a c;generalize a%s=g at*
 generalize a/s=h at*
 constructor
 ·intro b
  rw[show 2*a+s=(2*g-s)+(h+1)*(2*s) by rw[<-d,Int.add_mul,uT h (2*s),Kc];omega,DA _ _ O,Dz O O];omega
 ·intro b
  rw[show 2*a+s=(2*g+s)+h*(2*s) by rw[<-d,uT h (2*s),Kc];omega,DA _ _ O,Dz O O];omega
def ED(e f:List Int)(g:Int)(a:e.length=64)(b:∀n,n<64->-3000000<=cM e n/\cM e n<=3000000)(c:Mh f)(h:1<=g)(i:g<=31)
  (d:∀n,n<64->-4095<=Dp (cM e n) (nf (cM f n) g n)/\Dp (cM e n) (nf (cM f n) g n)<=4095)(l:T):
  aT aE 296 #[aG (aS E e),aG (aS .u8 f),J E g] l (Ro l (mO e f g,0)):=by
 obtain⟨n,hF⟩:∃o:Nat->Int,o=fun p=>Dp (cM e p) (nf (cM f p) g p):=⟨_,rfl⟩
 have o:=aH hF;clear hF;obtain⟨p,q,r,s,t,u⟩:=ej a b c d (show(aE.info? 24).map (·.size)=M f.length by rw[c.1];exact xU) (jx f c);obtain⟨v,w⟩:=aQ (pq g h i) (fun x (y:x<64)=>EC (cM f x) g x (c.at_ y).2.1 (c.at_ y).2.2 h i y);obtain⟨x,y⟩:=aX (((l.alloc (az (aS E e) 277)).alloc (az (aS .u8 f) 24)).alloc (az (aS E zeros64) 277));obtain⟨z,H⟩:=aX l.heap.size;obtain⟨U,V⟩:=aX (l.heap.size+1);obtain⟨W,Y⟩:=aX (l.heap.size+1+1)
 have a0:NJ l x z U W e f:=by
  rw[y];exact⟨((Bn.D _ _ _ _ _ H).alloc _).alloc _,(Bn.D _ _ _ _ _ (jP V)).alloc _,Bn.D _ _ _ _ _ (jP Y),(((aM _ _).alloc (aw _) _).alloc dS _).alloc eB _⟩
 have a1:=aH a0;clear a b c d a0;go_enter func296,ntmps296;go_upto_region 1 with fail;change yN _ _ _ _ (((l.alloc (az (aS E e) 277)).alloc (az (aS .u8 f) 24)).alloc (az (aS E zeros64) 277));rw[<-y,<-Y,<-V,<-H];obtain⟨a,b,c⟩:=bh (show z<U by omega) (show U<W by omega) (show l.heap.size<=z by omega);clear y H V Y;go_wp2_with (first|((with_reducible refine jk rfl 24 (aI 4) rfl U rfl a1.o.b4 _ rfl fV t.o ?_))|fail);refine(u.o _).mono ?_;rintro d y ⟨rfl,H⟩;have V:=aH (a1.o.ext H);have Y:=V.o.b6.lt;clear a1 H u;go_wp2_with fail;refine(v.o _).mono ?_;rintro u H ⟨rfl,rfl⟩;go_upto_region 4 with fail;change yN _ _ _ _ (y.alloc (az (aS E zeros64) 277));obtain⟨a0,a1⟩:=aX y.heap.size;have a2:Vu l z U W a0 e f (en n 0) (y.alloc (az (aS E zeros64) 277)):=⟨V.o.ext ((aM _ _).alloc (aw _) _),Bn.D _ _ _ _ _ a1⟩;rw[<-a1];obtain⟨a3,a4⟩:=aQ (show W<a0 by omega) a2;have a5:=aH a2.1.b3;clear a1 a2 V Y;generalize y.alloc (az (aS E zeros64) 277)=V at*
 go_wp2_with ((with_reducible refine fL rfl (aI 3) rfl z rfl a5.o p.o ?_))
 go_loopw [25] (fun Y wr=>mD 64 (fun a1 wr=>Vu l z U W a0 e f (en n a1) wr) Y wr) (fun a2 _=>64-(intOf a2).toNat)
 case atStart=>exact⟨0,by omega,rfl,a4.o⟩
 case round=>
  obtain⟨Y,a1,rfl,a2⟩:=hrel;have a6:=aH a2;clear a2 a4
  by_cases a2:Y<64
  ·obtain⟨a4,a7,a8⟩:=r.o.at_ a2
   have r:=eh (l:=e) (k:=Y) (eZ p.o a2);have a9:=q.o Y a2;have aa:=s.o Y a2;have ab:=aH (w.o Y a2);have ac:=fun ad=>pG p.o r ad
   have ad:=a6.o.1.b4.cell Y;rw[a4] at ad;simp only[bX] at ad;obtain⟨ae,ag⟩:=aX (Dp (cM e Y) (nf (cM f Y) g Y));rw[<-ag] at aa;have ah:fj (n Y=ae):=by rw[o.o,ag];exact aH rfl
   have ai:160<=nf (cM f Y) g Y/\nf (cM f Y) g Y<=284580:=by
    have aj:=Jk Y;have al:=ju (a:=cM f Y) (b:=g) (c:=255) (d:=31) O O O;have am:=ju (a:=cM f Y*g) (b:=gE Y) (c:=7905) (d:=36) O O O;have ap:8*1<=cM f Y*g:=xm a7 h O O;have ar:8*20<=cM f Y*g*gE Y:=xm O aj.1 O O;unfold nf;omega
   generalize cM f Y=aj at*
   generalize cM e Y=al at*
   obtain⟨am,ap⟩:=aX (nf aj g Y);rw[<-ap] at ai ag ab;have ar:=aH ag;clear a4 r ap ag;have r:jg.wrap am=am:=by simp[jc,fQ,ig];omega
   go_wp2_with fail;refine(ab.o _).mono ?_;rintro a4 ag ⟨rfl,ap⟩;have ax:=aH (a6.o.ext ap);clear a6 ap ac ad
   by_cases ac:al<0
   ·skip
    obtain⟨ad,ap⟩:=aX (-al);have ay:jg.wrap (-jg.wrap al)=ad:=by simp[jc,fQ,ig];omega
    have aV:ae=-((2*ad+am)/(2*am)):=by rw[ar.o,ap];unfold Dp;rw[if_pos ac]
    have b0:0<=ad:=O;have b1:ad<=3000000:=O;obtain⟨b2,b3⟩:=OF (a:=ad) (s:=am) b0 O;have b4:=zH ad (show am≠0 by omega);have b5:=uR ad (show 0<am by omega);have b6:=H7 b0 (show 0<=am by omega);have b7:=M9 am b0;obtain⟨b8,b9⟩:∃ba,ad%am=ba:=⟨_,rfl⟩;obtain⟨ba,bb⟩:∃bc,ad/am=bc:=⟨_,rfl⟩;have bc:ad.tdiv am=ba:=by rw[bB b0,bb]
    have bd:ad.tmod am=b8:=by rw[iG b0,b9]
    rw[b9] at b2 b3 b4 b5;rw[bb] at b2 b3 b6 b7;have be:¬am=0:=O;have bf:jg.wrap ba=ba:=by simp[jc,fQ,ig];omega
    have bi:jg.wrap b8=b8:=by simp[jc,fQ,ig];omega
    have bk:jg.wrap (am-b8)=am-b8:=by simp[jc,fQ,ig];omega
    have bl:jg.wrap (ba+1)=ba+1:=by simp[jc,fQ,ig];omega
    have bn:decide (al<0)=aB:=by simpa using ac
    have br:=ax;have bs:=ax.o.2.frozen Y;obtain⟨bt,_,bu⟩:=ax.o.2.gZ (i:=Y) (eZ (jz O) a2);have bv:=ax.o.2.lt
    by_cases bx:am-b8<=b8
    ·have bz:=b2 bx
     rw[bz] at aV;have bC:decide (am-b8<=b8)=aB:=by simpa using bx
     have bK:decide (4095<ba+1)=av:=by simp;omega
     have bL:=aH aV;clear b2 b3 bz aV ap bx;go_wp2;go_quiet (fail);go_wp2;have bz:=(ax.o.2.L Y (ba+1)).L Y (-(ba+1));rw[Pz,<-bL.o,<-ah.o,ki a2] at bz;refine⟨⟨Y+1,by omega,by go_num,((ax.o.1.drewN nq).set a3.o a.o b.o c.o _).set a3.o a.o b.o c.o _,?_⟩,by simp[intOf];omega⟩;rw[<-bL.o,<-ah.o];exact bz
    ·have bz:=b3 bx
     rw[bz] at aV;have bC:decide (am-b8<=b8)=av:=by simpa using bx
     have bK:decide (4095<ba)=av:=by simp;omega
     have bL:=aH aV;clear b2 b3 bz aV ap bx;go_wp2;go_quiet (fail);go_wp2;have ap:=(ax.o.2.L Y (ba)).L Y (-(ba));rw[Pz,<-bL.o,<-ah.o,ki a2] at ap;refine⟨⟨Y+1,by omega,by go_num,((ax.o.1.drewN nq).set a3.o a.o b.o c.o _).set a3.o a.o b.o c.o _,?_⟩,by simp[intOf];omega⟩;rw[<-bL.o,<-ah.o];exact ap
   ·skip
    obtain⟨ad,ap⟩:=aX al;have ay:jg.wrap al=ad:=by rw[ap];simp[jc,fQ,ig];omega
    have aV:ae=(2*ad+am)/(2*am):=by rw[ar.o,ap];unfold Dp;rw[if_neg ac]
    have b0:0<=ad:=O;have b1:ad<=3000000:=O;obtain⟨b2,b3⟩:=OF (a:=ad) (s:=am) b0 O;have b4:=zH ad (show am≠0 by omega);have b5:=uR ad (show 0<am by omega);have b6:=H7 b0 (show 0<=am by omega);have b7:=M9 am b0;obtain⟨b8,b9⟩:∃ba,ad%am=ba:=⟨_,rfl⟩;obtain⟨ba,bb⟩:∃bc,ad/am=bc:=⟨_,rfl⟩;have bc:ad.tdiv am=ba:=by rw[bB b0,bb]
    have bd:ad.tmod am=b8:=by rw[iG b0,b9]
    rw[b9] at b2 b3 b4 b5;rw[bb] at b2 b3 b6 b7;have be:¬am=0:=O;have bf:jg.wrap ba=ba:=by simp[jc,fQ,ig];omega
    have bi:jg.wrap b8=b8:=by simp[jc,fQ,ig];omega
    have bk:jg.wrap (am-b8)=am-b8:=by simp[jc,fQ,ig];omega
    have bl:jg.wrap (ba+1)=ba+1:=by simp[jc,fQ,ig];omega
    have bn:decide (al<0)=av:=by simpa using ac
    have br:=ax;have bs:=ax.o.2.frozen Y;obtain⟨bt,_,bu⟩:=ax.o.2.gZ (i:=Y) (eZ (jz O) a2);have bv:=ax.o.2.lt
    by_cases bx:am-b8<=b8
    ·have bz:=b2 bx
     rw[bz] at aV;have bC:decide (am-b8<=b8)=aB:=by simpa using bx
     have bK:decide (4095<ba+1)=av:=by simp;omega
     have bL:=aH aV;clear b2 b3 bz aV ap bx;go_wp2;go_quiet (fail);go_wp2;have bz:=ax.o.2.L Y (ba+1);rw[<-bL.o,<-ah.o,ki a2] at bz;refine⟨⟨Y+1,by omega,by go_num,(ax.o.1.drewN nq).set a3.o a.o b.o c.o _,?_⟩,by simp[intOf];omega⟩;rw[<-bL.o,<-ah.o];exact bz
    ·have bz:=b3 bx
     rw[bz] at aV;have bC:decide (am-b8<=b8)=av:=by simpa using bx
     have bK:decide (4095<ba)=av:=by simp;omega
     have bL:=aH aV;clear b2 b3 bz aV ap bx;go_wp2;go_quiet (fail);go_wp2;have ap:=ax.o.2.L Y (ba);rw[<-bL.o,<-ah.o,ki a2] at ap;refine⟨⟨Y+1,by omega,by go_num,(ax.o.1.drewN nq).set a3.o a.o b.o c.o _,?_⟩,by simp[intOf];omega⟩;rw[<-bL.o,<-ah.o];exact ap
  ·obtain rfl:Y=64:=O
   have r:=a6.o.1.b6;have a4:=a6.o.2;have a7:en n 64=mO e f g:=by rw[o.o];unfold en mO;simp
   rw[a7] at a4;obtain⟨a8,a9⟩:=aQ r a4;have aa:=aH a6.o.1.F;have ab:=aH (show(mO e f g).length=64 by simp[mO]);clear r a4 a7 a6;go_wp2_with (first|((with_reducible refine fL rfl (aI 8) rfl a0 rfl a9.o ab.o ?_))|((with_reducible refine eD rfl (aI 6) (aI 72) rfl W (mO e f g) rfl rfl a8.o rfl ab.o ?_)));have r:Bn E (wr.setRow W (aS E (mO e f g))) 277 W (mO e f g):=a8.o.row _;have a4:=rE r ab.o;exact dY (v:=fE #[aG (aS E (mO e f g)),J E 0]) (kh results296 _ _ W _ _ rfl rfl a4) rfl ⟨rfl,aO aa.o (uL a.o b.o c.o)⟩
def BF(d e:List Int)(f:Int)(a:d.length=64)(b:∀l,l<64->-4095<=cM d l/\cM d l<=4095)(c:Mh e)(g:1<=f)(h:f<=31)(i:T):
  aT aE 231 #[aG (aS E d),aG (aS .u8 e),J E f] i (Ro i (vg d e f,0)):=by
 obtain⟨l,hF⟩:∃n:Nat->Int,n=fun o=>cM d o*nf (cM e o) f o:=⟨_,rfl⟩
 have n:=aH hF;clear hF;obtain⟨o,p,q,r,s,t⟩:=ej a b c (show(aE.info? 24).map (·.size)=M e.length by rw[c.1];exact xU) (jx e c) (pq f g h);have u:=aH (fun v (w:v<64)=>EC (cM e v) f v (c.at_ w).2.1 (c.at_ w).2.2 g h w);obtain⟨v,w⟩:=aX (((i.alloc (az (aS E d) 277)).alloc (az (aS .u8 e) 24)).alloc (az (aS E zeros64) 277));obtain⟨x,y⟩:=aX i.heap.size;obtain⟨z,H⟩:=aX (i.heap.size+1);obtain⟨U,V⟩:=aX (i.heap.size+1+1)
 have W:NJ i v x z U d e:=by
  rw[w];exact⟨((Bn.D _ _ _ _ _ y).alloc _).alloc _,(Bn.D _ _ _ _ _ (jP H)).alloc _,Bn.D _ _ _ _ _ (jP V),(((aM _ _).alloc (aw _) _).alloc dS _).alloc eB _⟩
 have Y:=aH W;clear a b c W;go_enter func231,ntmps231;go_upto_region 1 with fail;change yN _ _ _ _ (((i.alloc (az (aS E d) 277)).alloc (az (aS .u8 e) 24)).alloc (az (aS E zeros64) 277));rw[<-w,<-V,<-H,<-y];obtain⟨a,b,c⟩:=bh (show x<z by omega) (show z<U by omega) (show i.heap.size<=x by omega);clear w y H V;go_wp2_with (first|((with_reducible refine jk rfl 24 (aI 4) rfl z rfl Y.o.b4 _ rfl fV r.o ?_))|fail);refine(s.o _).mono ?_;rintro w y ⟨rfl,H⟩;have V:=aH (Y.o.ext H);have W:=V.o.b6.lt;clear Y H s;go_wp2_with fail;refine(t.o _).mono ?_;rintro s H ⟨rfl,rfl⟩;go_upto_region 4 with fail;change yN _ _ _ _ (y.alloc (az (aS E zeros64) 277));obtain⟨Y,a0⟩:=aX y.heap.size;have a1:Vu i x z U Y d e (en l 0) (y.alloc (az (aS E zeros64) 277)):=⟨V.o.ext ((aM _ _).alloc (aw _) _),Bn.D _ _ _ _ _ a0⟩;rw[<-a0];obtain⟨a2,a3⟩:=aQ (show U<Y by omega) a1;have a4:=aH a1.1.b3;clear a0 a1 V W;generalize y.alloc (az (aS E zeros64) 277)=V at*
 go_wp2_with ((with_reducible refine fL rfl (aI 3) rfl x rfl a4.o o.o ?_))
 go_loopw [21] (fun W wr=>mD 64 (fun a0 wr=>Vu i x z U Y d e (en l a0) wr) W wr) (fun a1 _=>64-(intOf a1).toNat)
 case atStart=>exact⟨0,by omega,rfl,a3.o⟩
 case round=>
  obtain⟨W,a0,rfl,a1⟩:=hrel;have a5:=aH a1;clear a1 a3
  by_cases a1:W<64
  ·obtain⟨a3,a6,a7⟩:=q.o.at_ a1
   have q:=eh (l:=d) (k:=W) (eZ o.o a1);have a8:=p.o W a1;have a9:=aH (u.o W a1);have aa:=fun ab=>pG o.o q ab
   have ab:=a5.o.1.b4.cell W;rw[a3] at ab;simp only[bX] at ab;obtain⟨ac,ad⟩:=aX (cM d W*nf (cM e W) f W);have ae:fj (l W=ac):=by rw[n.o,ad];exact aH rfl
   have ag:160<=nf (cM e W) f W/\nf (cM e W) f W<=284580:=by
    have ah:=Jk W;have ai:=ju (a:=cM e W) (b:=f) (c:=255) (d:=31) O O O;have aj:=ju (a:=cM e W*f) (b:=gE W) (c:=7905) (d:=36) O O O;have al:8*1<=cM e W*f:=xm a6 g O O;have am:8*20<=cM e W*f*gE W:=xm O ah.1 O O;unfold nf;omega
   generalize cM e W=ah at*
   generalize cM d W=ai at*
   obtain⟨aj,al⟩:=aX (nf ah f W);rw[<-al] at ag ad a9;have am:=ju (a:=ai) (b:=aj) (c:=4095) (d:=284580) O O O;have ap:RI (ai*aj)=ac:=by rw[ad];exact kE _ O
   have ar:decide (ai< -4095)=av:=by simp;omega
   have ax:decide (4095<ai)=av:=by simp;omega
   clear a3 q al ad am;go_wp2_with fail;refine(a9.o _).mono ?_;rintro q a3 ⟨rfl,ad⟩;have al:=aH (a5.o.ext ad);clear a5 ad aa ab;have aa:=al.o.2.frozen W;obtain⟨ab,_,ad⟩:=al.o.2.gZ (i:=W) (eZ (jz O) a1);have am:=al.o.2.lt;go_wp2;have ay:=al.o.2.L W ac;rw[<-ae.o,ki a1] at ay;refine⟨⟨W+1,by omega,by go_num,al.o.1.set a2.o a.o b.o c.o _,?_⟩,by simp[intOf];omega⟩;rw[<-ae.o];exact ay
  ·obtain rfl:W=64:=O
   have q:=a5.o.1.b6;have a3:=a5.o.2;have a6:en l 64=vg d e f:=by rw[n.o];unfold en vg;simp
   rw[a6] at a3;obtain⟨a7,a8⟩:=aQ q a3;have a9:=aH a5.o.1.F;have aa:=aH (show(vg d e f).length=64 by simp[vg]);clear q a3 a6 a5;go_wp2_with (first|((with_reducible refine fL rfl (aI 8) rfl Y rfl a8.o aa.o ?_))|((with_reducible refine eD rfl (aI 6) (aI 44) rfl U (vg d e f) rfl rfl a7.o rfl aa.o ?_)));have q:Bn E (wr.setRow U (aS E (vg d e f))) 277 U (vg d e f):=a7.o.row _;have a3:=rE q aa.o;exact dY (v:=fE #[aG (aS E (vg d e f)),J E 0]) (kh results231 _ _ U _ _ rfl rfl a3) rfl ⟨rfl,aO a9.o (uL a.o b.o c.o)⟩
section
section
variable {P:nt}
def tB(o:T)(d c i:Nat)(e n:aR)(f:Array aq)(g:Nat×Nat)(q:Ac5)(h:o.heap[d]?=M (az f e g))
  (p:P.underlying n=M q)(a:(match q with| .struct _| .array _ _=>aB|_=>av)=aB)(l:(P.info? n).map (·.size)=M i)(b:c+i<=f.size):
  (oA n ⟨d,c,S⟩).run P o=.ok (aG (f.extract c (c+i))) o:=by
 have a:(f.extract c (c+i)).toList.length=i:=by simp;omega
 have b:(loadCells ⟨d,c,S⟩ (f.extract c (c+i)).toList.length).run P o=.ok (f.extract c (c+i)).toList.toArray o:=
  run_loadCells_list (P:=P) o ⟨d,c,S⟩ (f.extract c (c+i)).toList (fun r s t=>by
   have s:r<i:=by have:=(aP.1 t).1;omega
   have s:(⟨d,c,S⟩:Addr).add r=⟨d,c+r,S⟩:=by unfold Addr.add;split<;> simp_all
   rw[s,Bf o d _ f e g h];rw[Array.getElem?_toList,iL] at t;split at t
   ·exact t
   ·cases t)
 cases hq:P.info? n with
 |none=>simp[hq] at l
 |some c=>
  have d:c.size=i:=by simpa[hq] using l
  have c:(isAgg n).run P o=.ok aB o:=by
   unfold isAgg;rw[fT,fI p o];cases q<;> simp_all
  rw[a,Array.toArray_toList] at b;simp[oA,fT,c,K3,typeInfo,hq,d,b]
def bA{b:Array cQ}{c:List cQ}{d:cQ}{e:Act}{l:T}{f:Exit->Act->T->Prop}(h:bP d (xZ b e.tmps)=aB)(n:aR)(a:Gc)(o:d.op=.load n a)
  (p off q:Nat)(r:e.eval a=aD (M ⟨p,off,S⟩))(s:aR)(t g:Array aq)(u:Ac5)(v:Bx l p s t)(i:t.extract off (off+q)=g)(w:off+q<=t.size)
  (x:(match u with| .struct _| .array _ _=>aB|_=>av)=aB)(y:P.underlying n=M u)(z:(P.info? n).map (·.size)=M q)
  (H:cG P b f c (e.put d.dst (aG g)) l):cG P b f (d::c) e l:=
 eI h fun _ a=>by
  subst i;unfold Bg VI;simp only[o,r,yp,nO,fT,iT,dv,tB l p off q s n t (0,0) u v y (by cases u<;> exact x) z w];exact a _ _ H
def jH(a:Array aq)(b:Nat)(vs:Array aq):Array aq:=(a.toList.take b++vs.toList++a.toList.drop (b+vs.size)).toArray
def Qf(a b c d i e vs)(f:Bx a b d e)(l:(P.info? i).map (·.size)=M vs.size)(g:c+vs.size<=e.size)(h:vs.all (·.oneCell')=aB):
  (storeVar i ⟨b,c,S⟩ (aG vs)).run P a=.ok () (a.setRow b (jH e c vs)):=by
 have:=run_storeCells_at (P:=P) b c d vs.toList 0 e a f (jP g) (fun n o=>(bG.1 h) n (jP o));cases hq:P.info? i with
 |none=>simp[hq] at l
 |some a=>
  have b:vs.size=a.size:=by simp[hq] at l;omega
  simp only[Ck,cj] at this;simp[storeVar,Value.cells,K3,typeInfo,hq,b,this,jH]
def cD{c d e f n g}(i:bP e (xZ c f.tmps)=aB)(o a b)(p:e.op=.store o a b)
  (q off vs)(r:f.eval a=aD (M ⟨q,off,S⟩))(s:f.eval b=aG vs)(t u h)(v:Bx n q t u)(l:jH u off vs=h)(w:(P.info? o).map (·.size)=M vs.size)(x:off+vs.size<=u.size)(y:vs.all (·.oneCell')=aB)
  (z:cG P c g d (f.put e.dst sJ) (n.setRow q h)):cG P c g (e::d) f n:=
 eI i fun _ a=>by
  subst l;unfold Bg VI;simp only[p,r,s,Instr.storeAt,nO,fT,iT,dv,Qf n q off t o u vs v w x y];exact a _ _ z
def Bx.row{a b c d}(e:Bx a b c d)(f):Bx (a.setRow b f) b c f:=setRow_heap a b _ _ c (0,0) e
end
end
section
def oV:aq->Bool| .int .u8 _=>av|_=>aB
section
variable {p:Nat->Prop} {w w':T} {A:Option Addr} {n:Nat} {l:List Int} {g:Nat} {t:aR} {cs:Array aq}
def du.G4(b:du p w A n l)(c:Bx w g t cs)(d:cs.all oV=aB)(a):du p (w.setRow g a) A n l:=by
 obtain⟨a,e,f⟩:=b;refine⟨a,e,fun b=>?_⟩;obtain⟨a,e,h,i,o⟩:=f b;refine⟨a,e,h,i,fun b x f=>?_⟩;rw[cell_setRow_other _ _ _ _ ?_]
 ·exact o b x f
 ·rintro rfl
  have h:=o b x f;rw[Bf w a (e+b) cs t (0,0) c] at h;have:=(bG.1 d) _ (nd h);simp[oV] at this
def du.If(a:du p w A n l)(b:Bx w g t cs)(c:cs.all oV=aB)(o d):du p (w.setCell ⟨g,o,S⟩ d) A n l:=by
 obtain⟨e,f,h⟩:=a;refine⟨e,f,fun a=>?_⟩;obtain⟨i,q,r,s,u⟩:=h a;refine⟨i,q,r,s,fun h x v=>?_⟩
 have y:i≠g:=by
  rintro rfl;have z:=u h x v;rw[Bf w i (q+h) cs t (0,0) b] at z;have:=(bG.1 c) _ (nd z);simp[oV] at this
 have:=u h x v;unfold World.cell? at*;rw[eF w ⟨g,o,S⟩ d i y];exact this
end
def Fv(w:T)(x:FV)(f:Fr):Prop:=dF (fun _=>True) w x.val f/\eH x.val
section
variable {w w':T} {x:FV} {f:Fr} {g:Nat} {t:aR} {cs:Array aq}
def Fv.ext(a:Fv w x f)(b:bj w.heap.size w w'):Fv w' x f:=⟨a.1.ext b,a.2⟩
def Fv.row(a:Fv w x f)(b:Bx w g t cs)(c:cs.all oV=aB)(d):Fv (w.setRow g d) x f:=by
 obtain⟨⟨e,h,i,l,n,o,p,q,r,s,u,v,y⟩,z⟩:=a;exact⟨⟨e,h,i,l,n,o,p,q,r,s,u.G4 b c d,v.G4 b c d,y.G4 b c d⟩,z⟩
def Fv.cell(a:Fv w x f)(b:Bx w g t cs)(c:cs.all oV=aB)(o v):Fv (w.setCell ⟨g,o,S⟩ v) x f:=by
 obtain⟨⟨d,e,h,i,l,n,p,q,r,s,u,y,z⟩,H⟩:=a;exact⟨⟨d,e,h,i,l,n,p,q,r,s,u.If b c o v,y.If b c o v,z.If b c o v⟩,H⟩
def Fv.wh(a:Fv w x f):x.W=f.W/\x.H=f.H:=by
 obtain⟨⟨b,c,d,e,g,h,i,l,n,o,_⟩,_⟩:=a;simp only[FV.val,Value.agg.injEq,Array.mk.injEq,List.cons.injEq,Value.int.injEq] at o;exact⟨o.1.2,o.2.1.2⟩
end
def kM(w:T)(f:Fr)(a:Ending)(w':T):Prop:=∃x:FV,a=aK (fE #[x.val,J E 0])/\Fv w' x f/\bj w.heap.size w w'
def nk.fx{w w' f a}(b:nk w (f,0) a w'):kM w f a w':=by
 obtain⟨x,a,c,d,e⟩:=b.parts;exact⟨x,a,⟨d.mono fun _ _ _=>trivial,c⟩,e⟩
def Fv.fr{p w a f}(b:dF p w a f)(c:eH a):∃x:FV,a=x.val/\Fv w x f:=by
 obtain⟨x,rfl⟩:=b.fv;exact⟨x,rfl,b.mono fun _ _ _=>trivial,c⟩
def FV.size(x:FV):x.cells.size=5:=rfl
def FV.noU8(x:FV):x.cells.all oV=aB:=by simp[FV.cells,oV]
def bM:(aE.info? 63).map (·.size)=M 5:=dK
section
variable {ops:Array cQ} {rest:List cQ} {o:cQ} {a:Act} {w:T} {Q:Exit->Act->T->Prop}
def bI(c:o.guard=S)(x d)(e:o.op=.store 63 x d)(g)(b:FV)(f:a.eval x=aD (M ⟨g,0,S⟩))(h:a.eval d=aG b.cells){t cs}(i:Bx w g t cs)(l:cs.size=5)
  (n:cG aE ops Q rest (a.put o.dst sJ) (w.setRow g b.cells)):cG aE ops Q (o::rest) a w:=
 vA c 63 x d e g _ f h _ _ i bM (oz l) (by simp[FV.cells,cJ]) n
end
section
variable {P:nt} {ops:Array cQ} {rest:List cQ} {o:cQ} {a:Act} {C:T->Prop} {Q:Act->Prop}
def pP(b:bP o (xZ ops a.tmps)=aB)(f:aR)(x:Gc)(h:o.op=.load f x)
  (g off n:Nat)(i:a.eval x=aD (M ⟨g,off,S⟩))(c:Array aq)(l:Ac5)(e:∀w,C w->∃t cs,Bx w g t cs/\cs.extract off (off+n)=c/\off+n<=cs.size)
  (p:(match l with| .struct _| .array _ _=>aB|_=>av)=aB)(q:P.underlying f=M l)(r:(P.info? f).map (·.size)=M n)
  (d:kL P ops C Q rest (a.put o.dst (aG c))):kL P ops C Q (o::rest) a:=
 lZ b fun _ s=>by
  refine⟨aG c,fun w b=>?_,s _ d⟩;obtain⟨t,cs,c,d,s⟩:=e w b;subst d;unfold nQ VI;simp only[h,i,yp,nO,fT,iT,dv,tB w g off n t f cs (0,0) l c q (by cases l<;> exact p) r s];exact⟨rfl,rfl⟩
def pQ(c:bP o (xZ ops a.tmps)=aB)(h:aR)(x:Gc)(n:o.op=.load h x)
  (g off:Nat)(p:a.eval x=aD (M ⟨g,off,S⟩))(d:aq)(l:Ac5)(f:∀w,C w->w.cell? ⟨g,off,S⟩=M d)
  (b:(match l with| .struct _| .array _ _=>aB|_=>av)=av)(i:P.underlying h=M l)
  (e:kL P ops C Q rest (a.put o.dst d)):kL P ops C Q (o::rest) a:=
 lZ c fun _ b=>by
  refine⟨d,fun w c=>?_,b _ e⟩;have b:=f w c
  have c:(isAgg h).run P w=.ok av w:=by
   unfold isAgg;rw[fT,fI i w];cases l<;> simp_all
  unfold nQ VI;simp only[n,p,yp,nO,fT,iT,dv,oA,c];simp[b,Oper.quietUpon]
end
end
section
structure Fm(w0:T)(g:Nat)(l:List (aR×Array aq))(w:T):Prop where
 j:∀a b,l[a]?=M b->Bx w (g+a) b.1 b.2
 F:bj g w0 w
 k:g+l.length<=w.heap.size
section
variable {w0 w w':T} {g:Nat} {l:List (aR×Array aq)}
def Fm.start(w)(a:g=w.heap.size):Fm w g [] w:=⟨fun b c d=>by simp at d,aM _ _,by rw[a];exact aw _⟩
def Fm.push(d:Fm w0 g l w)(a:w.heap.size=g+l.length)(b c):Fm w0 g (l++[(b,c)]) (w.alloc (az c b)):=by
 refine⟨fun a b c=>?_,d.F.alloc O _,by simp;omega⟩
 by_cases e:a<l.length
 ·rw[bo e] at c
  exact(d.j a b c).alloc _
 ·rw[aU O] at c
  obtain⟨b,d⟩:=aX (a-l.length);rw[<-d] at c;cases b with
  |zero=>
   simp at c;subst c;exact Bx.D _ _ _ _ O
  |succ a=>simp at c
def Fm.at(a:Fm w0 g l w)(i){b c}(d:l[i]?=M (b,c)):Bx w (g+i) b c:=a.j i _ d
def Fm.ext(a:Fm w0 g l w)(b:bD w w'):Fm w0 g l w':=
 ⟨fun c d e=>(a.j c d e).ext b,a.F.trans (b.mono (dU a.k)),aY a.k b.size⟩
def Fm.alloc(a:Fm w0 g l w)(o):Fm w0 g l (w.alloc o):=a.ext ((aM _ _).alloc (aw _) _)
def Fm.C(c:Fm w0 g l w){k}(a:g+l.length<=k)(b):Fm w0 g l (w.setRow k b):=
 ⟨fun a b d=>(c.j a b d).m (by have:=(aP.1 d).1;omega),aO c.F O,by rw[kB];exact c.k⟩
def Fm.Aby(d:Fm w0 g l w){e}(a:g+l.length<=e)(b c):Fm w0 g l (w.setCell ⟨e,b,S⟩ c):=
 ⟨fun a b c=>(d.j a b c).C (by show g+a≠e;have:=(aP.1 c).1;omega) _,d.F.setCell (by show g<=e;omega) _,by simpa[gS] using d.k⟩
def Fm.set(c:Fm w0 g l w)(i){t cs}(a:l[i]?=M (t,cs))(b):Fm w0 g (l.set i (t,b)) (w.setRow (g+i) b):=by
 have d:=(aP.1 a).1;refine⟨fun e f h=>?_,aO c.F O,by rw[kB,ee];exact c.k⟩;rw[uf] at h;split at h
 ·rename_i n
  subst n;simp[d] at h;subst h;exact(c.at i a).row b
 ·exact(c.j e f h).m O
def Fm.YL(f:Fm w0 g l w)(i){a b}(c:l[i]?=M (a,b))(d e):Fm w0 g (l.set i (a,b.setIfInBounds d e)) (w.setCell ⟨g+i,d,S⟩ e):=by
 have a:=(aP.1 c).1;refine⟨fun b h n=>?_,f.F.setCell (by show g<=g+i;omega) _,by rw[ee];simpa[gS] using f.k⟩;rw[uf] at n;split at n
 ·rename_i o
  subst o;simp[a] at n;subst n;exact(f.at i c).L d e
 ·exact(f.j b h n).C (by show g+b≠g+i;omega) _
end
def Si{a:Prop}{b:Type}(A:T->b->Prop)(c:T->b->Prop)(d:(∀w f,A w f->c w f)->a)(e:∀w g,A w g->c w g):a:=d e
def Bv{a:Prop}{b c:Type}(A:T->b->c->Prop)(d:T->b->c->Prop)(e:(∀w g h,A w g h->d w g h)->a)(f:∀w i l,A w i l->d w i l):a:=e f
def ij(a:Array aq){b}(c:a.size=b):a.extract 0 (0+b)=a:=by subst c;simp
def Ae6{a:Array aq}{i b c}(d:a[i]?=M b)(e:a[i+1]?=M c):a.extract i (i+2)=#[b,c]/\i+2<=a.size:=by
 have a:=(eJ.1 e).1;refine⟨?_,by omega⟩;apply oZ;intro a;rw[iL]
 match a with
 |0=>rw[if_pos O];simpa using d
 |1=>rw[if_pos O];simpa using e
 |a+2=>rw[if_neg O];simp
def Ai2{a:Array aq}{i b c d e}(f:a[i]?=M b)(g:a[i+1]?=M c)(h:a[i+2]?=M d)(l:a[i+3]?=M e):a.extract i (i+4)=#[b,c,d,e]/\i+4<=a.size:=by
 have a:=(eJ.1 l).1;refine⟨?_,by omega⟩;apply oZ;intro a;rw[iL]
 match a with
 |0=>rw[if_pos O];simpa using f
 |1=>rw[if_pos O];simpa using g
 |2=>rw[if_pos O];simpa using h
 |3=>rw[if_pos O];simpa using l
 |a+4=>rw[if_neg O];simp
end
section
class Tr(w w':T)(a:Prop)(b:outParam Prop):Prop where
 tr:bD w w'->a->b
class Ex (P:T->Prop):Prop where
 ex:∀{w w':T},P w->bD w w'->P w'
instance {w w':T}{a b c d:Prop}[Tr w w' a c][Tr w w' b d]:Tr w w' (a/\b) (c/\d):=⟨fun hb h=>⟨Tr.tr hb h.1,Tr.tr hb h.2⟩⟩
instance (priority:=low){w w':T}{p:Prop}:Tr w w' p p:=⟨fun _ h=>h⟩
instance {w w':T}{α:Sort _}{A B:α->Prop}[∀a,Tr w w' (A a) (B a)]:Tr w w' (∃a,A a) (∃a,B a):=⟨fun hb h=>h.elim fun a k=>⟨a,Tr.tr hb k⟩⟩
instance {w w' w0:T}:Tr w w' (bD w0 w) (bD w0 w'):=⟨fun hb h=>h.trans hb⟩
instance {P:T->Prop}[∀w w',Tr w w' (P w) (P w')]:Ex P:=⟨fun h hb=>Tr.tr hb h⟩
instance {w w' x0 x2 x3 x4}:Tr w w' (du x0 w x2 x3 x4) (du x0 w' x2 x3 x4):=⟨fun hb h=>du.ext h hb⟩
instance {w w' x1 x2 x3}:Tr w w' (Bk w x1 x2 x3) (Bk w' x1 x2 x3):=⟨fun hb h=>Bk.ext h hb⟩
instance {w w' x1 x2 x3 x4}:Tr w w' (jX w x1 x2 x3 x4) (jX w' x1 x2 x3 x4):=⟨fun hb h=>jX.ext h hb⟩
instance {w w' x1 x2 x3}:Tr w w' (Bx w x1 x2 x3) (Bx w' x1 x2 x3):=⟨fun hb h=>Bx.ext h hb⟩
instance {w w' x0 x2 x3 x4 x5}:Tr w w' (Rw x0 w x2 x3 x4 x5) (Rw x0 w' x2 x3 x4 x5):=⟨fun hb h=>Rw.ext h hb⟩
instance {w w' x1 x2 x3 x4}:Tr w w' (Wr w x1 x2 x3 x4) (Wr w' x1 x2 x3 x4):=⟨fun hb h=>Wr.ext h hb⟩
instance {w w' x0 x2 x3}:Tr w w' (dF x0 w x2 x3) (dF x0 w' x2 x3):=⟨fun hb h=>dF.ext h hb⟩
instance {w w' x0 x1 x2 x3}:Tr w w' (Ci x0 x1 x2 x3 w) (Ci x0 x1 x2 x3 w'):=⟨fun hb h=>Ci.ext h hb⟩
instance {w w' x1 x2}:Tr w w' (Rd w x1 x2) (Rd w' x1 x2):=⟨fun hb h=>Rd.ext h hb⟩
instance {w w' x0 x2 x3 x4}:Tr w w' (Bn x0 w x2 x3 x4) (Bn x0 w' x2 x3 x4):=⟨fun hb h=>Bn.ext h hb⟩
instance {w w' x0 x2 x3 x4 x5 x6}:Tr w w' (zw x0 w x2 x3 x4 x5 x6) (zw x0 w' x2 x3 x4 x5 x6):=⟨fun hb h=>zw.ext h hb⟩
instance {w w' x0 x2 x3 x4 x5}:Tr w w' (NL x0 w x2 x3 x4 x5) (NL x0 w' x2 x3 x4 x5):=⟨fun hb h=>NL.ext h hb⟩
instance {w w' x0 x2 x3 x4 x5 x6}:Tr w w' (Gm x0 w x2 x3 x4 x5 x6) (Gm x0 w' x2 x3 x4 x5 x6):=⟨fun hb h=>Gm.ext h hb⟩
instance {w w' x0 x2 x3 x4 x5 x6}:Tr w w' (NJ x0 w x2 x3 x4 x5 x6) (NJ x0 w' x2 x3 x4 x5 x6):=⟨fun hb h=>NJ.ext h hb⟩
instance {w w' x0 x1 x2 x3 x4 x5 x6 x7}:Tr w w' (Vu x0 x1 x2 x3 x4 x5 x6 x7 w) (Vu x0 x1 x2 x3 x4 x5 x6 x7 w'):=⟨fun hb h=>Vu.ext h hb⟩
instance {w w' x0 x1 x2 x3 x4}:Tr w w' (FB x0 x1 x2 x3 x4 w) (FB x0 x1 x2 x3 x4 w'):=⟨fun hb h=>FB.ext h hb⟩
instance {w w' x1 x2}:Tr w w' (Fv w x1 x2) (Fv w' x1 x2):=⟨fun hb h=>Fv.ext h hb⟩
instance {w w' x0 x1 x2}:Tr w w' (Fm x0 x1 x2 w) (Fm x0 x1 x2 w'):=⟨fun hb h=>Fm.ext h hb⟩
section
variable {w w':T} {p1 p2 p3 p4 p5 p6 q1 q2 q3 q4 q5 q6:Prop}
def mX(a:bD w w')(b:fj p1)[Tr w w' p1 q1]:fj q1:=Tr.tr a b.o
def di(a:bD w w')(b:fj p1)(i:fj p2)[Tr w w' p1 q1][Tr w w' p2 q2]:fj q1/\fj q2:=⟨mX a b,mX a i⟩
def gO(a:bD w w')(b:fj p1)(i:fj p2)(c:fj p3)[Tr w w' p1 q1][Tr w w' p2 q2][Tr w w' p3 q3]:fj q1/\fj q2/\fj q3:=⟨mX a b,mX a i,mX a c⟩
def nj(a:bD w w')(b:fj p1)(i:fj p2)(c:fj p3)(d:fj p4)[Tr w w' p1 q1][Tr w w' p2 q2][Tr w w' p3 q3][Tr w w' p4 q4]:fj q1/\fj q2/\fj q3/\fj q4:=⟨mX a b,mX a i,mX a c,mX a d⟩
def tN(a:bD w w')(b:fj p1)(i:fj p2)(c:fj p3)(d:fj p4)(l:fj p5)[Tr w w' p1 q1][Tr w w' p2 q2][Tr w w' p3 q3][Tr w w' p4 q4][Tr w w' p5 q5]:fj q1/\fj q2/\fj q3/\fj q4/\fj q5:=⟨mX a b,mX a i,mX a c,mX a d,mX a l⟩
def rM(a:bD w w')(b:fj p1)(i:fj p2)(c:fj p3)(d:fj p4)(l:fj p5)(e:fj p6)[Tr w w' p1 q1][Tr w w' p2 q2][Tr w w' p3 q3][Tr w w' p4 q4][Tr w w' p5 q5][Tr w w' p6 q6]:fj q1/\fj q2/\fj q3/\fj q4/\fj q5/\fj q6:=⟨mX a b,mX a i,mX a c,mX a d,mX a l,mX a e⟩
end
def Gl{w w':T}{o:Obj}(a:w'=w.alloc o):bD w w':=by rw[a];exact(aM _ _).alloc (aw _) _
def GL{w w':T}{o:Obj}(a:w'=w.alloc o):fj (bD w w'):=Gl a
def DZ{w w':T}{a:Array aq}{t:aR}{g:Nat}(b:w'=w.alloc (az a t))(c:g=w.heap.size):fj (Bx w' g t a):=by rw[b];exact Bx.D _ _ _ _ c
def Ll{w:T}{g:Nat}(L:List (aR×Array aq))(a:fj (g=w.heap.size)):fj (∀w',Fm w g L w'->bD w w'):=fun _ b=>by have:=b.F;rw[a.o] at this;exact this
section
variable (w:T) (g:Nat) {L l:List (aR×Array aq)} {W:T} {t t1 t2 t3 t4 t5 t6:aR} {c c1 c2 c3 c4 c5 c6:Array aq}
def BQ(a:L=(t,c)::l):fj (∀w',Fm w g L w'->Bx w' g t c):=fun _ b=>b.at 0 (by rw[a];rfl)
def Du{a:aR×Array aq}(b:L=a::(t,c)::l):fj (∀w',Fm w g L w'->Bx w' (g+1) t c):=fun _ d=>d.at 1 (by rw[b];rfl)
def Ln{a b:aR×Array aq}(d:L=a::b::(t,c)::l):fj (∀w',Fm w g L w'->Bx w' (g+1+1) t c):=fun _ e=>e.at 2 (by rw[d];rfl)
def Jp{a b d:aR×Array aq}(e:L=a::b::d::(t,c)::l):fj (∀w',Fm w g L w'->Bx w' (g+1+1+1) t c):=fun _ f=>f.at 3 (by rw[e];rfl)
def Lm{a b d e:aR×Array aq}(f:L=a::b::d::e::(t,c)::l):fj (∀w',Fm w g L w'->Bx w' (g+1+1+1+1) t c):=fun _ h=>h.at 4 (by rw[f];rfl)
def Ae3{a b d e f:aR×Array aq}(h:L=a::b::d::e::f::(t,c)::l):fj (∀w',Fm w g L w'->Bx w' (g+1+1+1+1+1) t c):=fun _ i=>i.at 5 (by rw[h];rfl)
def TX{a:Type}{L b:List a}(c:L=b)(d:Nat)(e:b.length=d:=by rfl):fj (L.length=d):=by rw[c];exact e
def Ai1(a:g=w.heap.size)(b:L=[(t1,c1)])(c:W=w.alloc (az c1 t1)):fj (Fm w g L W):=by rw[c,b];exact(Fm.start w a).push (by rw[a];rfl) _ _
def XW(a:g=w.heap.size)(b:L=[(t1,c1),(t2,c2)])(c:W=(w.alloc (az c1 t1)).alloc (az c2 t2)):fj (Fm w g L W):=by rw[c,b];exact((Fm.start w a).push (by rw[a];rfl) _ _).push (by rw[a];simp) _ _
def Ae2(a:g=w.heap.size)(b:L=[(t1,c1),(t2,c2),(t3,c3)])(c:W=((w.alloc (az c1 t1)).alloc (az c2 t2)).alloc (az c3 t3)):fj (Fm w g L W):=by rw[c,b];exact(((Fm.start w a).push (by rw[a];rfl) _ _).push (by rw[a];simp) _ _).push (by rw[a];simp) _ _
def Ai0(a:g=w.heap.size)(b:L=[(t1,c1),(t2,c2),(t3,c3),(t4,c4)])(c:W=(((w.alloc (az c1 t1)).alloc (az c2 t2)).alloc (az c3 t3)).alloc (az c4 t4)):fj (Fm w g L W):=by rw[c,b];exact((((Fm.start w a).push (by rw[a];rfl) _ _).push (by rw[a];simp) _ _).push (by rw[a];simp) _ _).push (by rw[a];simp) _ _
def Abd(a:g=w.heap.size)(b:L=[(t1,c1),(t2,c2),(t3,c3),(t4,c4),(t5,c5)])(c:W=((((w.alloc (az c1 t1)).alloc (az c2 t2)).alloc (az c3 t3)).alloc (az c4 t4)).alloc (az c5 t5)):fj (Fm w g L W):=by rw[c,b];exact(((((Fm.start w a).push (by rw[a];rfl) _ _).push (by rw[a];simp) _ _).push (by rw[a];simp) _ _).push (by rw[a];simp) _ _).push (by rw[a];simp) _ _
def Ahz(a:g=w.heap.size)(b:L=[(t1,c1),(t2,c2),(t3,c3),(t4,c4),(t5,c5),(t6,c6)])(c:W=(((((w.alloc (az c1 t1)).alloc (az c2 t2)).alloc (az c3 t3)).alloc (az c4 t4)).alloc (az c5 t5)).alloc (az c6 t6)):fj (Fm w g L W):=by rw[c,b];exact((((((Fm.start w a).push (by rw[a];rfl) _ _).push (by rw[a];simp) _ _).push (by rw[a];simp) _ _).push (by rw[a];simp) _ _).push (by rw[a];simp) _ _).push (by rw[a];simp) _ _
end
def qg{w:T}{g:Nat}{t:aR}{a:Array aq}{b:Nat}(c:Bx w g t a)(d:a.size=b):∃t e,Bx w g t e/\e.extract 0 (0+b)=a/\0+b<=e.size:=⟨t,a,c,ij a d,by omega⟩
def dW{a:Prop}(b:a:=by first|rfl|(simp[Region.wanted,yielded];done)):a:=b
section
variable {P:nt} {ops:Array cQ} {C:T->Prop} {kw:Nat} {Q:Act->T->Prop} {w w0:T} {a:Act} {listed:Array Bool} {F:Nat} {D:T->Prop} {o:cQ} {rest:List cQ} {K:Act->Prop}
def gN(b c d:Nat)(e:kL P ops (fun w'=>∃l:T,w'=pW D w0 l) (fun n=>gi P ops kw D w0 Q d (Jw b c listed) n w) ((ops.toList.drop b).take c) a)(hF:F=d+c:=by rfl)(f:gA ops=aB:=by kernel_rfl)(g:((ops.toList.drop b).take c).length=c:=by rfl)
 (h:(vS .any ops c b listed&&Hc .any ops kw c b listed)=aB:=by kernel_rfl)(i:(((ops.toList.drop b).take c).all qN)=aB:=by kernel_rfl):gi P ops kw D w0 Q F listed a w:=mq b c d hF f g h i e
def T9(b c d:Nat)(e:kL P ops (fun w'=>∃l:T,w'=l) (fun n=>gi P ops kw D w0 Q d (Jw b c listed) n w) ((ops.toList.drop b).take c) a)(hF:F=d+c:=by rfl)(f:gA ops=aB:=by kernel_rfl)(g:((ops.toList.drop b).take c).length=c:=by rfl)
 (h:(vS .any ops c b listed&&(dI c).all fun l=>b+l !=kw)=aB:=by kernel_rfl)(i:(((ops.toList.drop b).take c).all qN)=aB:=by kernel_rfl):gi P ops kw D w0 Q F listed a w:=mp b c d hF f g h i e
def gT(b c d:Nat){e:Prop}(f:e)(hF:F=d+c:=by rfl)(g:gA ops=aB:=by kernel_rfl)(h:((ops.toList.drop b).take c).length=c:=by rfl)
 (i:(vS .any ops c b listed&&(dI c).all fun o=>b+o !=kw)=aB:=by kernel_rfl)(l:(((ops.toList.drop b).take c).all qN)=aB:=by kernel_rfl)
 (n:fj e->kL P ops (fun w'=>∃o:T,w'=o) (fun p=>gi P ops kw D w0 Q d (Jw b c listed) p w) ((ops.toList.drop b).take c) a:=by intro q;simp only[sZ,Act.put];(repeat(go_big_quiet_step (fail)));exact wpQuiet_nil q.o):gi P ops kw D w0 Q F listed a w:=mp b c d hF g h i l (n f)
def Ax(b c:Nat)(d:D w0)(e:Aa P ops D (fun i=>gi P ops kw D w0 Q c (listed.setIfInBounds b aB) i w) ((ops.toList.drop b).take 1) a)(hF:F=c+1:=by rfl)(f:(ops.toList.drop b).take 1=(ops[b]?).toList:=by rfl)(g:gA ops=aB:=by kernel_rfl)(h:(vS .any ops 1 b listed&&Hc .any ops kw 1 b listed)=aB:=by kernel_rfl):gi P ops kw D w0 Q F listed a w:=mc b c hF f g h d e
def zj(b c:Nat)(d:Aa P ops (fun _=>True) (fun h=>gi P ops kw D w0 Q c (listed.setIfInBounds b aB) h w) ((ops.toList.drop b).take 1) a)(hF:F=c+1:=by rfl)(e:(ops.toList.drop b).take 1=(ops[b]?).toList:=by rfl)(f:gA ops=aB:=by kernel_rfl)(g:(vS .any ops 1 b listed&&b !=kw)=aB:=by kernel_rfl):gi P ops kw D w0 Q F listed a w:=mcp b c hF e f g d
def Oz(b c:Nat){d:Prop}(e:d)(hF:F=c+1:=by rfl)(f:(ops.toList.drop b).take 1=(ops[b]?).toList:=by rfl)(g:gA ops=aB:=by kernel_rfl)(h:(vS .any ops 1 b listed&&b !=kw)=aB:=by kernel_rfl)
 (i:fj d->O4 ops (fun l=>gi P ops kw D w0 Q c (listed.setIfInBounds b aB) l w) ((ops.toList.drop b).take 1) a:=by intro n;simp only[sZ,Act.put];exact⟨rfl,n.o⟩):gi P ops kw D w0 Q F listed a w:=mk b c hF f g h (i e)
def oL(b c:Nat)(d:∀h,bD w h->D h)(e:∀i,bD w i->cG P ops (fun l n w'=>l=.normal/\gi P ops kw D w0 Q c (listed.setIfInBounds b aB) n w') ((ops.toList.drop b).take 1) a i)(hF:F=c+1:=by rfl)(f:(ops.toList.drop b).take 1=(ops[b]?).toList:=by rfl)(g:eO .any ops listed=[b]:=by kernel_rfl):gi P ops kw D w0 Q F listed a w:=ms b c hF f g (fun _=>d) e
def X8(b c:Nat)(d:∀h,bD w h->cG P ops (fun i l w'=>i=.normal/\gi P ops kw D w0 Q c (listed.setIfInBounds b aB) l w') ((ops.toList.drop b).take 1) a h)(hF:F=c+1:=by rfl)(e:(ops.toList.drop b).take 1=(ops[b]?).toList:=by rfl)(f:eO .any ops listed=[b]:=by kernel_rfl)(g:listed.getD kw av=aB:=by kernel_rfl):gi P ops kw D w0 Q F listed a w:=ms b c hF e f (Zo g) d
def fK(b c:Nat)(d:fj (D w))[Ex D](e:∀h,bD w h->cG P ops (fun i l w'=>i=.normal/\gi P ops kw D w0 Q c (listed.setIfInBounds b aB) l w') ((ops.toList.drop b).take 1) a h)(hF:F=c+1:=by rfl)(f:(ops.toList.drop b).take 1=(ops[b]?).toList:=by rfl)(g:eO .any ops listed=[b]:=by kernel_rfl):gi P ops kw D w0 Q F listed a w:=ms b c hF f g (fun _ _ n=>Ex.ex d.o n) e
def zI(b:fj (D w))[Ex D](c:∀e,bD w e->Q a e)(d:eO .any ops listed=[]:=by kernel_rfl):gi P ops kw D w0 Q 0 listed a w:=me d (fun _ _ f=>Ex.ex b.o f) c
def QD(b:∀e,bD w e->D e)(c:∀f,bD w f->Q a f)(d:eO .any ops listed=[]:=by kernel_rfl):gi P ops kw D w0 Q 0 listed a w:=me d (fun _=>b) c
def pX(b:∀e,bD w e->Q a e)(c:eO .any ops listed=[]:=by kernel_rfl)(d:listed.getD kw av=aB:=by kernel_rfl):gi P ops kw D w0 Q 0 listed a w:=me c (Zo d) b
def Md(b c d:Nat)(e:fj (D w))[Ex D]
 (f:∀n,bD w n->cG P ops (fun o p w'=>o=.normal/\gi P ops kw D w0 Q d (listed.setIfInBounds b aB) p w') ((ops.toList.drop b).take 1) a n)
 (g:∀n,bD w n->cG P ops (fun o p w'=>o=.normal/\gi P ops kw D w0 Q d (listed.setIfInBounds c aB) p w') ((ops.toList.drop c).take 1) a n)(hF:F=d+1:=by rfl)(h:(ops.toList.drop b).take 1=(ops[b]?).toList:=by rfl)(i:(ops.toList.drop c).take 1=(ops[c]?).toList:=by rfl)(l:eO .any ops listed=[b,c]:=by kernel_rfl):gi P ops kw D w0 Q F listed a w:=mb b c d hF h i l (fun _ _ q=>Ex.ex e.o q) f g
def lR(b:fj (D w0))(c:aR)(d:Tmp)(g off e:Nat)(f:Array aq)(h:∀w,D w->∃t v,Bx w g t v/\v.extract off (off+e)=f/\off+e<=v.size){i:Ac5}(l:P.underlying c=M i)(n:(P.info? c).map (·.size)=M e)(p:kL P ops (fun w'=>∃x:T,w'=pW D w0 x) K rest (a.put o.dst (aG f)))
  (q:bP o (xZ ops a.tmps)=aB:=by rfl)(r:o.op=.load c (aI d):=by rfl)(s:a.eval (aI d)=aD (M ⟨g,off,S⟩):=by rfl)(u:(match(generalizing:=false) i with| .struct _| .array _ _=>aB|_=>av)=aB:=by rfl):kL P ops (fun w'=>∃v:T,w'=pW D w0 v) K (o::rest) a:=
 pP q c (aI d) r g off e s f i (fun _ v=>by obtain⟨x,rfl⟩:=v;exact h _ (iQ b.o x)) u l n p
def lC(b:fj (D w0))(c:aR)(d:Tmp)(g off:Nat)(e:aq)(f:∀w,D w->w.cell? ⟨g,off,S⟩=M e){h:Ac5}(i:P.underlying c=M h)(l:kL P ops (fun w'=>∃s:T,w'=pW D w0 s) K rest (a.put o.dst e))
  (n:bP o (xZ ops a.tmps)=aB:=by rfl)(p:o.op=.load c (aI d):=by rfl)(q:a.eval (aI d)=aD (M ⟨g,off,S⟩):=by rfl)(r:(match(generalizing:=false) h with| .struct _| .array _ _=>aB|_=>av)=av:=by rfl):kL P ops (fun w'=>∃s:T,w'=pW D w0 s) K (o::rest) a:=
 pQ n c (aI d) p g off q e h (fun _ s=>by obtain⟨t,rfl⟩:=s;exact f _ (iQ b.o t)) r i l
end
def mr{P:nt}{Q:Exit->Act->T->Prop}{c:Code}{a:Act}{w w':T}(b:w=w')(d:c.wp P Q a w):c.wp P Q a w':=b▸d
def tf{P:nt}{ops:Array cQ}{kw:Nat}{D:T->Prop}{w0 w w':T}{Q:Act->T->Prop}{b:Nat}{l:Array Bool}{a:Act}(c:w=w')(d:gi P ops kw D w0 Q b l a w):gi P ops kw D w0 Q b l a w':=c▸d
def mY(w:T)(a:Array aq)(t:aR):∃(g:Nat)(w':T),g=w.heap.size/\w'=w.alloc (az a t)/\bD w w'/\fj (Bx w' g t a):=⟨_,_,rfl,rfl,Gl rfl,DZ rfl rfl⟩
def Abe(w:T)(c1:Array aq)(t1:aR):∃(g:Nat)(L:List (aR×Array aq))(W:T),g=w.heap.size/\W=w.alloc (az c1 t1)/\fj (g=w.heap.size)/\fj (L.length=1)/\fj (Fm w g L W)/\fj (∀w',Fm w g L w'->bD w w')/\fj (∀w',Fm w g L w'->Bx w' (g) t1 c1):=⟨_,[(t1,c1)],_,rfl,rfl,rfl,rfl,Ai1 w _ rfl rfl rfl,Ll _ rfl,BQ w _ rfl⟩
def Jo(w:T)(c1:Array aq)(t1:aR)(c2:Array aq)(t2:aR):∃(g:Nat)(L:List (aR×Array aq))(W:T),g=w.heap.size/\W=(w.alloc (az c1 t1)).alloc (az c2 t2)/\fj (g=w.heap.size)/\fj (L.length=2)/\fj (Fm w g L W)/\fj (∀w',Fm w g L w'->bD w w')/\fj (∀w',Fm w g L w'->Bx w' (g) t1 c1)/\fj (∀w',Fm w g L w'->Bx w' (g+1) t2 c2):=⟨_,[(t1,c1),(t2,c2)],_,rfl,rfl,rfl,rfl,XW w _ rfl rfl rfl,Ll _ rfl,BQ w _ rfl,Du w _ rfl⟩
def Nk(w:T)(c1:Array aq)(t1:aR)(c2:Array aq)(t2:aR)(c3:Array aq)(t3:aR):∃(g:Nat)(L:List (aR×Array aq))(W:T),g=w.heap.size/\W=((w.alloc (az c1 t1)).alloc (az c2 t2)).alloc (az c3 t3)/\fj (g=w.heap.size)/\fj (L.length=3)/\fj (Fm w g L W)/\fj (∀w',Fm w g L w'->bD w w')/\fj (∀w',Fm w g L w'->Bx w' (g) t1 c1)/\fj (∀w',Fm w g L w'->Bx w' (g+1) t2 c2)/\fj (∀w',Fm w g L w'->Bx w' (g+1+1) t3 c3):=⟨_,[(t1,c1),(t2,c2),(t3,c3)],_,rfl,rfl,rfl,rfl,Ae2 w _ rfl rfl rfl,Ll _ rfl,BQ w _ rfl,Du w _ rfl,Ln w _ rfl⟩
def Dt(w:T)(c1:Array aq)(t1:aR)(c2:Array aq)(t2:aR)(c3:Array aq)(t3:aR)(c4:Array aq)(t4:aR):∃(g:Nat)(L:List (aR×Array aq))(W:T),g=w.heap.size/\W=(((w.alloc (az c1 t1)).alloc (az c2 t2)).alloc (az c3 t3)).alloc (az c4 t4)/\fj (g=w.heap.size)/\fj (L.length=4)/\fj (Fm w g L W)/\fj (∀w',Fm w g L w'->bD w w')/\fj (∀w',Fm w g L w'->Bx w' (g) t1 c1)/\fj (∀w',Fm w g L w'->Bx w' (g+1) t2 c2)/\fj (∀w',Fm w g L w'->Bx w' (g+1+1) t3 c3)/\fj (∀w',Fm w g L w'->Bx w' (g+1+1+1) t4 c4):=⟨_,[(t1,c1),(t2,c2),(t3,c3),(t4,c4)],_,rfl,rfl,rfl,rfl,Ai0 w _ rfl rfl rfl,Ll _ rfl,BQ w _ rfl,Du w _ rfl,Ln w _ rfl,Jp w _ rfl⟩
def Alb(w:T)(c1:Array aq)(t1:aR)(c2:Array aq)(t2:aR)(c3:Array aq)(t3:aR)(c4:Array aq)(t4:aR)(c5:Array aq)(t5:aR):∃(g:Nat)(L:List (aR×Array aq))(W:T),g=w.heap.size/\W=((((w.alloc (az c1 t1)).alloc (az c2 t2)).alloc (az c3 t3)).alloc (az c4 t4)).alloc (az c5 t5)/\fj (g=w.heap.size)/\fj (L.length=5)/\fj (Fm w g L W)/\fj (∀w',Fm w g L w'->bD w w')/\fj (∀w',Fm w g L w'->Bx w' (g) t1 c1)/\fj (∀w',Fm w g L w'->Bx w' (g+1) t2 c2)/\fj (∀w',Fm w g L w'->Bx w' (g+1+1) t3 c3)/\fj (∀w',Fm w g L w'->Bx w' (g+1+1+1) t4 c4)/\fj (∀w',Fm w g L w'->Bx w' (g+1+1+1+1) t5 c5):=⟨_,[(t1,c1),(t2,c2),(t3,c3),(t4,c4),(t5,c5)],_,rfl,rfl,rfl,rfl,Abd w _ rfl rfl rfl,Ll _ rfl,BQ w _ rfl,Du w _ rfl,Ln w _ rfl,Jp w _ rfl,Lm w _ rfl⟩
def Ala(w:T)(c1:Array aq)(t1:aR)(c2:Array aq)(t2:aR)(c3:Array aq)(t3:aR)(c4:Array aq)(t4:aR)(c5:Array aq)(t5:aR)(c6:Array aq)(t6:aR):∃(g:Nat)(L:List (aR×Array aq))(W:T),g=w.heap.size/\W=(((((w.alloc (az c1 t1)).alloc (az c2 t2)).alloc (az c3 t3)).alloc (az c4 t4)).alloc (az c5 t5)).alloc (az c6 t6)/\fj (g=w.heap.size)/\fj (L.length=6)/\fj (Fm w g L W)/\fj (∀w',Fm w g L w'->bD w w')/\fj (∀w',Fm w g L w'->Bx w' (g) t1 c1)/\fj (∀w',Fm w g L w'->Bx w' (g+1) t2 c2)/\fj (∀w',Fm w g L w'->Bx w' (g+1+1) t3 c3)/\fj (∀w',Fm w g L w'->Bx w' (g+1+1+1) t4 c4)/\fj (∀w',Fm w g L w'->Bx w' (g+1+1+1+1) t5 c5)/\fj (∀w',Fm w g L w'->Bx w' (g+1+1+1+1+1) t6 c6):=⟨_,[(t1,c1),(t2,c2),(t3,c3),(t4,c4),(t5,c5),(t6,c6)],_,rfl,rfl,rfl,rfl,Ahz w _ rfl rfl rfl,Ll _ rfl,BQ w _ rfl,Du w _ rfl,Ln w _ rfl,Jp w _ rfl,Lm w _ rfl,Ae3 w _ rfl⟩
def lF{ops:Array cQ}{w0:T}{a:Act}{D:T->Prop}{o:cQ}{rest:List cQ}{K:Act->Prop}(b:fj (D w0))(c:Tmp)(g:Nat)(d:FV){t:aR}(e:∀w,D w->Bx w g t (FV.cells d))(f:kL aE ops (fun w'=>∃n:T,w'=pW D w0 n) K rest (a.put o.dst (aG (FV.cells d))))
  (h:bP o (xZ ops a.tmps)=aB:=by rfl)(i:o.op=.load 63 (aI c):=by rfl)(l:a.eval (aI c)=aD (M ⟨g,0,S⟩):=by rfl):kL aE ops (fun w'=>∃n:T,w'=pW D w0 n) K (o::rest) a:=
 lR b 63 c g 0 5 (FV.cells d) (fun w p=>qg (e w p) (FV.size d)) db bM f h i l rfl
class TI (t:aR) (n:outParam Nat):Prop where
 u:∃b,aE.underlying t=M b/\(aE.info? t).map (·.size)=M n/\(match(generalizing:=false) b with| .struct _| .array _ _=>aB|_=>av)=aB
instance:TI 63 5:=⟨_,db,dK,rfl⟩
instance:TI 26 135:=⟨_,ik,dK,rfl⟩
instance:TI 93 6:=⟨_,underlying93,dK,rfl⟩
instance:TI 449 3:=⟨_,underlying449,dK,rfl⟩
instance:TI 445 8:=⟨_,underlying445,dK,rfl⟩
instance:TI 272 2:=⟨_,underlying272,dK,rfl⟩
instance:TI 158 15:=⟨_,underlying158,dK,rfl⟩
instance:TI 280 408:=⟨_,mG,dK,rfl⟩
instance:TI 324 8:=⟨_,kR,dK,rfl⟩
instance:TI 48 3:=⟨_,underlying48,dK,rfl⟩
instance:TI 376 417:=⟨_,underlying376,dK,rfl⟩
instance:TI 97 8:=⟨_,underlying97,dK,rfl⟩
instance:TI 121 2:=⟨_,underlying121,dK,rfl⟩
instance:TI 24 64:=⟨_,fV,dK,rfl⟩
instance:TI 99 148:=⟨_,underlying99,dK,rfl⟩
def lS{ops:Array cQ}{rest:List cQ}{o:cQ}{a:Act}{w:T}{Q:Exit->Act->T->Prop}(c:aR){d:Nat}[b:TI c d](e:Tmp)(g off:Nat){t:aR}{f h:Array aq}(i:Bx w g t f)(l:f.extract off (off+d)=h)(n:off+d<=f.size)(p:cG aE ops Q rest (a.put o.dst (aG h)) w)
  (q:bP o (xZ ops a.tmps)=aB:=by first|rfl|(simp[Region.wanted,yielded];done))(r:o.op=.load c (aI e):=by rfl)(s:a.eval (aI e)=aD (M ⟨g,off,S⟩):=by rfl):cG aE ops Q (o::rest) a w:=
 let ⟨u,v,x,y⟩:=b.u
 bA q c (aI e) r g off d s t f h u i l n (by cases u<;> exact y) v x p
def lA{ops:Array cQ}{rest:List cQ}{o:cQ}{a:Act}{w:T}{Q:Exit->Act->T->Prop}(d:aR){b:Nat}[TI d b](e:Tmp)(g:Nat){t:aR}{c:Array aq}(f:Bx w g t c)(h:c.size=b)(i:cG aE ops Q rest (a.put o.dst (aG c)) w)
  (l:bP o (xZ ops a.tmps)=aB:=by first|rfl|(simp[Region.wanted,yielded];done))(n:o.op=.load d (aI e):=by rfl)(p:a.eval (aI e)=aD (M ⟨g,0,S⟩):=by rfl):cG aE ops Q (o::rest) a w:=
 lS d e g 0 f (ij _ h) (by omega) i l n p
def rR{P:nt}{c:Func}{d:Tmp}{b:aR}(f:c.results=#[.cell d b]){a:Act}{w:T}{g:Nat}{t:aR}{h:Array aq}{i:Ac5}{e:Ending->T->Prop}(l:Bx w g t h)(n:P.underlying b=M i)(o:(P.info? b).map (·.size)=M h.size)(p:e (aK (aG h)) w)
  (q:a.tmps.getD d sJ=aD (M ⟨g,0,S⟩):=by rfl)(r:(match i with| .struct _| .array _ _=>aB|_=>av)=aB:=by rfl)(s:a.defers=[]:=by rfl):bodyPost P c e .ret a w:=
 dY (Ke f _ _ g t h (0,0) i q l n (by cases i<;> exact r) o) s p
def rT{P:nt}{b:Func}{d f:Tmp}{l:aR}(n:b.results=#[.cell d l,.tmp f]){a:Act}{w:T}{g:Nat}{t:aR}{o:Array aq}{h:aq}{p:Ac5}{c:Ending->T->Prop}(q:Bx w g t o)(r:P.underlying l=M p)(s:(P.info? l).map (·.size)=M o.size)(u:c (aK (fE #[aG o,h])) w)
  (e:a.tmps.getD d sJ=aD (M ⟨g,0,S⟩):=by rfl)(i:a.tmps.getD f sJ=h:=by rfl)(v:(match p with| .struct _| .array _ _=>aB|_=>av)=aB:=by rfl)(x:a.defers=[]:=by rfl):bodyPost P b c .ret a w:=
 dY (by
  have b:a.tmps[d]?.getD sJ=aD (M ⟨g,0,S⟩):=by simpa using e
  have c:a.tmps[f]?.getD sJ=h:=by simpa using i
  simp[Ih,n,b,c,asAddr,tm w g t l o (0,0) p q r (by cases p<;> exact v) s]) x u
def jd{w:T}{o:Obj}:bj w.heap.size w (w.alloc o):=(aM _ _).alloc (aw _) _
def mR{P:nt}{a:FuncId}{b:Array aq}{w:T}{c:Ending}{d:T->Prop}{Q:Ending->T->Prop}(e:aT P a b w fun g w'=>g=c/\d w')(f:∀w',d w'->Q c w'):aT P a b w Q:=e.mono fun _ w' h=>h.1▸f w' h.2
def sQ{P:nt}{a:FuncId}{b:Array aq}{w:T}{c:Ending}{d:T->Prop}{Q:Ending->T->Prop}(e:aT P a b w fun h w'=>h=c/\d w')(f:Q c w)(g:∀w',d w'->w=w':=by intro _ i;first|exact i|exact i.symm):aT P a b w Q:=e.mono fun _ _ l=>l.1▸g _ l.2▸f
end
section
open Go.ChangeAt Go.ChangeShapes Go.Deep Go.Joins Go.WideShapes
def Aef:ownKnob aE.godebug=S:=dK
def Re:Acp aE=aB:=dK
section
variable {H:Type} {enc:aR×aq->H} {P:nt} {w:T} {base:Nat} {spare:Nat->Bool} {held:Bool}
def LF{a b c d e}(f:P.underlying a=M (.slice b))(g:P.underlying b=M (.int .u8))(h:P.cellsOf b=1)
  (i:DataW.trod enc P w base spare held c a [d]=M e):∃l n o p,d=af l n o/\du (fun _=>True) w l n p:=by
 rcases open_ints f g h i with⟨l,_⟩|⟨n,o,p,q,l,_,r,s,t,_,u,v⟩
 ·simp at l
  exact⟨S,0,0,[],l,du.nil⟩
 ·simp at l
  have x:o<=q.length:=by rw[t];split<;> omega
  refine⟨M n,o,p,q.take o,l,by simp;omega,?_,?_⟩
  ·intro y z
   have:=v y (jb z);simp[Lit.wf,Mp,Mq,fQ,ig] at this;omega
  ·intro y
   obtain⟨z,U,rfl,V⟩:=ints_at u O;refine⟨z,U,rfl,trivial,fun W Y a0=>?_⟩;rw[gH] at a0;split at a0
   ·rename_i a1
    rw[V W O,jS,a0];rfl
   ·cases a0
def Qy{a}{b:Func}{c d}(e:b.resultTypes=#[a])(f:P.underlying a=M .bool):
  ∀(g:Nat)(h:aR)(i:aq),b.resultTypes[g]?=M h->((ao d).resultList b.resultTypes.size)[g]?=M i->DB P c .any 0 h i:=
 ok_one e rfl (okWide_bool_mk f d)
def MY{a}{b:ChangeSpec}{c d e f l g h i n o u pa pv}
  (p:Vk enc P a.params.toList b.vars c l h.toList n o u)
  (q:∀(x:Nat)(y:Nat->Bool)(z:Bool),uV enc P g x y z a.resultTypes.toList (i.resultList a.resultTypes.size) (b.fn H (n++o)).results [])
  (r:∀x:Nat->Bool,(∀y∈u,x y.block=aB)->uV enc P g 0 x aB a.params.toList h.toList (b.fn H (n++o)).args pa)
  (s:∀x:Nat->Bool,(∀y∈u,x y.block=aB)->DataW.TrodVars enc P g x b.vars (b.fn H (n++o)).vars pv)
  (w:u=pa++pv)(v:bj l.heap.size l g)
  (t:∀(x:Nat)(y:aR)(z:aq),a.resultTypes[x]?=M y->(i.resultList a.resultTypes.size)[x]?=M z->DB P g .any 0 y z):
  b.post enc P a c d e f l h i g:=by
 have a:∀b∈u,b.block<l.heap.size:=fun c d=>p.lt c d
 have b:∀c∈u,(fun d=>decide (d<l.heap.size)) c.block=aB:=fun e f=>by simpa using a e f
 have c:=p;let ⟨_,_,_,_,_,d,e⟩:=c;refine⟨n,o,u,[],pa,pv,p,q _ _ _,r _ b,s _ b,World.keptBut_mono (fun c f=>⟨f,?_⟩) (v.frame (·∈u)),fun _=>?_⟩
 ·rw[w,List.mem_append] at f
  exact Or.inr f
 ·refine⟨t,_,_,([]++pa)++pv,⟨[]++pa,pv,trodAll_append (r _ (fun _ _=>rfl)) (q _ _ _),s _ (fun _ _=>rfl),rfl,?_,?_⟩,?_⟩
  ·intro b c f
   have g:MemPlace.cell b c∈u:=by rw[w];simpa using f
   rw[v.frozen (a _ g)];exact d b c g
  ·intro a
   have b:=e a;rw[w] at b;simpa using b
  ·intro a b _
   rw[w];simpa using b
def yr(c:Acp P=aB){a b}(d:bj a.heap.size a b)(e):
  ∀{f:List aR}{vs:List aq}{g:List (M6 H)}{h:List sL},(f.all fun i=>P.readableRec i&&decide (i<P.types.size))=aB->
   uV enc P a 0 (fun _=>aB) aB f vs g h->(∀i∈h,i.block<a.heap.size)->(∀l∈h,e l.block=aB)->uV enc P b 0 e aB f vs g h
 |[],_,_,_,_,a,_,_=>by
  obtain⟨rfl,rfl,rfl⟩:=trodAll_nil a;exact trodAll_mk0
 |a::b,_,_,_,f,g,h,i=>by
  obtain⟨a,b,l,n,o,p,rfl,rfl,rfl,q,r⟩:=trodAll_cons g;simp only[List.all_cons,Bool.and_eq_true,decide_eq_true_eq] at f
  exact trodAll_cons_mk (WideElems.Trod_stays c f.1.1 f.1.2 q (fun a b=>d.same (h a (nT _ b))) (fun g l=>i g (nT _ l)))
   (yr c d e f.2 r (fun a b=>h a (zT _ b)) (fun g l=>i g (zT _ l)))
def Tq{c}{d:ChangeSpec}{e f g l h i a n}(r:Acp P=aB)
  (u:d.vars=[])(s:(c.params.toList.all fun w=>P.readableRec w&&decide (w<P.types.size))=aB){b}(p:c.resultTypes=#[b])(q:P.underlying b=M .bool)
  (o:Vk enc P c.params.toList d.vars av l i.toList a [] n)
  (v:d.fn H (a++[])={results:=[.lit (.bool aB)],args:=a})(t:bj l.heap.size l h):
  d.post enc P c av e f g l i (ao aB) h:=by
 have a:∀b∈n,b.block<l.heap.size:=fun c d=>o.lt c d
 have b:=o;obtain⟨c,d,e,f,rfl,g,h⟩:=b;rw[u] at f;have b:d=[]:=f;subst b;refine MY (pa:=c) (pv:=[]) o ?_ ?_ ?_ rfl t (Qy p q)
 ·intro b c d
  rw[v,p];exact trodAll_mk1 (shut_bool q aB)
 ·intro b c
  rw[v];exact yr r t b s e (fun d f=>a d (nT _ f)) (fun g h=>c g (nT _ h))
 ·intro a b
  rw[v,u];rfl
end
end
section
structure Mb where
 kind:Int
 u:List Bool
 fp:Bool
 fd:Bool
 v:List Int
 Z:List Int
 delta:Int
 P:List Bool
 I:List Int
structure Mb.A(m:Mb):Prop where
 u:m.u.length=2
 v:m.v.length=8
 Z:m.Z.length=4
 P:m.P.length=6
 I:m.I.length=384
def iV(a:List Int):List aq:=a.map (J E)
def bV(a:List Bool):List aq:=a.map ao
@[simp] theorem Jg(a:List Int):(iV a).length=a.length:=by simp[iV]
@[simp] theorem bV_len (a:List Bool):(bV a).length=a.length:=by simp[bV]
def Mb.head (m:Mb):List Value:=[Value.int .i64 m.kind]++bV m.u++[Value.bool m.fp]++[Value.bool m.fd]++iV m.v++iV m.Z++[Value.int .i64 m.delta]++bV m.P
def Mb.cells(m:Mb):Array aq:=(m.head++iV m.I).toArray
theorem jv(a b c:List aq)(d e)(f:a.length=d)(g:b.length=e):(a++b++c).toArray.extract d (d+e)=b.toArray:=by
 subst f g;rw[List.extract_toArray,List.extract_eq_take_drop,aW,List.drop_left,gj,List.take_left]
theorem uO(a b c:List aq)(d e)(f:a.length=d)(g:e<b.length):(a++b++c).toArray[d+e]?=b[e]?:=by
 subst f;rw[bw,aW,aU O,gj,bo g]
theorem Oi(a b c:List aq)(d e f)(g:a.length=d)(h:e<b.length):(a++b++c).toArray.setIfInBounds (d+e) f=(a++b.set e f++c).toArray:=by
 subst g;rw[iU,aW,jT _ _ O,gj,List.set_append_left _ _ h,aW]
theorem Af(a b c d e vs)(g:a.length=d)(f:e+vs.size<=b.length):jH (a++b++c).toArray (d+e) vs=(a++(b.take e++vs.toList++b.drop (e+vs.size))++c).toArray:=by
 subst g;unfold jH;congr 1;simp only[aW];rw[List.take_length_add_append,List.take_append_of_le_length O,qX,List.drop_length_add_append,List.drop_append_of_le_length O];simp
section
variable {m:Mb} (h:m.A)
include h
theorem Mb.size:m.cells.size=408:=by simp[Mb.cells,Mb.head,h.u,h.v,h.Z,h.P,h.I]
theorem Mb.c0:m.cells[0]?=M (J E m.kind):=by simp[Mb.cells,Mb.head]
theorem Mb.dU:m.cells=([J E m.kind]++bV m.u++([ao m.fp]++[ao m.fd]++iV m.v++iV m.Z++[J E m.delta]++bV m.P++iV m.I)).toArray:=by simp[Mb.cells,Mb.head]
theorem Mb.dFp:m.cells=(([J E m.kind]++bV m.u)++[ao m.fp]++([ao m.fd]++iV m.v++iV m.Z++[J E m.delta]++bV m.P++iV m.I)).toArray:=by simp[Mb.cells,Mb.head]
theorem Mb.dFd:m.cells=(([J E m.kind]++bV m.u++[ao m.fp])++[ao m.fd]++(iV m.v++iV m.Z++[J E m.delta]++bV m.P++iV m.I)).toArray:=by simp[Mb.cells,Mb.head]
theorem Mb.dV:m.cells=(([J E m.kind]++bV m.u++[ao m.fp]++[ao m.fd])++iV m.v++(iV m.Z++[J E m.delta]++bV m.P++iV m.I)).toArray:=by simp[Mb.cells,Mb.head]
theorem Mb.dS:m.cells=(([J E m.kind]++bV m.u++[ao m.fp]++[ao m.fd]++iV m.v)++iV m.Z++([J E m.delta]++bV m.P++iV m.I)).toArray:=by simp[Mb.cells,Mb.head]
theorem Mb.dD:m.cells=(([J E m.kind]++bV m.u++[ao m.fp]++[ao m.fd]++iV m.v++iV m.Z)++[J E m.delta]++(bV m.P++iV m.I)).toArray:=by simp[Mb.cells,Mb.head]
theorem Mb.dC:m.cells=(([J E m.kind]++bV m.u++[ao m.fp]++[ao m.fd]++iV m.v++iV m.Z++[J E m.delta])++bV m.P++iV m.I).toArray:=by simp[Mb.cells,Mb.head]
theorem Mb.dL:m.cells=(m.head++iV m.I++[]).toArray:=by simp[Mb.cells]
theorem Mb.lU:([J E m.kind]++bV m.u).length=3:=by simp[h.u]
theorem Mb.lFd:([J E m.kind]++bV m.u++[ao m.fp]).length=4:=by simp[h.u]
theorem Mb.lV:([J E m.kind]++bV m.u++[ao m.fp]++[ao m.fd]).length=5:=by simp[h.u]
theorem Mb.lS:([J E m.kind]++bV m.u++[ao m.fp]++[ao m.fd]++iV m.v).length=13:=by simp[h.u,h.v]
theorem Mb.lD:([J E m.kind]++bV m.u++[ao m.fp]++[ao m.fd]++iV m.v++iV m.Z).length=17:=by simp[h.u,h.v,h.Z]
theorem Mb.lC:([J E m.kind]++bV m.u++[ao m.fp]++[ao m.fd]++iV m.v++iV m.Z++[J E m.delta]).length=18:=by simp[h.u,h.v,h.Z]
theorem Mb.lL:m.head.length=24:=by simp[Mb.head,h.u,h.v,h.Z,h.P]
theorem Mb.c3:m.cells[3]?=M (ao m.fp):=by rw[Mb.dFp h];exact uO _ _ _ 3 0 (Mb.lU h) (by simp)
theorem Mb.c4:m.cells[4]?=M (ao m.fd):=by rw[Mb.dFd h];exact uO _ _ _ 4 0 (Mb.lFd h) (by simp)
theorem Mb.Rx:m.cells[17]?=M (J E m.delta):=by rw[Mb.dD h];exact uO _ _ _ 17 0 (Mb.lD h) (by simp)
theorem Mb.cU{d b}(a:m.u[d]?=M b):m.cells[1+d]?=M (ao b):=by
 have c:=(aP.1 a).1;rw[Mb.dU h,uO _ _ _ 1 d rfl (jP c),bV,bN,a];rfl
theorem Mb.cV{d a}(b:m.v[d]?=M a):m.cells[5+d]?=M (J E a):=by
 have a:=(aP.1 b).1;rw[Mb.dV h,uO _ _ _ 5 d (Mb.lV h) (jP a),iV,bN,b];rfl
theorem Mb.cS{d a}(b:m.Z[d]?=M a):m.cells[13+d]?=M (J E a):=by
 have a:=(aP.1 b).1;rw[Mb.dS h,uO _ _ _ 13 d (Mb.lS h) (jP a),iV,bN,b];rfl
theorem Mb.cC{d b}(a:m.P[d]?=M b):m.cells[18+d]?=M (ao b):=by
 have c:=(aP.1 a).1;rw[Mb.dC h,uO _ _ _ 18 d (Mb.lC h) (jP c),bV,bN,a];rfl
theorem Mb.cL{b a}(c:m.I[b]?=M a):m.cells[24+b]?=M (J E a):=by
 have a:=(aP.1 c).1;rw[Mb.dL h,uO _ _ _ 24 b (Mb.lL h) (jP a),iV,bN,c];rfl
theorem Mb.eU:m.cells.extract 1 (1+2)=oI m.u:=by rw[Mb.dU h];exact jv _ _ _ 1 2 rfl (by simp[h.u])
theorem Mb.eV:m.cells.extract 5 (5+8)=aS E m.v:=by rw[Mb.dV h];exact jv _ _ _ 5 8 (Mb.lV h) (by simp[h.v])
theorem Mb.eS:m.cells.extract 13 (13+4)=aS E m.Z:=by rw[Mb.dS h];exact jv _ _ _ 13 4 (Mb.lS h) (by simp[h.Z])
theorem Mb.eC:m.cells.extract 18 (18+6)=oI m.P:=by rw[Mb.dC h];exact jv _ _ _ 18 6 (Mb.lC h) (by simp[h.P])
end
def sP{a:Type}(b:Nat)(c:List a)(d:Nat):List a:=(c.drop (b*d)).take b
theorem sa{a b c}{d:List a}(h:b*c+b<=d.length):(sP b d c).length=b:=by simp[sP];omega
theorem Qs{a k n}{l:List a}:l=l.take (k*n)++sP k l n++l.drop (k*n+k):=by
 unfold sP;rw[aW,<-gK,kS,kS]
theorem Mb.eL{m:Mb}(h:m.A){b}(a:b<6):m.cells.extract (24+64*b) (24+64*b+64)=aS E (sP 64 m.I b):=by
 have a:=Qs (k:=64) (n:=b) (l:=m.I);have c:(sP 64 m.I b).length=64:=sa (iJ h.I);rw[Mb.dL h]
 conv=>lhs;rw[a]
 rw[show∀(a b d:List Int),iV (a++b++d)=iV a++iV b++iV d by intros;simp[iV]];have a:∀(b d e f g:List aq),b++(d++e++f)++g=(b++d)++e++(f++g):=by intros;simp
 rw[a];exact jv _ _ _ _ 64 (by rw[aJ,Mb.lL h];simp[h.I];omega) (by simp[c])
end
section
open Go.Sort
def Yj(a:Nat)(b c:Fin 64):Int:=if a%2=0 then nW ((c.val:Int)/8) ((b.val:Int)/8) else nW ((b.val:Int)/8) ((c.val:Int)/8)
def zR(a:Nat):Nat:=if a<8 then 0 else a-7
def zC(a:Nat):Nat:=if a<8 then a+1 else 15-a
def zO(a:Nat):Nat:=([0,1,3,6,10,15,21,28,36,43,49,54,58,61,63,64]:List Nat).getD a 64
def zD(a:Nat)(b:Nat):List (Fin 64):=(dI b).map fun c=>Fin.ofNat 64 (8*(zR a+c)+a-(zR a+c))
def Eg:List (Fin 64):=[0,1,8,16,9,2,3,10,17,24,32,25,18,11,4,5,12,19,26,33,40,48,41,34,27,20,13,6,7,14,21,28,35,42,49,56,57,50,43,36,29,22,15,23,30,37,44,51,58,59,52,45,38,31,39,46,53,60,61,54,47,55,62,63]
def Aat{a:Type}[Inhabited a](b:a->a->Bool)(c:Nat):Nat->Nat->Array a->Array a
 |0,_,a=>a
 |a+1,d,e=>Aat b c a (d+1) (insInner b c d e)
def WV{a}[Inhabited a](b c d):∀(e i:Nat)(f:Array a),d-i=e->YZ b c d i f=Aat b c e i f:=by
 intro a
 induction a with
 |zero=>intro a b c;unfold YZ;rw[if_neg O];rfl
 |succ a b=>intro c d e;unfold YZ;rw[if_pos O,b (c+1) _ O];rfl
def Gu:List Int:=Eg.map fun a=>(a.val:Int)
def ym(a:Fin 64):aq:=J E (a.val:Int)
def RX(a)(b:a<15):(VM (ltOf (Yj a)) (zD a (zC a)).toArray 0 (zC a)).toList=(Eg.drop (zO a)).take (zC a):=by
 have c:∀d:Fin 15,(Aat (ltOf (Yj d.val)) 0 (zC d.val-1) 1 (zD d.val (zC d.val)).toArray).toList=(Eg.drop (zO d.val)).take (zC d.val):=by decide+kernel
 unfold VM;rw[WV _ 0 (zC a) (zC a-1) 1 _ O];exact c ⟨a,b⟩
def DG(a)(b:a<15):zO (a+1)=zO a+zC a/\zO a+zC a<=64/\1<=zC a/\zC a<=8:=by
 have c:∀d:Fin 15,zO (d.val+1)=zO d.val+zC d.val/\zO d.val+zC d.val<=64/\1<=zC d.val/\zC d.val<=8:=by decide
 exact c ⟨a,b⟩
end
section
open Go.Shelf Go.Sort
def Wg:Go.Shelf.Ren:=⟨fun|6=>252|15=>97|14=>282|28=>148|29=>149|20=>306|21=>307|22=>308|23=>309|24=>310|25=>311|26=>312|27=>313|46=>325|47=>187|48=>188|49=>326|50=>327|57=>332|a=>a,fun|22=>28|24=>3|25=>128|3=>3|39=>191|0=>0|53=>230|55=>224|4=>4|46=>245|45=>244|50=>249|5=>5|9=>9|66=>312|70=>316|76=>349|77=>350|b=>b,fun|c=>c⟩
def Ss:Go.Proofs.SlLaysF.n6 aE Wg:={
 mixed:=dK
 f6:=⟨Tryz.f252.name,by decide,Tryz.func252.trans (congrArg M dK)⟩
 f14:=⟨Tryz.f282.name,by decide,Tryz.func282.trans (congrArg M dK)⟩
 f15:=Tryz.func97.trans (congrArg M dK)
 f20:=⟨Tryz.f306.name,by decide,Tryz.func306.trans (congrArg M dK)⟩
 f21:=⟨Tryz.f307.name,by decide,Tryz.func307.trans (congrArg M dK)⟩
 f22:=⟨Tryz.f308.name,by decide,Tryz.func308.trans (congrArg M dK)⟩
 f23:=⟨Tryz.f309.name,by decide,Tryz.func309.trans (congrArg M dK)⟩
 f24:=⟨Tryz.f310.name,by decide,Tryz.func310.trans (congrArg M dK)⟩
 f25:=⟨Tryz.f311.name,by decide,Tryz.func311.trans (congrArg M dK)⟩
 f26:=⟨Tryz.f312.name,by decide,Tryz.func312.trans (congrArg M dK)⟩
 f27:=⟨Tryz.f313.name,by decide,Tryz.func313.trans (congrArg M dK)⟩
 f28:=Tryz.func148.trans (congrArg M dK)
 f29:=Tryz.func149.trans (congrArg M dK)
 f46:=⟨Tryz.f325.name,by decide,Tryz.func325.trans (congrArg M dK)⟩
 f47:=Tryz.func187.trans (congrArg M dK)
 f48:=Tryz.func188.trans (congrArg M dK)
 f49:=⟨Tryz.f326.name,by decide,Tryz.func326.trans (congrArg M dK)⟩
 f50:=⟨Tryz.f327.name,by decide,Tryz.func327.trans (congrArg M dK)⟩
 f57:=⟨Tryz.f332.name,by decide,Tryz.func332.trans (congrArg M dK)⟩
 t0:=underlying0
 a0:=isAgg0
 z0:=sizeOf0
 v0:=zeroValue0
 t3:=bJ
 a3:=YY
 z3:=PB
 v3:=Ij
 t4:=jD
 a4:=isAgg4
 z4:=sizeOf4
 v4:=zeroValue4
 t5:=underlying5
 a5:=isAgg5
 z5:=sizeOf5
 v5:=zeroValue5
 t9:=underlying9
 a9:=isAgg9
 z9:=sizeOf9
 v9:=zeroValue9
 t22:=underlying28
 a22:=isAgg28
 z22:=sizeOf28
 v22:=zeroValue28
 a24:=YY
 z24:=PB
 t25:=underlying128
 a25:=isAgg128
 z25:=sizeOf128
 v25:=zeroValue128
 t39:=underlying191
 a39:=isAgg191
 z39:=sizeOf191
 v39:=zeroValue191
 t45:=underlying244
 a45:=isAgg244
 z45:=sizeOf244
 v45:=zeroValue244
 t46:=underlying245
 a46:=isAgg245
 z46:=sizeOf245
 v46:=zeroValue245
 t50:=underlying249
 a50:=isAgg249
 z50:=sizeOf249
 v50:=zeroValue249
 t53:=underlying230
 a53:=isAgg230
 z53:=sizeOf230
 v53:=zeroValue230
 t55:=underlying224
 a55:=isAgg224
 z55:=sizeOf224
 v55:=zeroValue224
 t66:=underlying312
 a66:=isAgg312
 z66:=sizeOf312
 v66:=zeroValue312
 t70:=underlying316
 a70:=isAgg316
 z70:=sizeOf316
 v70:=zeroValue316
 t76:=underlying349
 a76:=isAgg349
 z76:=sizeOf349
 v76:=zeroValue349
 t77:=underlying350
 a77:=isAgg350
 z77:=sizeOf350
 v77:=zeroValue350}
def Yh:Go.Shelf.Ren:=⟨fun|5=>48|7=>98|a=>a,fun|22=>3|3=>3|4=>4|b=>b,fun|c=>c⟩
def Um:Go.Proofs.SlLaysC2.n5 aE Yh:={
 mixed:=dK
 f5:=⟨Tryz.f48.name,by decide,Tryz.func48.trans (congrArg M dK)⟩
 f7:=⟨Tryz.f98.name,by decide,Tryz.func98.trans (congrArg M dK)⟩
 t3:=bJ
 a3:=YY
 z3:=PB
 v3:=Ij
 t4:=jD
 a4:=isAgg4
 z4:=sizeOf4
 v4:=zeroValue4
 t22:=bJ
 a22:=YY
 z22:=PB
 v22:=Ij}
def LB(a b c):aT aE 48 #[J E a,J E b] c fun d e=>d=aK (J E (nW a b))/\e=c:=AnyG.cmp_Compare_int Um a b c
def VN(a:Nat)(b c)(d:a<15)(e f)(g:f.cell? e=M (J E a)):
  aT aE 253 #[ym b,ym c,aD (M e)] f fun h i=>h=aK (J E (Yj a b c))/\∃l,i=f.drewN l:=by
 have h:=aH (fun i l n=>LB i l n);let ⟨i,l⟩:∃n:Int,n=(b.val:Int):=⟨_,rfl⟩;let ⟨n,o⟩:∃p:Int,p=(c.val:Int):=⟨_,rfl⟩;have p:=b.isLt;have q:=c.isLt
 by_cases r:a%2=0
 ·have s:((a:Int)%2==0)=aB:=by simp;omega
  have t:Yj a b c=nW (n/8) (i/8):=by unfold Yj;rw[if_pos r,l,o]
  have u:=aH (h.o (n/8) (i/8));rw[t];unfold ym;rw[<-l,<-o];generalize nW (n/8) (i/8)=v at*
  have s:0<=i:=O;have s:i<=63:=O;have s:0<=n:=O;have s:n<=63:=O;clear l o t r h;go_enter func253,ntmps253;go_wp2_with fail;refine(u.o _).mono ?_;rintro s t ⟨rfl,rfl⟩;go_wp2;go_ret;exact⟨rfl,0,rfl⟩
 ·have s:((a:Int)%2==0)=av:=by simp;omega
  have t:Yj a b c=nW (i/8) (n/8):=by unfold Yj;rw[if_neg r,l,o]
  have u:=aH (h.o (i/8) (n/8));rw[t];unfold ym;rw[<-l,<-o];generalize nW (i/8) (n/8)=v at*
  have a:0<=i:=O;have a:i<=63:=O;have a:0<=n:=O;have a:n<=63:=O;clear l o t r h;go_enter func253,ntmps253;go_wp2_with fail;refine(u.o _).mono ?_;rintro a b ⟨rfl,rfl⟩;go_wp2;go_ret;exact⟨rfl,0,rfl⟩
def Q8(b:Nat)(c)(a:b<=12):aT aE 97 #[J .u64 b] c fun d e=>(∃f:Int,d=aK (J E f))/\e=c:=
 (Any.bits_Len L7 b c O O).mono fun _ _ ⟨a,d⟩=>⟨⟨_,a⟩,d⟩
def EG(a b off c){d}(e:d≠b):(DC ym a b off c).heap[d]?=a.heap[d]?:=by
 simp only[DC,Acq,qF];rw[if_neg (Ne.symm e)]
def Qo{a b c g}(d:Bn E a b c g)(off)(f:List (Fin 64))(e:off+f.length<=g.length):Bn E (DC ym a c off f.toArray) b c (CH g off (f.map fun h=>(h.val:Int))):=by
 unfold Bn at*;simp only[DC,Acq,qF,if_true,d,bX,onCells];congr 2;apply oZ;intro a;simp only[putCells,aS,qY,Array.getElem?_mapIdx,bw,bN];rw[uq (jP e)];simp only[cX]
 by_cases b:a<off
 ·rw[if_pos b]
  cases g[a]? with
  |none=>rfl
  |some c=>simp only[bX];rw[if_neg O]
 ·rw[if_neg b]
  by_cases b:a<off+f.length
  ·rw[if_pos b,bN,aA (show a<g.length by omega),aA (show a-off<f.length by omega)]
   simp only[bX];rw[if_pos O];simp[ym,getElem!_pos,show a-off<f.length by omega]
  ·rw[if_neg b]
   cases g[a]? with
   |none=>rfl
   |some a=>simp only[bX];rw[if_neg O]
def RZ(i)(h:i<15)(b off a c d)(f:Holds ym d b off (zD i (zC i)).toArray)(e:c.block≠b)(g:d.cell? c=M (J E i)):
  aT aE 252 #[af (M ⟨b,off,S⟩) (zC i) a,.func (.func 253) #[] #[aD (M c)]] d fun l n=>l=aK (fE #[])/\∃o,n=(DC ym d b off ((Eg.drop (zO i)).take (zC i)).toArray).drewN o:=by
 have l:(zD i (zC i)).toArray.size=zC i:=by simp[zD]
 have n:∀o p,(callFunc 253 o).run aE p=.ok (.enter 253 o) p:=enters_of func253 dK rfl
 have o:=Any.slices_SortFunc_small Ss ym (fun _=>rfl) (Yj i) 253 #[aD (M c)] b off a (zD i (zC i)).toArray d n
  (fun a n p _ q r=>VN i q r h c _ (by
   have n:c.block<(DC ym (Sort.ahead d a) b off p).heap.size:=by simpa[DC,Acq,Sort.ahead] using World.block_lt_of_cell? d c g
   unfold sortWorld;rw[cell?_grow _ _ _ n,cell?_putRow_other _ _ _ _ _ _ (.inl e)];exact g)) f (by rw[l];have:=DG i h;omega) Q8
 rw[l] at o;have a:=RX i h;have b:VM (ltOf (Yj i)) (zD i (zC i)).toArray 0 (zC i)=((Eg.drop (zO i)).take (zC i)).toArray:=by rw[<-a]
 rw[b] at o;exact o
end
section
open Go.Sort
attribute [local go_sem ↓] kH kI
def zX:Gu.length=64:=by decide
def FF(a b:Nat):Int:=if b<zO a then cM Gu b else((8*(zR a+(b-zO a))+a-(zR a+(b-zO a)):Nat):Int)
def Nl{a b c}(d:∀i,i<c->a i=b i):en a c=en b c:=by
 unfold en;congr 1;exact rI fun a b=>d a (List.mem_range.1 b)
def O3(a)(b:a<15):zR a+zC a=min a 7+1/\zR a<=a/\(zR a:Int)=max 0 ((a:Int)-8+1)/\zR a+zC a<=a+1/\zR a+zC a<=8:=by
 unfold zR zC;split<;> omega
def ZW(a b)(c:a<15)(d:b<zC a):(8*(zR a+b)+a-(zR a+b))<64:=by
 have:=O3 a c;have e:∀f:Fin 15,∀g:Fin 8,g.val<zC f.val->8*(zR f.val+g.val)+f.val-(zR f.val+g.val)<64:=by decide
 exact e ⟨a,c⟩ ⟨b,by omega⟩ d
def ZG(a b):FF a (zO a+b)=((8*(zR a+b)+a-(zR a+b):Nat):Int):=by
 unfold FF;rw[if_neg O,gj]
def Wb(e f g c:Nat)(a:f<g)(b:g<=64)(d:c=g-f)(h:T):
  (Instr.sliceAt 277 (aD (M ⟨e,0,S⟩)) (M (J E f)) (M (J E g)) S).run aE h=.ok (af (M ⟨e,f,S⟩) c (64-f)) h:=by
 subst d;have a:∀b,(K3 3).run aE b=.ok 1 b:=fun _=>by kernel_rfl
 have b:aE.arrayLen 277=64:=dK;have c:=run_sliceAt_array_lh (P:=aE) h 277 ⟨e,0,S⟩ ji E E (f:Int) (g:Int) O O (iJ b);rw[b] at c;rw[c];have b:=a h;show((K3 3).run aE h).andThen _=_;rw[b];show Result.ok (slicedAt ⟨e,0,S⟩ (f:Int).toNat (g:Int).toNat 64 1) h=_;unfold slicedAt;rw[jn,jn,if_neg O];simp[Addr.add];intro a;simp[a]
def TR{a b c off d}{e:List (Fin 64)}(f:Bn E a b c d)(g:∀i (h:i<e.length),d[off+i]?=M ((e[i].val:Nat):Int)):Holds ym a c off e.toArray:=by
 intro a b;have c:a<e.length:=by simpa using b
 refine⟨?_,f.frozen _⟩;rw[f.cell,g a c];simp[ym,getElem!_pos,c]
def QL(b)(a:b<15):CH (en (FF b) (zO b+zC b)) (zO b) (((Eg.drop (zO b)).take (zC b)).map fun c=>(c.val:Int))=en (cM Gu) (zO (b+1)):=by
 let ⟨c,d,_,_⟩:=DG b a;have a:((Eg.drop (zO b)).take (zC b)).map (fun e=>(e.val:Int))=(Gu.drop (zO b)).take (zC b):=by unfold Gu;rw[List.map_take,List.map_drop]
 have e:((Gu.drop (zO b)).take (zC b)).length=zC b:=by rw[List.length_take,jO,zX];omega
 rw[a,c];apply oB;intro a;rw[uq (by rw[e,jz d];exact d),e]
 by_cases c:a<zO b
 ·rw[if_pos c,tO O,tO O,FF,if_pos c]
 ·rw[if_neg c]
  by_cases c:a<zO b+zC b
  ·rw[if_pos c,tO c,gH,if_pos O,iZ,show zO b+(a-zO b)=a by omega]
   exact eh (iJ zX)
  ·rw[if_neg c]
   unfold en;rw[aU (jP c),aU (jP c)];simp
structure ZzB(d wr:T)(a b:Nat)(c:List Int):Prop where
 b0:Bn E wr 277 a zeros64
 Q:Bn E wr 277 b c
 F:Below d.heap.size d wr
def ZzR(a:T)(b c:Nat)(d e:aq)(wr:T):Prop:=∃f:Nat,f<=15/\e=J E f/\d=J E (zO f:Nat)/\ZzB a wr b c (en (cM Gu) (zO f))
def ZzI(a:T)(b c d e:Nat)(f g:aq)(wr:T):Prop:=∃h:Nat,h<=zC e/\f=J E ((zO e+h:Nat):Int)/\g=J E ((zR e+h:Nat):Int)/\ZzB a wr b c (en (FF e) (zO e+h))/\Bx wr d 3 #[J E e]
def IT(a:T):aT aE 213 #[] a (zu a Gu):=by
 let ⟨b,c⟩:=aX ((a.alloc (az (aS E zeros64) 277)).alloc (az (aS E zeros64) 277));let ⟨d,e⟩:=aX a.heap.size;let ⟨f,g⟩:=aX (a.heap.size+1)
 have h:ZzB a b d f (en (cM Gu) 0):=by
  rw[c];exact⟨(Bn.D _ _ _ _ _ e).alloc _,Bn.D _ _ _ _ _ (jP g),(jd).alloc dS _⟩
 have i:=aH h;clear h;go_enter func213,ntmps213;go_upto_region 2 with fail;refine mr c ?_;rw[<-g,<-e];obtain⟨h,l⟩:=aQ (show d<f by omega) (show a.heap.size<=d by omega);clear c e g;go_wp2
 go_loopw [2,6] (fun c e wr=>ZzR a d f c e wr) (fun _ g _=>15-(intOf g).toNat)
 case atStart=>exact⟨0,by omega,rfl,rfl,i.o⟩
 case round=>
  obtain⟨c,e,rfl,rfl,g⟩:=hrel;have n:=aH g;clear g
  by_cases g:c<15
  ·let ⟨o,p,q,r⟩:=DG c g
   let ⟨s,t,u,v,w⟩:=O3 c g;let ⟨x,y⟩:=aX (zO c);let ⟨z,H⟩:=aX (zR c);have U:=n;rw[<-H] at s t u v w;rw[<-y] at o p ⊢;let ⟨V,W,Y⟩:=bh o y H;have a0:max 0 ((c:Int)-8+1)=z:=u.symm;have a1:=n.o.Q.lt;clear o y H u;go_upto_region 7 with fail;let ⟨o,u⟩:=aX wr.heap.size
   have y:ZzB a (wr.alloc (az #[J E c] 3)) d f (en (FF c) x):=by
    have H:en (FF c) x=en (cM Gu) (zO c):=by
     rw[W.o];exact Nl fun a2 a3=>by rw[FF,if_pos a3]
    rw[H];exact⟨U.o.b0.alloc _,U.o.Q.alloc _,U.o.F.alloc U.o.F.size _⟩
   have H:Bx (wr.alloc (az #[J E c] 3)) o 3 #[J E c]:=Bx.D _ _ _ _ u;rw[<-u];obtain⟨a2,a3,a4⟩:=bh (show f<o by omega) y H;have a5:=H.cell 0 rfl;clear y H u a1 n U;generalize wr.alloc (az #[J E c] 3)=u at*
   go_wp2;clear a5 a0
   go_loopw [2,5] (fun b e wr=>ZzI a d f o c b e wr) (fun _ i _=>8-(intOf i).toNat)
   case atStart=>exact⟨0,by omega,by rw[W.o];rfl,by rw[Y.o];rfl,by have:=a3.o;rw[W.o] at this;exact this,a4.o⟩
   case round=>
    obtain⟨b,e,rfl,rfl,i,p⟩:=hrel;let ⟨e,q⟩:=aQ i p;have r:=p.cell 0 rfl;let ⟨s,t⟩:=aX (zO c+b);let ⟨u,v⟩:=aX (zR c+b);let ⟨w,y⟩:=aX (min c 7);have H:min (c:Int) 7=(w:Nat):=by rw[y];omega
    have H:u=z+b:=by rw[v,Y.o]
    have z:s=x+b:=by rw[t,W.o]
    have U:=i.Q.lt;rw[<-t,<-v];let ⟨U,a0⟩:=aQ t v;clear i p a3 a4 t v
    by_cases i:b<zC c
    ·have i:=e.o.Q.frozen s
     let ⟨i,_,p⟩:=e.o.Q.gZ (i:=s) (by rw[<-U.o,jz O];omega);clear y H z;have i:u<8:=by have:=a0.o;have:=Y.o;omega
     have i:s<64:=by have:=U.o;have:=W.o;omega
     have i:u<=w:=by have:=a0.o;have:=Y.o;omega
     go_wp2;have i:=e.o.Q.L s (8*(u:Int)+c-u)
     have p:(8*(u:Int)+c-u)=FF c s:=by
      rw[U.o,ZG,<-a0.o];omega
     rw[p,<-U.o,ki O] at i;refine⟨⟨b+1,by omega,by rw[<-qX,<-U.o];go_num,by rw[<-qX,<-a0.o];go_num,⟨e.o.b0.C (by have:=h.o;simp;omega) _,?_,FD e.o.F _ (by have:=h.o;have:=l.o;simp;omega) _⟩,q.o.C (by have:=a2.o;simp;omega) _⟩,by simp[intOf];omega⟩;rw[<-qX,<-U.o,p];exact i
    ·obtain rfl:b=zC c:=O
     have b:w<u:=O;have b:zC c=s-x:=O;have i:=fun p=>Wb f x s (zC c) O O b p
     have i:Holds ym wr f x (zD c (zC c)).toArray:=by
      refine TR e.o.Q (fun p q=>?_);have t:p<zC c:=by simpa[zD] using q
      rw[W.o,tO O,ZG];simp only[zD,List.getElem_map,List.getElem_range,Fin.ofNat];rw[Nat.mod_eq_of_lt (ZW c p g t)]
     have p:=aH (RZ c g f x (64-x) ⟨o,0,S⟩ wr (by rw[W.o] at i ⊢;exact i) (by have:=a2.o;simp;omega) r);have o:∀(q:Fn)(first r:Array aq)(t:T),(Instr.makeFunc q first r).run aE t=.ok (.func q first r) t:=fun _ _ _ _=>rfl
     have o:ZzB a (DC ym wr f x ((Eg.drop (zO c)).take (zC c)).toArray) d f (en (cM Gu) (zO (c+1))):=by
      have a:=W.o;have q:zO c+zC c<=64:=(DG c g).2.1;have r:=Qo e.o.Q (zO c) ((Eg.drop (zO c)).take (zC c)) (by rw[jz q];have:=YO (zC c) (Eg.drop (zO c));omega);rw[QL c g] at r;have g:Bn E (DC ym wr f x ((Eg.drop (zO c)).take (zC c)).toArray) 277 f (en (cM Gu) (zO (c+1))):=by rw[a];exact r
      exact⟨e.o.b0.K (EG _ _ _ _ (dU h.o)),g,e.o.F.os,e.o.F.tape,e.o.F.output,by have:=e.o.F.size;simpa[DC,Acq] using this,fun a q=>(EG _ _ _ _ (gC h.o l.o)).trans (e.o.F.block a q)⟩
     have a:=aH o;have e:s=zO (c+1):=by rw[V.o];omega
     have g:=aH e;clear i y H z b o e;go_wp2_with fail;refine p.o.mono ?_;rintro b e ⟨rfl,h,rfl⟩;go_wp2;exact⟨⟨c+1,by omega,by go_num,by rw[g.o],a.o.b0,a.o.Q,FJ a.o.F h⟩,by simp[intOf];omega⟩
  ·obtain rfl:c=15:=O
   have a:=n.o.Q;have b:en (cM Gu) (zO 15)=Gu:=by decide
   rw[b] at a;have c:=aH n.o.b0;have e:=aH a;have g:=aH n.o.F;have h:=aH zX;clear a b n;go_wp2_with (first|((refine fL rfl (aI 1) rfl f rfl e.o h.o ?_))|((refine eD rfl (aI 0) (aI 36) rfl d Gu rfl rfl c.o rfl h.o ?_)));have a:Bn E (wr.setRow d (aS E Gu)) 277 d Gu:=c.o.row _;exact rR results213 a ji (by rw[bE,h.o];exact gP) ⟨rfl,aO g.o l.o⟩
end
section
def ND:List Int:=[0,8,16,24,1,9,2,10,17,25,32,40,48,56,57,49,41,33,26,18,3,11,4,12,19,27,34,42,50,58,35,43,51,59,20,28,5,13,6,14,21,29,36,44,52,60,37,45,53,61,22,30,7,15,23,31,38,46,54,62,39,47,55,63]
def Nu:List Int:=[8,16,19,22,26,27,29,34,16,16,22,24,27,29,34,37,19,22,26,27,29,34,34,38,22,22,26,27,29,34,37,40,22,26,27,29,32,35,40,48,26,27,29,32,35,40,48,58,26,27,29,34,38,46,56,69,27,29,35,38,46,56,69,83]
def Gn(a:yf)(b:T)(c:Nat)(d:List Int):Prop:=∃e f,b.heap[c]?=M (az (aS a d) e f)
def Gn.lt{a b c d}(e:Gn a b c d):c<b.heap.size:=by
 let ⟨a,b,c⟩:=e;exact(eJ.1 c).1
def Gn.K{a b c d e}(f:Gn a b d e)(g:c.heap[d]?=b.heap[d]?):Gn a c d e:=by
 let ⟨a,b,c⟩:=f;exact⟨a,b,g.trans c⟩
def Gn.below{a b c d B e}(f:Gn a b d e)(g:bj B b c)(h:d<B):Gn a c d e:=f.K (g.block d h)
def Gn.alloc{a b c d}(e:Gn a b c d)(o):Gn a (b.alloc o) c d:=e.below ((aM _ _).alloc (aw _) o) e.lt
def Gn.diff{a b c d e f g}(h:Gn a b c f)(l:Bx b d e g)(i:f.length≠g.size):c≠d:=by
 rintro rfl;let ⟨a,b,c⟩:=h;unfold Bx at l;rw[c] at l;simp only[Option.some.injEq,Obj.cells.injEq] at l;apply i;rw[<-l.1,bE]
structure fD(b:T):Prop where
 a:Gn E b 1 ND
 i:Gn .u8 b 0 Nu
def fD.lt{a}(b:fD a):2<=a.heap.size:=by have:=b.a.lt;have:=b.i.lt;omega
def fD.below{a b B}(c:fD a)(d:bj B a b)(e:2<=B):fD b:=⟨c.a.below d O,c.i.below d O⟩
def fD.ext{a b}(c:fD a)(d:bj a.heap.size a b):fD b:=c.below d c.lt
instance {w w'}:Tr w w' (fD w) (fD w'):=⟨fun hb h=>fD.ext h hb⟩
def jZ(a:Bool):List Int:=if a then ND else Gu
def qU(a):(jZ a).length=64:=by cases a<;> decide
def Fc(a:Bool)(b:Nat):Nat:=((jZ a).map Int.toNat).idxOf b
def tA(a b)(c:b<64):0<=cM (jZ a) b/\cM (jZ a) b<=63/\Fc a (cM (jZ a) b).toNat=b:=by
 have d:∀e:Bool,∀f:Fin 64,0<=cM (jZ e) f.val/\cM (jZ e) f.val<=63/\Fc e (cM (jZ e) f.val).toNat=f.val:=by decide+kernel
 exact d a ⟨b,c⟩
def TD(a b)(c:b<64):Fc a b<64/\cM (jZ a) (Fc a b)=b:=by
 have d:∀e:Bool,∀f:Fin 64,Fc e f.val<64/\cM (jZ e) (Fc e f.val)=f.val:=by decide+kernel
 exact d a ⟨b,c⟩
def Q1(a:List Int)(b:Bool):List Int:=(dI 64).map fun c=>cM a (cM (jZ b) c).toNat
def Me(a:List Int)(b:Bool)(c:Nat):List Int:=(dI 64).map fun d=>if Fc b d<c then cM a (Fc b d) else 0
def Nj(a:List Int)(b:Bool):List Int:=Me a b 64
def XU(a c d)(b:d<64):(Me a c d).set (cM (jZ c) d).toNat (cM a d)=Me a c (d+1):=by
 let ⟨a,e,f⟩:=tA c d b;apply oB;intro a;rw[uf];simp only[Me,cX,qD]
 by_cases b:(cM (jZ c) d).toNat=a
 ·subst b
  rw[if_pos rfl,if_pos O];simp only[bN,jo (show(cM (jZ c) d).toNat<64 by omega),bX,f];rw[if_pos O]
 ·rw[if_neg b]
  by_cases e:a<64
  ·simp only[bN,jo e,bX]
   have f:=TD c a e;have g:Fc c a≠d:=fun h=>b (by have:=f.2;rw[h] at this;omega)
   congr 1
   by_cases b:Fc c a<d
   ·rw[if_pos b,if_pos O]
   ·rw[if_neg b,if_neg O]
  ·simp[e]
def TW(a b):Me a b 0=zeros64:=by
 have c:Me a b 0=(dI 64).map (fun _=>(0:Int)):=by
  unfold Me;apply rI;intro a _;rw[if_neg O]
 rw[c]
 decide
attribute [local go_sem ↓] tR
def yX(b:Bool)(c:T)(a:fD c):aT aE 177 #[ao b] c (zu c (jZ b)):=by
 have d:=aH IT;let ⟨e,f⟩:=aX (c.alloc (az (aS E zeros64) 277));obtain⟨g,h⟩:=aQ (show Bn E e 277 c.heap.size zeros64 by rw[f];exact Bn.D _ _ _ _ _ rfl) (show bj c.heap.size c e by rw[f];exact jd);let ⟨i,l,n⟩:=(show Gn E e 1 ND by rw[f];exact a.a.alloc _);obtain⟨a,e⟩:=aQ n (show(aE.info? 277).map (·.size)=M (aS E ND).size by rw[bE];exact gP);cases b with
 |true=>
  go_enter func177,ntmps177;go_upto_region 1 with fail;refine mr f ?_;clear f;go_wp2_with (first|((refine Alq rfl 277 (.global 1) rfl 1 rfl _ _ l _ a.o ji rfl e.o ?_))|((refine eD rfl (aI 2) (aI 4) rfl c.heap.size ND rfl rfl g.o rfl rfl ?_)));have a:=g.o.row ND;exact rR results177 a ji (eZ bE gP) ⟨rfl,aO h.o (aw _)⟩
 |false=>
  go_enter func177,ntmps177;go_upto_region 1 with fail;refine mr f ?_;clear f;go_wp2_with fail;refine mR (d.o _) fun a b=>?_
  have a:=mX b g;have d:=aH (h.o.trans (b.mono h.o.size));go_wp2_with ((refine eD rfl (aI 2) (aI 5) rfl c.heap.size Gu rfl rfl a.o rfl zX ?_));have b:=a.o.row Gu;exact rR results177 b ji (by rw[bE,zX];exact gP) ⟨rfl,aO d.o (aw _)⟩
def Vt(a wr:T)(b c d:Nat)(e f:List Int):Prop:=Bn E wr 277 b e/\Bn E wr 277 c zeros64/\Bn E wr 277 d f/\bj a.heap.size a wr
def Vt.ext{a wr b c d e f g}(h:Vt a wr c d e f g)(i:bj wr.heap.size wr b):Vt a b c d e f g:=⟨h.1.ext i,h.2.1.ext i,h.2.2.1.ext i,h.2.2.2.trans (i.mono h.2.2.2.size)⟩
instance {w w' x0 x2 x3 x4 x5 x6}:Tr w w' (Vt x0 w x2 x3 x4 x5 x6) (Vt x0 w' x2 x3 x4 x5 x6):=⟨fun hb h=>Vt.ext h hb⟩
def Sd(a b):Q1 a b=en (fun c=>cM a (cM (jZ b) c).toNat) 64:=by unfold Q1 en;simp
def IU(d:List Int)(a:d.length=64)(e:Bool)(c:T)(b:fD c):aT aE 298 #[aG (aS E d),ao e] c (zu c (Q1 d e)):=by
 let ⟨f,g⟩:=aX (((c.alloc (az (aS E d) 277)).alloc (az (aS E zeros64) 277)).alloc (az (aS E zeros64) 277));let ⟨h,i⟩:=aX c.heap.size;let ⟨l,n⟩:=aX (c.heap.size+1);let ⟨o,p⟩:=aX (c.heap.size+1+1);have q:bj c.heap.size c f:=by rw[g];exact((jd).alloc dS _).alloc eB _
 have r:Vt c f h l o d (en (fun s=>cM d (cM (jZ e) s).toNat) 0):=by
  have s:(en (fun t=>cM d (cM (jZ e) t).toNat) 0)=zeros64:=rfl;rw[s,g];exact⟨((Bn.D _ _ _ _ _ i).alloc _).alloc _,(Bn.D _ _ _ _ _ (jP n)).alloc _,Bn.D _ _ _ _ _ (jP p),by rw[<-g];exact q⟩
 obtain⟨s,t,u⟩:=bh r (yX e f (b.ext q)) a;go_enter func298,ntmps298;go_upto_region 2 with fail;refine mr g ?_;rw[<-p,<-n,<-i];obtain⟨a,b,f⟩:=bh (show h<l by omega) (show l<o by omega) (show c.heap.size<=h by omega);clear g i n p;go_wp2_with fail;refine mR t.o fun g i=>?_
 have g:=mX i s;go_wp2
 go_loopw [10] (fun i wr=>mD 64 (fun n wr=>Vt c wr h l o d (en (fun p=>cM d (cM (jZ e) p).toNat) n)) i wr) (fun q _=>64-(intOf q).toNat)
 case atStart=>exact⟨0,by omega,rfl,g.o⟩
 case round=>
  obtain⟨c,g,rfl,h⟩:=hrel;have g:=aH h
  by_cases h:c<64
  ·let ⟨i,n,p⟩:=tA e c h
   have i:=fun n=>pG (qU e) (eh (l:=jZ e) (k:=c) (eZ qU h)) n
   let ⟨n,p⟩:=aX ((cM (jZ e) c).toNat);have q:cM (jZ e) c=(n:Nat):=O;rw[q] at i;have i:n<64:=O;have i:=g.o.1.cell n;rw[eh (iJ u.o)] at i;simp only[bX] at i;have q:=g.o.2.2.1.frozen c;let ⟨q,_,r⟩:=g.o.2.2.1.gZ (i:=c) (by first|(rw[jz O];omega)|(simp[Me];omega));have q:=g.o.2.2.1.lt;have q:=aH p;let ⟨r,s⟩:=aX (cM d n);rw[<-s] at i;have i:=aH s;clear p s;go_wp2;have n:=g.o.2.2.1.L c r;rw[show r=(fun p=>cM d (cM (jZ e) p).toNat) c by rw[i.o,q.o],ki h] at n;refine⟨⟨c+1,by omega,by go_num,g.o.1.C (by have:=a.o;have:=b.o;simp;omega) _,g.o.2.1.C (by have:=b.o;simp;omega) _,?_,FD g.o.2.2.2 _ (by have:=a.o;have:=b.o;have:=f.o;simp;omega) _⟩,by simp[intOf];omega⟩;rw[show r=(fun b=>cM d (cM (jZ e) b).toNat) c by rw[i.o,q.o]];exact n
  ·obtain rfl:c=64:=O
   have b:=g.o.2.2.1;have c:=aH g.o.2.1;have h:=aH g.o.2.2.2;rw[<-Sd] at b;obtain⟨g,i⟩:=aQ b (show(Q1 d e).length=64 by simp[Q1]);go_wp2_with (first|((refine fL rfl (aI 5) rfl o rfl g.o i.o ?_))|((refine eD rfl (aI 4) (aI 20) rfl l (Q1 d e) rfl rfl c.o rfl i.o ?_)));have b:=c.o.row (Q1 d e);exact rR results298 b ji (by rw[bE,i.o];exact gP) ⟨rfl,aO h.o (gC a.o f.o)⟩
def EE(d:List Int)(a:d.length=64)(e:Bool)(c:T)(b:fD c):aT aE 232 #[aG (aS E d),ao e] c (zu c (Nj d e)):=by
 let ⟨f,g⟩:=aX (((c.alloc (az (aS E d) 277)).alloc (az (aS E zeros64) 277)).alloc (az (aS E zeros64) 277));let ⟨h,i⟩:=aX c.heap.size;let ⟨l,n⟩:=aX (c.heap.size+1);let ⟨o,p⟩:=aX (c.heap.size+1+1);have q:bj c.heap.size c f:=by rw[g];exact((jd).alloc dS _).alloc eB _
 have r:Vt c f h l o d (Me d e 0):=by
  have s:(Me d e 0)=zeros64:=TW d e;rw[s,g];exact⟨((Bn.D _ _ _ _ _ i).alloc _).alloc _,(Bn.D _ _ _ _ _ (jP n)).alloc _,Bn.D _ _ _ _ _ (jP p),by rw[<-g];exact q⟩
 obtain⟨s,t,u⟩:=bh r (yX e f (b.ext q)) a;go_enter func232,ntmps232;go_upto_region 2 with fail;refine mr g ?_;rw[<-p,<-n,<-i];obtain⟨a,b,f⟩:=bh (show h<l by omega) (show l<o by omega) (show c.heap.size<=h by omega);clear g i n p;go_wp2_with fail;refine mR t.o fun g i=>?_
 have g:=mX i s;go_wp2
 go_loopw [10] (fun i wr=>mD 64 (fun n wr=>Vt c wr h l o d (Me d e n)) i wr) (fun p _=>64-(intOf p).toNat)
 case atStart=>exact⟨0,by omega,rfl,g.o⟩
 case round=>
  obtain⟨c,g,rfl,h⟩:=hrel;have g:=aH h
  by_cases h:c<64
  ·let ⟨i,n,p⟩:=tA e c h
   have i:=fun n=>pG (qU e) (eh (l:=jZ e) (k:=c) (eZ qU h)) n
   let ⟨n,p⟩:=aX ((cM (jZ e) c).toNat);have q:cM (jZ e) c=(n:Nat):=O;rw[q] at i;have i:n<64:=O;have i:=g.o.1.cell c;rw[eh (iJ u.o)] at i;simp only[bX] at i;have q:=g.o.2.2.1.frozen n;let ⟨q,_,r⟩:=g.o.2.2.1.gZ (i:=n) (by first|(rw[jz O];omega)|(simp[Me];omega));have q:=g.o.2.2.1.lt;have q:=aH p;let ⟨r,s⟩:=aX (cM d c);rw[<-s] at i;have i:=aH s;clear p s;go_wp2;have p:=g.o.2.2.1.L n r;rw[i.o,q.o,XU d e c h] at p;refine⟨⟨c+1,by omega,by go_num,g.o.1.C (by have:=a.o;have:=b.o;simp;omega) _,g.o.2.1.C (by have:=b.o;simp;omega) _,?_,FD g.o.2.2.2 _ (by have:=a.o;have:=b.o;have:=f.o;simp;omega) _⟩,by simp[intOf];omega⟩;rw[i.o,q.o];exact p
  ·obtain rfl:c=64:=O
   have b:=g.o.2.2.1;have c:=aH g.o.2.1;have h:=aH g.o.2.2.2;change Bn E wr 277 o (Nj d e) at b
   obtain⟨g,i⟩:=aQ b (show(Nj d e).length=64 by simp[Nj,Me]);go_wp2_with (first|((refine fL rfl (aI 5) rfl o rfl g.o i.o ?_))|((refine eD rfl (aI 4) (aI 20) rfl l (Nj d e) rfl rfl c.o rfl i.o ?_)));have b:=c.o.row (Nj d e);exact rR results232 b ji (by rw[bE,i.o];exact gP) ⟨rfl,aO h.o (gC a.o f.o)⟩
end
section
structure je where
 ty:Int
 st:Int
 B:Bool
 sec:Bool
def je.v(a:je):aq:=aG #[J E a.ty,J E a.st,ao a.B,ao a.sec]
structure je.A(a:je):Prop where
 t1:1<=a.ty
 t2:a.ty<=3
 s1:1<=a.st
 s2:a.st<=3
 fi:a.st≠3->a.B=aB
 wh:a.st=3->a.sec=av
def rq(a:je):Bool:=a.B&&decide (a.st=3)
def im(a:je):Bool:=decide (a.st≠3)
def tG(a:je):Int:=if a.st=2 then 1 else 0
theorem fh.of{w w' a}(b:bj w.heap.size w w'):fh w a (aK a) w':=⟨rfl,b⟩
theorem jm(a:je)(b:a.A)(w):aT aE 218 #[a.v] w (fh w (ao aB)):=by
 obtain⟨c,d,e,f⟩:=a;let ⟨a,g,h,i,l,n⟩:=b;dsimp only at*;unfold je.v;dsimp only;have a:decide (c<1)=av:=by simp;omega
 have a:decide (3<c)=av:=by simp;omega
 have a:decide (d<1)=av:=by simp;omega
 have a:decide (3<d)=av:=by simp;omega
 by_cases a:d=3
 ·have b:(d !=3)=av:=by simpa using a
  have b:=n a;subst b;go_enter func218,ntmps218;go_wp2;go_ret;exact fh.of (jd)
 ·have b:(d !=3)=aB:=by simpa using a
  have b:=l a;subst b;go_enter func218,ntmps218;go_wp2;go_ret;exact fh.of (jd)
theorem oM(a w):aT aE 259 #[a.v] w (fh w (ao (rq a))):=by
 obtain⟨b,c,d,e⟩:=a;unfold je.v rq;dsimp only;cases d<;> by_cases a:c=3
 all_goals
  have b:(c==3)=decide (c=3):=by rw[iF];simp
  go_enter func259,ntmps259;go_wp2;go_ret;refine⟨gB ?_,jd⟩;simp[a]
theorem wL(a w):aT aE 236 #[a.v] w (fh w (ao (im a))):=by
 obtain⟨b,c,d,e⟩:=a;unfold je.v im;dsimp only;go_enter func236,ntmps236;go_wp2;go_ret;refine⟨gB ?_,jd⟩;rw[iF];simp
theorem xz(a w):aT aE 237 #[a.v] w (fh w (J E (tG a))):=by
 obtain⟨b,c,d,e⟩:=a;unfold je.v tG;dsimp only
 by_cases a:c=2
 ·have b:(c==2)=aB:=by simpa using a
  rw[if_pos a];go_enter func237,ntmps237;go_wp2;go_ret;exact fh.of (jd)
 ·have b:(c==2)=av:=by simpa using a
  rw[if_neg a];go_enter func237,ntmps237;go_wp2;go_ret;exact fh.of (jd)
theorem ou(x m)(c:-m<=x)(d:x<=m)(a:0<=m)(b:m<=100000)(w):aT aE 255 #[J E x,J E m] w fun e w'=>e=aK (ao aB)/\w=w':=by
 have a:decide (-m<=x)=aB:=by simpa using c
 have a:decide (x<=m)=aB:=by simpa using d
 go_enter func255,ntmps255;go_wp2;go_ret;exact⟨rfl,rfl⟩
theorem mh(c)(a:1<=c)(b:c<=31)(w):aT aE 201 #[J E c] w fun d w'=>d=aK (ao aB)/\w=w':=by
 have a:decide (1<=c)=aB:=by simp;omega
 have a:decide (c<=31)=aB:=by simp;omega
 go_enter func201,ntmps201;go_wp2;go_ret;exact⟨rfl,rfl⟩
theorem pB(x a)(b:-63<=x/\x<=63)(c:-63<=a/\a<=63)(w):aT aE 256 #[aG #[J E x,J E a]] w (fh w (ao aB)):=by
 obtain⟨d,e⟩:=aQ (ou x 63 b.1 b.2 O O) (ou a 63 c.1 c.2 O O);go_enter func256,ntmps256;go_wp2_with fail;refine sQ (d.o _) ?_;go_wp2_with fail;refine sQ (e.o _) ?_;go_wp2;go_ret;exact fh.of (jd)
attribute [local go_sem ↓] kH kI
theorem Ay(b:Nat)(a:b<6)(w):aT aE 265 #[J E b] w fun c w'=>c=aK (J E ((b-3:Nat):Int))/\w=w':=by
 have a:max 0 ((b:Int)-3)=((b-3:Nat):Int):=O;let ⟨c,d⟩:=aX (b-3);rw[<-d] at a ⊢;clear d;go_enter func265,ntmps265;go_wp2;go_ret;exact⟨rfl,rfl⟩
structure Mx(w:T)(g:Nat)(m:Mb):Prop where
 j:Bx w g 280 m.cells
 ok:m.A
section
variable {w w':T} {g:Nat} {m:Mb}
theorem Mx.lt(a:Mx w g m):g<w.heap.size:=a.j.lt
theorem Mx.ext(a:Mx w g m)(b:bj w.heap.size w w'):Mx w' g m:=⟨a.j.ext b,a.ok⟩
instance {w w' x1 x2}:Tr w w' (Mx w x1 x2) (Mx w' x1 x2):=⟨fun hb h=>Mx.ext h hb⟩
theorem Mx.alloc(a:Mx w g m)(o):Mx (w.alloc o) g m:=⟨a.j.alloc o,a.ok⟩
theorem Mx.below{B}(a:Mx w g m)(b:bj B w w')(c:g<B):Mx w' g m:=⟨a.j.below b c,a.ok⟩
theorem Mx.new(w:T)(m)(a:m.A)(k)(b:k=w.heap.size):Mx (w.alloc (az m.cells 280)) k m:=⟨Bx.D _ _ _ _ b,a⟩
theorem Mx.c0(a:Mx w g m):w.cell? ⟨g,0,S⟩=M (J E m.kind):=a.j.cell 0 (Mb.c0 a.ok)
theorem Mx.c3(a:Mx w g m):w.cell? ⟨g,3,S⟩=M (ao m.fp):=a.j.cell 3 (Mb.c3 a.ok)
theorem Mx.c4(a:Mx w g m):w.cell? ⟨g,4,S⟩=M (ao m.fd):=a.j.cell 4 (Mb.c4 a.ok)
theorem Mx.Rx(a:Mx w g m):w.cell? ⟨g,17,S⟩=M (J E m.delta):=a.j.cell 17 (Mb.Rx a.ok)
end
theorem UR:(aE.info? 270).map (·.size)=M 2:=dK
theorem FO:(aE.info? 276).map (·.size)=M 6:=dK
theorem Rf:(aE.info? 274).map (·.size)=M 8:=dK
theorem Rh:(aE.info? 275).map (·.size)=M 4:=dK
theorem jL:(aE.info? 280).map (·.size)=M 408:=dK
section
variable {ops:Array cQ} {rest:List cQ} {o:cQ} {a:Act} {w:T} {Q:Exit->Act->T->Prop} {g:Nat} {m:Mb} (hgd:bP o (xZ ops a.tmps)=true) (x:Gc)
include hgd
theorem yS(b:o.op=.load 270 x)(c:a.eval x=aD (M ⟨g,1,S⟩))(d:Mx w g m)(e:cG aE ops Q rest (a.put o.dst (aG (oI m.u))) w):cG aE ops Q (o::rest) a w:=
 bA hgd 270 x b g 1 2 c _ _ _ _ d.j (Mb.eU d.ok) (iJ (Mb.size d.ok)) rfl underlying270 UR e
theorem pf(b:o.op=.load 276 x)(c:a.eval x=aD (M ⟨g,18,S⟩))(d:Mx w g m)(e:cG aE ops Q rest (a.put o.dst (aG (oI m.P))) w):cG aE ops Q (o::rest) a w:=
 bA hgd 276 x b g 18 6 c _ _ _ _ d.j (Mb.eC d.ok) (iJ (Mb.size d.ok)) rfl Zf FO e
theorem Mt(b:o.op=.load 274 x)(c:a.eval x=aD (M ⟨g,5,S⟩))(d:Mx w g m)(e:cG aE ops Q rest (a.put o.dst (aG (aS E m.v))) w):cG aE ops Q (o::rest) a w:=
 bA hgd 274 x b g 5 8 c _ _ _ _ d.j (Mb.eV d.ok) (iJ (Mb.size d.ok)) rfl underlying274 Rf e
theorem Mu(b:o.op=.load 275 x)(c:a.eval x=aD (M ⟨g,13,S⟩))(d:Mx w g m)(e:cG aE ops Q rest (a.put o.dst (aG (aS E m.Z))) w):cG aE ops Q (o::rest) a w:=
 bA hgd 275 x b g 13 4 c _ _ _ _ d.j (Mb.eS d.ok) (iJ (Mb.size d.ok)) rfl underlying275 Rh e
theorem Ei(off b)(c:off=24+64*b)(d:b<6)(e:o.op=.load 277 x)(f:a.eval x=aD (M ⟨g,off,S⟩))(h:Mx w g m)(i:cG aE ops Q rest (a.put o.dst (aG (aS E (sP 64 m.I b)))) w):cG aE ops Q (o::rest) a w:=by
 subst c;exact bA hgd 277 x e g _ 64 f _ _ _ _ h.j (Mb.eL h.ok d) (iJ (Mb.size h.ok)) rfl ji gP i
theorem fM(b:o.op=.load 280 x)(c:a.eval x=aD (M ⟨g,0,S⟩))(d:Mx w g m)(e:cG aE ops Q rest (a.put o.dst (aG m.cells)) w):cG aE ops Q (o::rest) a w:=
 bA hgd 280 x b g 0 408 c _ _ _ _ d.j (by rw[oD,<-Mb.size d.ok];exact VF) (iJ (Mb.size d.ok)) rfl mG jL e
end
def nF(m:Mb):Bool:=decide (m.kind=1)|| !decide (m.P=aF 6 av)
theorem WY(b)(a:b.length=6)(w):(binOp .neq 276 (aG (oI b)) (aG #[ao av,ao av,ao av,ao av,ao av,ao av])).run aE w=.ok (ao (!decide (b=aF 6 av))) w:=by
 have c:=Nq (P:=aE) 9998 6 276 4 w Zf jD dK b (aF 6 av) a rfl;rw[run_neq_struct];change ((mF (9998+2) 276 (aG (oI b)) (aG (oI (aF 6 av)))).run aE w).andThen _=_;rw[c];rfl
theorem qO(g:Nat)(m:Mb)(w:T)(a:Mx w g m):aT aE 267 #[aD (M ⟨g,0,S⟩)] w fun b w'=>b=aK (ao (nF m))/\w=w':=by
 have b:=aH a;have c:=a.c0;have c:=fun w=>WY m.P a.ok.P w
 unfold nF
 by_cases a:m.kind=1
 ·have c:(m.kind==1)=aB:=by simpa using a
  rw[show decide (m.kind=1)=aB by simpa using a];go_enter func267,ntmps267;go_wp2;go_ret;exact⟨rfl,rfl⟩
 ·have c:(m.kind==1)=av:=by simpa using a
  rw[show decide (m.kind=1)=av by simpa using a];go_enter func267,ntmps267;go_wp2_with ((refine pf dW (aI 11) rfl rfl b.o ?_));go_ret;exact⟨by simp,rfl⟩
theorem N6(g m w)(a:Mx w g m):aT aE 261 #[aD (M ⟨g,0,S⟩)] w fun b w'=>b=aK (J E (if m.fp then 2 else 1))/\w=w':=by
 have b:=a.c3;generalize m.fp=c at*
 cases c
 all_goals
  go_enter func261,ntmps261;go_wp2;go_ret;exact⟨rfl,rfl⟩
theorem F8(g a m w)(b:Mx w g m):aT aE 284 #[a.v,aD (M ⟨g,0,S⟩)] w (fh w (ao (m.fp||im a))):=by
 have c:=b.c3;have d:=b.lt;have e:=aH (fun w=>wL a w);generalize m.fp=f at*
 generalize im a=h at*
 obtain⟨i,l,n,o⟩:=a;unfold je.v at*;dsimp only at*;cases f
 ·go_enter func284,ntmps284
  go_wp2_with fail;refine mR (e.o _) fun w' a=>?_
  go_wp2;go_ret;refine⟨by simp,(jd).trans (a.mono dS)⟩
 ·go_enter func284,ntmps284
  go_wp2;go_ret;exact⟨by simp,jd⟩
def E6(m:Mb):Prop:=∀x∈m.I,-4095<=x/\x<=4095
theorem xw{a b}{c:List Int}{x}(d:x∈sP a c b):x∈c:=iw (jb d)
theorem tL(g:Nat)(m:Mb)(w:T)(a:Mx w g m)(b:E6 m):aT aE 228 #[aD (M ⟨g,0,S⟩)] w fun c w'=>c=aK (ao aB)/\w=w':=by
 let ⟨c,d,e⟩:=bh a b ou;go_enter func228,ntmps228;go_wp2
 go_loop [6] (NH 6) (fun f=>6-(intOf f).toNat)
 case atStart=>exact⟨0,by omega,rfl⟩
 case round=>
  obtain⟨f,h,rfl⟩:=hrel
  by_cases i:f<6
  ·have l:(sP 64 m.I f).length=64:=sa (iJ c.o.ok.I)
   have n:=aH l;clear l;go_wp2_with ((refine Ei rfl (aI 13) (24+f*64) f O i rfl rfl c.o ?_))
   go_loop [15] (NH 64) (fun l=>64-(intOf l).toNat)
   case atStart=>exact⟨0,by omega,rfl⟩
   case round=>
    obtain⟨l,o,rfl⟩:=hrel
    by_cases p:l<64
    ·have q:=eh (l:=sP 64 m.I f) (k:=l) (eZ n.o p)
     have r:=d.o _ (xw (bg q));have s:=fun w=>pG n.o q w
     generalize cM (sP 64 m.I f) l=t at*
     go_wp2_with fail;refine sQ (e.o t 4095 r.1 r.2 O O _) ?_;go_wp2
     go_round
     case rel=>exact⟨l+1,by omega,by go_num⟩
     case measure=>simp[intOf];omega
    ·go_wp2
     go_round
     case rel=>exact⟨f+1,by omega,by go_num⟩
     case measure=>simp[intOf];omega
  ·go_wp2
   go_ret;exact⟨rfl,rfl⟩
end
def wO{a}{e:Nat}{b}(c:a.length=6)(f:a[e]?=M b)(d):(eT 276 (aG (oI a)) (J E (e:Int))).run aE d=.ok (ao b) d:=by
 have a:e<6:=by have:=(aP.1 f).1;omega
 have b:∀c,(K3 4).run aE c=.ok 1 c:=fun _=>by kernel_rfl
 have c:∀d,(isAgg 4).run aE d=.ok av d:=fun _=>by kernel_rfl
 simp[eT,fI Zf,part,b,c,oI,go_sem,a,f]
def wP{x}{j:Nat}{y}(a:x.length=2)(c:x[j]?=M y)(b):(eT 270 (aG (oI x)) (J E (j:Int))).run aE b=.ok (ao y) b:=by
 have a:j<2:=by have:=(aP.1 c).1;omega
 have b:∀d,(K3 4).run aE d=.ok 1 d:=fun _=>by kernel_rfl
 have d:∀e,(isAgg 4).run aE e=.ok av e:=fun _=>by kernel_rfl
 simp[eT,fI underlying270,part,b,d,oI,go_sem,a,c]
def XX(a)(b:a.length=64)(c):(binOp .eql 277 (aG (aS E a)) (aG #[J E 0,J E 0,J E 0,J E 0,J E 0,J E 0,J E 0,J E 0,J E 0,J E 0,J E 0,J E 0,J E 0,J E 0,J E 0,J E 0,J E 0,J E 0,J E 0,J E 0,J E 0,J E 0,J E 0,J E 0,J E 0,J E 0,J E 0,J E 0,J E 0,J E 0,J E 0,J E 0,J E 0,J E 0,J E 0,J E 0,J E 0,J E 0,J E 0,J E 0,J E 0,J E 0,J E 0,J E 0,J E 0,J E 0,J E 0,J E 0,J E 0,J E 0,J E 0,J E 0,J E 0,J E 0,J E 0,J E 0,J E 0,J E 0,J E 0,J E 0,J E 0,J E 0,J E 0,J E 0])).run aE c=.ok (ao (decide (a=zeros64))) c:=Y1 a zeros64 b rfl c
def FbX(a:Mb):Prop:=∀b,b<6->a.P[b]?=M (!decide (sP 64 a.I b=zeros64))
def Dl(a:Nat)(b:Mb)(c:T)(d:Mx c a b)(e:FbX b):aT aE 230 #[aD (M ⟨a,0,S⟩)] c fun f g=>f=aK (ao aB)/\c=g:=by
 let ⟨f,g⟩:=aQ d e;have h:=d.lt;go_enter func230,ntmps230;go_wp2_with ((refine pf rfl (aI 7) rfl rfl f.o ?_))
 go_loop [9] (NH 6) (fun i=>6-(intOf i).toNat)
 case atStart=>exact⟨0,by omega,rfl⟩
 case round=>
  obtain⟨i,l,rfl⟩:=hrel
  by_cases n:i<6
  ·have o:(sP 64 b.I i).length=64:=sa (iJ f.o.ok.I)
   have p:=fun q=>wO f.o.ok.P (g.o i n) q
   have q:=fun r=>XX (sP 64 b.I i) o r
   generalize decide (sP 64 b.I i=zeros64)=r at*
   have a:(!r==r)=av:=by cases r<;> rfl
   clear o;go_wp2_with ((refine Ei rfl (aI 18) (24+i*64) i O n rfl rfl f.o ?_))
   go_round
   case rel=>exact⟨i+1,by omega,by go_num⟩
   case measure=>simp[intOf];omega
  ·go_wp2
   go_ret;exact⟨rfl,rfl⟩
def YI(a:je)(b:Mb):Prop:=if nF b=aB then(rq a=aB\/b.fd=av)/\-30<=b.delta/\b.delta<=30 else b.fd=av/\b.delta=0
def ve(a:Nat)(b:je)(c:Mb)(d:T)(e:Mx d a c)(f:YI b c):aT aE 227 #[b.v,aD (M ⟨a,0,S⟩)] d (fh d (ao aB)):=by
 have g:=e.lt;obtain⟨h,i,l⟩:=bh (fun n o=>qO a c n o) (fun p=>oM b p) (e.alloc (az #[J E b.ty,J E b.st,ao b.B,ao b.sec] 283));unfold YI at f
 by_cases n:nF c=aB
 ·rw[if_pos n] at f
  rw[n] at h;let ⟨o,p,q⟩:=f;have r:=aH (ou c.delta 30 p q O O);let ⟨s,t,u,v⟩:=b;unfold je.v at*;dsimp only at*;cases hb:rq ⟨s,t,u,v⟩ with
  |true=>
   rw[hb] at i;have s:=aH e.Rx;go_enter func227,Z9;go_wp2_with fail;refine sQ (h.o _ l.o) ?_;go_wp2_with fail;refine mR (i.o _) fun t u=>?_
   have v:=(l.o.ext u).Rx;have w:=(l.o.ext u).lt;go_wp2_with ((refine(r.o _).mono ?_);rintro x y ⟨rfl,rfl⟩);go_ret;exact⟨rfl,(jd).trans (u.mono dS)⟩
  |false=>
   rw[hb] at i;have s:c.fd=av:=by rcases o with t|t<;> first|exact t|(rw[hb] at t;cases t)
   have t:=aH s;clear s;go_enter func227,Z9;go_wp2_with fail;refine sQ (h.o _ l.o) ?_;go_wp2_with fail;refine mR (i.o _) fun s u=>?_
   have v:=(l.o.ext u).Rx;have w:=(l.o.ext u).c4;rw[t.o] at w;have x:=(l.o.ext u).lt;go_wp2_with ((refine(r.o _).mono ?_);rintro y z ⟨rfl,rfl⟩);go_ret;exact⟨rfl,(jd).trans (u.mono dS)⟩
 ·rw[if_neg n] at f
  have o:nF c=av:=by simpa using n
  rw[o] at h;let ⟨p,q⟩:=f;have r:=e.c4;have s:=e.Rx;rw[p] at r;rw[q] at s;let ⟨t,u,v,w⟩:=b;unfold je.v at*;dsimp only at*;clear o;go_enter func227,Z9;go_wp2_with fail;refine sQ (h.o _ l.o) ?_;go_wp2;go_ret;exact⟨rfl,jd⟩
section
structure Rs(m:Mb)(d:Nat)(x0 y0 x1 y1 s0 s1:Int):Prop where
 a:m.v[4*d]?=M x0
 b:m.v[4*d+1]?=M y0
 c:m.v[4*d+2]?=M x1
 e:m.v[4*d+3]?=M y1
 s:m.Z[2*d]?=M s0
 t:m.Z[2*d+1]?=M s1
def Mx.dirs{w g m}(b:Mx w g m){a x0 y0 x1 y1 s0 s1}(c:Rs m a x0 y0 x1 y1 s0 s1):
  w.cell? ⟨g,5+4*a,S⟩=M (J E x0)/\w.cell? ⟨g,5+(4*a+1),S⟩=M (J E y0)/\w.cell? ⟨g,5+(4*a+2),S⟩=M (J E x1)/\w.cell? ⟨g,5+(4*a+3),S⟩=M (J E y1)/\
  w.cell? ⟨g,13+2*a,S⟩=M (J E s0)/\w.cell? ⟨g,13+(2*a+1),S⟩=M (J E s1):=
 ⟨b.j.cell _ (Mb.cV b.ok c.a),b.j.cell _ (Mb.cV b.ok c.b),b.j.cell _ (Mb.cV b.ok c.c),b.j.cell _ (Mb.cV b.ok c.e),b.j.cell _ (Mb.cS b.ok c.s),b.j.cell _ (Mb.cS b.ok c.t)⟩
def S6(g a b:Nat)(x0 y0 x1 y1 s0 s1:Int)(w:T):Prop:=
 (w.cell? ⟨g,a,S⟩=M (J E x0)/\w.cell? ⟨g,a+1,S⟩=M (J E y0)/\w.cell? ⟨g,a+2,S⟩=M (J E x1)/\w.cell? ⟨g,a+3,S⟩=M (J E y1)/\w.cell? ⟨g,b,S⟩=M (J E s0)/\w.cell? ⟨g,b+1,S⟩=M (J E s1))/\g<w.heap.size
def S6.alloc{g a b x0 y0 x1 y1 s0 s1 w}(c:S6 g a b x0 y0 x1 y1 s0 s1 w)(o):S6 g a b x0 y0 x1 y1 s0 s1 (w.alloc o):=by
 let ⟨⟨a,b,d,e,f,h⟩,i⟩:=c;have c:∀l,(w.alloc o).cell? ⟨g,l,S⟩=w.cell? ⟨g,l,S⟩:=fun n=>xn (Below.heap_alloc w o g i)
 exact⟨⟨by rw[c];exact a,by rw[c];exact b,by rw[c];exact d,by rw[c];exact e,by rw[c];exact f,by rw[c];exact h⟩,by simp;omega⟩
def S6.set{g b c x0 y0 x1 y1 s0 s1 w}(d:S6 g b c x0 y0 x1 y1 s0 s1 w){a}(e:g≠a.block)(f):S6 g b c x0 y0 x1 y1 s0 s1 (w.setCell a f):=by
 let ⟨⟨b,c,h,i,l,n⟩,o⟩:=d;have d:∀p,(w.setCell a f).cell? ⟨g,p,S⟩=w.cell? ⟨g,p,S⟩:=fun q=>xn (eF w a f g e)
 exact⟨⟨by rw[d];exact b,by rw[d];exact c,by rw[d];exact h,by rw[d];exact i,by rw[d];exact l,by rw[d];exact n⟩,by simpa[gS] using o⟩
def XZ(w):(binOp .eql 273 (aG #[J E 0,J E 0,J E 0,J E 0]) (aG #[J E 0,J E 0,J E 0,J E 0])).run aE w=.ok (ao aB) w:=dK
def Y3(w):(binOp .eql 217 (aG #[J E 0,J E 0]) (aG #[J E 0,J E 0])).run aE w=.ok (ao aB) w:=dK
def WX(w):(binOp .neq 272 (aG #[J E 0,J E 0]) (aG #[J E 0,J E 0])).run aE w=.ok (ao av) w:=dK
def YE(w:T)(g:Nat)(m:Mb)(ty st:Int)(il sec:Bool)(x0 y0 x1 y1 s0 s1:Int)(a b:aq)(c:T):Prop:=
 ∃d e,a=aD (M ⟨d,0,S⟩)/\b=aD (M ⟨e,0,S⟩)/\Mx c g m/\Bx c w.heap.size 283 #[J E ty,J E st,ao il,ao sec]/\
  Bx c d 273 #[J E x0,J E y0,J E x1,J E y1]/\Bx c e 217 #[J E s0,J E s1]/\bj w.heap.size w c
section
variable {w:T} {g:Nat} {m:Mb} {ty st:Int} {il sec:Bool} {x0 y0 x1 y1 s0 s1:Int}
def YE.ab(a:Mx w g m):YE w g m ty st il sec x0 y0 x1 y1 s0 s1 (aD (M ⟨w.heap.size+1,0,S⟩)) (aD (M ⟨w.heap.size+1+1,0,S⟩))
  ((((w.alloc (az #[J E ty,J E st,ao il,ao sec] 283)).alloc (az #[J E x0,J E y0,J E x1,J E y1] 273)).alloc (az #[J E s0,J E s1] 217)).drew):=
 ⟨_,_,rfl,rfl,⟨(((a.j.alloc _).alloc _).alloc _).drew,a.ok⟩,(((Bx.new _ _ _).alloc _).alloc _).drew,((Bx.D _ _ _ _ dS).alloc _).drew,(Bx.D _ _ _ _ dS).drew,(((jd).alloc dS _).alloc eB _).drew⟩
def YE.ba(a:Mx w g m):YE w g m ty st il sec x0 y0 x1 y1 s0 s1 (aD (M ⟨w.heap.size+1+1,0,S⟩)) (aD (M ⟨w.heap.size+1,0,S⟩))
  ((((w.alloc (az #[J E ty,J E st,ao il,ao sec] 283)).alloc (az #[J E s0,J E s1] 217)).alloc (az #[J E x0,J E y0,J E x1,J E y1] 273)).drew):=
 ⟨_,_,rfl,rfl,⟨(((a.j.alloc _).alloc _).alloc _).drew,a.ok⟩,(((Bx.new _ _ _).alloc _).alloc _).drew,(Bx.D _ _ _ _ dS).drew,((Bx.D _ _ _ _ dS).alloc _).drew,(((jd).alloc dS _).alloc eB _).drew⟩
end
def MdL(w:T)(a b:Nat)(x0 y0 x1 y1 s0 s1:Int)(c:T):Prop:=
 Bx c a 273 #[J E x0,J E y0,J E x1,J E y1]/\Bx c b 217 #[J E s0,J E s1]/\bj w.heap.size w c
structure Aez(a:je)(m:Mb)(x0 y0 x1 y1 s0 s1:Int):Prop where
 one:m.fp=av->x1=0/\y1=0/\s1=0
 Z:m.fp=av->im a=av->s0=0
 r:(-63<=x0/\x0<=63)/\(-63<=y0/\y0<=63)/\(-63<=x1/\x1<=63)/\(-63<=y1/\y1<=63)
 s:(s0=0\/s0=1)/\(s1=0\/s1=1)
def Hx(g b:Nat)(a:b=0\/b=1)(i:Bool)(c:je)(m:Mb)(w:T)(x0 y0 x1 y1 s0 s1:Int)(d:Mx w g m)(e:Rs m b x0 y0 x1 y1 s0 s1)(f:Aez c m x0 y0 x1 y1 s0 s1)(h:i=av->x0=0/\y0=0/\x1=0/\y1=0/\s0=0/\s1=0):
  aT aE 268 #[c.v,aD (M ⟨g,0,S⟩),J E b,ao i] w (fh w (ao aB)):=by
 have l:=d.lt;have n:S6 g (5+4*b) (13+2*b) x0 y0 x1 y1 s0 s1 w:=⟨d.dirs e,l⟩;obtain⟨o,p,q,r⟩:=dq d h (fun w s=>F8 g c m w s) pB;let ⟨ty,st,il,sec⟩:=c;unfold je.v at*;dsimp only at*;let ⟨s,t⟩:=aX (m.fp||im ⟨ty,st,il,sec⟩);have u:=aH (show s=av->s0=0 from fun v=>by rw[t,Bool.or_eq_false_iff] at v;exact f.Z v.1 v.2);rw[<-t] at q;have v:=aH f.one;have x:=aH f.s;have y:=aH f.r;clear t;go_enter func268,ntmps268;go_upto_region 1 with fail;go_cut [9,10] (fun t z H=>YE w g m ty st il sec x0 y0 x1 y1 s0 s1 t z H)
 case first=>
  rename_i t z H U;rcases a with rfl|rfl
  ·skip
   simp only[Pr,Mn,Ck,oD,Ka,Pq] at n;have a:=aH (n.alloc (az #[J E ty,J E st,ao il,ao sec] 283))
   go_region_held3 (fun V=>(V.cell? ⟨g,5,S⟩=M (J E x0)/\V.cell? ⟨g,5+1,S⟩=M (J E y0)/\V.cell? ⟨g,5+2,S⟩=M (J E x1)/\V.cell? ⟨g,5+3,S⟩=M (J E y1)/\V.cell? ⟨g,13,S⟩=M (J E s0)/\V.cell? ⟨g,13+1,S⟩=M (J E s1))/\g<V.heap.size) (first|exact a.o|exact a.o.alloc _|exact(a.o.alloc _).alloc _) (fail)
   ·refine U _ _ (H _ _ ?_)
    (repeat apply vG)
    refine⟨?_,rfl⟩;exact YE.ab o.o
   ·refine U _ _ (H _ _ ?_)
    (repeat apply vG)
    refine⟨?_,rfl⟩;exact YE.ba o.o
  ·skip
   simp only[Pr,Mn,Ck,oD,Ka,Pq] at n;have a:=aH (n.alloc (az #[J E ty,J E st,ao il,ao sec] 283))
   go_region_held3 (fun V=>(V.cell? ⟨g,9,S⟩=M (J E x0)/\V.cell? ⟨g,9+1,S⟩=M (J E y0)/\V.cell? ⟨g,9+2,S⟩=M (J E x1)/\V.cell? ⟨g,9+3,S⟩=M (J E y1)/\V.cell? ⟨g,15,S⟩=M (J E s0)/\V.cell? ⟨g,15+1,S⟩=M (J E s1))/\g<V.heap.size) (first|exact a.o|exact a.o.alloc _|exact(a.o.alloc _).alloc _) (fail)
   ·refine U _ _ (H _ _ ?_)
    (repeat apply vG)
    refine⟨?_,rfl⟩;exact YE.ab o.o
   ·refine U _ _ (H _ _ ?_)
    (repeat apply vG)
    refine⟨?_,rfl⟩;exact YE.ba o.o
 case rest=>
 obtain⟨a,t,rfl,rfl,z,H,U,V,W⟩:=hcut;let ⟨Y,a0⟩:=aQ z W;have a1:=z.c3;have a2:=z.lt;have a3:=U.cell 0 rfl;have a4:=U.cell 1 rfl;have a5:=U.cell 2 rfl;have a6:=U.cell 3 rfl;have a7:=V.cell 0 rfl;have a8:=V.cell 1 rfl;have a9:=U.lt;have aa:=V.lt;let ⟨ab,ac,ad⟩:=bh U V H;cases i with
 |false=>
  obtain⟨rfl,rfl,rfl,rfl,rfl,rfl⟩:=p.o rfl;have p:=XZ;have ae:=Y3;go_wp2;go_ret;exact⟨rfl,a0.o⟩
 |true=>
 let ⟨p,ae⟩:=aX m.fp;rw[<-ae] at a1;have ag:=aH ae;clear ae;go_upto_region 4 with fail;go_cut [49] (fun ae ah=>ae=ao av/\ah=wc)
 case first=>
  cases p with
  |true=>
   go_wp2;go_meet;exact⟨rfl,rfl⟩
  |false=>
   obtain⟨rfl,rfl,rfl⟩:=v.o ag.o.symm;have p:=WX;go_wp2;go_meet;exact⟨rfl,rfl⟩
 case rest=>
 obtain⟨rfl,rfl⟩:=hcut;have p:=ad.o.cell 0 rfl;have v:=ad.o.cell 1 rfl;have ae:=ad.o.cell 2 rfl;have ah:=ad.o.cell 3 rfl;go_upto_region 6 with fail;go_cut [58] (fun ai aj=>ai=ao av/\MdL w a t x0 y0 x1 y1 s0 s1 aj)
 case first=>
  go_wp2_with fail;refine mR (q.o _ Y.o) fun ai aj=>?_
  have al:=aH (show MdL w a t x0 y0 x1 y1 s0 s1 ai from⟨ab.o.ext aj,ac.o.ext aj,a0.o.trans (aj.mono a0.o.size)⟩);have am:=(ac.o.ext aj).cell 0 rfl;cases s with
  |true=>
   go_wp2;go_meet;exact⟨rfl,al.o⟩
  |false=>
   obtain rfl:=u.o rfl;go_wp2;go_meet;exact⟨rfl,al.o⟩
 case rest=>
 obtain⟨rfl,s,u,ai⟩:=hcut;let ⟨aj,al,am⟩:=bh s u ai;go_wp2
 go_loopw [59] (fun ap wr=>mD 2 (fun _ wr=>MdL w a t x0 y0 x1 y1 s0 s1 wr) ap wr) (fun ar _=>2-(intOf ar).toNat)
 case atStart=>exact⟨0,by omega,rfl,aj.o,al.o,am.o⟩
 case round=>
  obtain⟨ap,ar,rfl,ax,ay,aV⟩:=hrel;let ⟨b0,b1,b2⟩:=bh ax ay aV;have b3:=ax.cell 0 rfl;have b4:=ax.cell 1 rfl;have b5:=ax.cell 2 rfl;have b6:=ax.cell 3 rfl;have b7:=ay.cell 0 rfl;have b8:=ay.cell 1 rfl;rcases(show ap=0\/ap=1\/ap=2 by omega) with rfl|rfl|rfl
  ·have b9:=x.o.1
   go_wp2_with fail;refine mR (r.o x0 y0 y.o.1 y.o.2.1 _) fun ba bb=>?_
   have bc:=(b1.o.ext bb).cell 0 rfl;rcases b9 with bd|bd
   all_goals
    rw[bd] at bc;go_wp2;exact⟨⟨1,by omega,rfl,b0.o.ext bb,b1.o.ext bb,b2.o.trans (bb.mono b2.o.size)⟩,by decide⟩
  ·have b9:=x.o.2
   go_wp2_with fail;refine mR (r.o x1 y1 y.o.2.2.1 y.o.2.2.2 _) fun ba bb=>?_
   have bc:=(b1.o.ext bb).cell 1 rfl;rcases b9 with bd|bd
   all_goals
    rw[bd] at bc;go_wp2;exact⟨⟨2,by omega,rfl,b0.o.ext bb,b1.o.ext bb,b2.o.trans (bb.mono b2.o.size)⟩,by decide⟩
  ·go_wp2
   go_ret;exact⟨rfl,b2.o⟩
end
def T1(b c d e a):(binOp .neq 270 (aG #[ao b,ao c]) (aG #[ao d,ao e])).run aE a=.ok (ao (!(b==d&&c==e))) a:=by
 cases b<;> cases c<;> cases d<;> cases e<;> kernel_rfl
def Np(b c d e a):(binOp .eql 270 (aG #[ao b,ao c]) (aG #[ao d,ao e])).run aE a=.ok (ao (b==d&&c==e)) a:=by
 cases b<;> cases c<;> cases d<;> cases e<;> kernel_rfl
def AZ(a:je)(b:Mb)(c:Nat)(d:Bool):Prop:=if d=aB then∃e f g h i l,Rs b c e f g h i l/\Aez a b e f g h i l else Rs b c 0 0 0 0 0 0
structure ZE(b:je)(c:Mb)(a d:Bool):Prop where
 u:c.u=[a,d]
 f:b.ty=2->a=aB/\d=av
 s:(a||d)=aB
 fp:c.fp=aB->rq b=aB
 d0:AZ b c 0 a
 d1:AZ b c 1 d
def Td(b c)(d:c=0\/c=1)(a e f g)(h:Mx g b f)(i:AZ e f c a):
  aT aE 268 #[e.v,aD (M ⟨b,0,S⟩),J E c,ao a] g (fh g (ao aB)):=by
 unfold AZ at i;cases a with
 |true=>
  rw[if_pos rfl] at i;obtain⟨a,l,n,o,p,q,r,s⟩:=i;exact Hx b c d aB e f g a l n o p q h r s (fun t=>by cases t)
 |false=>
  rw[if_neg (by simp)] at i;exact Hx b c d av e f g 0 0 0 0 0 0 h i ⟨fun _=>⟨rfl,rfl,rfl⟩,fun _ _=>rfl,by decide,by decide⟩ (fun _=>⟨rfl,rfl,rfl,rfl,rfl,rfl⟩)
def MfP(a:T)(b c:Nat)(d:Mb)(e f:Int)(g h:Bool)(i:T):Prop:=Mx i b d/\Bx i c 283 #[J E e,J E f,ao g,ao h]/\bj a.heap.size a i
def yh(d:Nat)(a:je)(e:Mb)(f g:Bool)(h:T)(b:Mx h d e)(c:ZE a e f g):
  aT aE 229 #[a.v,aD (M ⟨d,0,S⟩)] h (fh h (ao aB)):=by
 have i:=b.j.cell 1 (Mb.cU b.ok (d:=0) (b:=f) (oz c.u));have l:=b.j.cell 2 (Mb.cU b.ok (d:=1) (b:=g) (oz c.u));have n:=b.c3;have o:=b.lt;obtain⟨p,q,r,s⟩:=dq (fun t=>oM a t) (fun u v=>Td d 0 (.inl rfl) f a e u v c.d0) (fun w x=>Td d 1 (.inr rfl) g a e w x c.d1) b;obtain⟨t,u,v,w⟩:=a;unfold je.v at*;dsimp only at*;have a:=c.f;have x:=c.s;dsimp only at a;obtain⟨y,z⟩:=aX (rq ⟨t,u,v,w⟩);have H:=c.fp;rw[<-z] at p H;obtain⟨U,V⟩:=aX e.fp;rw[<-V] at n H;have W:=aH (show e.u[0]?=M f/\e.u[1]?=M g by rw[c.u];exact⟨rfl,rfl⟩);have Y:∀a0,(eT 270 (aG #[ao f,ao g]) (J E 0)).run aE a0=.ok (ao f) a0:=fun a1=>wP (x:=[f,g]) (j:=0) (y:=f) rfl rfl a1
 have a0:∀a1,(eT 270 (aG #[ao f,ao g]) (J E 1)).run aE a1=.ok (ao g) a1:=fun a2=>wP (x:=[f,g]) (j:=1) (y:=g) rfl rfl a2
 have a1:∀a2,(binOp .eql 270 (aG #[ao f,ao g]) (aG #[ao av,ao av])).run aE a2=.ok (ao av) a2:=fun a3=>by
  rw[Np];cases f<;> cases g<;> first|rfl|(simp at x)
 have a2:=aH (show MfP h d h.heap.size e t u v w (h.alloc (az #[J E t,J E u,ao v,ao w] 283)) from⟨b.alloc _,Bx.new _ _ _,(aM _ _).alloc (aw _) _⟩);clear b c z V
 have b:∀(c:Bool),((t==2)=c)->(c=aB->f=aB/\g=av)->
   aT aE 229 #[aG #[J E t,J E u,ao v,ao w],aD (M ⟨d,0,S⟩)] h (fh h (ao aB)):=by
  intro z V a3;have a4:=aH a3;clear a3 a;cases U with
  |false=>
   clear H;cases z with
   |true=>
    obtain⟨rfl,rfl⟩:=a4.o rfl;have U:=T1 aB av aB av;clear x a4;go_enter RW,NW
    skip
    go_wp2
    go_loopw [39] (fun a3 wr=>mD 2 (fun _ wr=>MfP h d h.heap.size e t u v w wr) a3 wr) (fun a5 _=>2-(intOf a5).toNat)
    case atStart=>exact⟨0,by omega,rfl,a2.o⟩
    case round=>
     obtain⟨a3,a5,rfl,a6,a7,a8⟩:=hrel;obtain⟨a9,aa,ab⟩:=bh a6 a7 a8;have ac:=a7.cell 0 rfl;have ad:=a7.cell 1 rfl;have ae:=a7.cell 2 rfl;have ag:=a7.cell 3 rfl;clear a6 a7 a8;rcases(show a3=0\/a3=1\/a3=2 by omega) with rfl|rfl|rfl
     ·go_wp2_with fail
      refine(q.o _ a9.o).mono ?_;rintro a6 a7 ⟨rfl,a8⟩;go_wp2;exact⟨⟨1,by omega,rfl,a9.o.ext a8,aa.o.ext a8,ab.o.trans (a8.mono ab.o.size)⟩,by decide⟩
     ·go_wp2_with fail
      refine(r.o _ a9.o).mono ?_;rintro a6 a7 ⟨rfl,a8⟩;go_wp2;exact⟨⟨2,by omega,rfl,a9.o.ext a8,aa.o.ext a8,ab.o.trans (a8.mono ab.o.size)⟩,by decide⟩
     ·go_wp2
      go_ret;exact⟨rfl,ab.o⟩
   |false=>
    clear x a4;go_enter RW,NW
    skip
    go_wp2
    go_loopw [39] (fun U wr=>mD 2 (fun _ wr=>MfP h d h.heap.size e t u v w wr) U wr) (fun a3 _=>2-(intOf a3).toNat)
    case atStart=>exact⟨0,by omega,rfl,a2.o⟩
    case round=>
     obtain⟨U,a3,rfl,a5,a6,a7⟩:=hrel;obtain⟨a8,a9,aa⟩:=bh a5 a6 a7;have ab:=a6.cell 0 rfl;have ac:=a6.cell 1 rfl;have ad:=a6.cell 2 rfl;have ae:=a6.cell 3 rfl;clear a5 a6 a7;rcases(show U=0\/U=1\/U=2 by omega) with rfl|rfl|rfl
     ·go_wp2_with fail
      refine(q.o _ a8.o).mono ?_;rintro a5 a6 ⟨rfl,a7⟩;go_wp2;exact⟨⟨1,by omega,rfl,a8.o.ext a7,a9.o.ext a7,aa.o.trans (a7.mono aa.o.size)⟩,by decide⟩
     ·go_wp2_with fail
      refine(r.o _ a8.o).mono ?_;rintro a5 a6 ⟨rfl,a7⟩;go_wp2;exact⟨⟨2,by omega,rfl,a8.o.ext a7,a9.o.ext a7,aa.o.trans (a7.mono aa.o.size)⟩,by decide⟩
     ·go_wp2
      go_ret;exact⟨rfl,aa.o⟩
  |true=>
   obtain rfl:=H rfl;clear H;cases z with
   |true=>
    obtain⟨rfl,rfl⟩:=a4.o rfl;have z:=T1 aB av aB av;clear x a4;go_enter RW,NW;go_wp2_with fail;refine(p.o _).mono ?_;rintro H U ⟨rfl,a3⟩;have a5:=aH (show MfP h d h.heap.size e t u v w U from⟨a2.o.1.ext a3,a2.o.2.1.ext a3,a2.o.2.2.trans (a3.mono a2.o.2.2.size)⟩);have a6:=a5.o.1.j.cell 1 (Mb.cU a5.o.1.ok (d:=0) W.o.1);have a7:=a5.o.1.j.cell 2 (Mb.cU a5.o.1.ok (d:=1) W.o.2);clear a3
    skip
    go_wp2
    go_loopw [39] (fun a3 wr=>mD 2 (fun _ wr=>MfP h d h.heap.size e t u v w wr) a3 wr) (fun a8 _=>2-(intOf a8).toNat)
    case atStart=>exact⟨0,by omega,rfl,a5.o⟩
    case round=>
     obtain⟨a3,a8,rfl,a9,aa,ab⟩:=hrel;obtain⟨ac,ad,ae⟩:=bh a9 aa ab;have ag:=aa.cell 0 rfl;have ah:=aa.cell 1 rfl;have ai:=aa.cell 2 rfl;have aj:=aa.cell 3 rfl;clear a9 aa ab;rcases(show a3=0\/a3=1\/a3=2 by omega) with rfl|rfl|rfl
     ·go_wp2_with fail
      refine(q.o _ ac.o).mono ?_;rintro a9 aa ⟨rfl,ab⟩;go_wp2;exact⟨⟨1,by omega,rfl,ac.o.ext ab,ad.o.ext ab,ae.o.trans (ab.mono ae.o.size)⟩,by decide⟩
     ·go_wp2_with fail
      refine(r.o _ ac.o).mono ?_;rintro a9 aa ⟨rfl,ab⟩;go_wp2;exact⟨⟨2,by omega,rfl,ac.o.ext ab,ad.o.ext ab,ae.o.trans (ab.mono ae.o.size)⟩,by decide⟩
     ·go_wp2
      go_ret;exact⟨rfl,ae.o⟩
   |false=>
    clear x a4;go_enter RW,NW;go_wp2_with fail;refine(p.o _).mono ?_;rintro x z ⟨rfl,H⟩;have U:=aH (show MfP h d h.heap.size e t u v w z from⟨a2.o.1.ext H,a2.o.2.1.ext H,a2.o.2.2.trans (H.mono a2.o.2.2.size)⟩);have a3:=U.o.1.j.cell 1 (Mb.cU U.o.1.ok (d:=0) W.o.1);have a4:=U.o.1.j.cell 2 (Mb.cU U.o.1.ok (d:=1) W.o.2);clear H
    skip
    go_wp2
    go_loopw [39] (fun H wr=>mD 2 (fun _ wr=>MfP h d h.heap.size e t u v w wr) H wr) (fun a5 _=>2-(intOf a5).toNat)
    case atStart=>exact⟨0,by omega,rfl,U.o⟩
    case round=>
     obtain⟨H,a5,rfl,a6,a7,a8⟩:=hrel;obtain⟨a9,aa,ab⟩:=bh a6 a7 a8;have ac:=a7.cell 0 rfl;have ad:=a7.cell 1 rfl;have ae:=a7.cell 2 rfl;have ag:=a7.cell 3 rfl;clear a6 a7 a8;rcases(show H=0\/H=1\/H=2 by omega) with rfl|rfl|rfl
     ·go_wp2_with fail
      refine(q.o _ a9.o).mono ?_;rintro a6 a7 ⟨rfl,a8⟩;go_wp2;exact⟨⟨1,by omega,rfl,a9.o.ext a8,aa.o.ext a8,ab.o.trans (a8.mono ab.o.size)⟩,by decide⟩
     ·go_wp2_with fail
      refine(r.o _ a9.o).mono ?_;rintro a6 a7 ⟨rfl,a8⟩;go_wp2;exact⟨⟨2,by omega,rfl,a9.o.ext a8,aa.o.ext a8,ab.o.trans (a8.mono ab.o.size)⟩,by decide⟩
     ·go_wp2
      go_ret;exact⟨rfl,ab.o⟩
 exact b _ rfl (fun x=>a (jP x))
section
def iA:Mb:=⟨0,[av,av],av,av,aF 8 0,aF 4 0,0,aF 6 av,aF 384 0⟩
theorem fG:iA.A:=⟨rfl,rfl,rfl,rfl,List.length_replicate⟩
def true6:List Bool:=aF 6 aB
structure UY(a:je)(b:Mb):Prop where
 kind:b.kind=1
 u:b.u=[av,av]
 fp:b.fp=av
 v:b.v=aF 8 0
 Z:b.Z=aF 4 0
 P:b.P=true6
 ch:YI a b
 I:E6 b
structure UZ(a:je)(b:Mb):Prop where
 kind:b.kind=2
 ty:a.ty≠1
 pr:∃c d,ZE a b c d
 ch:YI a b
 fb:FbX b
 I:E6 b
def FT(a:je)(b:Mb):Prop:=(b=iA/\a.ty≠1)\/UY a b\/UZ a b
section
variable {ops:Array cQ} {rest:List cQ} {o:cQ} {a:Act} {w:T} {Q:Exit->Act->T->Prop} (hgd:bP o (xZ ops a.tmps)=true)
include hgd
theorem Mw(b:o.op=.build 280 #[])(c:cG aE ops Q rest (a.put o.dst (aG iA.cells)) w):cG aE ops Q (o::rest) a w:=
 eI hgd fun _ d=>by
  have e:(fk 280 #[]).run aE w=.ok (aG iA.cells) w:=dK;unfold Bg VI;simp only[b];simp only[List.map_toArray,List.map_nil];have b:=e
  first
   |(rw[e];exact d _ _ c)
   |(simp only[fT,iT,dv,e];exact d _ _ c)
end
theorem Y4(w:T):(binOp .eql 280 (aG iA.cells) (aG iA.cells)).run aE w=.ok (ao aB) w:=dK
theorem XY(w):(binOp .eql 274 (aG (aS E (aF 8 0))) (aG #[J E 0,J E 0,J E 0,J E 0,J E 0,J E 0,J E 0,J E 0])).run aE w=.ok (ao aB) w:=dK
theorem Y0(w):(binOp .eql 275 (aG (aS E (aF 4 0))) (aG #[J E 0,J E 0,J E 0,J E 0])).run aE w=.ok (ao aB) w:=dK
theorem Abh(w):(binOp .eql 276 (aG (oI true6)) (aG (oI true6))).run aE w=.ok (ao aB) w:=dK
theorem Az(w):aT aE 226 #[] w (fh w (aG (oI true6))):=by
 go_enter func226,ntmps226;go_wp2;have a:Bx (w.alloc (az (oI true6) 276)) w.heap.size 276 (oI true6):=Bx.new _ _ _;exact dY (v:=aG (oI true6)) (Ke results226 _ _ w.heap.size 276 _ (0,0) _ rfl a Zf rfl FO) rfl ⟨rfl,(aM _ _).alloc (aw _) _⟩
end
def Nb(a:je)(b:a.A)(c:a.ty≠1)(d:T):aT aE 200 #[a.v,aG iA.cells] d (fh d (ao aB)):=by
 have e:=aH (fun f=>jm a b f);obtain⟨f,g,h,i⟩:=a;unfold je.v at*;dsimp only at*;have a:(f==1)=av:=by simpa using c
 obtain⟨a,l⟩:=aX ((d.alloc (az #[J E f,J E g,ao h,ao i] 283)).alloc (az iA.cells 280));have n:Mx a (d.heap.size+1) iA:=by rw[l];exact Mx.new _ _ fG _ dS
 have o:Bx a d.heap.size 283 #[J E f,J E g,ao h,ao i]:=by rw[l];exact(Bx.new _ _ _).alloc _
 have f:bj d.heap.size d a:=by rw[l];exact((aM _ _).alloc (aw _) _).alloc dS _
 obtain⟨a,g,h⟩:=bh n o f;have i:=Y4;clear n o f b c;go_enter func200,ntmps200;go_upto_region 1 with fail;rw[<-l];clear l;have b:=g.o.cell 0 rfl;have c:=g.o.cell 1 rfl;have f:=g.o.cell 2 rfl;have i:=g.o.cell 3 rfl;go_wp2_with fail;refine(e.o _).mono ?_;rintro e l ⟨rfl,n⟩;have e:=mX n a;have a:=g.o.ext n;have g:=aH (h.o.trans (n.mono h.o.size));clear b c f i;have b:=a.cell 0 rfl;have b:l.cell? ⟨d.heap.size+1,0,S⟩=M (J E 0):=e.o.c0;clear a n;go_wp2_with (first|((with_reducible refine fM rfl (aI 3) rfl rfl e.o ?_))|((with_reducible refine Mw rfl rfl ?_)));go_ret;exact⟨rfl,g.o⟩
def N9(b:je)(e:b.A)(c:Mb)(f:c.A)(a:UZ b c)(d:T):aT aE 200 #[b.v,aG c.cells] d (fh d (ao aB)):=by
 obtain⟨g,h⟩:=aQ (fun i=>jm b e i) f;have i:=aH a.kind;obtain⟨l,n,o⟩:=a.pr;obtain⟨p,q,r,s⟩:=dq (fun(t:T)(u:Nat)(v:Mx t u c)=>yh u b c l n t v o) (fun(w:T)(x:Nat)(y:Mx w x c)=>ve x b c w y a.ch) (fun(z:T)(H:Nat)(U:Mx z H c)=>Dl H c z U a.fb) (fun(V:T)(W:Nat)(Y:Mx V W c)=>tL W c V Y a.I);have t:=a.ty;clear a o;obtain⟨a,o,u,v⟩:=b;unfold je.v at*;dsimp only at*;have b:(a==1)=av:=by simpa using t
 obtain⟨b,h⟩:=aX ((d.alloc (az #[J E a,J E o,ao u,ao v] 283)).alloc (az c.cells 280));have l:Mx b (d.heap.size+1) c:=by rw[h];exact Mx.new _ _ f _ dS
 have c:Bx b d.heap.size 283 #[J E a,J E o,ao u,ao v]:=by rw[h];exact(Bx.new _ _ _).alloc _
 have a:bj d.heap.size d b:=by rw[h];exact((aM _ _).alloc (aw _) _).alloc dS _
 obtain⟨b,d,n⟩:=bh l c a;clear l c a e f t;go_enter func200,ntmps200;go_upto_region 1 with fail;rw[<-h];clear h;have a:=d.o.cell 0 rfl;have c:=d.o.cell 1 rfl;have e:=d.o.cell 2 rfl;have f:=d.o.cell 3 rfl;go_wp2_with fail;refine(g.o _).mono ?_;rintro g h ⟨rfl,l⟩;obtain⟨g,h⟩:=di l b d;have b:=aH (n.o.trans (l.mono n.o.size));clear a c e f;have a:=h.o.cell 0 rfl;have c:=h.o.cell 1 rfl;have d:=h.o.cell 2 rfl;have e:=h.o.cell 3 rfl;have f:=g.o.c0;rw[i.o] at f;clear l;go_wp2_with fail;refine(p.o _ _ g.o).mono ?_;rintro i l ⟨rfl,n⟩;have i:=mX n g;have g:=h.o.ext n;have h:=aH (b.o.trans (n.mono b.o.size));clear a c d e n f;have a:=g.cell 0 rfl;have b:=g.cell 1 rfl;have c:=g.cell 2 rfl;have d:=g.cell 3 rfl;clear g;go_wp2_with fail;refine(q.o _ _ i.o).mono ?_;rintro e f ⟨rfl,g⟩;have e:=mX g i;have f:=aH (h.o.trans (g.mono h.o.size));clear a b c d g;go_wp2_with fail;refine(r.o _ _ e.o).mono ?_;rintro a b ⟨rfl,rfl⟩;go_wp2_with fail;refine(s.o _ _ e.o).mono ?_;rintro a b ⟨rfl,rfl⟩;go_wp2;go_ret;exact⟨rfl,f.o⟩
def Mx.cd6{b c a}(d:Mx b c a)(e:a.P=true6):
  b.cell? ⟨c,18,S⟩=M (ao aB)/\b.cell? ⟨c,19,S⟩=M (ao aB)/\b.cell? ⟨c,20,S⟩=M (ao aB)/\b.cell? ⟨c,21,S⟩=M (ao aB)/\b.cell? ⟨c,22,S⟩=M (ao aB)/\b.cell? ⟨c,23,S⟩=M (ao aB):=by
 have a:=fun b (c:b<6)=>d.j.cell _ (Mb.cC d.ok (d:=b) (b:=true) (by rw[e];unfold true6;rw[List.getElem?_replicate,if_pos c]))
 exact⟨a 0 O,a 1 O,a 2 O,a 3 O,a 4 O,a 5 O⟩
def mjS{c a d b e f g h}(i:Mx c a b)(l:b.P=true6)(n:Bx c d 283 #[J E e,J E f,ao g,ao h]):
  (c.cell? ⟨a,18,S⟩=M (ao aB)/\c.cell? ⟨a,19,S⟩=M (ao aB)/\c.cell? ⟨a,20,S⟩=M (ao aB)/\c.cell? ⟨a,21,S⟩=M (ao aB)/\c.cell? ⟨a,22,S⟩=M (ao aB)/\c.cell? ⟨a,23,S⟩=M (ao aB))/\
  (c.cell? ⟨d,0,S⟩=M (J E e)/\c.cell? ⟨d,1,S⟩=M (J E f)/\c.cell? ⟨d,2,S⟩=M (ao g)/\c.cell? ⟨d,3,S⟩=M (ao h)):=
 ⟨i.cd6 l,n.cell 0 rfl,n.cell 1 rfl,n.cell 2 rfl,n.cell 3 rfl⟩
def Mx.drew{a b c}(d:Mx a b c):Mx a.drew b c:=⟨d.j.drew,d.ok⟩
def Na(b:je)(d:b.A)(c:Mb)(e:c.A)(a:UY b c)(f:T):aT aE 200 #[b.v,aG c.cells] f (fh f (ao aB)):=by
 obtain⟨C0,g⟩:=aQ (fun h=>jm b d h) e;have HK:=aH a.kind;obtain⟨C2,C4,C5⟩:=bh (fun(h:T)(i:Nat)(l:Mx h i c)=>ve i b c h l a.ch) (fun(n:T)(o:Nat)(p:Mx n o c)=>tL o c n p a.I) Az;have heU:∀h,(binOp .eql 270 (aG (oI c.u)) (aG #[ao av,ao av])).run aE h=.ok (ao aB) h:=fun i=>by rw[a.u];exact Np av av av av i
 have heV:=fun h=>XY h
 have heS:=fun h=>Y0 h
 rw[<-a.v] at heV;rw[<-a.Z] at heS;have h:∀i,(binOp .eql 276 (aG #[ao aB,ao aB,ao aB,ao aB,ao aB,ao aB]) (aG (oI true6))).run aE i=.ok (ao aB) i:=fun l=>Abh l
 have i:=a.P;have l:=a.fp;obtain⟨HCD,HFP⟩:=aQ i l;clear a i l;obtain⟨ty,st,il,sec⟩:=b;unfold je.v at*;dsimp only at*;obtain⟨a,b⟩:=aX ((f.alloc (az #[J E ty,J E st,ao il,ao sec] 283)).alloc (az c.cells 280));have g:Mx a (f.heap.size+1) c:=by rw[b];exact Mx.new _ _ e _ dS
 have c:Bx a f.heap.size 283 #[J E ty,J E st,ao il,ao sec]:=by rw[b];exact(Bx.new _ _ _).alloc _
 have h:bj f.heap.size f a:=by rw[b];exact((aM _ _).alloc (aw _) _).alloc dS _
 obtain⟨a,i,l⟩:=bh g c h;clear g c h d e;go_enter func200,ntmps200;go_upto_region 1 with fail;rw[<-b];clear b;have b:=i.o.cell 0 rfl;have c:=i.o.cell 1 rfl;have d:=i.o.cell 2 rfl;have e:=i.o.cell 3 rfl;go_wp2_with fail;refine(C0.o _).mono ?_;rintro g h ⟨rfl,n⟩;obtain⟨g,h⟩:=di n a i;have a:=aH (l.o.trans (n.mono l.o.size));clear b c d e;have b:=h.o.cell 0 rfl;have c:=h.o.cell 1 rfl;have d:=h.o.cell 2 rfl;have e:=h.o.cell 3 rfl;have i:=g.o.c0;rw[HK.o] at i;clear n;have l:=g.o.c3;rw[HFP.o] at l;go_upto_region 8 with(first|((with_reducible refine yS dW (aI 28) rfl rfl g.o ?_))|((with_reducible refine Mt dW (aI 38) rfl rfl g.o ?_))|((with_reducible refine Mu dW (aI 44) rfl rfl g.o ?_)));clear b c d e i l heU heV heS;obtain⟨b,c⟩:=aX (f.heap.size+1);obtain⟨d,e⟩:=aX f.heap.size;rw[<-c] at g;rw[<-e] at h;rw[<-c,<-e];clear c e;have c:=aH (g.o.drew);have e:=aH (h.o.drew)
 go_region_held3 (fun g=>(g.cell? ⟨b,18,S⟩=M (ao aB)/\g.cell? ⟨b,19,S⟩=M (ao aB)/\g.cell? ⟨b,20,S⟩=M (ao aB)/\g.cell? ⟨b,21,S⟩=M (ao aB)/\g.cell? ⟨b,22,S⟩=M (ao aB)/\g.cell? ⟨b,23,S⟩=M (ao aB))/\(g.cell? ⟨d,0,S⟩=M (J E ty)/\g.cell? ⟨d,1,S⟩=M (J E st)/\g.cell? ⟨d,2,S⟩=M (ao il)/\g.cell? ⟨d,3,S⟩=M (ao sec))) (first|exact mjS c.o HCD.o e.o|exact mjS (c.o.ext hbA) HCD.o (e.o.ext hbA)|exact mjS ((c.o.ext hbA).ext hbB) HCD.o ((e.o.ext hbA).ext hbB)) (first|(go_at_call 226;refine(C5.o _).mono ?_;rintro h W2 ⟨rfl,hbA⟩)|(go_at_call 227;refine(C2.o _ _ (c.o.ext hbA)).mono ?_;rintro i l ⟨rfl,hbB⟩)|(go_at_call 228;refine(C4.o _ _ ((c.o.ext hbA).ext hbB)).mono ?_;rintro n o ⟨rfl,rfl⟩))
 all_goals
  go_wp2;go_ret;have b:bj f.heap.size f W2:=a.o.drew.trans (hbA.mono a.o.size);exact⟨rfl,b.trans (hbB.mono b.size)⟩
def xB(b)(c:b.A)(d)(e:d.A)(a:FT b d)(f):aT aE 200 #[b.v,aG d.cells] f (fh f (ao aB)):=by
 rcases a with⟨rfl,g⟩|h|h
 ·exact Nb b c g f
 ·exact Na b c d e h f
 ·exact N9 b c d e h f
structure St where
 q:Int
 dc:List Int
 v:List Int
structure St.A(a:St):Prop where
 q1:1<=a.q
 q2:a.q<=31
 dc:a.dc.length=3
 dr:∀b∈a.dc,-4095<=b/\b<=4095
 v:a.v.length=4
 vr:∀b∈a.v,-63<=b/\b<=63
def St.l(a:St):List Int:=a.q::a.dc++a.v
def St.len{a:St}(b:a.A):a.l.length=8:=by simp[St.l,b.dc,b.v]
def St.val(a:St):aq:=aG (aS E a.l)
def St.ex{a:St}(b:a.A):∃c d e f g h i,a=⟨a.q,[c,d,e],[f,g,h,i]⟩/\((-4095<=c/\c<=4095)/\(-4095<=d/\d<=4095)/\(-4095<=e/\e<=4095))/\(-63<=f/\f<=63)/\(-63<=g/\g<=63)/\(-63<=h/\h<=63)/\(-63<=i/\i<=63):=by
 let ⟨c,d,e⟩:=a;let ⟨_,_,f,g,h,i⟩:=b;dsimp only at*;rcases d with _|⟨l,_|⟨n,_|⟨o,_|⟨p,q⟩⟩⟩⟩<;> simp at f
 rcases e with _|⟨d,_|⟨r,_|⟨s,_|⟨t,_|⟨u,v⟩⟩⟩⟩⟩<;> simp at h
 exact⟨l,n,o,d,r,s,t,rfl,⟨g _ dS,g _ dS,g _ dS⟩,i _ dS,i _ dS,i _ dS,i _ dS⟩
def Fe{x}{j:Nat}{a}(b:x.length=3)(d:x[j]?=M a)(c):(eT 322 (aG (aS E x)) (J E (j:Int))).run aE c=.ok (J E a) c:=by
 have a:j<3:=by have:=(aP.1 d).1;omega
 have b:∀c,(K3 3).run aE c=.ok 1 c:=fun _=>by kernel_rfl
 have c:∀e,(isAgg 3).run aE e=.ok av e:=fun _=>by kernel_rfl
 simp[eT,fI underlying322,part,b,c,aS,go_sem,a,d]
def Kv(b:St)(a:b.A)(c:T):aT aE 219 #[b.val] c (fh c (ao aB)):=by
 let ⟨d,e,f,g,h,i,l,n,⟨o,p,q⟩,r,s,t,u⟩:=St.ex a;let ⟨v,w⟩:=aX b.q;obtain⟨x,y,z,H,U,V⟩:=ej (ou d 4095 o.1 o.2 O O) (ou e 4095 p.1 p.2 O O) (ou f 4095 q.1 q.2 O O) (mh b.q a.q1 a.q2) (pB g h r s) (pB i l t u);rw[<-w] at H n;have a:b.val=aG #[J E v,J E d,J E e,J E f,J E g,J E h,J E i,J E l]:=by rw[n];rfl
 rw[a];have b:∀g,(eT 322 (aG #[J E d,J E e,J E f]) (J E 0)).run aE g=.ok (J E d) g:=fun h=>Fe (x:=[d,e,f]) (j:=0) rfl rfl h
 have b:∀g,(eT 322 (aG #[J E d,J E e,J E f]) (J E 1)).run aE g=.ok (J E e) g:=fun h=>Fe (x:=[d,e,f]) (j:=1) rfl rfl h
 have b:∀g,(eT 322 (aG #[J E d,J E e,J E f]) (J E 2)).run aE g=.ok (J E f) g:=fun h=>Fe (x:=[d,e,f]) (j:=2) rfl rfl h
 clear w a;go_enter func219,ntmps219;go_wp2
 go_loop [7] (NH 3) (fun a=>3-(intOf a).toNat)
 case atStart=>exact⟨0,by omega,rfl⟩
 case round=>
  obtain⟨a,b,rfl⟩:=hrel;rcases(show a=0\/a=1\/a=2\/a=3 by omega) with rfl|rfl|rfl|rfl
  ·go_wp2_with fail
   refine sQ (x.o _) ?_;go_wp2
   go_round
   case rel=>exact⟨1,by omega,rfl⟩
   case measure=>decide
  ·go_wp2_with fail
   refine sQ (y.o _) ?_;go_wp2
   go_round
   case rel=>exact⟨2,by omega,rfl⟩
   case measure=>decide
  ·go_wp2_with fail
   refine sQ (z.o _) ?_;go_wp2
   go_round
   case rel=>exact⟨3,by omega,rfl⟩
   case measure=>decide
  ·go_wp2_with fail
   refine sQ (H.o _) ?_;go_wp2_with fail;refine mR (U.o _) fun a b=>?_
   let ⟨d,e⟩:=gU b;have f:=b.size
   try simp at f
   try simp at d
   try simp at e
   have d:c.heap.size<a.heap.size:=O;go_wp2_with fail;refine mR (V.o _) fun d e=>?_
   go_wp2;go_ret;have d:bj c.heap.size c a:=(jd).trans (b.mono dS);exact⟨rfl,d.trans (e.mono d.size)⟩
def St.after(a:St)(b:Int):St:=⟨a.q,if b=1 then a.dc else[0,0,0],if b=2 then a.v else[0,0,0,0]⟩
def St.M4{a:St}(c:a.A)(b):(a.after b).A:=by
 let ⟨a,b,d,e,f,g⟩:=c;refine⟨a,b,?_,?_,?_,?_⟩<;> unfold St.after<;> dsimp only<;> split<;> first|assumption|rfl|(intro c d;simp at d;omega)
def St.start(a:Int):St:=⟨a,[0,0,0],[0,0,0,0]⟩
def St.tT{q}(a:1<=q)(b:q<=31):(St.start q).A:=⟨a,b,rfl,by simp[St.start],rfl,by simp[St.start]⟩
def kt:(aE.info? 324).map (·.size)=M 8:=dK
def po{c:nt}{d:Func}{a:Tmp}{b e:aR}(f:d.results=#[.cell a b])(g:Array aq)(h:T)(i:Nat)(l:Array aq)(n:Ac5)
 (o:g.getD a sJ=aD (M ⟨i,0,S⟩))(p:Bx h i e l)
 (q:(match n with| .struct _| .array _ _=>aB|_=>av)=aB)(r:c.underlying b=M n)(s:(c.info? b).map (·.size)=M l.size):
 (Ih d g).run c h=.ok (aG l) h:=Ke f g h i e l (0,0) n o p r (by cases n<;> exact q) s
def Ep(a b):aT aE 198 #[J E a] b (fh b (St.start a).val):=by
 go_enter func198,ntmps198;go_wp2;exact dY (po results198 _ _ b.heap.size _ _ rfl (Bx.new _ _ _) rfl kR kt) rfl ⟨rfl,jd⟩
def Ky(b:St)(a:b.A)(c:Int)(d:T):aT aE 225 #[b.val,J E c] d (fh d (b.after c).val):=by
 let ⟨e,f,g,h,i,l,n,o,_⟩:=St.ex a;let ⟨a,p⟩:=aX b.q;rw[<-p] at o;have q:b.val=aG #[J E a,J E e,J E f,J E g,J E h,J E i,J E l,J E n]:=by rw[o];rfl
 rw[q]
 by_cases r:c=1
 ·subst r
  have s:(b.after 1).val=aG #[J E a,J E e,J E f,J E g,J E 0,J E 0,J E 0,J E 0]:=by rw[o];rfl
  rw[s];clear p q s;go_enter func225,Za;go_wp2;exact dY (po PE _ _ (d.heap.size+1) _ _ rfl (Bx.D _ _ _ _ dS) rfl kR kt) rfl ⟨rfl,(jd).alloc dS _⟩
 ·have e:(c !=1)=aB:=by simpa using r
  by_cases e:c=2
  ·have f:(c !=2)=av:=by simpa using e
   have f:(b.after c).val=aG #[J E a,J E 0,J E 0,J E 0,J E h,J E i,J E l,J E n]:=by rw[o];unfold St.after;rw[if_neg r,if_pos e];rfl
   rw[f];clear p q f;go_enter func225,Za;go_wp2;exact dY (po PE _ _ (d.heap.size+1) _ _ rfl (Bx.D _ _ _ _ dS) rfl kR kt) rfl ⟨rfl,(jd).alloc dS _⟩
  ·have f:(c !=2)=aB:=by simpa using e
   have f:(b.after c).val=aG #[J E a,J E 0,J E 0,J E 0,J E 0,J E 0,J E 0,J E 0]:=by rw[o];unfold St.after;rw[if_neg r,if_neg e];rfl
   rw[f];clear p q f;go_enter func225,Za;go_wp2;exact dY (po PE _ _ (d.heap.size+1) _ _ rfl (Bx.D _ _ _ _ dS) rfl kR kt) rfl ⟨rfl,(jd).alloc dS _⟩
section
def ptT(gw:Nat)(c:je)(gm:Nat):List aq:=[aD (M ⟨gw,0,S⟩),J E c.ty,J E c.st,ao c.B,ao c.sec,aD (M ⟨gm,0,S⟩)]
def MX(s:St)(gw:Nat)(c:je)(gm:Nat):Array aq:=(iV s.l++ptT gw c gm).toArray
def BG{s}(b:s.A)(gw c gm a):(MX s gw c gm)[8+a]?=(ptT gw c gm)[a]?:=by
 unfold MX;rw[bw,aU (by rw[Jg,St.len b];omega),Jg,St.len b,gj]
def IV{s}(a:s.A)(gw c gm){j:Nat}{b}(d:s.l[j]?=M b):(MX s gw c gm)[j]?=M (J E b):=by
 have a:=(aP.1 d).1;unfold MX;rw[bw,bo (eZ Jg a),iV,bN,d];rfl
structure Pt(w:T)(B gw:Nat)(R:Option Nat)(l:List Bool)(gp gm:Nat)(c:je)(s:St)(m:Mb):Prop where
 wr:Wr w B gw R l
 px:Bx w gp 423 (MX s gw c gm)
 mx:Mx w gm m
 so:s.A
 n1:gp≠gw
 n2:R≠M gp
 n3:gm≠gw
 n4:R≠M gm
 n5:gp≠gm
 hB:B<=w.heap.size
def qQ(w w':T)(gw:Nat)(R:Option Nat)(gp:Nat):Prop:=Ud w w' (fun a=>a=gw\/R=M a\/a=gp)
def qP(w:T)(B gw:Nat)(R:Option Nat)(l:List Bool)(gp gm:Nat)(c:je)(s:St)(m:Mb)(a:Ending)(w':T):Prop:=
 ∃R',a=aK (fE #[])/\Pt w' B gw R' l gp gm c s m/\qQ w w' gw R gp/\Rn w R R'
section
variable {w w':T} {B gw gp gm:Nat} {R R':Option Nat} {l l':List Bool} {c:je} {s s':St} {m:Mb}
def qQ.refl(w gw R gp):qQ w w gw R gp:=Ud.refl _ _
def qQ.trans{a b c}(d:qQ a b gw R gp)(e:qQ b c gw R' gp)(f:Rn a R R'):qQ a c gw R gp:=
 ⟨e.os.trans d.os,e.tape.trans d.tape,e.output.trans d.output,aY d.size e.size,fun a b c=>(e.block a (dU d.size) (fun g=>g.elim (fun h=>c (.inl h)) (fun i=>i.elim (fun l=>f a b (fun n=>c (.inr (.inl n))) l) (fun o=>c (.inr (.inr o)))))).trans (d.block a b c)⟩
def qQ.of{a b}(c:fO a b gw R):qQ a b gw R gp:=⟨c.os,c.tape,c.output,c.size,fun d e f=>c.block d e (fun g=>f (.inl g)) (fun h=>f (.inr (.inl h)))⟩
def Pt.put(a:Pt w B gw R l gp gm c s m)(b:Wr w' B gw R' l')(d:fO w w' gw R)(e:Rn w R R'):Pt w' B gw R' l' gp gm c s m:=
 ⟨b,a.px.G d a.n1 a.n2,⟨a.mx.j.G d a.n3 a.n4,a.mx.ok⟩,a.so,a.n1,e _ a.px.lt a.n2,a.n3,e _ a.mx.lt a.n4,a.n5,aY a.hB d.size⟩
def Pt.ext(a:Pt w B gw R l gp gm c s m)(b:bj w.heap.size w w'):Pt w' B gw R l gp gm c s m:=
 ⟨a.wr.ext b,a.px.ext b,a.mx.ext b,a.so,a.n1,a.n2,a.n3,a.n4,a.n5,aY a.hB b.size⟩
instance {w w' x1 x2 x3 x4 x5 x6 x7 x8 x9}:Tr w w' (Pt w x1 x2 x3 x4 x5 x6 x7 x8 x9) (Pt w' x1 x2 x3 x4 x5 x6 x7 x8 x9):=⟨fun hb h=>Pt.ext h hb⟩
def Pt.c8(a:Pt w B gw R l gp gm c s m):w.cell? ⟨gp,8,S⟩=M (aD (M ⟨gw,0,S⟩)):=a.px.cell 8 (BG a.so gw c gm 0)
def Pt.c9(a:Pt w B gw R l gp gm c s m):w.cell? ⟨gp,9,S⟩=M (J E c.ty):=a.px.cell 9 (BG a.so gw c gm 1)
def Pt.c10(a:Pt w B gw R l gp gm c s m):w.cell? ⟨gp,10,S⟩=M (J E c.st):=a.px.cell 10 (BG a.so gw c gm 2)
def Pt.c11(a:Pt w B gw R l gp gm c s m):w.cell? ⟨gp,11,S⟩=M (ao c.B):=a.px.cell 11 (BG a.so gw c gm 3)
def Pt.c12(a:Pt w B gw R l gp gm c s m):w.cell? ⟨gp,12,S⟩=M (ao c.sec):=a.px.cell 12 (BG a.so gw c gm 4)
def Pt.K8(a:Pt w B gw R l gp gm c s m):w.cell? ⟨gp,13,S⟩=M (aD (M ⟨gm,0,S⟩)):=a.px.cell 13 (BG a.so gw c gm 5)
def Pt.c0(a:Pt w B gw R l gp gm c s m):w.cell? ⟨gp,0,S⟩=M (J E s.q):=a.px.cell 0 (IV a.so gw c gm (j:=0) rfl)
end
def DM(B gw:Nat)(R:Option Nat)(l:List Bool)(gp gm:Nat)(c:je)(s:St)(m:Mb)(w:T)(b:Bool)(d:Pt w B gw R l gp gm c s m)(a:l.length<=80000000):
  aT aE 322 #[aD (M ⟨gp,0,S⟩),ao b] w (qP w B gw R (l++[b]) gp gm c s m):=by
 have a:=aH d;have e:=d.c8;have e:=d.px.lt;cases b with
 |false=>
  have b:=aH (fS B gw R l 0 1 0 1 rfl rfl w d.wr O O O d.hB);go_enter func322,ntmps322;go_wp2_with fail;refine b.o.mono ?_;rintro b e ⟨f,rfl,g,h,i⟩;obtain⟨b,e⟩:=aQ (a.o.put g h i) h;go_wp2;go_end0;exact⟨f,rfl,b.o,qQ.of e.o,i⟩
 |true=>
  have b:=aH (fS B gw R l 1 1 1 1 rfl rfl w d.wr O O O d.hB);go_enter func322,ntmps322;go_wp2_with fail;refine b.o.mono ?_;rintro b d ⟨e,rfl,f,g,h⟩;obtain⟨b,d⟩:=aQ (a.o.put f g h) g;go_wp2;go_end0;exact⟨e,rfl,b.o,qQ.of d.o,h⟩
def Pt.drewN{w B gw gp gm R l c s m}(b:Pt w B gw R l gp gm c s m)(a):Pt (w.drewN a) B gw R l gp gm c s m:=by
 let ⟨⟨⟨a,d,e,f⟩,g,h⟩,i,n,o,p,q,r,t,u,v⟩:=b;exact⟨⟨⟨a,d,e,f⟩,g,h⟩,i,⟨n.j,n.ok⟩,o,p,q,r,t,u,v⟩
def KM(s gw c gm):(MX s gw c gm).setIfInBounds 0 (J E s.q)=MX s gw c gm:=by simp[MX,St.l,iV]
def Pt.G0{w B gw gp gm R l c s s' m}(d:Pt w B gw R l gp gm c s m)(e f)(a:s'.A)(b:(MX s gw c gm).setIfInBounds e f=MX s' gw c gm):
  Pt (w.setCell ⟨gp,e,S⟩ f) B gw R l gp gm c s' m:=by
 refine⟨d.wr.C (a:=⟨gp,e,S⟩) d.n1 d.n2 f,?_,⟨d.mx.j.C (a:=⟨gp,e,S⟩) (Ne.symm d.n5) f,d.mx.ok⟩,a,d.n1,d.n2,d.n3,d.n4,d.n5,by simpa[gS] using d.hB⟩;rw[<-b];exact d.px.L e f
def qQ.G0{w w' gw gp R}(a:qQ w w' gw R gp)(b c):qQ w (w'.setCell ⟨gp,b,S⟩ c) gw R gp:=Ud.set a (a:=⟨gp,b,S⟩) (.inr (.inr rfl)) c
def qQ.drewN{w w' gw gp R}(a:qQ w w' gw R gp)(b):qQ w (w'.drewN b) gw R gp:=Ud.drewN a b
def qP.of{w w' B gw gp gm R R' l c s m}(a:Pt w' B gw R' l gp gm c s m)(b:qQ w w' gw R gp)(d:Rn w R R'):qP w B gw R l gp gm c s m (aK (fE #[])) w':=⟨R',rfl,a,b,d⟩
def chB(c:je)(m:Mb):List Bool:=if nF m=aB then(if rq c=aB then[m.fd] else[])++sv 0 else[]
def Qq(B gw:Nat)(R:Option Nat)(l:List Bool)(gp gm:Nat)(c:je)(s:St)(m:Mb)(w:T)(b:Pt w B gw R l gp gm c s m)(d:m.delta=0)(a:l.length<=70000000):
  aT aE 303 #[aD (M ⟨gp,0,S⟩)] w (qP w B gw R (l++chB c m) gp gm c s m):=by
 have a:=aH b;have e:=b.K8;have e:=b.px.lt;have e:=b.mx.lt;obtain⟨b,e,f⟩:=bh (fun w g=>qO gm m w g) (fun w=>oM c w) (fun(w:T)(R:Option Nat)(h:Pt w B gw R l gp gm c s m)=>DM B gw R l gp gm c s m w m.fd h O);unfold chB
 by_cases g:nF m=aB
 ·rw[if_pos g]
  rw[g] at b;have h:=aH d;cases hb:rq c with
  |false=>
   rw[hb] at e;rw[if_neg dS,List.nil_append];have d:=aH (fun(w:T)(R:Option Nat)(i:Pt w B gw R l gp gm c s m)=>mg B gw R l 0 w i.wr O O O i.hB);go_enter func303,Z1;go_wp2_with fail;refine sQ (b.o _ a.o.mx) ?_;have i:=a.o.c9;have i:=a.o.c10;have i:=a.o.c11;have i:=a.o.c12;go_wp2_with fail;refine mR (e.o _) fun i n=>?_
   have i:=mX n a;have o:=aH (qQ.of (R:=R) (gp:=gp) (fO.bS gw R n));have p:=n.size
   skip
   have n:=i.o.K8;have n:=i.o.c8;have n:=i.o.mx.Rx;rw[h.o] at n;have n:=i.o.px.lt;have n:=i.o.mx.lt;go_wp2
   try simp only[sZ,ak]
   refine cH 11 dK dK ?_;simp only[cZ,dP,eN,eo]
   repeat(go_big_quiet_step (fail))
   refine aN ?_;go_wp2_with fail;refine(d.o _ _ (i.o.drewN 1)).mono ?_;rintro d n ⟨p,rfl,q,r,t⟩;obtain⟨d,n⟩:=aQ ((i.o.drewN 1).put q r t) (qQ.of (gp:=gp) r);have i:=d.o.K8;have i:=d.o.c0;have i:=d.o.mx.Rx;rw[h.o] at i;have i:=d.o.px.lt;have i:=d.o.mx.lt;have i:=d.o.px.frozen 0;have i:=d.o.so.q1;have i:=d.o.so.q2;have i:E.wrap (s.q+0)=s.q:=by rw[Ps];exact an _ O
   have i:E.wrap s.q=s.q:=an _ O;go_wp2
   try simp only[sZ,ak]
   refine cH 16 dK dK ?_;simp only[cZ,dP,eN,eo]
   repeat(go_big_quiet_step (fail))
   refine aN ?_;go_wp2;go_end0;exact qP.of ((d.o.drewN 1).G0 0 _ d.o.so (KM _ _ _ _)) ((((o.o.drewN 1).trans n.o (Rn.refl _ _)).drewN 1).G0 0 _) (fun i p q=>t i (by simp[Vj];omega) q)
  |true=>
   rw[hb] at e;rw[if_pos rfl];have d:=aH (fun(w:T)(R:Option Nat)(i:Pt w B gw R (l++[m.fd]) gp gm c s m)=>mg B gw R (l++[m.fd]) 0 w i.wr O O eB i.hB);go_enter func303,Z1;go_wp2_with fail;refine sQ (b.o _ a.o.mx) ?_;have i:=a.o.c9;have i:=a.o.c10;have i:=a.o.c11;have i:=a.o.c12;go_wp2_with fail;refine mR (e.o _) fun i n=>?_
   have e:=mX n a;have i:=aH (qQ.of (R:=R) (gp:=gp) (fO.bS gw R n));have o:=n.size;have n:=e.o.K8;have n:=e.o.mx.c4;have n:=e.o.px.lt;have n:=e.o.mx.lt;go_wp2_with fail;refine(f.o _ _ e.o).mono ?_;rintro e f ⟨n,rfl,o,p,q⟩;obtain⟨e,f,r⟩:=bh o (i.o.trans p (Rn.refl _ _)) (show Rn w R n from fun t u v=>q t O v);have i:=p.size
   skip
   have i:=e.o.K8;have i:=e.o.c8;have i:=e.o.mx.Rx;rw[h.o] at i;have i:=e.o.px.lt;have i:=e.o.mx.lt;go_wp2
   try simp only[sZ,ak]
   refine cH 11 dK dK ?_;simp only[cZ,dP,eN,eo]
   repeat(go_big_quiet_step (fail))
   refine aN ?_;go_wp2_with fail;refine(d.o _ _ (e.o.drewN 1)).mono ?_;rintro d i ⟨n,rfl,o,p,q⟩;obtain⟨d,i⟩:=aQ ((e.o.drewN 1).put o p q) (qQ.of (gp:=gp) p);have e:=d.o.K8;have e:=d.o.c0;have e:=d.o.mx.Rx;rw[h.o] at e;have e:=d.o.px.lt;have e:=d.o.mx.lt;have e:=d.o.px.frozen 0;have e:=d.o.so.q1;have e:=d.o.so.q2;have e:E.wrap (s.q+0)=s.q:=by rw[Ps];exact an _ O
   have e:E.wrap s.q=s.q:=an _ O;go_wp2
   try simp only[sZ,ak]
   refine cH 16 dK dK ?_;simp only[cZ,dP,eN,eo]
   repeat(go_big_quiet_step (fail))
   refine aN ?_;go_wp2;go_end0;rw[show l++m.fd::sv 0=l++[m.fd]++sv 0 by simp];exact qP.of ((d.o.drewN 1).G0 0 _ d.o.so (KM _ _ _ _)) ((((f.o.drewN 1).trans i.o r.o).drewN 1).G0 0 _) (r.o.trans (fun e h n=>q e (by simpa[Vj] using h) n) f.o.size)
 ·have d:nF m=av:=by simpa using g
  rw[if_neg g,kg];rw[d] at b;clear d;go_enter func303,Z1;go_wp2_with fail;refine sQ (b.o _ a.o.mx) ?_;go_wp2;go_end0;exact qP.of a.o (qQ.refl _ _ _ _) (Rn.refl _ _)
end
def cdB(a:Mb):List Bool:=if a.kind=2/\nF a=aB then a.P else[]
def CdR(a:T)(b c:Nat)(d:Option Nat)(e:List Bool)(f g:Nat)(h:je)(i:St)(l:Mb)(n:Nat)(wr:T):Prop:=
 ∃o,Pt wr b c o (e++l.P.take n) f g h i l/\qQ a wr c d f/\Rn a d o
def SM(e f:Nat)(a:Option Nat)(g:List Bool)(h i:Nat)(l:je)(n:St)(o:Mb)(b:T)(c:Pt b e f a g h i l n o)(d:g.length<=70000000):
  aT aE 304 #[aD (M ⟨h,0,S⟩)] b (qP b e f a (g++cdB o) h i l n o):=by
 have p:=aH c;have q:=c.K8;have r:=c.mx.c0;have s:=c.px.lt;have t:=c.mx.lt;have u:=aH (fun v w=>qO i o v w);have v:=c.mx.ok.P;have w:=aH c.mx;unfold cdB
 by_cases x:o.kind=2
 ·have y:(o.kind !=2)=av:=by simpa using x
  by_cases z:nF o=aB
  ·rw[if_pos ⟨x,z⟩]
   rw[z] at u;go_enter func304,Z0;go_wp2_with fail;refine sQ (u.o _ w.o) ?_;go_wp2_with ((refine pf dW (aI 25) rfl rfl w.o ?_))
   go_loopw [27] (fun H wr=>mD 6 (fun U wr=>CdR b e f a g h i l n o U wr) H wr) (fun V _=>6-(intOf V).toNat)
   case atStart=>exact⟨0,by omega,rfl,a,by simpa using p.o,qQ.refl _ _ _ _,Rn.refl _ _⟩
   case round=>
    obtain⟨H,U,rfl,V,W,Y,a0⟩:=hrel;let ⟨a1,a2⟩:=aQ W Y;have a3:=Y.size;have a4:=aH v
    by_cases a5:H<6
    ·have a6:o.P[H]?=M (o.P[H]'O):=aA _
     have a7:=um a6;have a8:=fun a9=>wO v a6 a9
     generalize o.P[H]'O=a9 at*
     obtain⟨a,b⟩:=aQ a7 (DM e f V (g++o.P.take H) h i l n o wr a9 a1.o (by have:=YO H o.P;simp;omega));clear a6;go_wp2_with fail;refine b.o.mono ?_;rintro b c ⟨d,rfl,e,f,g⟩;obtain⟨b,c⟩:=aQ e (a2.o.trans f a0);go_wp2;exact⟨⟨H+1,by omega,by go_num,d,by rw[a.o,<-aW];exact b.o,c.o,a0.trans g a3⟩,by simp[intOf];omega⟩
    ·obtain rfl:H=6:=O
     go_wp2;go_end0;have:=a1.o;rw[List.take_of_length_le (eZ a4.o (aw _))] at this;exact qP.of this a2.o a0
  ·have a:nF o=av:=by simpa using z
   rw[if_neg (fun b=>z b.2),kg];rw[a] at u;clear a;go_enter func304,Z0;go_wp2_with fail;refine sQ (u.o _ w.o) ?_;go_wp2;go_end0;exact qP.of p.o (qQ.refl _ _ _ _) (Rn.refl _ _)
 ·have a:(o.kind !=2)=aB:=by simpa using x
  rw[if_neg (fun a=>x a.1),kg];go_enter func304,Z0;go_wp2;go_end0;exact qP.of p.o (qQ.refl _ _ _ _) (Rn.refl _ _)
def Vq(a:je)(b:Mb)(c d:Bool):Nat:=if b.kind=1 then(if a.ty=2 then 3 else 7) else if b.kind=2 then(if c=aB/\d=av then 1 else if c=av/\d=aB then 3 else 5)+(if nF b=aB then 1 else 0) else 0
def Xm(a:je)(b:Mb)(c d:Bool):List Bool:=if a.ty=1 then[] else uv (Vq a b c d)
def WR(a b:Nat)(c:Option Nat)(d:List Bool)(e f:Nat)(g:je)(h:St)(r:Mb)(p q:Bool)(i:r.u=[p,q])(l:T)(n:Pt l a b c d e f g h r)(o:d.length<=70000000):
  aT aE 301 #[aD (M ⟨e,0,S⟩)] l (qP l a b c (d++Xm g r p q) e f g h r):=by
 have s:=aH n;have t:=n.K8;have u:=n.c9;have v:=n.c8;have w:=n.mx.c0;have x:=n.px.lt;have y:=n.mx.lt;have z:=n.mx.j.cell 1 (Mb.cU n.mx.ok (d:=0) (b:=p) (oz i));have H:=n.mx.j.cell 2 (Mb.cU n.mx.ok (d:=1) (b:=q) (oz i));obtain⟨U,V⟩:=aQ (fun W Y=>qO f r W Y) (fun(a0:Nat)(a1:a0<=10)=>qt a b c d a0 l n.wr O O n.hB);have W:=Np;have Y:=aH n.mx;unfold Xm
 by_cases a0:g.ty=1
 ·have a1:(g.ty==1)=aB:=by simpa using a0
  rw[if_pos a0,kg];go_enter qq,oc;go_wp2;go_end0;exact qP.of s.o (qQ.refl _ _ _ _) (Rn.refl _ _)
 ·have a1:(g.ty==1)=av:=by simpa using a0
  rw[if_neg a0]
  have a2:∀(a3:Nat),a3<=10->Vq g r p q=a3->∀(a4:T)(a5:Option Nat),Wr a4 a b a5 (d++uv a3)->fO l a4 b c->Rn l c a5->qP l a b c (d++uv (Vq g r p q)) e f g h r (aK (fE #[])) a4:=by
   intro a3 _ a4 a5 a6 a7 a8 a9;rw[a4];exact qP.of (s.o.put a7 a8 a9) (qQ.of a8) a9
  have a3:=aH a2
  by_cases a4:r.kind=1
  ·have a5:(r.kind==1)=aB:=by simpa using a4
   by_cases a5:g.ty=2
   ·have a6:(g.ty==2)=aB:=by simpa using a5
    have a6:=aH (a3.o 3 O (by unfold Vq;rw[if_pos a4,if_pos a5]));go_enter qq,oc;go_wp2_with fail;refine(V.o 3 O).mono ?_;rintro a7 a8 ⟨a9,rfl,aa,ab,ac⟩;have a7:=aH (a6.o _ _ aa ab ac);go_wp2;go_end0;exact a7.o
   ·have a6:(g.ty==2)=av:=by simpa using a5
    have a6:=aH (a3.o 7 O (by unfold Vq;rw[if_pos a4,if_neg a5]));go_enter qq,oc;go_wp2_with fail;refine(V.o 7 O).mono ?_;rintro a5 a7 ⟨a8,rfl,a9,aa,ab⟩;have a5:=aH (a6.o _ _ a9 aa ab);go_wp2;go_end0;exact a5.o
  ·have a5:(r.kind==1)=av:=by simpa using a4
   by_cases a6:r.kind=2
   ·have a7:(r.kind==2)=aB:=by simpa using a6
    have a8:Vq g r p q=(if p=aB/\q=av then 1 else if p=av/\q=aB then 3 else 5)+(if nF r=aB then 1 else 0):=by unfold Vq;rw[if_neg a4,if_pos a6]
    let ⟨a9,aa⟩:=aX (Vq g r p q);rw[<-aa] at a3 a8 ⊢;clear aa;generalize nF r=aa at*
    cases p<;> cases q<;> cases aa
    ·have a:=aH (a3.o 5 O (oz a8))
     clear a8;go_enter qq,oc;go_wp2_with fail;refine sQ (U.o _ Y.o) ?_;go_wp2_with fail;refine(V.o 5 O).mono ?_;rintro b c ⟨d,rfl,e,f,g⟩;have b:=aH (a.o _ _ e f g);go_wp2;go_end0;exact b.o
    ·have a:=aH (a3.o 6 O (oz a8))
     clear a8;go_enter qq,oc;go_wp2_with fail;refine sQ (U.o _ Y.o) ?_;go_wp2_with fail;refine(V.o 6 O).mono ?_;rintro b c ⟨d,rfl,e,f,g⟩;have b:=aH (a.o _ _ e f g);go_wp2;go_end0;exact b.o
    ·have a:=aH (a3.o 3 O (oz a8))
     clear a8;go_enter qq,oc;go_wp2_with fail;refine sQ (U.o _ Y.o) ?_;go_wp2_with fail;refine(V.o 3 O).mono ?_;rintro b c ⟨d,rfl,e,f,g⟩;have b:=aH (a.o _ _ e f g);go_wp2;go_end0;exact b.o
    ·have a:=aH (a3.o 4 O (oz a8))
     clear a8;go_enter qq,oc;go_wp2_with fail;refine sQ (U.o _ Y.o) ?_;go_wp2_with fail;refine(V.o 4 O).mono ?_;rintro b c ⟨d,rfl,e,f,g⟩;have b:=aH (a.o _ _ e f g);go_wp2;go_end0;exact b.o
    ·have a:=aH (a3.o 1 O (oz a8))
     clear a8;go_enter qq,oc;go_wp2_with fail;refine sQ (U.o _ Y.o) ?_;go_wp2_with fail;refine(V.o 1 O).mono ?_;rintro b c ⟨d,rfl,e,f,g⟩;have b:=aH (a.o _ _ e f g);go_wp2;go_end0;exact b.o
    ·have a:=aH (a3.o 2 O (oz a8))
     clear a8;go_enter qq,oc;go_wp2_with fail;refine sQ (U.o _ Y.o) ?_;go_wp2_with fail;refine(V.o 2 O).mono ?_;rintro b c ⟨d,rfl,e,f,g⟩;have b:=aH (a.o _ _ e f g);go_wp2;go_end0;exact b.o
    ·have a:=aH (a3.o 5 O (oz a8))
     clear a8;go_enter qq,oc;go_wp2_with fail;refine sQ (U.o _ Y.o) ?_;go_wp2_with fail;refine(V.o 5 O).mono ?_;rintro b c ⟨d,rfl,e,f,g⟩;have b:=aH (a.o _ _ e f g);go_wp2;go_end0;exact b.o
    ·have a:=aH (a3.o 6 O (oz a8))
     clear a8;go_enter qq,oc;go_wp2_with fail;refine sQ (U.o _ Y.o) ?_;go_wp2_with fail;refine(V.o 6 O).mono ?_;rintro b c ⟨d,rfl,e,f,g⟩;have b:=aH (a.o _ _ e f g);go_wp2;go_end0;exact b.o
   ·have a:(r.kind==2)=av:=by simpa using a6
    have a:=aH (a3.o 0 O (by unfold Vq;rw[if_neg a4,if_neg a6]));go_enter qq,oc;go_wp2_with fail;refine(V.o 0 O).mono ?_;rintro b c ⟨d,rfl,e,f,g⟩;have b:=aH (a.o _ _ e f g);go_wp2;go_end0;exact b.o
def vx(a:Mb)(b c:Nat):Int:=cM a.v (4*b+2*c)
def vy(a:Mb)(b c:Nat):Int:=cM a.v (4*b+2*c+1)
def sl(a:Mb)(b c:Nat):Int:=cM a.Z (2*b+c)
def St.JO(a:St)(b:Nat)(x y:Int):St:=⟨a.q,a.dc,(a.v.set (2*b) x).set (2*b+1) y⟩
def VP(a:Bool)(b:Mb)(c d:Nat)(e:St):List Bool:=(if a=aB then[decide (sl b c d=1)] else[])++sv (vx b c d-cM e.v (2*c))++sv (vy b c d-cM e.v (2*c+1))
def PR(a:Mb)(b:Nat)(c:St):Nat->St|0=>c|d+1=>(PR a b c d).JO b (vx a b d) (vy a b d)
def PS(a:Bool)(b:Mb)(c:Nat)(d:St):Nat->List Bool|0=>[]|e+1=>PS a b c d e++VP a b c e (PR b c d e)
def nv(a:Mb):Nat:=if a.fp then 2 else 1
def OZ(a:Mb)(b:St):Nat->St|0=>b|c+1=>if a.u.getD c av=aB then PR a c (OZ a b c) (nv a) else OZ a b c
def QP(a:Bool)(b:Mb)(c:St):Nat->List Bool|0=>[]|d+1=>QP a b c d++(if b.u.getD d av=aB then PS a b d (OZ b c d) (nv b) else[])
def LO(a:Mb):Prop:=∀b∈a.v,-63<=b/\b<=63
def oF{l k}(a:k<l.length):cM l k∈l:=bg (eh a)
def LO.at_{a}(b:LO a)(c:a.v.length=8){j}(d:j<8):-63<=cM a.v j/\cM a.v j<=63:=b _ (oF O)
def St.Pj{a:St}(f:a.A){b}(c:b<2){d e}(g:-63<=d/\d<=63)(h:-63<=e/\e<=63):(a.JO b d e).A:=by
 let ⟨a,b,c,d,e,i⟩:=f;refine⟨a,b,c,d,by simp[St.JO,e],?_⟩;intro a b;unfold St.JO at b;rcases s6 b with c|rfl
 ·rcases s6 c with b|rfl
  ·exact i a b
  ·exact g
 ·exact h
def MB{a}(d:LO a)(e:a.v.length=8){b}(f:b<2){c}(g:c.A):∀h,h<=2->(PR a b c h).A
 |0,_=>g
 |a+1,b=>St.Pj (MB d e f g a O) f (d.at_ e O) (d.at_ e O)
def Ow(a):nv a<=2:=by unfold nv;split<;> omega
def JB{c}(d:LO c)(e:c.v.length=8){a}(b:a.A):∀f,f<=2->(OZ c a f).A
 |0,_=>b
 |a+1,f=>by
  have:=JB d e b a O;unfold OZ;split
  ·exact MB d e O this _ (Ow c)
  ·exact this
def SN{a}(h:a.A)(b c d i)(e:i<2)(f g):((MX a b c d).setIfInBounds (4+i*2) (J E f)).setIfInBounds (4+i*2+1) (J E g)=MX (a.JO i f g) b c d:=by
 let ⟨a,b,c,d,e,f,g,l,_⟩:=St.ex h;rw[l];rcases(show i=0\/i=1 by omega) with rfl|rfl<;> rfl
def Iy{v}(a:-200<=v)(b:v<=200):(sv v).length<=31:=En O O
def S4{sc f}(c:LO f)(d:f.v.length=8){g h}(a:g<2)(b:h<2){i}(e:i.A):(VP sc f g h i).length<=63:=by
 have a:=c.at_ d (j:=4*g+2*h) O;have a:=c.at_ d (j:=4*g+2*h+1) O;have a:=e.vr _ (oF (l:=i.v) (k:=2*g) (iJ e.v));have a:=e.vr _ (oF (l:=i.v) (k:=2*g+1) (iJ e.v));have a:=Iy (v:=vx f g h-cM i.v (2*g)) (by unfold vx;omega) (by unfold vx;omega);have a:=Iy (v:=vy f g h-cM i.v (2*g+1)) (by unfold vy;omega) (by unfold vy;omega);unfold VP;split<;> simp<;> omega
def Iv{sc a}(b:LO a)(c:a.v.length=8){d}(e:d<2){s}(f:s.A):∀g,g<=2->(PS sc a d s g).length<=63*g
 |0,_=>by simp[PS]
 |a+1,g=>by
  have g:=Iv b c e f (sc:=sc) a O;have g:=S4 (sc:=sc) b c e (show a<2 by omega) (MB b c e f a O);simp only[PS,aJ];omega
def JC{sc e}(b:LO e)(c:e.v.length=8){a}(d:a.A):∀f,f<=2->(QP sc e a f).length<=126*f
 |0,_=>by simp[QP]
 |a+1,f=>by
  have f:=JC b c d (sc:=sc) a O;have f:=Iv (sc:=sc) b c (show a<2 by omega) (JB b c d a O) (nv e) (Ow e);have a:=Ow e;simp only[QP,aJ];split
  ·omega
  ·simp;omega
def PdR(a:T)(b c:Nat)(d:Option Nat)(e:List Bool)(f g:Nat)(h:je)(i:Bool)(l:St)(n:Mb)(o:Nat)(wr:T):Prop:=
 ∃p,Pt wr b c p (e++QP i n l o) f g h (OZ n l o) n/\qQ a wr c d f/\Rn a d p
def PkR(a:T)(b c:Nat)(d:Option Nat)(e:List Bool)(f g:Nat)(h:je)(i:Bool)(l:St)(n:Mb)(o p:Nat)(wr:T):Prop:=
 ∃q,Pt wr b c q (e++PS i n o l p) f g h (PR n o l p) n/\qQ a wr c d f/\Rn a d q
def Pt.Abr{f a n g o b c p h i}(q:Pt f a n b c g o p h i){r l}(d:r<2)(e:l<2):
  f.cell? ⟨o,5+r*4+l*2,S⟩=M (J E (vx i r l))/\f.cell? ⟨o,5+r*4+l*2+1,S⟩=M (J E (vy i r l))/\f.cell? ⟨o,13+r*2+l,S⟩=M (J E (sl i r l))/\
  f.cell? ⟨g,4+r*2,S⟩=M (J E (cM h.v (2*r)))/\f.cell? ⟨g,4+r*2+1,S⟩=M (J E (cM h.v (2*r+1))):=by
 have a:=q.mx.ok;have b:=q.so;refine⟨?_,?_,?_,?_,?_⟩
 ·have:=q.mx.j.cell _ (Mb.cV a (eh (l:=i.v) (k:=4*r+2*l) (iJ a.v)))
  rw[show 5+(4*r+2*l)=5+r*4+l*2 by omega] at this;exact this
 ·have:=q.mx.j.cell _ (Mb.cV a (eh (l:=i.v) (k:=4*r+2*l+1) (iJ a.v)))
  rw[show 5+(4*r+2*l+1)=5+r*4+l*2+1 by omega] at this;exact this
 ·have:=q.mx.j.cell _ (Mb.cS a (eh (l:=i.Z) (k:=2*r+l) (iJ a.Z)))
  rw[show 13+(2*r+l)=13+r*2+l by omega] at this;exact this
 ·refine q.px.cell _ (IV b n p o ?_)
  let ⟨a,c,d,e,f,g,h,i,_⟩:=St.ex b;rw[i];rcases(show r=0\/r=1 by omega) with rfl|rfl<;> rfl
 ·refine q.px.cell _ (IV b n p o ?_)
  let ⟨a,c,d,e,f,g,h,i,_⟩:=St.ex b;rw[i];rcases(show r=0\/r=1 by omega) with rfl|rfl<;> rfl
def Pt.all{p a b q c d e f g h}(U:Pt p a b d e q c f g h){r i}(z:r<2)(H:i<2){l n o s t}(u:l=vx h r i)(v:n=vy h r i)(w:o=sl h r i)(x:s=cM g.v (2*r))(y:t=cM g.v (2*r+1)):
  (p.cell? ⟨q,8,S⟩=M (aD (M ⟨b,0,S⟩))/\p.cell? ⟨q,13,S⟩=M (aD (M ⟨c,0,S⟩))/\q<p.heap.size/\c<p.heap.size)/\
  p.cell? ⟨c,5+r*4+i*2,S⟩=M (J E l)/\p.cell? ⟨c,5+r*4+i*2+1,S⟩=M (J E n)/\p.cell? ⟨c,13+r*2+i,S⟩=M (J E o)/\
  p.cell? ⟨q,4+r*2,S⟩=M (J E s)/\p.cell? ⟨q,4+r*2+1,S⟩=M (J E t)/\(p.frozen? ⟨q,4+r*2,S⟩=av/\p.frozen? ⟨q,4+r*2+1,S⟩=av):=by
 subst u v w x y;let ⟨a,b,c,d,e⟩:=U.Abr z H;exact⟨⟨U.c8,U.K8,U.px.lt,U.mx.lt⟩,a,b,c,d,e,U.px.frozen _,U.px.frozen _⟩
def Pt.alloc{a b c d e f g h i l}(n:Pt a b c f g d e h i l)(o):Pt (a.alloc o) b c f g d e h i l:=n.ext (jd)
def Pt.JO{a b q n r c d s e f}(v:Pt a b q c d n r s e f){t}(u:t<2){x y}(o:-63<=x/\x<=63)(p:-63<=y/\y<=63){g h}(i:g=4+t*2)(l:h=4+t*2+1):
  Pt ((a.setCell ⟨n,g,S⟩ (J E x)).setCell ⟨n,h,S⟩ (J E y)) b q c d n r s (e.JO t x y) f:=by
 subst i l;refine⟨(v.wr.C (a:=⟨n,_,S⟩) v.n1 v.n2 _).C (a:=⟨n,_,S⟩) v.n1 v.n2 _,?_,⟨(v.mx.j.C (a:=⟨n,_,S⟩) (Ne.symm v.n5) _).C (a:=⟨n,_,S⟩) (Ne.symm v.n5) _,v.mx.ok⟩,St.Pj v.so u o p,v.n1,v.n2,v.n3,v.n4,v.n5,by simpa[gS] using v.hB⟩;rw[<-SN v.so q s r t u x y];exact(v.px.L _ _).L _ _
def WT(a:je)(b:Mb)(c:St):List Bool:=if b.kind=2 then(if rq a=aB then[b.fp] else[])++QP (b.fp||im a) b c 2 else[]
def Vo(a:Mb)(b:St):St:=if a.kind=2 then OZ a b 2 else b
def PtM(a:T)(b c:Nat)(d:Option Nat)(e:List Bool)(f g:Nat)(h:je)(i:St)(l:Mb)(n:T):Prop:=∃o,Pt n b c o e f g h i l/\qQ a n c d f/\Rn a d o
def SK(t u:Nat)(v:Option Nat)(l:List Bool)(n o:Nat)(p:je)(q:St)(x:Mb)(r s:Bool)(a:x.u=[r,s])(w:T)(b:Pt w t u v l n o p q x)(c:x.kind=2)(d:LO x)(h i:Bool)(e:rq p=h)(f:(x.fp||im p)=i)(g:l.length<=70000000):
  aT aE 302 #[aD (M ⟨n,0,S⟩)] w (qP w t u v (l++((if h=aB then[x.fp] else[])++QP i x q 2)) n o p (OZ x q 2) x):=by
 let ⟨y,z⟩:=aQ b d;have H:=aH b.mx.ok.v;have U:=aH b.so;obtain⟨V,W,Y⟩:=bh (fun a0=>oM p a0) (fun a1 a2=>N6 o x a1 a2) (fun a3 a4=>F8 o p x a3 a4);rw[f] at Y;rw[e] at V;have a0:=aH a;have a1:=b.K8;have a2:=b.c9;have a3:=b.c10;have a4:=b.c11;have a5:=b.c12;have a6:=b.mx.c0;rw[c] at a6;have a7:=b.px.lt;have a8:=b.mx.lt;let ⟨a9,aa⟩:=aX (l++(if h=aB then[x.fp] else[]));obtain⟨ab,ac⟩:=aQ (show a9.length<=70000001 by rw[aa];split<;> simp<;> omega) g;rw[<-aW,<-aa];have ad:=aH aa;clear b d f a c e aa g;go_enter func302,ntmps302;go_wp2_with fail;refine mR (V.o _) fun a b=>?_
 have c:=mX b y;have d:=aH (qQ.of (R:=v) (gp:=n) (fO.bS u v b));have e:=b.size;clear a1 a2 a3 a4 a5 a6 a7 a8;go_upto_if 18 with fail;go_cut [] (fun f=>PtM w t u v a9 n o p q x f)
 case first=>
  cases h with
  |false=>
   go_wp2;go_meet;exact⟨v,by rw[ad.o];simpa using c.o,d.o,Rn.refl _ _⟩
  |true=>
   have f:=c.o.K8;have f:=c.o.px.lt;have f:=c.o.mx.lt;have f:=c.o.mx.c3;go_wp2_with fail;refine(DM t u v l n o p q x a x.fp c.o (dU ac.o)).mono ?_;rintro f g ⟨h,rfl,a1,a2,a3⟩;go_wp2;go_meet;exact⟨h,by rw[ad.o];simpa using a1,d.o.trans a2 (Rn.refl _ _),fun f g a4=>a3 f (dX g e) a4⟩
 case rest=>
 let ⟨f,g,h,a1⟩:=hcut;let ⟨a2,a3,a4⟩:=bh g h a1;clear g h a1;have g:=a2.o.K8;have h:=a2.o.px.lt;have a1:=a2.o.mx.lt;have a5:=a2.o.mx.j.cell _ (Mb.cU a2.o.mx.ok (d:=0) (b:=r) (oz a0.o));have a6:=a2.o.mx.j.cell _ (Mb.cU a2.o.mx.ok (d:=1) (b:=s) (oz a0.o));go_wp2;clear g h a1 a5 a6
 go_loopw [35] (fun g wr=>mD 2 (fun h wr=>PdR w t u v a9 n o p i q x h wr) g wr) (fun a1 _=>2-(intOf a1).toNat)
 case atStart=>exact⟨0,by omega,rfl,f,by simpa[QP,OZ] using a2.o,a3.o,a4.o⟩
 case round=>
  obtain⟨g,h,rfl,a1,a5,a6,a7⟩:=hrel;let ⟨a8,aa,ae⟩:=bh a5 a6 a7;have ag:=a6.size;clear a5 a6 a7
  by_cases a5:g<2
  ·have a6:g<2:=a5
   let ⟨a7,ah⟩:∃ai,[r,s][g]?=M ai:=⟨_,aA (jP a6)⟩;have ai:∀aj,(eT 270 (aG #[ao r,ao s]) (J E (g:Int))).run aE aj=.ok (ao a7) aj:=fun al=>wP (x:=[r,s]) rfl ah al
   have aj:=aH (show x.u.getD g av=a7 by rw[a0.o,jS,ah];rfl);clear ah;cases a7 with
   |false=>
    go_wp2;exact⟨⟨g+1,by omega,rfl,a1,by simp only[QP,OZ,aj.o,yP,if_false,kg];exact a8.o,aa.o,ae.o⟩,by simp[intOf];omega⟩
   |true=>
    have a7:=a8.o.K8;have ah:=a8.o.px.lt;have al:=a8.o.mx.lt;go_wp2_with fail;refine sQ (W.o _ a8.o.mx) ?_;have am:=aH a8.o;have ap:=aH aa.o;clear a7 ah al;let ⟨a7,ah⟩:=aX (nv x);let ⟨al,ar⟩:=aX (OZ x q g);let ⟨ax,ay⟩:=aX (a9++QP i x q g);have aV:a7<=2:=by rw[ah];exact Ow x
    have b0:=aH (show∀b1,b1<=2->ax.length+(PS i x g al b1).length<=70001000 from fun b2 b3=>by
     have b1:=Iv (sc:=i) z.o H.o (d:=g) a6 (s:=al) (by rw[ar];exact JB z.o H.o U.o _ (by omega)) b2 b3;have b1:=JC (sc:=i) z.o H.o U.o g (by omega);have b1:=ab.o;rw[ay,aJ];omega)
    have b1:=aH (show a9++QP i x q (g+1)=ax++PS i x g al a7/\OZ x q (g+1)=PR x g al a7 by
     rw[ay,ah,ar];simp only[QP,OZ,aj.o,if_true,aW,and_self])
    rw[<-ay,<-ar] at am;rw[show(if x.fp=aB then(2:Int) else 1)=((a7:Nat):Int) from by rw[ah];unfold nv;split<;> rfl];clear ah ar ay;go_wp2
    go_loopw [46] (fun ah wr=>mD a7 (fun ar wr=>PkR w t u v ax n o p i al x g ar wr) ah wr) (fun ay _=>a7-(intOf ay).toNat)
    case atStart=>exact⟨0,by omega,rfl,a1,by simpa[PS,PR] using am.o,ap.o,ae.o⟩
    case round=>
     obtain⟨ah,ar,rfl,ay,b2,b3,b4⟩:=hrel;let ⟨b5,b6,b7⟩:=bh b2 b3 b4;have b8:=b3.size;clear b2 b3 b4
     by_cases b2:ah<a7
     ·have b3:ah<2:=O
      have b4:=b0.o ah (by omega);let ⟨b9,ba⟩:=aX (vx x g ah);let ⟨bb,bc⟩:=aX (vy x g ah);let ⟨bd,be⟩:=aX (sl x g ah);let ⟨bf,bi⟩:=aX (cM (PR x g al ah).v (2*g));let ⟨bk,bl⟩:=aX (cM (PR x g al ah).v (2*g+1));have bn:-63<=b9/\b9<=63:=by rw[ba];exact z.o.at_ H.o (by omega)
      have br:-63<=bb/\bb<=63:=by rw[bc];exact z.o.at_ H.o (by omega)
      have bs:-63<=bf/\bf<=63:=by rw[bi];exact b5.o.so.vr _ (oF (iJ b5.o.so.v))
      have bt:-63<=bk/\bk<=63:=by rw[bl];exact b5.o.so.vr _ (oF (iJ b5.o.so.v))
      have bu:E.wrap (b9-bf)=b9-bf:=an _ (by omega);have bv:E.wrap (bb-bk)=bb-bk:=an _ (by omega);let ⟨bx,bz⟩:=aX (decide (bd=1));have bC:(bd==1)=bx:=by rw[bz,iF];simp
      let ⟨bK,bL⟩:=aX (ax++PS i x g al ah++(if i=aB then[bx] else[]));have bR:=aH (show ax++PS i x g al (ah+1)=bK++sv (b9-bf)++sv (bb-bk) by rw[bL,bz,be,ba,bc,bi,bl];simp only[PS,VP,aW]);have bU:bK.length<=70001001:=by rw[bL];cases i<;> simp<;> omega
      let ⟨bV,bY,c0,c1,c2,c3⟩:=ej bL ba bc be bi bl;clear bz ba bc be bi bl bL;let ⟨⟨ba,bc,be,bi⟩,bl,bz,bL,c4,c5,c6,c7⟩:=b5.o.all a6 b3 bY.o c0.o c1.o c2.o c3.o;have c8:=b5.o.c9;have c9:=b5.o.c10;have ca:=b5.o.c11;have cb:=b5.o.c12;go_wp2
      try simp only[sZ,ak]
      refine cH 8 dK dK ?_;simp only[cZ,dP,eN,eo]
      repeat(go_big_quiet_step (fail))
      refine aN ?_;go_wp2_with fail;refine mR (Y.o _ ((b5.o.drewN 1).mx)) fun cc cd=>?_
      obtain⟨ce,cf⟩:=aQ ((b5.o.drewN 1).ext cd) ((b6.o.drewN 1).trans (qQ.of (R:=ay) (gp:=n) (fO.bS u ay cd)) b7.o);have cg:=cf.o.size;clear ba bc be bi bl bz bL c4 c5 c6 c7 c8 c9 ca cb;go_upto_if 57 with fail;go_cut [] (fun ba=>PtM w t u v bK n o p (PR x g al ah) x ba)
      case first=>
       cases i with
       |false=>
        go_wp2;go_meet;exact⟨ay,by rw[bV.o];simpa using ce.o,cf.o,b7.o⟩
       |true=>
        obtain⟨⟨i,ba,bc,be⟩,bi,bl,bz,bL,c4,c5,c6⟩:=ce.o.all a6 b3 bY.o c0.o c1.o c2.o c3.o;go_wp2_with fail;refine(DM t u ay (ax++PS aB x g al ah) n o p (PR x g al ah) x cc bx ce.o eB).mono ?_;rintro i ba ⟨bc,rfl,be,bi,bl⟩;go_wp2;go_meet;exact⟨bc,by rw[bV.o];simpa using be,cf.o.trans bi b7.o,b7.o.trans (fun i ba bz=>bl i (dU cf.o.size) bz) (aw _)⟩
      case rest=>
      let ⟨i,ba,bc,be⟩:=hcut;let ⟨bi,bl,bz⟩:=bh ba bc be;have bL:=bl.o.size;clear ba bc be cg;let ⟨⟨ba,bc,be,c4⟩,c5,c6,c7,c8,c9,ca,cb⟩:=bi.o.all a6 b3 bY.o c0.o c1.o c2.o c3.o;go_upto_region 13 with fail;let ⟨cg,ch⟩:=aX wc;rw[<-ch] at bi bl bL ba bc be c4 c5 c6 c7 c8 c9 ca cb ⊢;clear ch;let ⟨ch,ci⟩:=aX cg.heap.size;obtain⟨ck,cl⟩:=aQ (bi.o.alloc (az #[J E b9,J E bb] 272)) (show qQ w (cg.alloc (az #[J E b9,J E bb] 272)) u v n from bl.o.trans (qQ.of (R:=i) (fO.alloc (fO.refl _ u i) _)) bz.o);have cn:Bx (cg.alloc (az #[J E b9,J E bb] 272)) ch 272 #[J E b9,J E bb]:=Bx.D _ _ _ _ ci;obtain⟨co,cp,cr⟩:=bh (Rn.new bi.o.wr (k:=ch) (by omega)) (show ch≠n by omega) cn;rw[<-ci];clear ba bc be c4 c5 c6 c7 c8 c9 ca cb cn;generalize cg.alloc (az #[J E b9,J E bb] 272)=ba at*
      clear ci;let ⟨⟨a,b,c,d⟩,e,f,h,l,n,o,p⟩:=ck.o.all a6 b3 bY.o c0.o c1.o c2.o c3.o;have q:=cr.o.cell 0 rfl;have r:=cr.o.cell 1 rfl
      try simp only[sZ,ak]
      refine cH 15 dK dK ?_;simp only[cZ,dP,eN,eo]
      repeat(go_big_quiet_step (fail))
      refine aN ?_;go_wp2_with fail;refine(mg t u i bK (b9-bf) _ (ck.o.drewN 1).wr (by omega) (by omega) (by omega) (ck.o.drewN 1).hB).mono ?_;rintro i s ⟨y,rfl,z,H,U⟩;obtain⟨i,V,W,Y,a0⟩:=dZ ((ck.o.drewN 1).put z H U) ((cl.o.drewN 1).trans (qQ.of H) bz.o) ((show Bx (ba.drewN 1) ch _ _ from cr.o).G H co.o.1 co.o.2) (show y≠M ch from U ch cr.o.lt co.o.2) (show Rn w v y from bz.o.trans (fun a1 a2 a3=>U a1 (dX a2 cl.o.size) a3) (aw _));clear a b c d e f h l n o p q r z H U;let ⟨⟨a,b,c,d⟩,e,f,h,l,n,o,p⟩:=i.o.all a6 b3 bY.o c0.o c1.o c2.o c3.o;have q:=W.o.cell 0 rfl;have r:=W.o.cell 1 rfl;have z:=Iy (v:=b9-bf) (by omega) (by omega);go_wp2
      try simp only[sZ,ak]
      refine cH 15 dK dK ?_;simp only[cZ,dP,eN,eo]
      repeat(go_big_quiet_step (fail))
      refine aN ?_;go_wp2_with fail;refine(mg t u y (bK++sv (b9-bf)) (bb-bk) _ (i.o.drewN 1).wr (by omega) (by omega) eB (i.o.drewN 1).hB).mono ?_;rintro t u ⟨y,rfl,z,H,U⟩;obtain⟨t,u,a1,a2⟩:=dq ((i.o.drewN 1).put z H U) ((V.o.drewN 1).trans (qQ.of H) a0.o) ((show Bx (s.drewN 1) ch _ _ from W.o).G H co.o.1 Y.o) (show Rn w v y from a0.o.trans (fun a3 a4 a5=>U a3 (dX a4 V.o.size) a5) (aw _));clear a b c d e f h l n o p q r z H U;let ⟨⟨a,b,c,d⟩,e,f,h,i,l,n,o⟩:=t.o.all a6 b3 bY.o c0.o c1.o c2.o c3.o;have a:=a1.o.cell 0 rfl;have a:=a1.o.cell 1 rfl;go_wp2
      try simp only[sZ,ak]
      refine cH 7 dK dK ?_;simp only[cZ,dP,eN,eo]
      repeat(go_big_quiet_step (fail))
      refine aN ?_;go_wp2;refine⟨⟨ah+1,by omega,rfl,y,?_,((u.o.drewN 1).G0 _ _).G0 _ _,a2.o⟩,by simp[intOf];omega⟩;have a:=(t.o.drewN 1).JO a6 bn br (x:=b9) (y:=bb) rfl rfl;rw[show PR x g al (ah+1)=(PR x g al ah).JO g b9 bb by rw[bY.o,c0.o];rfl,bR.o];exact a
     ·obtain rfl:ah=a7:=O
      go_wp2;rw[<-b1.o.1,<-b1.o.2] at b5;exact⟨⟨g+1,by omega,rfl,ay,b5.o,b6.o,b7.o⟩,by simp[intOf];omega⟩
  ·obtain rfl:g=2:=O
   go_wp2;go_end0;exact qP.of a8.o aa.o ae.o
def GA(a b:Nat)(c:Option Nat)(d:List Bool)(e f:Nat)(l:je)(n:St)(p:Mb)(g:T)(o:Pt g a b c d e f l n p)(h:LO p)(i:d.length<=70000000):
  aT aE 302 #[aD (M ⟨e,0,S⟩)] g (qP g a b c (d++WT l p n) e f l (Vo p n) p):=by
 obtain⟨q,r,s⟩:∃t u,p.u=[t,u]:=by
  have:=o.mx.ok.u;rcases hm:p.u with _|⟨t,_|⟨u,_|_⟩⟩<;> simp[hm] at this ⊢
 by_cases t:p.kind=2
 ·have u:WT l p n=(if rq l=aB then[p.fp] else[])++QP (p.fp||im l) p n 2:=if_pos t
  have v:Vo p n=OZ p n 2:=if_pos t;rw[u,v];exact SK a b c d e f l n p q r s g o t h _ _ rfl rfl i
 ·have a:WT l p n=[]:=if_neg t
  have b:Vo p n=n:=if_neg t;rw[a,b,kg];have a:=aH o;have b:=o.K8;have b:=o.mx.c0;have c:=o.px.lt;have c:=o.mx.lt;let ⟨c,d⟩:=aX p.kind;rw[<-d] at b t;have b:(c==2)=av:=by simpa using t
  clear d;go_enter func302,ntmps302;go_wp2;go_end0;exact qP.of a.o (qQ.refl _ _ _ _) (Rn.refl _ _)
def Gv{c:nt}{d:Array cQ}{e:List cQ}{f:cQ}{g:Act}{h:T->Prop}{i:Act->Prop}(n:bP f (xZ d g.tmps)=aB)(r:aR)(a:Gc)(s:f.op=.load r a)
  (t off u:Nat)(v:g.eval a=aD (M ⟨t,off,S⟩))(b:T)(q:∀Y,h Y->Y=b)(w:aR)(x l:Array aq)(y:Ac5)(z:Bx b t w x)(o:x.extract off (off+u)=l)(H:off+u<=x.size)
  (U:(match y with| .struct _| .array _ _=>aB|_=>av)=aB)(V:c.underlying r=M y)(W:(c.info? r).map (·.size)=M u)
  (p:kL c d h i e (g.put f.dst (aG l))):kL c d h i (f::e) g:=
 lZ n fun _ a=>by
  subst o;refine⟨aG (x.extract off (off+u)),fun b c=>?_,a _ p⟩;obtain rfl:=q b c;unfold nQ VI;simp only[s,v,yp,nO,fT,iT,dv,tB b t off u w r x (0,0) y z V (by cases y<;> exact U) W H];exact⟨rfl,rfl⟩
def Cs{a b c d e i l f}(n:bP c (xZ a d.tmps)=aB)(o off g)(h:off=24+64*g)(p:g<6)(q:c.op=.load 277 o)(r:d.eval o=aD (M ⟨l,off,S⟩))(s:Mx i l f)
  (t:kL aE a (fun u=>u=i) e b (d.put c.dst (aG (aS E (sP 64 f.I g))))):kL aE a (fun v=>v=i) e (c::b) d:=by
 subst h;exact Gv n 277 o q l _ 64 r i (fun _ a=>a) _ _ _ _ s.j (Mb.eL s.ok p) (iJ (Mb.size s.ok)) rfl ji gP t
def St.G2(a:St)(b:Nat)(c:Int):St:=⟨a.q,a.dc.set b c,a.v⟩
def Xh(a:Mb)(b:Nat)(c:St):List Bool:=if a.kind=2 then blk 1 ((sP 64 a.I b).drop 0) else sv (cM a.I (64*b)-cM c.dc (b-3))++blk 1 ((sP 64 a.I b).drop 1)
def DS(a:Mb)(b:St):Nat->St|0=>b|c+1=>if a.P.getD c av=aB/\a.kind≠2 then(DS a b c).G2 (c-3) (cM a.I (64*c)) else DS a b c
def Gj(a:Mb)(b:St):Nat->List Bool|0=>[]|c+1=>Gj a b c++(if a.P.getD c av=aB then Xh a c (DS a b c) else[])
def St.M1{a:St}(d:a.A)(b){c}(e:-4095<=c/\c<=4095):(a.G2 b c).A:=by
 let ⟨a,b,c,f,g,h⟩:=d;refine⟨a,b,by simp[St.G2,c],?_,g,h⟩;intro a b;unfold St.G2 at b;rcases s6 b with c|rfl
 ·exact f a c
 ·exact e
def Nd{a}(e:E6 a)(c:a.I.length=384){b}(d:b.A):∀f,f<=6->(DS a b f).A
 |0,_=>d
 |a+1,b=>by
  have b:=Nd e c d a O;unfold DS;split
  ·exact St.M1 b _ (e _ (oF O))
  ·exact b
def DT{d}(c:E6 d)(a:d.I.length=384){e}(b:e.A):∀f,f<=6->(Gj d e f).length<=4100*f
 |0,_=>by simp[Gj]
 |f+1,g=>by
  have g:=DT c a b f O;have g:(sP 64 d.I f).length=64:=sa O;have g:=JF 1 ((sP 64 d.I f).drop 0) eB (fun h i=>c h (xw (iw i)));have h:=JF 1 ((sP 64 d.I f).drop 1) eB (fun i l=>c i (xw (iw l)));have i:=Nd c a b f O;have a:=c _ (oF (l:=d.I) (k:=64*f) O);have a:=i.dr _ (oF (l:=(DS d e f).dc) (k:=f-3) (iJ i.dc));have a:=En (v:=cM d.I (64*f)-cM (DS d e f).dc (f-3)) O O;simp only[jO] at g h;simp only[Gj,aJ];split
  ·unfold Xh
   split
   ·omega
   ·rw[aJ];omega
  ·simp;omega
def Qr{a}(g:a.A)(b c d h)(e:h<3)(f):(MX a b c d).setIfInBounds (1+h) (J E f)=MX (a.G2 h f) b c d:=by
 let ⟨a,b,c,d,e,f,i,l,_⟩:=St.ex g;rw[l];rcases(show h=0\/h=1\/h=2 by omega) with rfl|rfl|rfl<;> rfl
def Pt.dc{a b i c l d e n f g}(o:Pt a b i d e c l n f g){p}(h:p<3):a.cell? ⟨c,1+p,S⟩=M (J E (cM f.dc p)):=by
 refine o.px.cell _ (IV o.so i n l ?_);let ⟨a,b,c,d,e,f,g,h,_⟩:=St.ex o.so;rw[h];rcases(show p=0\/p=1\/p=2 by omega) with rfl|rfl|rfl<;> rfl
def Pt.YN{h a b i l c d e f t}(u:Pt h a b c d i l e f t){v n}(g:v<6)(s:n<3){o p}(q:o=cM t.I (64*v))(r:p=cM f.dc n):
  (h.cell? ⟨i,8,S⟩=M (aD (M ⟨b,0,S⟩))/\h.cell? ⟨i,13,S⟩=M (aD (M ⟨l,0,S⟩))/\i<h.heap.size/\l<h.heap.size)/\h.cell? ⟨l,0,S⟩=M (J E t.kind)/\
  h.cell? ⟨l,24+v*64,S⟩=M (J E o)/\h.cell? ⟨i,1+n,S⟩=M (J E p)/\h.frozen? ⟨i,1+n,S⟩=av:=by
 subst q r;refine⟨⟨u.c8,u.K8,u.px.lt,u.mx.lt⟩,u.mx.c0,?_,u.dc s,u.px.frozen _⟩;have:=u.mx.j.cell _ (Mb.cL u.mx.ok (eh (l:=t.I) (k:=64*v) (iJ u.mx.ok.I)));rw[show 24+64*v=24+v*64 by omega] at this;exact this
def LvR(a:T)(b c:Nat)(d:Option Nat)(e:List Bool)(f g:Nat)(h:je)(i:St)(l:Mb)(n:Nat)(wr:T):Prop:=
 ∃o,Pt wr b c o (e++Gj l i n) f g h (DS l i n) l/\qQ a wr c d f/\Rn a d o
def MV(h i:Nat)(l:Option Nat)(o:List Bool)(a b:Nat)(c:je)(p:St)(q:Mb)(n:T)(d:Pt n h i l o a b c p q)(e:q.kind=2)(f:E6 q)(g:o.length<=69000000):
  aT aE 305 #[aD (M ⟨a,0,S⟩)] n (qP n h i l (o++Gj q p 6) a b c (DS q p 6) q):=by
 let ⟨r,s⟩:=aQ d f;have t:=aH d.mx.ok.I;have u:=aH d.so;have v:=aH e;have w:=d.K8;have x:=d.px.lt;have y:=d.mx.lt;have z:=d.mx.ok.P;have H:=aH d.mx;obtain⟨U,V⟩:=aQ z (fun W Y=>DT f d.mx.ok.I d.so W Y);go_enter func305,ntmps305;go_wp2_with ((refine pf dW (aI 10) rfl rfl H.o ?_))
 go_loopw [12] (fun W wr=>mD 6 (fun Y wr=>LvR n h i l o a b c p q Y wr) W wr) (fun a0 _=>6-(intOf a0).toNat)
 case atStart=>exact⟨0,by omega,rfl,l,by simpa[Gj,DS] using r.o,qQ.refl _ _ _ _,Rn.refl _ _⟩
 case round=>
  obtain⟨W,Y,rfl,a0,a1,a2,a3⟩:=hrel;let ⟨a4,a5,a6⟩:=bh a1 a2 a3;have a7:=a2.size
  by_cases a8:W<6
  ·have a9:q.P[W]?=M (q.P[W]'(iJ U.o)):=aA _
   have aa:=fun ab=>wO U.o a9 ab
   generalize q.P[W]'(iJ U.o)=ab at*
   have a:=aH a9;clear a9;have b:=V.o W O;cases ab with
   |false=>
    go_wp2;refine⟨⟨W+1,by omega,by go_num,a0,?_,a5.o,a6.o⟩,by simp[intOf];omega⟩;simpa[Gj,DS,a.o] using a4.o
   |true=>
    let ⟨b,c⟩:=aX (cM q.I (64*W));let ⟨b,d⟩:=aX (W-3);let ⟨d,e⟩:=aX (cM (DS q p W).dc b);let ⟨⟨d,f,g,r⟩,u,w,x,y⟩:=a4.o.YN a8 (show b<3 by omega) c e;rw[v.o] at u;go_wp2
    try simp only[sZ,ak]
    refine cH 13 dK dK ?_;simp only[cZ,dP,eN,eo];iterate 12 (go_big_quiet_step (fail))
    refine Cs rfl (aI 37) (24+W*64) W O a8 rfl rfl (a4.o.drewN 1).mx ?_;refine aN ?_;simp only[sZ,ak];go_wp2_with fail;refine(Ia h i a0 (o++Gj q p W) (sP 64 q.I W) (sa (iJ t.o)) (fun b c=>s.o b (xw c)) 0 (.inl rfl) _ (a4.o.drewN 1).wr eB (a4.o.drewN 1).hB).mono ?_;rintro b c ⟨d,rfl,e,f,g⟩;obtain⟨b,c,h⟩:=bh ((a4.o.drewN 1).put e f g) ((a5.o.drewN 1).trans (qQ.of f) a6.o) (show Rn n l d from a6.o.trans (fun i r s=>g i (dX r a7) s) (aw _));go_wp2;refine⟨⟨W+1,by omega,by go_num,d,?_,c.o,h.o⟩,by simp[intOf];omega⟩;have c:q.P.getD W av=aB:=by rw[jr,a.o];rfl
    rw[show DS q p (W+1)=DS q p W by show(if _ then _ else _)=_;rw[if_neg (by simp[v.o])],show o++Gj q p (W+1)=o++Gj q p W++blk 1 ((sP 64 q.I W).drop 0) by show o++(_++(if _ then _ else _))=_;rw[if_pos c,<-aW];unfold Xh;rw[if_pos v.o]];exact b.o
  ·obtain rfl:W=6:=O
   go_wp2;go_end0;exact qP.of a4.o a5.o a6.o
def MW(h i:Nat)(l:Option Nat)(o:List Bool)(a b:Nat)(c:je)(p:St)(q:Mb)(n:T)(d:Pt n h i l o a b c p q)(e:q.kind≠2)(f:E6 q)(g:o.length<=69000000):
  aT aE 305 #[aD (M ⟨a,0,S⟩)] n (qP n h i l (o++Gj q p 6) a b c (DS q p 6) q):=by
 let ⟨r,s⟩:=aQ d f;have t:=aH d.mx.ok.I;have u:=aH d.so;have v:=aH e;have w:=d.K8;have x:=d.px.lt;have y:=d.mx.lt;have z:=d.mx.ok.P;have H:=aH d.mx;obtain⟨U,V⟩:=aQ z (fun W Y=>DT f d.mx.ok.I d.so W Y);go_enter func305,ntmps305;go_wp2_with ((refine pf dW (aI 10) rfl rfl H.o ?_))
 go_loopw [12] (fun W wr=>mD 6 (fun Y wr=>LvR n h i l o a b c p q Y wr) W wr) (fun a0 _=>6-(intOf a0).toNat)
 case atStart=>exact⟨0,by omega,rfl,l,by simpa[Gj,DS] using r.o,qQ.refl _ _ _ _,Rn.refl _ _⟩
 case round=>
  obtain⟨W,Y,rfl,a0,a1,a2,a3⟩:=hrel;let ⟨a4,a5,a6⟩:=bh a1 a2 a3;have a7:=a2.size
  by_cases a8:W<6
  ·have a9:q.P[W]?=M (q.P[W]'(iJ U.o)):=aA _
   have aa:=fun ab=>wO U.o a9 ab
   generalize q.P[W]'(iJ U.o)=ab at*
   have ac:=aH a9;clear a9;have a9:=V.o W O;cases ab with
   |false=>
    go_wp2;refine⟨⟨W+1,by omega,by go_num,a0,?_,a5.o,a6.o⟩,by simp[intOf];omega⟩;simpa[Gj,DS,ac.o] using a4.o
   |true=>
    let ⟨ab,ad⟩:=aX (cM q.I (64*W));let ⟨ae,ag⟩:=aX (W-3);let ⟨ah,ai⟩:=aX (cM (DS q p W).dc ae);have aj:(q.kind==2)=av:=by simpa using v.o
    have al:=aH (show∀am,aT aE 265 #[J E W] am fun ap ar=>ap=aK (J E (ae:Int))/\ar=am from fun ax=>(Ay W a8 ax).mono (by rintro ay aV ⟨rfl,rfl⟩;exact⟨by rw[ag],rfl⟩));have am:ae<3:=O;let ⟨ap,ar,ax⟩:=bh ad ai ag;clear ad ai ag;have ad:=s.o ab (by rw[ap.o];exact oF (iJ t.o));have ag:=a4.o.so.dr ah (by rw[ar.o];exact oF (iJ a4.o.so.dc));have ai:E.wrap (ab-ah)=ab-ah:=an _ O;have ay:=En (v:=ab-ah) O O;let ⟨⟨aV,b0,b1,b2⟩,b3,b4,b5,b6⟩:=a4.o.YN a8 am ap.o ar.o;go_upto_region 6 with fail;go_quiet (exact uX (al.o _));go_wp2;let ⟨b7,b8⟩:=aX (wr.drewN nq);obtain⟨b9,ba⟩:=aQ (show Pt b7 h i a0 (o++Gj q p W) a b c (DS q p W) q by rw[b8];exact a4.o.drewN nq) (show qQ n b7 i l a by rw[b8];exact a5.o.drewN nq);rw[<-b8];clear b8;have b8:=ba.o.size;let ⟨⟨bb,bc,bd,be⟩,bf,bi,bk,bl⟩:=b9.o.YN a8 am ap.o ar.o
    try simp only[sZ,ak]
    refine cH 18 dK dK ?_;simp only[cZ,dP,eN,eo]
    repeat(go_big_quiet_step (fail))
    refine aN ?_;go_wp2_with fail;refine(mg h i a0 (o++Gj q p W) (ab-ah) _ (b9.o.drewN 1).wr O O eB (b9.o.drewN 1).hB).mono ?_;rintro bn br ⟨bs,rfl,bt,bu,bv⟩;obtain⟨bx,bz,bC⟩:=bh ((b9.o.drewN 1).put bt bu bv) ((ba.o.drewN 1).trans (qQ.of bu) a6.o) (show Rn n l bs from a6.o.trans (fun bK bL bR=>bv bK (dX bL b8) bR) (aw _));have bK:=bz.o.size;let ⟨⟨bL,bR,bU,bV⟩,bY,c0,c1,c2⟩:=bx.o.YN a8 am ap.o ar.o;go_upto_region 9 with fail;obtain⟨c3,c4⟩:=aQ (show Pt (br.setCell ⟨a,1+ae,S⟩ (J E ab)) h i bs (o++Gj q p W++sv (ab-ah)) a b c ((DS q p W).G2 ae ab) q from bx.o.G0 (1+ae) (J E ab) (St.M1 bx.o.so ae ad) (Qr bx.o.so i c b ae am ab)) (show qQ n (br.setCell ⟨a,1+ae,S⟩ (J E ab)) i l a from bz.o.G0 _ _);generalize br.setCell ⟨a,1+ae,S⟩ (J E ab)=c5 at*
    have a:=c4.o.size;have b:=c3.o.c8;have b:=c3.o.K8;have b:=c3.o.px.lt;have b:=c3.o.mx.lt
    try simp only[sZ,ak]
    refine cH 13 dK dK ?_;simp only[cZ,dP,eN,eo];iterate 12 (go_big_quiet_step (fail))
    refine Cs rfl (aI 89) (24+W*64) W O a8 rfl rfl (c3.o.drewN 1).mx ?_;refine aN ?_;simp only[sZ,ak];go_wp2_with fail;refine(Ia h i bs (o++Gj q p W++sv (ab-ah)) (sP 64 q.I W) (sa (iJ t.o)) (fun b c=>s.o b (xw c)) 1 (.inr rfl) _ (c3.o.drewN 1).wr eB (c3.o.drewN 1).hB).mono ?_;rintro b c ⟨d,rfl,e,f,g⟩;obtain⟨b,c,h⟩:=bh ((c3.o.drewN 1).put e f g) ((c4.o.drewN 1).trans (qQ.of f) bC.o) (show Rn n l d from bC.o.trans (fun i r s=>g i (dX r a) s) (aw _));go_wp2;refine⟨⟨W+1,by omega,by go_num,d,?_,c.o,h.o⟩,by simp[intOf];omega⟩;have a:q.P.getD W av=aB:=by rw[jr,ac.o];rfl
    rw[show DS q p (W+1)=(DS q p W).G2 ae ab by show(if _ then _ else _)=_;rw[if_pos ⟨a,v.o⟩,ap.o,ax.o],show o++Gj q p (W+1)=o++Gj q p W++sv (ab-ah)++blk 1 ((sP 64 q.I W).drop 1) by show o++(_++(if _ then _ else _))=_;rw[if_pos a];unfold Xh;rw[if_neg v.o,ap.o,ar.o,ax.o];simp only[aW]];exact b.o
  ·obtain rfl:W=6:=O
   go_wp2;go_end0;exact qP.of a4.o a5.o a6.o
def Qp(a b c d e f g h i l)(n:Pt l a b c d e f g h i)(o:E6 i)(p:d.length<=69000000):
  aT aE 305 #[aD (M ⟨e,0,S⟩)] l (qP l a b c (d++Gj i h 6) e f g (DS i h 6) i):=by
 by_cases q:i.kind=2
 ·exact MV a b c d e f g h i l n q o p
 ·exact MW a b c d e f g h i l n q o p
def zk(a:je)(b:Mb)(c:St):Nat->List Bool
 |0=>[]
 |1=>Xm a b (b.u.getD 0 av) (b.u.getD 1 av)
 |2=>Xm a b (b.u.getD 0 av) (b.u.getD 1 av)++WT a b c
 |3=>Xm a b (b.u.getD 0 av) (b.u.getD 1 av)++WT a b c++chB a b
 |4=>Xm a b (b.u.getD 0 av) (b.u.getD 1 av)++WT a b c++chB a b++cdB b
 |_=>Xm a b (b.u.getD 0 av) (b.u.getD 1 av)++WT a b c++chB a b++cdB b++Gj b (Vo b c) 6
def AB(a:Mb)(b:St):Nat->St
 |0=>b
 |1=>b
 |2=>Vo a b
 |3=>Vo a b
 |4=>Vo a b
 |_=>DS a (Vo a b) 6
def mbB(a:je)(b:Mb)(c:St):List Bool:=zk a b c 5
def mS(a:Mb)(b:St):St:=(AB a b 5).after a.kind
def VT{a}(b:a<=7):(uv a).length<=31:=Em O
def WS{c b a}(d:LO b)(e:b.v.length=8)(f:a.A):(WT c b a).length<=253:=by
 unfold WT;have:=JC (sc:=(b.fp||im c)) d e f 2 O;split
 ·rw[aJ]
  split
  ·simp only[cW];omega
  ·simp only[eK];omega
 ·simp
def Yi(a b):(chB a b).length<=32:=by
 have:=En (v:=0) O O;unfold chB;split
 ·rw[aJ]
  split
  ·simp only[cW];omega
  ·simp only[eK];omega
 ·simp
def Yk{a}(b:a.P.length=6):(cdB a).length<=6:=by
 unfold cdB;split
 ·omega
 ·simp
def SP{a b}(c:LO a)(d:a.v.length=8)(e:b.A):(Vo a b).A:=by
 unfold Vo;split
 ·exact JB c d e 2 O
 ·exact e
def Xl(a b c d):(Xm a b c d).length<=31:=by
 unfold Xm;split
 ·simp
 ·refine VT ?_
  unfold Vq
  repeat' split
  all_goals omega
def L4{c b a}(d:b.A)(e:LO b)(f:E6 b)(g:a.A)(h):(zk c b a h).length<=24922:=by
 have a:=Xl c b (b.u.getD 0 av) (b.u.getD 1 av);have a:=WS (c:=c) e d.v g;have a:=Yi c b;have a:=Yk d.P;have a:=DT f d.I (SP e d.v g) 6 O;rcases h with _|_|_|_|_|a<;> simp only[zk,aJ,eK]<;> omega
def Ai9(a:T)(b c:Nat)(d:Option Nat)(e:List Bool)(f:St)(g:Ending)(h:T):Prop:=
 ∃i,g=aK (fE #[f.val,J E 0])/\Wr h b c i e/\fO a h c d/\Rn a d i
def MpR(a:T)(b c:Nat)(d:Option Nat)(e:List Bool)(f g:Nat)(h:je)(i:St)(l:Mb)(n:Nat)(wr:T):Prop:=
 ∃o,Pt wr b c o (e++zk h l i n) f g h (AB l i n) l/\qQ a wr c d f/\Rn a d o
def dT{a:nt}{b:Func}{c e:Tmp}{i l:aR}(n:b.results=#[.cell c i,.tmp e])(f:Array aq)(o:T)(p:Nat)(q:Array aq)(g:aq)(r:Ac5)
  (d:f.getD c sJ=aD (M ⟨p,0,S⟩))(h:f.getD e sJ=g)(s:Bx o p l q)
  (t:(match r with| .struct _| .array _ _=>aB|_=>av)=aB)(u:a.underlying i=M r)(v:(a.info? i).map (·.size)=M q.size):
  (Ih b f).run a o=.ok (fE #[aG q,g]) o:=by
 have a:f[c]?.getD sJ=aD (M ⟨p,0,S⟩):=by simpa using d
 have b:f[e]?.getD sJ=g:=by simpa using h
 simp[Ih,n,a,b,asAddr,tm o p l i q (0,0) r s u (by cases r<;> exact t) v]
def vK{i l n o p q}(z:n.guard=S)(H U)(V:n.op=.store 324 H U)
  (W){r s t u v w x y}(Y:o.eval H=aD (M ⟨W,0,S⟩))(a0:o.eval U=aG #[J E r,J E s,J E t,J E u,J E v,J E w,J E x,J E y])
  {a1 a b c d e f g h}(a2:Bx p W a1 #[a,b,c,d,e,f,g,h])
  (a3:cG aE i q l (o.put n.dst sJ) (p.setRow W #[J E r,J E s,J E t,J E u,J E v,J E w,J E x,J E y])):cG aE i q (n::l) o p:=
 vA z _ H U V W _ Y a0 a1 _ a2 kt rfl (by simp[cJ]) a3
def Wr.JQ{f a g c d}(e:Wr f a g c d){b}(h:b≠g)(l:c≠M b)(i):Wr (f.setRow b i) a g c d:=by
 obtain⟨⟨a,c,d,n⟩,o,p⟩:=e;refine⟨⟨a,c,d.K (iD f b g i (Ne.symm h)),n.grown (row:=M b) ⟨rfl,rfl,rfl,by simp,fun e _ q=>iD f b e i (fun r=>q (by rw[r]))⟩ ?_⟩,o,p⟩;exact .inr (D8 c l)
structure YD(o p:T)(h i:Nat)(l:Option Nat)(n:List Bool)(a c e g:Nat)(b d:Array aq)(f:Mb):Prop where
 b5:Bx p a 283 b
 b6:Bx p c 324 d
 b7:Mx p e f
 b8:Bx p g 324 #[J E 0,J E 0,J E 0,J E 0,J E 0,J E 0,J E 0,J E 0]
 wr:Wr p h i l n
 F:bj o.heap.size o p
def YD.ext{a b c d e f g h i l n o p q}(r:YD a b d e f g h i l n o p q)(s:bj b.heap.size b c):YD a c d e f g h i l n o p q:=
 ⟨r.b5.ext s,r.b6.ext s,r.b7.ext s,r.b8.ext s,r.wr.ext s,r.F.trans (s.mono r.F.size)⟩
instance {w w' x0 x2 x3 x4 x5 x6 x7 x8 x9 x10 x11 x12}:Tr w w' (YD x0 w x2 x3 x4 x5 x6 x7 x8 x9 x10 x11 x12) (YD x0 w' x2 x3 x4 x5 x6 x7 x8 x9 x10 x11 x12):=⟨fun hb h=>YD.ext h hb⟩
def Tf(q r:Nat)(p:Option Nat)(s:List Bool)(a:je)(d:a.A)(t:St)(e:t.A)(u:Mb)(f:u.A)(o:FT a u)(g:LO u)(h:E6 u)(i:u.delta=0)(n:T)(l:Wr n q r p s)(b:q<=n.heap.size)(c:s.length<=68000000):
  aT aE 281 #[aD (M ⟨r,0,S⟩),a.v,t.val,aG u.cells] n (Ai9 n q r p (s++mbB a u t) (mS u t)):=by
 obtain⟨v,w,x,y,z,H⟩:=ej (fun U=>xB a d u f o U) (fun V=>Kv t e V) (mh t.q e.q1 e.q2) e f g;obtain⟨U,V,W⟩:=bh h i (fun Y=>L4 (c:=a) f g h e Y);have Y:=e.q1;have a0:=e.q2;obtain⟨a1,a2,a3,a4,a5,a6,a7,a8,_⟩:=St.ex e;obtain⟨a9,aa⟩:=aX t.q;rw[<-aa] at a8 x Y a0;have ab:t.val=aG #[J E a9,J E a1,J E a2,J E a3,J E a4,J E a5,J E a6,J E a7]:=by rw[a8];rfl
 have ac:E.wrap (a9+0)=a9:=by rw[Ps];exact an a9 O
 rw[ab] at w ⊢;obtain⟨ad,ae,ag,ah⟩:=a;unfold je.v at*;dsimp only at*;clear d e f o g h i;obtain⟨a,b⟩:=aQ a8 l;clear a8 ab aa l;obtain⟨c,d⟩:=aX ((((n.alloc (az #[J E ad,J E ae,ao ag,ao ah] 283)).alloc (az #[J E a9,J E a1,J E a2,J E a3,J E a4,J E a5,J E a6,J E a7] 324)).alloc (az u.cells 280)).alloc (az #[J E 0,J E 0,J E 0,J E 0,J E 0,J E 0,J E 0,J E 0] 324))
 have e:=aH (show YD n c q r p s n.heap.size (n.heap.size+1) (n.heap.size+1+1) (n.heap.size+1+1+1) #[J E ad,J E ae,ao ag,ao ah] #[J E a9,J E a1,J E a2,J E a3,J E a4,J E a5,J E a6,J E a7] u by
  rw[d];refine⟨(((Bx.new _ _ _).alloc _).alloc _).alloc _,((Bx.D _ _ _ _ dS).alloc _).alloc _,⟨(Bx.D _ _ _ _ dS).alloc _,z.o⟩,Bx.D _ _ _ _ dS,(((b.o.alloc _).alloc _).alloc _).alloc _,((((aM _ _).alloc (aw _) _).alloc dS _).alloc eB _).alloc eB _⟩)
 go_enter func281,ntmps281;go_upto_region 1 with fail;rw[<-d];clear d;obtain⟨c,d⟩:=aX n.heap.size;obtain⟨f,g⟩:=aX (n.heap.size+1);obtain⟨h,i⟩:=aX (n.heap.size+1+1);obtain⟨l,Y⟩:=aX (n.heap.size+1+1+1);rw[<-Y,<-i,<-g,<-d] at e ⊢;have a0:=aH (show c=n.heap.size/\f=n.heap.size+1/\h=n.heap.size+2/\l=n.heap.size+3 from⟨d,g,by omega,by omega⟩);clear d g i Y;have d:=e.o.b5.cell 0 rfl;have g:=e.o.b5.cell 1 rfl;have i:=e.o.b5.cell 2 rfl;have Y:=e.o.b5.cell 3 rfl;go_wp2_with ((with_reducible refine fM dW (aI 7) rfl rfl e.o.b7 ?_));refine(v.o _).mono ?_;rintro v a8 ⟨rfl,aa⟩;have v:=mX aa e;clear d g i Y aa;have d:=v.o.b6.cell 0 rfl;have e:=v.o.b6.cell 1 rfl;have g:=v.o.b6.cell 2 rfl;have i:=v.o.b6.cell 3 rfl;have Y:=v.o.b6.cell 4 rfl;have a8:=v.o.b6.cell 5 rfl;have aa:=v.o.b6.cell 6 rfl;have ab:=v.o.b6.cell 7 rfl;go_wp2_with fail;refine(w.o _).mono ?_;rintro w ac ⟨rfl,ai⟩;have w:=mX ai v;clear d e g i Y a8 aa ab ai;have d:=w.o.b6.cell 0 rfl;have e:=w.o.b6.cell 1 rfl;have g:=w.o.b6.cell 2 rfl;have i:=w.o.b6.cell 3 rfl;have v:=w.o.b6.cell 4 rfl;have Y:=w.o.b6.cell 5 rfl;have a8:=w.o.b6.cell 6 rfl;have aa:=w.o.b6.cell 7 rfl;have ab:=w.o.b5.cell 0 rfl;have ai:=w.o.b5.cell 1 rfl;have aj:=w.o.b5.cell 2 rfl;have al:=w.o.b5.cell 3 rfl;have am:=w.o.b7.Rx;rw[V.o] at am;have ap:=w.o.b7.lt;go_wp2_with fail;refine(x.o _).mono ?_;rintro x ar ⟨rfl,rfl⟩;go_upto_region 6 with fail;clear d e g i v Y a8 aa ab ai aj al am ap;obtain⟨d,e⟩:=aX ac.heap.size;obtain⟨g,i⟩:=aX (ac.alloc (az #[J E a9,J E a1,J E a2,J E a3,J E a4,J E a5,J E a6,J E a7,aD (M ⟨r,0,S⟩),J E ad,J E ae,ao ag,ao ah,aD (M ⟨h,0,S⟩)] 423));have v:YD n g q r p s c f h l #[J E ad,J E ae,ao ag,ao ah] #[J E a9,J E a1,J E a2,J E a3,J E a4,J E a5,J E a6,J E a7] u:=by rw[i];exact w.o.ext ((aM _ _).alloc (aw _) _)
 have x:Bx g d 423 (MX t r ⟨ad,ae,ag,ah⟩ h):=by rw[i,a.o];exact Bx.D _ _ _ _ e
 rw[<-i,<-e];obtain⟨a,Y,a8⟩:=bh x v e;clear i e v x;go_upto_region 7 with fail;obtain⟨e,i⟩:=aX g.heap.size;obtain⟨v,x⟩:=aX (g.alloc (az #[.func (Fn.func 301) #[] #[],.func (Fn.func 302) #[] #[],.func (Fn.func 303) #[] #[],.func (Fn.func 304) #[] #[],.func (Fn.func 305) #[] #[]] 424));have g:=DZ x i;have aa:=aH (show YD n v q r p s c f h l #[J E ad,J E ae,ao ag,ao ah] #[J E a9,J E a1,J E a2,J E a3,J E a4,J E a5,J E a6,J E a7] u by rw[x];exact Y.o.ext ((aM _ _).alloc (aw _) _))
 have c:=aH (show Pt v q r p s d h ⟨ad,ae,ag,ah⟩ t u from by
  have f:=w.o.F.size;have a1:=a0.o;have a1:=Rn.new b.o (k:=h) O;have a2:=Rn.new b.o (k:=d) (eZ a8.o f);have f:=w.o.b7.j.lt;refine⟨aa.o.wr,by rw[x];exact a.o.alloc _,aa.o.b7,y.o,a2.1,a2.2,a1.1,a1.2,by rw[a8.o];omega,?_⟩;have:=aa.o.F.size;omega)
 have f:=aH (show(e≠r/\p≠M e/\e≠d)/\(l≠r/\p≠M l/\l≠d)/\n.heap.size<=d from by
  have n:=w.o.F.size;have y:=a0.o;have y:=Y.o.F.size;have Y:=Rn.new b.o (k:=e) (eZ i y);have y:=Rn.new b.o (k:=l) O;have b:=w.o.b8.lt;have b:=a.o.lt;exact⟨⟨Y.1,Y.2,by omega⟩,⟨y.1,y.2,by rw[a8.o];omega⟩,by rw[a8.o];exact n⟩)
 have a:=aH (show u.u=[u.u.getD 0 av,u.u.getD 1 av] from by
  have:=z.o.u;rcases o:u.u with _|⟨b,_|⟨n,_|_⟩⟩<;> simp[o] at this ⊢)
 rw[<-x,<-i];clear x i
 go_loopw [41] (fun b wr=>mD 5 (fun i wr=>MpR v q r p s d h ⟨ad,ae,ag,ah⟩ t u i wr) b wr) (fun n _=>5-(intOf n).toNat)
 case atStart=>exact⟨0,by omega,rfl,p,by simpa[zk,AB] using c.o,qQ.refl _ _ _ _,Rn.refl _ _⟩
 case round=>
  obtain⟨b,c,rfl,i,n,o,p⟩:=hrel;obtain⟨c,v,w⟩:=bh n o p;have x:=o.size;have y:=g.o.K (o.block e g.o.lt (fun z=>z.elim f.o.1.1 (fun Y=>Y.elim f.o.1.2.1 f.o.1.2.2)));clear n o p;rcases(show b=0\/b=1\/b=2\/b=3\/b=4\/b=5 by omega) with rfl|rfl|rfl|rfl|rfl|rfl
  ·have b:=y.cell 0 rfl
   have e:=W.o 0;clear y;go_wp2_with fail;refine(WR q r i (s++zk ⟨ad,ae,ag,ah⟩ u t 0) d h ⟨ad,ae,ag,ah⟩ (AB u t 0) u (u.u.getD 0 av) (u.u.getD 1 av) a.o wr c.o eB).mono ?_;rintro a g ⟨n,rfl,o,p,z⟩;obtain⟨a,g,Y⟩:=bh o (v.o.trans p w.o) (w.o.trans z x);clear o p z b e;go_wp2;exact⟨⟨1,by omega,rfl,n,by have:=a.o;simpa[zk,AB] using this,g.o,Y.o⟩,by decide⟩
  ·have a:=y.cell 1 rfl
   have b:=W.o 1;clear y;go_wp2_with fail;refine(GA q r i (s++zk ⟨ad,ae,ag,ah⟩ u t 1) d h ⟨ad,ae,ag,ah⟩ (AB u t 1) u wr c.o H.o eB).mono ?_;rintro e g ⟨n,rfl,o,p,z⟩;obtain⟨e,g,H⟩:=bh o (v.o.trans p w.o) (w.o.trans z x);clear o p z a b;go_wp2;exact⟨⟨2,by omega,rfl,n,by have:=e.o;simpa[zk,AB] using this,g.o,H.o⟩,by decide⟩
  ·have a:=y.cell 2 rfl
   have b:=W.o 2;clear y;go_wp2_with fail;refine(Qq q r i (s++zk ⟨ad,ae,ag,ah⟩ u t 2) d h ⟨ad,ae,ag,ah⟩ (AB u t 2) u wr c.o V.o eB).mono ?_;rintro e g ⟨n,rfl,o,p,z⟩;obtain⟨e,g,H⟩:=bh o (v.o.trans p w.o) (w.o.trans z x);clear o p z a b;go_wp2;exact⟨⟨3,by omega,rfl,n,by have:=e.o;simpa[zk,AB] using this,g.o,H.o⟩,by decide⟩
  ·have a:=y.cell 3 rfl
   have b:=W.o 3;clear y;go_wp2_with fail;refine(SM q r i (s++zk ⟨ad,ae,ag,ah⟩ u t 3) d h ⟨ad,ae,ag,ah⟩ (AB u t 3) u wr c.o eB).mono ?_;rintro e g ⟨n,rfl,o,p,z⟩;obtain⟨e,g,H⟩:=bh o (v.o.trans p w.o) (w.o.trans z x);clear o p z a b;go_wp2;exact⟨⟨4,by omega,rfl,n,by have:=e.o;simpa[zk,AB] using this,g.o,H.o⟩,by decide⟩
  ·have a:=y.cell 4 rfl
   have b:=W.o 4;clear y;go_wp2_with fail;refine(Qp q r i (s++zk ⟨ad,ae,ag,ah⟩ u t 4) d h ⟨ad,ae,ag,ah⟩ (AB u t 4) u wr c.o U.o eB).mono ?_;rintro e g ⟨n,rfl,o,p,z⟩;obtain⟨e,g,H⟩:=bh o (v.o.trans p w.o) (w.o.trans z x);clear o p z a b;go_wp2;exact⟨⟨5,by omega,rfl,n,by have:=e.o;simpa[zk,AB] using this,g.o,H.o⟩,by decide⟩
  ·clear y
   obtain⟨a,b⟩:=aX (AB u t 5);have e:=aH (show Pt wr q r i (s++mbB ⟨ad,ae,ag,ah⟩ u t) d h ⟨ad,ae,ag,ah⟩ a u by rw[b];exact c.o);obtain⟨c,g,h,n,o,p,q,r,_⟩:=St.ex e.o.so;have s:=aH (fun x=>Ky a e.o.so u.kind x);have x:mS u t=a.after u.kind:=by rw[b];rfl
   obtain⟨y,z⟩:=aX (a.after u.kind);have H:y.A:=by rw[z];exact St.M4 e.o.so _
   obtain⟨U,V,W,Y,a1,a2,a3,a4,_⟩:=St.ex H;have a5:=e.o.c0;have a6:wr.cell? ⟨d,1,S⟩=M (J E c):=e.o.px.cell 1 (oz r);have a7:wr.cell? ⟨d,2,S⟩=M (J E g):=e.o.px.cell 2 (oz r);have a8:wr.cell? ⟨d,3,S⟩=M (J E h):=e.o.px.cell 3 (oz r);have a9:wr.cell? ⟨d,4,S⟩=M (J E n):=e.o.px.cell 4 (oz r);have ab:wr.cell? ⟨d,5,S⟩=M (J E o):=e.o.px.cell 5 (oz r);have ac:wr.cell? ⟨d,6,S⟩=M (J E p):=e.o.px.cell 6 (oz r);have ad:wr.cell? ⟨d,7,S⟩=M (J E q):=e.o.px.cell 7 (oz r);obtain⟨d,ae⟩:=aX a.q;obtain⟨ag,ah⟩:=aX y.q;rw[<-ae] at r a5;rw[<-ah] at a4;have ai:a.val=aG #[J E d,J E c,J E g,J E h,J E n,J E o,J E p,J E q]:=by rw[r];rfl
   have a:y.val=aG #[J E ag,J E U,J E V,J E W,J E Y,J E a1,J E a2,J E a3]:=by rw[a4];rfl
   rw[<-z,ai,a] at s;obtain⟨c,d⟩:=aQ (show(mS u t).val=y.val by rw[x,<-z]) a;clear r a4 ae ah ai a b z x H;have a:=e.o.mx.c0;have b:=e.o.mx.lt;go_wp2_with fail;refine(s.o _).mono ?_;rintro g h ⟨rfl,n⟩;have g:=(aa.o.b8.K (v.o.block l aa.o.b8.lt (fun h=>h.elim f.o.2.1.1 (fun o=>o.elim f.o.2.1.2.1 f.o.2.1.2.2)))).ext n;have h:=g.lt;obtain⟨h,o⟩:=aQ g n;clear a5 a6 a7 a8 a9 ab ac ad a b g n;go_wp2_with ((with_reducible refine vK rfl (aI 8) (aI 52) rfl l rfl rfl h.o ?_));refine dY (v:=fE #[aG #[J E ag,J E U,J E V,J E W,J E Y,J E a1,J E a2,J E a3],J E 0]) (dT results281 _ _ l _ _ _ rfl rfl (h.o.row _) rfl kR kt) rfl ?_;have a:=aa.o.F.size;have a:=a0.o;have a:=v.o;have b:=o.o;have g:=aa.o.F;have h:=b.size;have h:=f.o.2.2;refine⟨i,by rw[c.o,d.o],(e.o.wr.ext b).JQ f.o.2.1.1 (w.o l aa.o.b8.lt f.o.2.1.2.1) _,⟨b.os.trans (a.os.trans g.os),b.tape.trans (a.tape.trans g.tape),b.output.trans (a.output.trans g.output),by rw[kB];omega,fun h n o p=>?_⟩,fun q r s=>w.o q O s⟩;rw[iD _ _ _ _ O,b.block h O,a.block h O (fun c=>c.elim o (fun d=>d.elim p (fun e=>by omega))),g.block h n]
def pC{a b}(c:a.A)(d:LO a)(e:E6 a)(f:b.A):(mS a b).A:=St.M4 (Nd e c.I (SP d c.v f) 6 O) _
def OC{c a b}(d:a.A)(e:LO a)(f:E6 a)(g:b.A):(mbB c a b).length<=24922:=L4 d e f g 5
def r8(a b:Int):Bool:=decide (1<=b/\-9223372036854775808<a/\ZM a.natAbs b.natAbs=1)
def DL{a b}(c:a=b):aK (J .u64 a)=aK (J .u64 b):=by rw[c]
def EB(c d)(a:-9223372036854775808<=c)(b:c<=9223372036854775807):
  aT aE 125 #[J E c] d fun e f=>e=aK (J .u64 (c.natAbs:Int))/\f=d:=by
 go_enter func125,ntmps125;go_wp2
 all_goals
  go_ret;refine⟨DL ?_,rfl⟩
  (try simp only[Ml])
  omega
def V1(a b:Nat)(c:T)(d e:aq)(wr:T):Prop:=
 ∃f g h:Nat,f<18446744073709551616/\g<18446744073709551616/\ZM f g=ZM a b/\d=J .u64 f/\e=J .u64 g/\wr=c.drewN h
def WN(b c:Nat)(a:T)(d:b<18446744073709551616)(e:c<18446744073709551616):
  aT aE 124 #[J .u64 b,J .u64 c] a fun f g=>f=aK (J .u64 (ZM b c:Nat))/\∃h,g=a.drewN h:=by
 go_enter func124,ntmps124;go_wp2
 go_loopw [0,1] (fun f g wr=>V1 b c a f g wr) (fun _ h _=>(intOf h).toNat)
 case atStart=>exact⟨b,c,0,d,e,rfl,rfl,rfl,rfl⟩
 case round=>
  obtain⟨a,b,c,d,e,f,rfl,rfl,rfl⟩:=hrel;have d:=aH f;clear f
  by_cases e:b=0
  ·subst e
   go_wp2;go_ret;refine⟨DL ?_,c,rfl⟩;rw[<-d.o,Ac1]
  ·have c:((b:Int)!=0)=aB:=by simp;exact e
   have c:((b:Int)==0)=av:=by simp;exact e
   go_wp2;go_quiet (fail);go_wp2
   go_roundw
   case rel=>exact⟨b,a%b,_,by omega,by have:=rZ a (by omega:b>0);omega,by rw[<-d.o,Gg a b,Aka b a,Gg],rfl,by simp,YW _ _ _⟩
   case measure=>simp[intOf];have:=rZ a (by omega:b>0);omega
def zY{d}(a:0<=d)(b:d<18446744073709551616):jg.wrap d=(d.natAbs:Int):=by rw[Ml];omega
def Ql(e f:Int)(g:T)(a:-9223372036854775808<=e)(b:e<=9223372036854775807)(c:-9223372036854775808<=f)(d:f<=9223372036854775807):
  aT aE 83 #[aG #[J E e,J E f]] g fun h i=>h=aK (ao (r8 e f))/\bj g.heap.size g i:=by
 by_cases a:1<=f
 ·by_cases b:-9223372036854775808<e
  ·have c:decide (1<=f)=aB:=by simpa using a
   have c:decide (-9223372036854775808<e)=aB:=by simpa using b
   have c:=zY (d:=f) O O;have c:e.natAbs<18446744073709551616:=O;have d:f.natAbs<18446744073709551616:=O;go_enter func83,ntmps83;go_wp2;go_quiet (first|(go_at_call 125;exact uX (EB _ _ O O))|(go_at_call 124;exact Acs (WN _ _ _ c d)));go_wp2;go_ret;refine⟨gB ?_,?_⟩
   ·rw[iF];simp[r8,a,b];omega
   ·exact((aM _ g).alloc (aw _) _).trans ⟨rfl,rfl,rfl,aw _,fun _ _=>rfl⟩
  ·have c:decide (1<=f)=aB:=by simpa using a
   have c:decide (-9223372036854775808<e)=av:=by simpa using b
   go_enter func83,ntmps83;go_wp2;go_quiet (fail);go_wp2;go_ret;refine⟨gB ?_,?_⟩
   ·simp only[r8];simp;omega
   ·exact((aM _ g).alloc (aw _) _).trans ⟨rfl,rfl,rfl,aw _,fun _ _=>rfl⟩
 ·have b:decide (1<=f)=av:=by simpa using a
  go_enter func83,ntmps83;go_wp2;go_quiet (fail);go_wp2;go_ret;refine⟨gB ?_,?_⟩
  ·simp only[r8];simp;omega
  ·exact((aM _ g).alloc (aw _) _).trans ⟨rfl,rfl,rfl,aw _,fun _ _=>rfl⟩
section
def Gi(a:List Int):List aq:=a.map (J .u8)
@[simp] theorem uk(a:List Int):(Gi a).length=a.length:=by simp[Gi]
structure Sq where
 w:Int
 h:Int
 num:Int
 den:Int
 B:Bool
 br:Int
 bu:Int
 X:List Int
 R:List Int
def Sq.head(s:Sq):List aq:=[J E s.w,J E s.h,J E s.num,J E s.den,ao s.B,J E s.br,J E s.bu]
def Sq.cells(s:Sq):Array aq:=(s.head++Gi s.X++Gi s.R).toArray
structure jV(s:Sq):Prop where
 w1:16<=s.w
 w2:s.w<=64
 w3:s.w%16=0
 h1:16<=s.h
 h2:s.h<=64
 h3:s.h%16=0
 B:s.B=aB->s.h%32=0
 rat:r8 s.num s.den=aB
 n1:1<=s.num
 n2:s.num<=1048576
 d1:1<=s.den
 d2:s.den<=65536
 r1:1<=s.br
 r2:s.br<=16777216
 Q:1<=s.bu
 b2:s.bu<=8388608
 buf:3*s.den*s.br+32*s.num<=2*s.num*s.bu
 X:Mh s.X
 R:Mh s.R
theorem Sq.size{s}(a:jV s):s.cells.size=135:=by simp[Sq.cells,Sq.head,a.X.1,a.R.1]
theorem Sq.eA{s}(a:jV s):s.cells.extract 7 (7+64)=aS .u8 s.X:=by
 have:=jv s.head (Gi s.X) (Gi s.R) 7 64 rfl (by simp[a.X.1]);exact this
theorem Sq.eR{s}(a:jV s):s.cells.extract 71 (71+64)=aS .u8 s.R:=by
 have:=jv (s.head++Gi s.X) (Gi s.R) [] 71 64 (by simp[Sq.head,a.X.1]) (by simp[a.R.1]);rw[kg] at this;exact this
structure rH(w:T)(g:Nat)(s:Sq):Prop where
 j:Bx w g 26 s.cells
 ok:jV s
theorem rH.cell{w g s}(a:rH w g s)(j){v}(b:s.head[j]?=M v):w.cell? ⟨g,j,S⟩=M v:=by
 refine a.j.cell j ?_;have a:=(aP.1 b).1;rw[Sq.cells,bw,aW,bo a];exact b
theorem rH.ext{w a g s}(b:rH w g s)(c:bj w.heap.size w a):rH a g s:=⟨b.j.ext c,b.ok⟩
instance {w w' x1 x2}:Tr w w' (rH w x1 x2) (rH w' x1 x2):=⟨fun hb h=>rH.ext h hb⟩
theorem rH.lt{w g s}(a:rH w g s):g<w.heap.size:=a.j.lt
theorem rH.all{w g s}(a:rH w g s):(w.cell? ⟨g,0,S⟩=M (J E s.w)/\w.cell? ⟨g,1,S⟩=M (J E s.h)/\w.cell? ⟨g,2,S⟩=M (J E s.num)/\w.cell? ⟨g,3,S⟩=M (J E s.den))/\
  w.cell? ⟨g,4,S⟩=M (ao s.B)/\w.cell? ⟨g,5,S⟩=M (J E s.br)/\w.cell? ⟨g,6,S⟩=M (J E s.bu):=
 ⟨⟨a.cell 0 rfl,a.cell 1 rfl,a.cell 2 rfl,a.cell 3 rfl⟩,a.cell 4 rfl,a.cell 5 rfl,a.cell 6 rfl⟩
theorem ew:(aE.info? 26).map (·.size)=M 135:=dK
theorem iz:(aE.info? 24).map (·.size)=M 64:=dK
section
variable {ops:Array cQ} {rest:List cQ} {o:cQ} {a:Act} {w:T} {Q:Exit->Act->T->Prop} {g:Nat} {s:Sq} (hgd:bP o (xZ ops a.tmps)=true) (x:Gc)
include hgd
theorem oe(b:o.op=.load 26 x)(c:a.eval x=aD (M ⟨g,0,S⟩))(d:rH w g s)(e:cG aE ops Q rest (a.put o.dst (aG s.cells)) w):cG aE ops Q (o::rest) a w:=
 bA hgd 26 x b g 0 135 c _ _ _ _ d.j (by rw[oD,<-Sq.size d.ok];exact VF) (iJ (Sq.size d.ok)) rfl ik ew e
theorem jj(b:o.op=.load 24 x)(c:a.eval x=aD (M ⟨g,7,S⟩))(d:rH w g s)(e:cG aE ops Q rest (a.put o.dst (aG (aS .u8 s.X))) w):cG aE ops Q (o::rest) a w:=
 bA hgd 24 x b g 7 64 c _ _ _ _ d.j (Sq.eA d.ok) (iJ (Sq.size d.ok)) rfl fV iz e
theorem iP(b:o.op=.load 24 x)(c:a.eval x=aD (M ⟨g,71,S⟩))(d:rH w g s)(e:cG aE ops Q rest (a.put o.dst (aG (aS .u8 s.R))) w):cG aE ops Q (o::rest) a w:=
 bA hgd 24 x b g 71 64 c _ _ _ _ d.j (Sq.eR d.ok) (iJ (Sq.size d.ok)) rfl fV iz e
end
theorem Oq(c)(a:16<=c)(b:c<=64)(d:c%16=0)(w):aT aE 82 #[J E c,J E 64] w fun e f=>e=aK (ao aB)/\w=f:=by
 have a:decide (16<=c)=aB:=by simp;omega
 have a:decide (c<=64)=aB:=by simp;omega
 have a:c.tmod 16=0:=by rw[iG O];exact d
 go_enter func82,ntmps82;go_wp2;go_ret;exact⟨rfl,rfl⟩
end
def rH.new(a:T)(b c)(d:jV c)(e:b=a.heap.size):rH (a.alloc (az c.cells 26)) b c:=⟨Bx.D _ _ _ _ e,d⟩
def zh{a b A B:Int}(c:0<=a)(d:0<=b)(e:a<=A)(f:b<=B):a*b<=A*B:=Vf (qj e d) (Int.mul_le_mul_of_nonneg_left f (Vf c e))
def na(c:Sq)(a:jV c)(b:T):aT aE 42 #[aG c.cells] b (fh b (ao aB)):=by
 obtain⟨d,e,f,g,h⟩:=dZ (fun i=>Oq c.w a.w1 a.w2 a.w3 i) (fun l=>Oq c.h a.h1 a.h2 a.h3 l) (fun n=>Ql c.num c.den n (dU a.n1) (dU a.n2) (dU a.d1) (dU a.d2)) (fun o=>jx c.X a.X o) (fun p=>jx c.R a.R p);rw[a.rat] at f;have i:=aH (rH.new b b.heap.size c a rfl);have l:decide (c.num<1)=av:=by have:=a.n1;simp;omega
 have l:decide (1048576<c.num)=av:=by have:=a.n2;simp;omega
 have l:decide (65536<c.den)=av:=by have:=a.d2;simp;omega
 have l:decide (c.br<1)=av:=by have:=a.r1;simp;omega
 have l:decide (16777216<c.br)=av:=by have:=a.r2;simp;omega
 have l:decide (c.bu<1)=av:=by have:=a.Q;simp;omega
 have l:decide (8388608<c.bu)=av:=by have:=a.b2;simp;omega
 have l:=a.n1;have n:=a.n2;have o:=a.d1;have p:=a.d2;have q:E.wrap (2*c.num)=2*c.num:=an _ O;have q:=zh (a:=2*c.num) (b:=c.bu) (A:=2097152) (B:=8388608) O (dU a.Q) O a.b2;have r:0<=2*c.num*c.bu:=nA O (dU a.Q);have s:=zh (a:=3*c.den) (b:=c.br) (A:=196608) (B:=16777216) O (dU a.r1) O a.r2;have t:0<=3*c.den*c.br:=nA O (dU a.r1);have u:=a.buf;obtain⟨v,w⟩:=aX (2*c.num*c.bu);obtain⟨x,y⟩:=aX (3*c.den*c.br);rw[<-w] at q r u;rw[<-y] at s t u;have z:E.wrap (2*c.num*c.bu)=v:=by rw[<-w];exact an _ O
 have z:E.wrap (3*c.den)=3*c.den:=an _ O;have z:E.wrap (3*c.den*c.br)=x:=by rw[<-y];exact an _ O
 have z:E.wrap (32*c.num)=32*c.num:=an _ O;have z:E.wrap (x+32*c.num)=x+32*c.num:=an _ O;have z:decide (v<x+32*c.num)=av:=by simp;omega
 have v:=a.B;have x:=a.h1;clear a l n o p q r s t u w y;obtain⟨⟨a,l,n,o⟩,p,q,r⟩:=i.o.all;obtain⟨s,t⟩:=aX (b.alloc (az c.cells 26));have u:bj b.heap.size b s:=by rw[t];exact(aM _ _).alloc (aw _) _
 rw[<-t] at i a l n o p q r;obtain⟨s,w⟩:=aX b.heap.size;have b:=aH u;clear u;cases hi:c.B with
 |true=>
  have s:c.h.tmod 32=0:=by rw[iG O];exact v hi
  rw[hi] at p;clear v hi x;go_enter func42,ntmps42;go_upto_region 1 with fail;rw[<-t,<-w];rw[<-w] at i a l n o p q r;clear t w;go_wp2_with fail;refine(d.o _).mono ?_;rintro c s ⟨rfl,rfl⟩;go_wp2_with fail;refine(e.o _).mono ?_;rintro c s ⟨rfl,rfl⟩;go_wp2_with fail;refine(f.o _).mono ?_;rintro c s ⟨rfl,u⟩;have c:=mX u i;have s:=aH (b.o.trans (u.mono b.o.size));clear a l n o p q r u;obtain⟨⟨u,y,z,H⟩,U,V,W⟩:=c.o.all;go_wp2_with ((with_reducible refine jj dW (aI 83) rfl rfl c.o ?_));refine(g.o _).mono ?_;rintro Y a0 ⟨rfl,a1⟩;have Y:=mX a1 c;have c:=aH (s.o.trans (a1.mono s.o.size));clear u y z H U V W a1;go_wp2_with ((with_reducible refine iP dW (aI 87) rfl rfl Y.o ?_));refine(h.o _).mono ?_;rintro s u ⟨rfl,y⟩;have s:=aH (c.o.trans (y.mono c.o.size));clear y;go_wp2;go_ret;exact⟨rfl,s.o⟩
 |false=>
  rw[hi] at p;clear v hi x;go_enter func42,ntmps42;go_upto_region 1 with fail;rw[<-t,<-w];rw[<-w] at i a l n o p q r;clear t w;go_wp2_with fail;refine(d.o _).mono ?_;rintro c d ⟨rfl,rfl⟩;go_wp2_with fail;refine(e.o _).mono ?_;rintro c d ⟨rfl,rfl⟩;go_wp2_with fail;refine(f.o _).mono ?_;rintro c d ⟨rfl,e⟩;have c:=mX e i;have d:=aH (b.o.trans (e.mono b.o.size));clear a l n o p q r e;obtain⟨⟨a,b,e,f⟩,i,l,n⟩:=c.o.all;go_wp2_with ((with_reducible refine jj dW (aI 83) rfl rfl c.o ?_));refine(g.o _).mono ?_;rintro g o ⟨rfl,p⟩;have g:=mX p c;have c:=aH (d.o.trans (p.mono d.o.size));clear a b e f i l n p;go_wp2_with ((with_reducible refine iP dW (aI 87) rfl rfl g.o ?_));refine(h.o _).mono ?_;rintro a b ⟨rfl,d⟩;have a:=aH (c.o.trans (d.mono c.o.size));clear d;go_wp2;go_ret;exact⟨rfl,a.o⟩
structure Pc where
 ty:Int
 st:Int
 ord:Int
 top:Bool
 M3:Bool
 alt:Bool
def Pc.v(a:Pc):aq:=aG #[J E a.ty,J E a.st,J E a.ord,ao a.top,ao a.M3,ao a.alt]
structure YC(a:Pc):Prop where
 t1:1<=a.ty
 t2:a.ty<=3
 s1:1<=a.st
 s2:a.st<=3
 o1:0<=a.ord
 o2:a.ord<=1023
def PcV(a:Sq)(b:Pc):Prop:=a.B=aB\/(b.st=3/\b.top=aB/\b.M3=av)
def Ho(a)(c:YC a)(b):aT aE 133 #[a.v] b (fh b (ao aB)):=by
 have d:decide (0<=a.ord)=aB:=by have:=c.o1;simp;omega
 have e:decide (a.ord<=1023)=aB:=by have:=c.o2;simp;omega
 have f:decide (1<=a.ty)=aB:=by have:=c.t1;simp;omega
 have g:decide (a.ty<=3)=aB:=by have:=c.t2;simp;omega
 have h:decide (1<=a.st)=aB:=by have:=c.s1;simp;omega
 have i:decide (a.st<=3)=aB:=by have:=c.s2;simp;omega
 obtain⟨l,n,o,p,q,r⟩:=a;unfold Pc.v;dsimp only at*;clear c;go_enter func133,ntmps133;go_wp2;go_ret;exact⟨rfl,(aM _ _).alloc (aw _) _⟩
def tE(e:Sq)(b:jV e)(a:Pc)(c:YC a)(d:PcV e a)(f:T):aT aE 153 #[aG e.cells,a.v] f (fh f (ao aB)):=by
 obtain⟨g,h⟩:=aQ (fun i=>na e b i) (fun l=>Ho a c l);obtain⟨i,l,n,o,p,q⟩:=a;unfold Pc.v at*;unfold PcV at d;dsimp only at*;obtain⟨a,r⟩:=aX ((f.alloc (az e.cells 26)).alloc (az #[J E i,J E l,J E n,ao o,ao p,ao q] 93));obtain⟨s,t,u,v⟩:=dq (show rH a f.heap.size e by rw[r];exact(rH.new f _ e b rfl).ext ((aM _ _).alloc (aw _) _)) (show Bx a (f.heap.size+1) 93 #[J E i,J E l,J E n,ao o,ao p,ao q] by rw[r];exact Bx.D _ _ _ _ dS) (show bj f.heap.size f a by rw[r];exact((aM _ _).alloc (aw _) _).alloc dS _) d;clear b c d;go_enter func153,ntmps153;go_upto_region 1 with fail;rw[<-r];obtain⟨b,c⟩:=aX f.heap.size;rw[<-c] at s t ⊢;clear r c;go_wp2_with ((with_reducible refine oe dW (aI 2) rfl rfl s.o ?_));refine(g.o _).mono ?_;rintro c d ⟨rfl,r⟩;obtain⟨w,x⟩:=di r t s;have y:=aH (u.o.trans (r.mono u.o.size));have z:=w.o.cell 0 rfl;have H:=w.o.cell 1 rfl;have U:=w.o.cell 2 rfl;have V:=w.o.cell 3 rfl;have W:=w.o.cell 4 rfl;have Y:=w.o.cell 5 rfl;clear r;go_wp2_with fail;refine(h.o _).mono ?_;rintro r a0 ⟨rfl,a1⟩;have a2:=w.o.ext a1;have a3:=x.o.ext a1;have a4:=aH (y.o.trans (a1.mono y.o.size));clear z H U V W Y a1;have z:=a2.cell 1 rfl;have H:=a2.cell 3 rfl;have U:=a2.cell 4 rfl;have V:=a3.all.2.1;clear a2 a3;cases hi:e.B with
 |true=>
  rw[hi] at V;go_wp2;go_ret;exact⟨rfl,a4.o⟩
 |false=>
  obtain⟨rfl,rfl,rfl⟩:l=3/\o=aB/\p=av:=by
   rcases v.o with e|e
   ·rw[hi] at e;cases e
   ·exact e
  rw[hi] at V;go_wp2;go_ret;exact⟨rfl,a4.o⟩
def SJ(c d)(a:-9223372036854775808<=c)(b:c<=9223372036854775807):
  aT aE 175 #[J E c] d fun e f=>e=aK (J .u64 (c.natAbs:Int))/\f=d:=by
 go_enter func175,ntmps175;go_wp2
 all_goals
  go_ret;refine⟨DL ?_,rfl⟩
  (try simp only[Ml])
  omega
def WQ(b c:Nat)(a:T)(d:b<18446744073709551616)(e:c<18446744073709551616):
  aT aE 174 #[J .u64 b,J .u64 c] a fun f g=>f=aK (J .u64 (ZM b c:Nat))/\∃h,g=a.drewN h:=by
 go_enter func174,ntmps174;go_wp2
 go_loopw [0,1] (fun f g wr=>V1 b c a f g wr) (fun _ h _=>(intOf h).toNat)
 case atStart=>exact⟨b,c,0,d,e,rfl,rfl,rfl,rfl⟩
 case round=>
  obtain⟨a,b,c,d,e,f,rfl,rfl,rfl⟩:=hrel;have d:=aH f
  by_cases e:b=0
  ·subst e
   go_wp2;go_ret;refine⟨DL ?_,c,rfl⟩;rw[<-d.o,Ac1]
  ·have c:((b:Int)!=0)=aB:=by simp;exact e
   have c:((b:Int)==0)=av:=by simp;exact e
   go_wp2;go_quiet (fail);go_wp2
   go_roundw
   case rel=>exact⟨b,a%b,_,by omega,by have:=rZ a (by omega:b>0);omega,by rw[<-d.o,Gg a b,Aka b a,Gg],rfl,by simp,YW _ _ _⟩
   case measure=>simp[intOf];have:=rZ a (by omega:b>0);omega
def Qm(e f:Int)(g:T)(a:-9223372036854775808<=e)(b:e<=9223372036854775807)(c:-9223372036854775808<=f)(d:f<=9223372036854775807):
  aT aE 119 #[aG #[J E e,J E f]] g fun h i=>h=aK (ao (r8 e f))/\bj g.heap.size g i:=by
 by_cases a:1<=f
 ·by_cases b:-9223372036854775808<e
  ·have c:decide (1<=f)=aB:=by simpa using a
   have c:decide (-9223372036854775807<=e)=aB:=by simp;omega
   have c:=zY (d:=f) O O;have c:e.natAbs<18446744073709551616:=O;have d:f.natAbs<18446744073709551616:=O;go_enter func119,Zc;go_wp2;go_quiet (first|(go_at_call 175;exact uX (SJ _ _ O O))|(go_at_call 174;exact Acs (WQ _ _ _ c d)));go_wp2;go_ret;refine⟨gB ?_,?_⟩
   ·rw[iF];simp[r8,a,b];omega
   ·exact((aM _ g).alloc (aw _) _).trans ⟨rfl,rfl,rfl,aw _,fun _ _=>rfl⟩
  ·have b:decide (1<=f)=aB:=by simpa using a
   have b:decide (-9223372036854775807<=e)=av:=by simp;omega
   go_enter func119,Zc;go_wp2;go_quiet (fail);go_wp2;go_ret;refine⟨gB ?_,?_⟩
   ·simp only[r8];simp;omega
   ·exact((aM _ g).alloc (aw _) _).trans ⟨rfl,rfl,rfl,aw _,fun _ _=>rfl⟩
 ·have b:decide (1<=f)=av:=by simpa using a
  go_enter func119,Zc;go_wp2;go_quiet (fail);go_wp2;go_ret;refine⟨gB ?_,?_⟩
  ·simp only[r8];simp;omega
  ·exact((aM _ g).alloc (aw _) _).trans ⟨rfl,rfl,rfl,aw _,fun _ _=>rfl⟩
def Zu(a:Int):Prop:=-9223372036854775808<=a/\a<=9223372036854775807
def GR(a:T)(b:Prop)(c:Ending)(d:T):Prop:=∃e,c=aK (ao e)/\(e=aB->b)/\bD a d
structure JJ(a:Sq):Prop where
 w:Zu a.w
 h:Zu a.h
 n:Zu a.num
 d:Zu a.den
 br:Zu a.br
 bu:Zu a.bu
 X:a.X.length=64
 R:a.R.length=64
 xa:∀b∈a.X,0<=b/\b<=255
 xr:∀b∈a.R,0<=b/\b<=255
def Aaw{a}(b:a.length=64)(d:∀e∈a,0<=e/\e<=255)(c:∀f,f<64->8<=cM a f):Mh a:=by
 refine⟨b,fun a e=>?_⟩;let ⟨b,f⟩:=List.mem_iff_getElem?.1 e;have g:=(aP.1 f).1;have h:=c b O;rw[eh g] at f;injection f with b;have:=d a e;omega
def Hm(d:List Int)(a:d.length=64)(b:∀e∈d,0<=e/\e<=255)(c:T):aT aE 120 #[aG (aS .u8 d)] c (GR c (Mh d)):=by
 obtain⟨e,f,g,h⟩:=dq (Bn.D c .u8 24 d c.heap.size rfl) a b (show bD c (c.alloc (az (aS .u8 d) 24)) from jd);go_enter func120,ntmps120;go_wp2_with fail
 go_loop [3] (fun a=>∃b:Nat,b<=64/\a=J E (b:Int)/\fj (∀i,i<b->8<=cM d i)) (fun l=>64-(intOf l).toNat)
 case atStart=>exact⟨0,by omega,rfl,aH (fun a b=>absurd b (Nat.not_lt_zero a))⟩
 case round=>
  obtain⟨a,b,rfl,i⟩:=hrel
  by_cases b:a<64
  ·have l:(c.alloc (az (aS .u8 d) 24)).cell? ⟨c.heap.size,a,S⟩=M (J .u8 (cM d a)):=by rw[e.o.cell,eh (eZ f.o b)];rfl
   have c:=aH (g.o (cM d a) (bg (eh (eZ f.o b))))
   by_cases b:cM d a<8
   ·have b:decide (cM d a<8)=aB:=by simp;omega
    go_wp2;go_ret;exact⟨av,rfl,(fun b=>by cases b),h.o⟩
   ·have b:decide (cM d a<8)=av:=by simp;omega
    have b:=aH (show∀c,c<a+1->8<=cM d c from fun e l=>by
     rcases Nat.lt_or_ge e a with c|c
     ·exact i.o e c
     ·obtain rfl:e=a:=O
      omega)
    go_wp2
    go_round
    case rel=>exact⟨a+1,by omega,by go_num,b⟩
    case measure=>simp[intOf];omega
  ·obtain rfl:a=64:=O
   go_wp2_with fail;go_ret;exact⟨aB,rfl,fun _=>Aaw f.o g.o i.o,h.o⟩
def IS(a:Sq)(b:JJ a)(c:T):aT aE 69 #[aG a.cells] c (GR c (jV a)):=by
 have d:=aH b;let ⟨e,f⟩:=aX (c.alloc (az a.cells 26));have g:=Gl f;have h:=aH g;let ⟨i,l⟩:=aX c.heap.size;have n:Bx e i 26 a.cells:=by rw[f,l];exact Bx.new _ _ _
 have o:=aH n;have p:=n.cell 0 (v:=J E a.w) (by rw[Sq.cells,bw];rfl);have q:=n.cell 1 (v:=J E a.h) (by rw[Sq.cells,bw];rfl);have r:=n.cell 2 (v:=J E a.num) (by rw[Sq.cells,bw];rfl);have s:=n.cell 3 (v:=J E a.den) (by rw[Sq.cells,bw];rfl);have t:=n.cell 4 (v:=ao a.B) (by rw[Sq.cells,bw];rfl);have u:=n.cell 5 (v:=J E a.br) (by rw[Sq.cells,bw];rfl);have v:=n.cell 6 (v:=J E a.bu) (by rw[Sq.cells,bw];rfl);have w:=n.lt;go_enter func69,ntmps69;go_upto_region 1 with fail;rw[<-f,<-l];clear f l;have f:∀l x,bD c x->(l=aB->jV a)->GR c (jV a) (aK (ao l)) x:=fun y z H U=>⟨y,rfl,U,H⟩
 have l:=aH f;clear f
 by_cases f:16<=a.w/\a.w<=64/\a.w%16=0/\16<=a.h/\a.h<=64/\a.h%16=0/\(a.B=aB->a.h%32=0)
 ·let ⟨x,y,z,H,U,V,W⟩:=f
  have Y:=aH (show 16<=a.w/\a.w<=64/\a.w%16=0/\16<=a.h/\a.h<=64/\a.h%16=0/\(a.B=aB->a.h%32=0) from⟨x,y,z,H,U,V,W⟩);have a0:decide (a.w<16)=av:=by simp;omega
  have a1:decide (64<a.w)=av:=by simp;omega
  have a2:a.w.tmod 16=0:=by rw[iG O];exact z
  have a3:decide (a.h<16)=av:=by simp;omega
  have a4:decide (64<a.h)=av:=by simp;omega
  have a5:a.h.tmod 16=0:=by rw[iG O];exact V
  rcases(show a.B=av\/(a.B=aB/\a.h.tmod 32=0) from by
   cases hil:a.B with
   |false=>exact .inl rfl
   |true=>exact .inr ⟨rfl,by rw[iG O];exact W hil⟩) with hil|⟨hil,a7⟩
  all_goals
   rw[hil] at t;have a6:=aH (Qm a.num a.den e d.o.n.1 d.o.n.2 d.o.d.1 d.o.d.2);go_wp2_with fail;refine mR a6.o fun a8 a9=>?_
   have aa:bD e a8:=a9;let ⟨ab,ac⟩:=di aa o h;have ad:=ab.o.cell 2 (v:=J E a.num) (by rw[Sq.cells,bw];rfl);have ae:=ab.o.cell 3 (v:=J E a.den) (by rw[Sq.cells,bw];rfl);have ag:=ab.o.cell 5 (v:=J E a.br) (by rw[Sq.cells,bw];rfl);have ah:=ab.o.cell 6 (v:=J E a.bu) (by rw[Sq.cells,bw];rfl);have ai:=ab.o.lt;cases hv:r8 a.num a.den with
   |false=>
    go_wp2_with fail;go_ret;exact l.o av _ ac.o (fun aj=>by cases aj)
   |true=>
    have aj:=aH hv
    by_cases al:1<=a.num/\a.num<=1048576/\a.den<=65536/\1<=a.br/\a.br<=16777216/\1<=a.bu/\a.bu<=8388608
    ·let ⟨am,ap,ar,ax,ay,aV,b0⟩:=al
     have b1:=aH (show 1<=a.num/\a.num<=1048576/\a.den<=65536/\1<=a.br/\a.br<=16777216/\1<=a.bu/\a.bu<=8388608 from⟨am,ap,ar,ax,ay,aV,b0⟩)
     have b2:1<=a.den:=by
      have:=aj.o;unfold r8 at this;exact(of_decide_eq_true this).1
     have b3:=aH b2;have b4:decide (a.num<1)=av:=by simp;omega
     have b5:decide (1048576<a.num)=av:=by simp;omega
     have b6:decide (65536<a.den)=av:=by simp;omega
     have b7:decide (a.br<1)=av:=by simp;omega
     have b8:decide (16777216<a.br)=av:=by simp;omega
     have b9:decide (a.bu<1)=av:=by simp;omega
     have ba:decide (8388608<a.bu)=av:=by simp;omega
     have bb:E.wrap (2*a.num)=2*a.num:=an _ O;have bc:=zh (a:=2*a.num) (b:=a.bu) (A:=2097152) (B:=8388608) O O O b0;have bd:0<=2*a.num*a.bu:=nA O O;have be:=zh (a:=3*a.den) (b:=a.br) (A:=196608) (B:=16777216) O O O ay;have bf:0<=3*a.den*a.br:=nA O O;let ⟨bi,bk⟩:=aX (2*a.num*a.bu);let ⟨bl,bn⟩:=aX (3*a.den*a.br);rw[<-bk] at bc bd;rw[<-bn] at be bf;have br:E.wrap (2*a.num*a.bu)=bi:=by rw[<-bk];exact an _ O
     have bs:E.wrap (3*a.den)=3*a.den:=an _ O;have bt:E.wrap (3*a.den*a.br)=bl:=by rw[<-bn];exact an _ O
     have bu:E.wrap (32*a.num)=32*a.num:=an _ O;have bv:E.wrap (bl+32*a.num)=bl+32*a.num:=an _ O;let ⟨bx,bz⟩:=aQ bk bn
     by_cases bC:bi<bl+32*a.num
     ·have bK:decide (bi<bl+32*a.num)=aB:=by simp;omega
      clear bk bn;go_wp2_with fail;go_ret;exact l.o av _ ac.o (fun bL=>by cases bL)
     ·have bK:decide (bi<bl+32*a.num)=av:=by simp;omega
      obtain⟨bL,bR⟩:=aQ (show 3*a.den*a.br+32*a.num<=2*a.num*a.bu by rw[<-bx.o,<-bz.o];omega) (show a.cells.extract 7 (7+64)=aS .u8 a.X/\7+64<=a.cells.size from⟨jv a.head (Gi a.X) (Gi a.R) 7 64 rfl (by rw[uk,d.o.X]),by rw[Sq.cells,qY,aJ,aJ,uk,uk,d.o.X,d.o.R];show _<=7+64+64;decide⟩)
      have bU:=aH (show a.cells.extract 71 (71+64)=aS .u8 a.R/\71+64<=a.cells.size from⟨by
       have:=jv (a.head++Gi a.X) (Gi a.R) [] 71 64 (by rw[aJ,uk,d.o.X];rfl) (by rw[uk,d.o.R]);rw[kg] at this;exact this,by rw[Sq.cells,qY,aJ,aJ,uk,uk,d.o.X,d.o.R];show _<=7+64+64;decide⟩)
      clear bk bn;go_wp2_with ((refine lS 24 103 i 7 ab.o bR.o.1 bR.o.2 ?_));refine(Hm a.X d.o.X d.o.xa a8).mono ?_;rintro bk bn ⟨bV,rfl,bY,c0⟩;have c1:=aH bY;let ⟨c2,c3⟩:=di c0 ac ab;cases bV with
      |false=>
       go_wp2_with fail;go_ret;exact l.o av _ c2.o (fun bV=>by cases bV)
      |true=>
       go_wp2_with ((refine lS 24 107 i 71 c3.o bU.o.1 bU.o.2 ?_));refine(Hm a.R d.o.R d.o.xr bn).mono ?_;rintro bV c4 ⟨c5,rfl,c6,c7⟩;have c8:=aH c6;have c9:=mX c7 c2;go_wp2_with fail;go_ret;exact l.o c5 _ c9.o (fun ca=>⟨Y.o.1,Y.o.2.1,Y.o.2.2.1,Y.o.2.2.2.1,Y.o.2.2.2.2.1,Y.o.2.2.2.2.2.1,Y.o.2.2.2.2.2.2,aj.o,b1.o.1,b1.o.2.1,b3.o,b1.o.2.2.1,b1.o.2.2.2.1,b1.o.2.2.2.2.1,b1.o.2.2.2.2.2.1,b1.o.2.2.2.2.2.2,bL.o,c1.o trivial,c8.o ca⟩)
    ·go_upto_region 7 with fail
     all_goals first
      |(go_ret;exact l.o av _ ac.o (fun am=>by cases am))
      |(exfalso;apply al;omega)
 ·go_upto_region 3 with fail
  all_goals first
   |(go_ret;exact l.o av _ h.o (fun x=>by cases x))
   |(exfalso;apply f;refine⟨by omega,by omega,by omega,by omega,by omega,by omega,fun x=>by first|omega|(cases x.symm.trans ‹a.B=av›)⟩)
def Fi:∀(vs:List aq)(a off:Nat)(b c:List aq),b.length=off+a->vs.length<=c.length->
  (vs.zipIdx a).foldl (fun(d:Array aq)(e:aq×Nat)=>d.setIfInBounds (off+e.2) e.1) (b++c).toArray=(b++vs++c.drop vs.length).toArray
 |[],a,b,c,d,_,_=>by simp
 |a::b,c,d,e,f,g,h=>by
  cases f with
  |nil=>simp at h
  |cons f i=>
   simp only[List.zipIdx_cons,List.foldl_cons]
   have l:(e++f::i).toArray.setIfInBounds (d+c) a=((e++[a])++i).toArray:=by
    rw[iU,jT _ _ O,g,Nat.sub_self];simp
   rw[l,Fi b (c+1) d (e++[a]) i eB (jP h)];simp
def xK{place i v rest}(c d){off size}(e:place i=M (off,size))(a:c.length=off)(f:v.cells.size=size)(b:size<=d.length):
  nz place (c++d).toArray ((i,v)::rest)=nz place ((c++v.cells.toList)++d.drop size).toArray rest:=by
 have a:¬(off+v.cells.size>(c++d).toArray.size):=by simp;omega
 have b:(v.cells.size !=size)=av:=by simp[f]
 have b:=Fi v.cells.toList 0 off c d O eB
 have g:v.cells.zipIdx.foldl (fun(h:Array aq)(l:aq×Nat)=>h.setIfInBounds (off+l.2) l.1) (c++d).toArray=((c++v.cells.toList)++d.drop size).toArray:=by
  rw[<-Array.foldl_toList,Array.toList_zipIdx];rw[b];simp[f]
 rw[nz];simp only[e];rw[if_neg (by simp[f];simp at a;omega)];exact congrArg (fun a=>nz place a rest) g
def Abo{b h a v o0 s0 o1 s1 o2 s2}(n:b.underlying h=M (.struct a))(g:(b.info? h).bind (·.zero)=M v)
  (o:a.toList.mapM (fun w=>(b.info? w.type).map fun i=>(w.offset,i.size))=M [(o0,s0),(o1,s1),(o2,s2)])(c d e)(r:c.cells.size=s0)(s:d.cells.size=s1)(t:e.cells.size=s2)
  (p:o0=0)(q:o1=s0)(u:o2=s0+s1)(f:v.cells.size=s0+s1+s2)(l):(fk h #[(0,c),(1,d),(2,e)]).run b l=.ok (aG (c.cells.toList++d.cells.toList++e.cells.toList).toArray) l:=by
 let ⟨a,b,c⟩:=kO.1 g;refine run_build l h _ _ ?_;unfold Program.built;simp only[b,n,c,o];have a:v.cells=([]++v.cells.toList).toArray:=by simp
 rw[a,xK [] v.cells.toList (off:=0) (size:=s0) (by simp[p]) rfl r eB];rw[xK _ _ (off:=s0) (size:=s1) (by simp[q]) (by simp[r]) s eB];rw[xK _ _ (off:=s0+s1) (size:=s2) (by simp[u]) (by simp[r,s]) t eB];rw[nz]
 have:(zF s2 (zF s1 (zF s0 v.cells.toList)))=[]:=by
  rw[gK,gK];exact List.drop_eq_nil_of_le eB
 rw[this];simp
def fu(a:List aq)(off:Nat)(b:List aq):List aq:=a.take off++b++a.drop (off+b.length)
def KL{a off b}(c:off+b.length<=a.length):(fu a off b).length=a.length:=by simp[fu];omega
def I2{b i v c}(d){off size}(e:b i=M (off,size))(f:v.cells.size=size)(a:off+size<=d.length):
  nz b d.toArray ((i,v)::c)=nz b (fu d off v.cells.toList).toArray c:=by
 have a:=xK (place:=b) (v:=v) (rest:=c) (d.take off) (d.drop off) e eB f eB;rw[kS] at a;rw[a,gK];unfold fu;rw[cj,f]
def rj(a:List (Nat×Nat)):List aq->List (Nat×aq)->List aq
 |b,[]=>b
 |b,(c,d)::e=>rj a (fu b (a.getD c (0,0)).1 d.cells.toList) e
def Ot(a:List (Nat×Nat))(b:Nat)(c:List (Nat×aq)):Prop:=∀d∈c,∃e,a[d.1]?=M e/\d.2.cells.size=e.2/\e.1+e.2<=b
def Ft(a):∀(b:List (Nat×aq))(c:List aq),Ot a c.length b->nz (a.toArray[·]?) c.toArray b=M (rj a c b).toArray
 |[],b,_=>by rw[nz];rfl
 |(b,c)::d,e,f=>by
  let ⟨⟨g,h⟩,i,l,n⟩:=f (b,c) dS;rw[I2 (off:=g) (size:=h) e (by rw[bw];exact i) l n];rw[Ft a d _ ?_]
  ·show M (rj a (fu e g c.cells.toList) d).toArray=M (rj a (fu e (a.getD b (0,0)).1 c.cells.toList) d).toArray
   rw[jr,i];rfl
  ·have:(fu e g c.cells.toList).length=e.length:=KL (by rw[cj,l];exact n)
   rw[this];exact fun a b=>f a (by simp[b])
def JE{P t a z pl}(d:P.underlying t=M (.struct a))(b:(P.info? t).bind (·.zero)=M z)
  (e:a.toList.mapM (fun h=>(P.info? h.type).map fun i=>(h.offset,i.size))=M pl)(f)(g:Ot pl z.cells.size f.toList)(c):
  (fk t f).run P c=.ok (aG (rj pl z.cells.toList f.toList).toArray) c:=by
 let ⟨a,h,l⟩:=kO.1 b;refine run_build c t _ _ ?_;unfold Program.built;simp only[h,d,l,e];have:=Ft pl f.toList z.cells.toList (jP g);simpa using this
def WJ{a b}{i:Act}{c l}(h:b.op=.build c l){d}(g:(l.map fun o=>(o.1,i.eval o.2))=d){e f}(n:(fk c d).run a f=.ok e f):(VI i.eval b).run a f=.ok (.value e) f:=by
 subst g;unfold VI;simp only[h];rw[fT];have a:(l.map fun(b,c)=>(b,i.eval c))=(l.map fun d=>(d.1,i.eval d.2)):=rfl;rw[a,n];rfl
def gV{b c d e f g h}(o:bP e (xZ c f.tmps)=aB)(i a)(p:e.op=.build i a)(l)(q:(a.map fun t=>(t.1,f.eval t.2))=l)
  (n)(r:(fk i l).run b g=.ok n g)(s:cG b c h d (f.put e.dst n) g):cG b c h (e::d) f g:=
 eI o fun _ a=>by
  unfold Bg;rw[WJ p q r];exact a _ _ s
def QT(i a:Int):Int:=min (max i 0) (a-1)
def xe{i n}(a:1<=n):0<=QT i n/\QT i n<n:=by unfold QT;omega
def Uc(i d)(a:1<=d)(b:d<=64)(c):aT aE 335 #[J E i,J E d] c fun e f=>e=aK (J E (QT i d))/\f=c:=by
 have a:E.wrap (d-1)=d-1:=an _ O;have a:=aH (show QT i d=min (max i 0) (d-1) from rfl);go_enter func335,ntmps335;go_wp2;go_ret;exact⟨by rw[a.o];rfl,rfl⟩
def oy(a:Option Addr)(b c:Nat)(d e:Int)(f:FV):Array aq:=#[af a b c,J E d,J E e,J E f.W,J E f.H,af f.ya f.yn f.yc,af f.ua f.un f.uc,af f.va f.vn f.vc]
structure Vx(a:T)(b c:Nat)(d:List Int):Prop where
 lt:b<a.heap.size
 at_:∀e,e<d.length->∃f,d[e]?=M f/\0<=f/\f<=255/\a.cell? ⟨b,c+e,S⟩=M (J .u8 f)
def Vx.ext{a b d e c}(f:Vx a d e c)(g:bD a b):Vx b d e c:=
 ⟨dX f.lt g.size,fun a b=>by
  obtain⟨c,h,i,l,n⟩:=f.at_ a b;exact⟨c,h,i,l,(Below.cell (p:=⟨d,e+a,S⟩) g f.lt).trans n⟩⟩
instance {w w' x1 x2 x3}:Tr w w' (Vx w x1 x2 x3) (Vx w' x1 x2 x3):=⟨fun hb h=>Vx.ext h hb⟩
def du.ZK{a b c d e}(g:du a b c d e)(f:0<e.length):∃h i,c=M ⟨h,i,S⟩/\d=e.length/\Vx b h i e:=by
 have a:=g.len;obtain⟨b,c,_,rfl,_,d,_⟩:=g.at_ (k:=0) O;refine⟨b,c,rfl,a.symm,d,fun e f=>?_⟩;obtain⟨a,b,c,d,_,_,f,h,i,l⟩:=g.at_ (k:=e) O;simp only[Option.some.injEq,Addr.mk.injEq] at d;obtain⟨rfl,rfl,_⟩:=d;exact⟨c,f,h,i,l⟩
structure SrF(a:Fr)(b c:Nat):Prop where
 w:a.W=b
 h:a.H=c
 w1:16<=b
 w2:b<=64
 h1:1<=c
 h2:c<=64
 y:a.Y.length=b*c
def Fv.srf{a e f}(d:Fv a e f){b c}(g:SrF f b c):e.W=b/\e.H=c/\∃h i,e.ya=M ⟨h,i,S⟩/\e.yn=b*c/\b*c<=e.yc/\Vx a h i f.Y:=by
 have a:=d.wh;rw[g.w,g.h] at a;refine⟨a.1,a.2,?_⟩;obtain⟨⟨a,b,c,h,i,l,n,o,p,q,r,_,_⟩,s⟩:=d;obtain⟨a,b,c,d,h,i,l,n,o,p,t⟩:=e;simp only[FV.val,Value.agg.injEq,Array.mk.injEq,List.cons.injEq,Value.slice.injEq,Value.int.injEq] at q;obtain⟨_,_,⟨rfl,rfl,rfl⟩,_⟩:=q;have a:=g.w1;have a:=g.h1;have a:0<f.Y.length:=by rw[g.y];exact Nat.mul_pos O O
 obtain⟨b,c,rfl,d,e⟩:=r.ZK a;exact⟨b,c,rfl,by rw[d,g.y],by have:=(eH.o s).1;rw[<-g.y,<-d];exact this,e⟩
end Go.Proofs.YtbdhieahnneebaaGreatDoor
