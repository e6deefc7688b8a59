/- Laws that TopChains leans on. -/
import Derived.Test.YtbdhieahnneebaaGreatDoorB05
set_option maxRecDepth 100000
set_option maxHeartbeats 32000000
set_option linter.all false
open Go.Proofs.Tryz
open And renaming intro->bZ
open Array renaming all_eq_true_iff_forall_mem->bG,ext_getElem?->oZ,getElem?_extract->iL,getElem?_setIfInBounds_ne->nl,getElem?_setIfInBounds_self_of_lt->qI,length_toList->cj,size_setIfInBounds->sG,toList_inj->ue
open Bool renaming and_eq_true->bT,false->av,true->aB
open Go renaming Calls->aT,Oper->cQ,Program->nt,TypeId->aR,Value->aq,World->T,loadVar->oA,madeCells->th,results->Ih,run_equalIn_int->nP,run_equalIn_struct->M8,run_loadVar_row->tm,run_underlying->fI,sizeOf->K3,undef->sJ,wpList->cG,wpQuiet_nil->aN,yielded->xZ
open Go.Act renaming put->ak
open Go.Addr.mk renaming injEq->iO
open Go.Ending renaming returned->aK
open Go.IntKind renaming i64->E
open Go.IntWalk renaming i64_in->an
open Go.Obj renaming cells->az
open Go.Op renaming eqFields->rW,equalIn->mF
open Go.Operand renaming tmp->aI
open Go.Proofs.Tryz renaming prog->aE,underlying2->qJ,underlying24->fV,underlying26->ik,underlying3->bJ,underlying32->Bj,underlying35->nC,underlying4->jD,underlying45->Zh,underlying5->pM,zeroCells99->fJ
open Go.Proofs.YtbdhieahnneebaaGreatDoor.Un renaming cells->fP
open Go.RowKit.Below renaming heap_setCell->eF,refl->aM,trans->mf
open Go.Value renaming agg->aG,bool->ao,int->J,oneCell'->cJ,ownBlock->kC,pointer->aD,slice->af,tuple->fE
open Go.Value.slice renaming injEq->dt
open Go.World renaming size_alloc->dA
open Int renaming le_refl->qZ,natCast_inj->NS,natCast_mul->cm
open List renaming append_eq_nil_iff->rL,eq_nil_of_length_eq_zero->dR,flatMap_cons->gL,getElem?_append_left->bo,getElem?_append_right->aU,getElem?_cons_succ->qb,getElem?_cons_zero->fF,getElem?_eq_getElem->aA,getElem?_eq_some_iff->aP,getElem?_map->bN,getElem?_set_ne->ye,getElem?_set_self->jA,getElem?_toArray->bw,length->mZ,length_append->aJ,length_cons->eu,length_map->cX,length_nil->eK,length_set->ee,length_take->dE,map_append->fY,map_map->qe,mem_append->dG,mem_cons->oU,mem_flatMap->pL,mem_iff_getElem?->xX,mem_map->iy,mem_of_getElem?->bg,nil_append->js,set_append_right->jT,take_add_one->qi,take_length->u7q,take_zero->dP
open Nat renaming add_sub_cancel_left->gj,le_refl->aw,le_trans->aY,mul_comm->dh,not_lt_zero->Vm,sub_self->oC,zero_add->oD,zero_le->qo
open Option renaming bind_eq_some_iff->kO,map_eq_some_iff->mB,map_some->bX,none->S,some->M
open Option.some renaming inj->fB,injEq->bq
namespace Go.Proofs.YtbdhieahnneebaaGreatDoor
open Go.RowKit Go.Top
def JJ.size{a}(b:JJ a):a.cells.size=135:=by simp[Sq.cells,Sq.head,b.X,b.R]
def Rr(a:Sq)(b:List (FV×Fr))(c:List Int)(d e:Bool)(f:Int):Prop:=jV a/\1<=f/\f<=31/\YB b.length c/\(∀g∈b,sN g.2 a.w a.h=aB)/\(a.B=aB\/(d=av/\e=aB))
def WO(c:Sq)(d:JJ c)(a e b:Bool)(f:Int)(g:List (FV×Fr))(h:List Int)(i l:aq)(n:g.length<=2)(o:T)(hF:Dw o i l g h):
  aT aE 29 #[aG c.cells,i,l,aG #[ao a,ao e,ao b],J E f] o (GR o (Rr c g h a b f)):=by
 let ⟨p,q,r⟩:=bh d n hF;have s:=aH d.size;have t:=aH (show∀u v,bD o v->(u=aB->Rr c g h a b f)->GR o (Rr c g h a b f) (aK (ao u)) v from fun w x y z=>⟨w,rfl,z,y⟩);let ⟨u,v,w⟩:=hF.fr;let ⟨x,y,z,H,U,V,W,Y,a0,a1,a2⟩:=Jo o c.cells 26 (#[ao a,ao e,ao b]) 30;subst w;go_enter func29,ntmps29;go_upto_region 1 with fail
 try simp only[sZ,ak]
 refine mr U ?_
 try simp only[dA]
 rw[<-H];clear U H;go_wp2_with refine lA 26 5 x (a1.o _ Y.o) s.o ?_;refine(IS c p.o z).mono ?_;rintro w H ⟨U,rfl,a3,a4⟩;have a5:=mX a4 Y;clear a4 Y;cases U
 ·clear a3
  go_wp2_with fail;go_ret;exact t.o av _ (a0.o _ a5.o) (fun U=>by cases U)
 have U:=aH (a3 rfl);clear a3
 by_cases Y:1<=f/\f<=31
 case neg=>
  go_wp2_with fail
  all_goals first
   |(go_ret;exact t.o av _ (a0.o _ a5.o) (fun a3=>by cases a3))
   |(exfalso;omega)
   |skip
  all_goals done
 have a3:decide (f<1)=av:=decide_eq_false O;have a4:decide (31<f)=av:=decide_eq_false O;have a6:=aH Y;have a7:=(a2.o _ a5.o).cell 0 (v:=ao a) rfl;have a8:=(a2.o _ a5.o).cell 1 (v:=ao e) rfl;have a9:=(a2.o _ a5.o).cell 2 (v:=ao b) rfl;have aa:=(a2.o _ a5.o).lt;go_wp2_with fail;refine(MT a e b u v g.length q.o l h H ((r.o.ext (a0.o _ a5.o)).ty) ((r.o.ext (a0.o _ a5.o)).ts)).mono ?_;rintro ab ac ⟨ad,rfl,ae,ag⟩;have ah:=mX ag a5;clear ag a5 a7 a8 a9 aa;cases ad
 ·clear ae
  go_wp2_with fail;go_ret;exact t.o av _ (a0.o _ ah.o) (fun a5=>by cases a5)
 have a5:=aH (ae rfl);clear ae;have a7:1<=g.length:=by rw[<-a5.o.1];exact a5.o.2.n1
 have a8:=aH a7;let ⟨a9,aa,ad,ae,ag,ai,aj⟩:=r.o.fs (by intro al;rw[al] at a7;exact absurd a7 dD);injection ae with al _ am;subst al am;let ⟨ae,al,am⟩:=bh ai aj ag;go_upto_region 4 with fail
 go_loopw [11] (fun ap wr=>∃ar:Nat,ar<=g.length/\ap=J E (ar:Int)/\Fm o x y wr/\fj (∀(ax:Nat)(ay:FV×Fr),ax<ar->g[ax]?=M ay->sN ay.2 c.w c.h=aB)) (fun aV _=>g.length-(intOf aV).toNat)
 case atStart=>exact⟨0,qo _,rfl,ah.o,aH (fun ap ar ax=>absurd ax (Vm ap))⟩
 case round=>
  obtain⟨ap,ar,rfl,ax,ay⟩:=hrel;have aV:=aH ax
  by_cases b0:ap<g.length
  ·let ⟨b1,b2⟩:∃b3,g[ap]?=M b3:=⟨_,aA b0⟩
   obtain⟨b3,b4,b5⟩:=bh b2 (show b1∈g from bg b2) (show(g.map fun b6=>FV.cells b6.1)[ap]?=M (FV.cells b1.1) by rw[bN,b2];rfl);have b6:decide ((ap:Int)<(g.length:Int))=aB:=decide_eq_true O;have b7:E.wrap ((ap:Int)+1)=((ap+1:Nat):Int):=by rw[show((ap+1:Nat):Int)=(ap:Int)+1 by omega];exact an _ (dU q.o)
   let ⟨b8,b9⟩:=aX (sN b1.2 c.w c.h);have ba:=aH b9;have bb:(ap:Int).toNat<g.length:=by simpa using b0
   clear b2 b9;go_upto_region 6 with fail;refine aL 99 (fun b2=>Fm o x y b2/\K6 b2 a9 aa 5 (g.map fun b9=>FV.cells b9.1)) rfl (fun bc bd=>?_);have b2:=aH (show Fm o x y wr/\K6 wr a9 aa 5 (g.map fun b9=>FV.cells b9.1) from⟨aV.o,ae.o.ext (a0.o _ aV.o)⟩);have b9:=mX bd aV;have be:=aH (ae.o.ext (a0.o _ b9.o));clear bd aV;refine gN 0 8 2 ?_;simp only[sZ,ak];iterate 3 (go_big_quiet_step (fail))
   refine s7 rfl 63 (aI 38) rfl a9 (aa+ap*5) 5 rfl (FV.cells b1.1) _ (fun bd bf=>by obtain⟨bi,rfl⟩:=bf;exact(iQ (C:=fun bk=>Fm o x y bk/\K6 bk a9 aa 5 (g.map fun bl=>FV.cells bl.1)) b2.o bi).2.row b5.o) rfl underlying63 bM ?_;simp only[sZ,ak];go_big_quiet_step (fail);refine lC b2 3 40 x 0 (J E c.w) (fun _ bd=>(a1.o _ bd.1).cell 0 (by rw[Sq.cells,bw];rfl)) bJ ?_;simp only[sZ,ak];go_big_quiet_step (fail);refine lC b2 3 42 x 1 (J E c.h) (fun _ bd=>(a1.o _ bd.1).cell 1 (by rw[Sq.cells,bw];rfl)) bJ ?_;refine aN (Ax 8 1 b2.o ?_);simp only[sZ,ak];refine bO rfl 71 #[FV.val b1.1,J E c.w,J E c.h] (ao b8) (fun bd=>by kernel_rfl) (fun bf bi=>(Qi (FV.val b1.1) b1.2 c.w c.h bf ((al.o b1 b4.o).ext (a0.o _ bi.1)).1).mono (fun bk bl bn=>⟨by rw[bn.1,ba.o],bn.2⟩)) ?_;refine gT 9 1 0 ?_;refine QD (fun bd bf=>⟨b9.o.ext bf,be.o.ext bf⟩) fun bi bk=>?_
   have bd:=mX bk b9;clear bk b9 be
   try simp only[ak]
   cases b8
   ·go_wp2_with fail
    go_ret;exact t.o av _ (a0.o _ bd.o) (fun b8=>by cases b8)
   ·have b8:=aH (show∀(b9:Nat)(be:FV×Fr),b9<ap+1->g[b9]?=M be->sN be.2 c.w c.h=aB from fun bf bk bl bn=>by
     rcases Nat.lt_or_ge bf ap with br|br
     ·exact ay.o bf bk br bn
     ·obtain rfl:bf=ap:=O
      rw[b3.o] at bn;injection bn with bs;subst bs;exact ba.o.symm)
    go_wp2_with fail;exact⟨⟨ap+1,b0,by go_num,bd.o,b8⟩,by simp[intOf];omega⟩
  ·obtain rfl:ap=g.length:=O
   have b1:=aH (show∀b2∈g,sN b2.2 c.w c.h=aB from fun b3 b4=>by
    let ⟨b5,b6⟩:=xX.1 b4;exact ay.o b5 b3 (aP.1 b6).1 b6)
   let ⟨b2,b3⟩:=aX c.B;have b4:=aH b3;have b5:=(a1.o _ aV.o).cell 4 (v:=ao c.B) (by rw[Sq.cells,bw];rfl);rw[<-b3] at b5;have b6:=(a2.o _ aV.o).cell 0 (v:=ao a) rfl;have b7:=(a2.o _ aV.o).cell 2 (v:=ao b) rfl;have b8:=(a1.o _ aV.o).lt;have b9:=(a2.o _ aV.o).lt;have ba:=aH (show∀bb,(bb=aB->(c.B=aB\/(a=av/\b=aB)))->GR o (Rr c g h a b f) (aK (ao bb)) wr from fun bc bd=>t.o bc wr (a0.o _ aV.o) (fun be=>⟨U.o,a6.o.1,a6.o.2,a5.o,b1.o,bd be⟩));clear b3;cases b2<;> cases a<;> cases b
   all_goals
    go_wp2_with fail;go_ret
    first
     |exact ba.o av (fun a=>by cases a)
     |exact ba.o aB (fun _=>.inl b4.o.symm)
     |exact ba.o aB (fun _=>.inr dS)
section
def pD(s:Sq)(v vt:aq)(fl al tp:Bool)(q:Int):Array aq:=(s.cells.toList++[v,vt,ao fl,ao al,ao tp,J E q]).toArray
section
variable {s:Sq} {v vt:aq} {fl al tp:Bool} {q:Int}
def uF(a:JJ s):(pD s v vt fl al tp q).size=141:=by
 have:=a.size;simp[pD,this]
def xH(b:JJ s)(a):(pD s v vt fl al tp q)[135+a]?=[v,vt,ao fl,ao al,ao tp,J E q][a]?:=by
 have:=b.size;rw[pD,bw,aU (by rw[cj,this];omega)];congr 1;rw[cj,this];omega
def Fq(a:JJ s):(pD s v vt fl al tp q)[135]?=M v:=xH a 0
def Fp(a:JJ s):(pD s v vt fl al tp q)[136]?=M vt:=xH a 1
def Fo(a:JJ s):(pD s v vt fl al tp q)[137]?=M (ao fl):=xH a 2
def Fl(a:JJ s):(pD s v vt fl al tp q)[138]?=M (ao al):=xH a 3
def Fk(a:JJ s):(pD s v vt fl al tp q)[139]?=M (ao tp):=xH a 4
def Lo(a:JJ s):(pD s v vt fl al tp q)[140]?=M (J E q):=xH a 5
def iI(a:JJ s):(pD s v vt fl al tp q).extract 0 (0+135)=s.cells/\0+135<=(pD s v vt fl al tp q).size:=by
 have b:=a.size;refine⟨?_,by rw[uF a];decide⟩;apply ue.1;rw[Array.toList_extract,pD,List.extract_eq_take_drop];simp[<-b]
end
def NK(s:Sq)(a:List (FV×Fr))(b:List Int)(fl tp:Bool)(q:Int):Prop:=a.length<=2/\Rr s a b fl tp q
def Hf(s:Sq)(a:JJ s)(fl al tp:Bool)(q:Int)(b:List (FV×Fr))(c:List Int)(v vt:aq)(d:T)(hF:Dw d v vt b c):
  aT aE 6 #[aG (pD s v vt fl al tp q),J E 2] d (GR d (NK s b c fl tp q)):=by
 obtain⟨e,f,g⟩:=bh a hF (show∀h i,bD d i->(h=aB->NK s b c fl tp q)->GR d (NK s b c fl tp q) (aK (ao h)) i from fun l n o p=>⟨l,rfl,p,o⟩);let ⟨h,i,l⟩:=hF.fr;let ⟨n,o,p,r,t,u,w,x,y,z⟩:=Abe d (pD s v vt fl al tp q) 32;have H:=aH l;clear a hF l;go_enter func6,ntmps6;go_upto_region 1 with fail
 try simp only[sZ,ak]
 refine mr t ?_
 try simp only[dA]
 rw[<-r];clear t r;have a:=(z.o _ x.o).cell 135 (v:=af h b.length i) (D8 H.o (Fq e.o));have l:=(z.o _ x.o).lt
 by_cases r:b.length<=2
 case neg=>
  have t:decide ((2:Int)<(b.length:Int))=aB:=decide_eq_true O;go_wp2_with fail;go_ret;exact g.o av _ (y.o _ x.o) (fun U=>by cases U)
 have t:decide ((2:Int)<(b.length:Int))=av:=decide_eq_false O;have U:=aH r;go_upto_region 4 with fail
 go_loopw [5] (fun V wr=>∃W:Nat,W<=b.length/\V=J E (W:Int)/\wr=p) (fun Y _=>b.length-(intOf Y).toNat)
 case atStart=>exact⟨0,qo _,rfl,rfl⟩
 case round=>
  obtain⟨V,W,rfl,rfl⟩:=hrel
  by_cases Y:V<b.length
  ·let ⟨a0,a1⟩:∃a2,b[V]?=M a2:=⟨_,aA Y⟩
   let ⟨a2,a3,a4,a5,a6,a7,a8⟩:=f.o.fs (by intro a9;rw[a9] at Y;exact absurd Y (Vm V));rw[H.o] at a5;injection a5 with a9 _ aa;subst a9 aa;have a5:=(a7.ext (y.o _ x.o)).cell (k:=V) (m:=FV.cells a0.1) (by rw[bN,a1];rfl) (j:=2) (v:=af a0.1.ya a0.1.yn a0.1.yc) rfl (a3+V*5+2) O;have a9:decide ((V:Int)<(b.length:Int))=aB:=decide_eq_true O;have aa:E.wrap ((V:Int)+1)=((V+1:Nat):Int):=by rw[show((V+1:Nat):Int)=(V:Int)+1 by omega];exact an _ (dU U.o)
   have ab:(V:Int).toNat<b.length:=by simpa using Y
   by_cases ac:a0.1.yn<=5000
   ·have ad:decide ((5000:Int)<(a0.1.yn:Int))=av:=decide_eq_false O
    go_wp2_with fail;exact⟨⟨V+1,Y,by go_num,trivial⟩,by simp[intOf];omega⟩
   ·have ad:decide ((5000:Int)<(a0.1.yn:Int))=aB:=decide_eq_true O
    go_wp2_with fail;go_ret;exact g.o av _ (y.o _ x.o) (fun ae=>by cases ae)
  ·obtain rfl:V=b.length:=O
   have a0:decide (((b.length:Nat):Int)<((b.length:Nat):Int))=av:=decide_eq_false O;have a1:=(z.o _ x.o).cell 136 (v:=vt) (Fp e.o);have a2:=(z.o _ x.o).cell 137 (v:=ao fl) (Fo e.o);have a3:=(z.o _ x.o).cell 138 (v:=ao al) (Fl e.o);have a4:=(z.o _ x.o).cell 139 (v:=ao tp) (Fk e.o);have a5:=(z.o _ x.o).cell 140 (v:=J E q) (Lo e.o);go_wp2_with refine lS 26 26 n 0 (z.o _ x.o) (iI e.o).1 (iI e.o).2 ?_;refine(WO s e.o fl al tp q b c (af h b.length i) vt U.o wr (by rw[<-H.o];exact f.o.ext (y.o _ x.o))).mono ?_;rintro a6 a7 ⟨a8,rfl,a9,aa⟩;have ab:=aH (g.o a8 a7 ((y.o _ x.o).trans aa) (fun ac=>⟨U.o,a9 ac⟩));go_wp2_with fail;go_ret;exact ab.o
end
def Ae7{d g h a b}(e:a=((16*g:Nat):Int))(f:b=((16*h:Nat):Int))(c:sN d a b=aB):Dm g h d:=by
 simp only[sN,bT,decide_eq_true_eq] at c;let ⟨⟨a,b⟩,i⟩:=c;let ⟨c,l,n,o,p⟩:=d;let ⟨_,_,_,_,_,_,c,d,l⟩:=uE a;simp only at b i c d l ⊢;subst b i e f;have a:((16*g:Nat):Int)/2=((8*g:Nat):Int):=O;have b:((16*h:Nat):Int)/2=((8*h:Nat):Int):=O;rw[a,b,<-cm,NS] at d l;rw[<-cm,NS] at c;exact⟨rfl,rfl,by rw[c,dh],by rw[d,dh],by rw[l,dh]⟩
def NM(a:T)(b:Sq)(c d e:Bool)(f g:aq)(h i:Nat)(l:List (FV×Fr))(n:List Int):Prop:=∀o:Nat,1<=o->o<=31->Gp a (tY b c d e (o:Nat) f g .nilIface) h i o l n
def NM.ext{a b c d e f g h i l n o}(p:NM a c d e f g h i l n o)(q:bD a b):NM b c d e f g h i l n o:=fun r s t=>
 let a:=p r s t
 {a with fr:=a.fr.ext q,ty:=a.ty.ext q,gl:=a.gl.ext q}
instance {w w' x1 x2 x3 x4 x5 x6 x7 x8 x9 x10}:Tr w w' (NM w x1 x2 x3 x4 x5 x6 x7 x8 x9 x10) (NM w' x1 x2 x3 x4 x5 x6 x7 x8 x9 x10):=⟨fun hb h=>NM.ext h hb⟩
def OR{a h b al c v vt d e f}(g:Rr h d e b c f)(hF:Dw a v vt d e)(i:fD a):∃l n,NM a h b al c v vt l n d e:=by
 let ⟨a,_,_,⟨b,c⟩,d,e⟩:=g;have f:=c.n1;have g:h.w=((16*(h.w/16).toNat:Nat):Int):=by have:=a.w1;have:=a.w3;omega
 have l:h.h=((16*(h.h/16).toNat:Nat):Int):=by have:=a.h1;have:=a.h3;omega
 refine⟨(h.w/16).toNat,(h.h/16).toNat,fun n o p=>?_⟩;exact {sq:=a,a1:=by have:=a.w1;omega,a2:=by have:=a.w2;omega,B1:=by have:=a.h1;omega,B2:=by have:=a.h2;omega,sw:=g,sh:=l,mq:=rfl,q1:=o,q2:=p,fr:=hF.fs (by intro h;rw[h] at b;rw[b] at f;cases f),ty:=hF.ts (by intro n;rw[n] at f;cases f),dm:=fun q r=>Ae7 g l (d q r),len:=b.symm,tx:=c,B:=e,gl:=i}
def Q0(c:Sq)(a:JJ c)(d e f:Bool)(g h i:Nat)(l:List (FV×Fr))(n:List Int)(o p:aq)(q:T)(b:Gp q (tY c d e f g o p .nilIface) h i g l n):
  aT aE 8 #[aG (pD c o p d e f (g:Nat))] q (Pf q (tY c d e f g o p .nilIface) h i g l n.length):=by
 obtain⟨r,s,t⟩:=bh a b (fun u=>C8 OM c d e f g h i l n o p u);let ⟨a,b,u,v,w,x,y,z,H,U⟩:=Abe q (pD c o p d e f (g:Nat)) 32;go_enter func8,ntmps8;go_upto_region 1 with fail
 try simp only[sZ,ak]
 refine mr w ?_
 try simp only[dA]
 rw[<-v];clear w v;have b:=(U.o _ z.o).cell 135 (v:=o) (Fq r.o);have b:=(U.o _ z.o).cell 136 (v:=p) (Fp r.o);have b:=(U.o _ z.o).cell 137 (v:=ao d) (Fo r.o);have b:=(U.o _ z.o).cell 138 (v:=ao e) (Fl r.o);have b:=(U.o _ z.o).cell 139 (v:=ao f) (Fk r.o);have b:=(U.o _ z.o).cell 140 (v:=J E (g:Int)) (Lo r.o);go_wp2_with refine lS 26 5 a 0 (U.o _ z.o) (iI r.o).1 (iI r.o).2 ?_;have a:=H.o _ z.o;refine(t.o u {s.o with fr:=s.o.fr.ext a,ty:=s.o.ty.ext a,gl:=s.o.gl.ext a}).mono ?_;rintro b r ⟨s,t,u,v,w,x,rfl,y,z,H,U⟩;have b:=aH (show Pf q (tY c d e f g o p .nilIface) h i g l n.length (aK (fE #[af (M ⟨t,0,S⟩) w.length u,af (M ⟨v,0,S⟩) n.length n.length,J E 0])) r from⟨s,t,u,v,w,x,rfl,y,aY a.size z,H,a.trans U⟩);go_wp2_with fail
 go_ret3
 exact b.o
section
section
variable {P:nt} {w:T}
def OV{a b c}:∃d,(rW a b c []).run P w=.ok d w/\(d=aB->True):=⟨aB,by simp[rW],fun _=>trivial⟩
def nG{d a b f c e g n h i}(o:f.name≠ "_")(p:(part f.type a f.offset).run P w=.ok e w)(q:(part f.type b f.offset).run P w=.ok g w)
  (r:(mF d f.type e g).run P w=.ok n w)(s:n=aB->i)(l:∃t,(rW d a b c).run P w=.ok t w/\(t=aB->h)):∃u,(rW d a b (f::c)).run P w=.ok u w/\(u=aB->i/\h):=by
 let ⟨a,b,c⟩:=l;cases n with
 |false=>exact⟨av,by simp[rW,o,p,q,r],fun e=>by cases e⟩
 |true=>exact⟨a,by simp[rW,o,p,q,r,b],fun e=>⟨s rfl,c e⟩⟩
def lT{a b}(c:P.underlying a=M (.int b)){d e f}(g:d[e]?=M f):(part a d e).run P w=.ok f w:=by simp[part,isAgg,fI c,g]
def Hq{a}(b:P.underlying a=M .bool){c d e}(f:c[d]?=M e):(part a c d).run P w=.ok e w:=by simp[part,isAgg,fI b,f]
def tF{a}(b:(isAgg a).run P w=.ok aB w){c}(d:(K3 a).run P w=.ok c w){e f g}(h:e.extract g (g+c)=f):(part a e g).run P w=.ok (aG f) w:=by simp[part,b,d,h]
end
def BO{a b:Int}(c:(a==b)=aB):a=b:=by simpa using c
def Ym{a b:Bool}(c:(a==b)=aB):a=b:=by simpa using c
def Aao(e a b c d w):∃f,(mF (e+2) 23 (aG #[J E a,J E b]) (aG #[J E c,J E d])).run aE w=.ok f w/\(f=aB->a=c/\b=d/\True):=by
 rw[M8 w (e+1) 23 _ _ dK dK];rw[show(aE.fieldsOf 23).toList=[{name:= "Num",type:=2,offset:=0,embedded:=false,tag:= "",pkgPath:= "",byteOffset:=0},{name:= "Den",type:=2,offset:=1,embedded:=false,tag:= "",pkgPath:= "",byteOffset:=8}] by kernel_rfl]
 exact nG dD (lT qJ rfl) (lT qJ rfl) (nP w e _ _ _ _ _ qJ) BO
  (nG dD (lT qJ rfl) (lT qJ rfl) (nP w e _ _ _ _ _ qJ) BO OV)
def Sq.c0(a:Sq)(b)(c:b<7):a.cells[b]?=a.head[b]?:=by
 rw[Sq.cells,bw,List.append_assoc,bo (by simpa[Sq.head] using c)]
def Aaa(a b)(c:jV a)(d:jV b)(w):∃e,(binOp .neq 26 (aG a.cells) (aG b.cells)).run aE w=.ok (ao e) w/\(e=av->a=b):=by
 have e:∀f:Sq,jV f->f.cells.extract 2 (2+2)=#[J E f.num,J E f.den]:=fun g h=>by
  apply oZ;intro i;rw[iL,Sq.size h];split
  ·rename_i l
   rw[Sq.c0 g (2+i) O]
   match i,l with
   |0,_=>rfl
   |1,_=>rfl
   |n+2,o=>omega
  ·exact(Array.getElem?_eq_none eB).symm
 have f:∀w:T,(isAgg 24).run aE w=.ok aB w:=fun w=>by kernel_rfl
 have g:∀w:T,(K3 24).run aE w=.ok 64 w:=fun w=>by kernel_rfl
 have h:∀w:T,(isAgg 23).run aE w=.ok aB w:=fun w=>by kernel_rfl
 have i:∀w:T,(K3 23).run aE w=.ok 2 w:=fun w=>by kernel_rfl
 have l:∀w:T,(K3 5).run aE w=.ok 1 w:=fun w=>by kernel_rfl
 let ⟨n,o,p⟩:=Aao 9997 a.num a.den b.num b.den w
 obtain⟨q,r,s⟩:=nG (P:=aE) (w:=w) (d:=9999) (f:={name:= "W",type:=3,offset:=0,embedded:=false,tag:= "",pkgPath:= "",byteOffset:=0}) dD (lT bJ (Sq.c0 a 0 dD)) (lT bJ (Sq.c0 b 0 dD)) (nP w 9998 _ _ _ _ _ bJ) BO
  (nG (f:={name:= "H",type:=3,offset:=1,embedded:=false,tag:= "",pkgPath:= "",byteOffset:=8}) dD (lT bJ (Sq.c0 a 1 dD)) (lT bJ (Sq.c0 b 1 dD)) (nP w 9998 _ _ _ _ _ bJ) BO
  (nG (f:={name:= "Rate",type:=23,offset:=2,embedded:=false,tag:= "",pkgPath:= "",byteOffset:=16}) dD (tF (h w) (i w) (e a c)) (tF (h w) (i w) (e b d)) o p
  (nG (f:={name:= "Interlaced",type:=4,offset:=4,embedded:=false,tag:= "",pkgPath:= "",byteOffset:=32}) dD (Hq jD (Sq.c0 a 4 dD)) (Hq jD (Sq.c0 b 4 dD)) (run_equalIn_bool' w 9998 _ _ _ jD) Ym
  (nG (f:={name:= "BitRate",type:=3,offset:=5,embedded:=false,tag:= "",pkgPath:= "",byteOffset:=40}) dD (lT bJ (Sq.c0 a 5 dD)) (lT bJ (Sq.c0 b 5 dD)) (nP w 9998 _ _ _ _ _ bJ) BO
  (nG (f:={name:= "Buffer",type:=3,offset:=6,embedded:=false,tag:= "",pkgPath:= "",byteOffset:=48}) dD (lT bJ (Sq.c0 a 6 dD)) (lT bJ (Sq.c0 b 6 dD)) (nP w 9998 _ _ _ _ _ bJ) BO
  (nG (f:={name:= "Intra",type:=24,offset:=7,embedded:=false,tag:= "",pkgPath:= "",byteOffset:=56}) dD (tF (f w) (g w) (Sq.eA c)) (tF (f w) (g w) (Sq.eA d)) (pF .u8 .u8 9997 64 _ 5 w fV pM (l w) _ _ c.X.1 d.X.1) of_decide_eq_true
  (nG (f:={name:= "Inter",type:=24,offset:=71,embedded:=false,tag:= "",pkgPath:= "",byteOffset:=120}) dD (tF (f w) (g w) (Sq.eR c)) (tF (f w) (g w) (Sq.eR d)) (pF .u8 .u8 9997 64 _ 5 w fV pM (l w) _ _ c.R.1 d.R.1) of_decide_eq_true OV)))))))
 refine⟨!q,?_,fun t=>?_⟩
 ·rw[run_neq_struct]
  change ((mF (9999+1) 26 (aG a.cells) (aG b.cells)).run aE w).andThen _=_;rw[M8 w 9999 26 _ _ dK dK];rw[show(aE.fieldsOf 26).toList=[{name:= "W",type:=3,offset:=0,embedded:=false,tag:= "",pkgPath:= "",byteOffset:=0},{name:= "H",type:=3,offset:=1,embedded:=false,tag:= "",pkgPath:= "",byteOffset:=8},{name:= "Rate",type:=23,offset:=2,embedded:=false,tag:= "",pkgPath:= "",byteOffset:=16},{name:= "Interlaced",type:=4,offset:=4,embedded:=false,tag:= "",pkgPath:= "",byteOffset:=32},{name:= "BitRate",type:=3,offset:=5,embedded:=false,tag:= "",pkgPath:= "",byteOffset:=40},{name:= "Buffer",type:=3,offset:=6,embedded:=false,tag:= "",pkgPath:= "",byteOffset:=48},{name:= "Intra",type:=24,offset:=7,embedded:=false,tag:= "",pkgPath:= "",byteOffset:=56},{name:= "Inter",type:=24,offset:=71,embedded:=false,tag:= "",pkgPath:= "",byteOffset:=120}] by kernel_rfl];rw[r];rfl
 ·let ⟨u,v,⟨x,y,_⟩,z,H,U,V,W,_⟩:=s (by cases q with|true=>rfl|false=>cases t)
  obtain⟨Y,a0,a1,a2,a3,a4,a5,a6,a7⟩:=a;obtain⟨a,a8,a9,aa,ab,ac,ad,ae,ag⟩:=b;simp only at u v x y z H U V W;subst u v x y z H U V W;rfl
end
def wF:List (eQ×Int)->Int->List (eQ×Int)
 |[],_=>[]
 |[a],b=>[(a.1,b)]
 |a::b::c,d=>a::wF (b::c) d
def KT:∀(a:List (eQ×Int))(b:Int),(wF a b).length=a.length
 |[],_=>rfl
 |[_],_=>rfl
 |a::b::c,d=>by simp only[wF,eu,KT (b::c) d]
def KR:∀(a:List (eQ×Int))(b:Int)(i:eQ×Int),a[a.length-1]?=M i->a.set (a.length-1) (i.1,b)=wF a b
 |[],_,_,a=>by simp at a
 |[a],b,c,d=>by
  have:a=c:=by simpa using d
  subst this;rfl
 |a::b::c,d,e,f=>by
  have a:=KR (b::c) d e (jP f);rw[wF,<-a];simp
def SZ{a}(c:YG a)(b):YG (wF a b):=by
 cases c with
 |one a b c=>exact .one a b c
 |two a b c=>exact .two a b c
def Gr.pad(a:Gr)(b:Int):Gr:=⟨a.pre,wF a.tl b⟩
def Gr.Af7{a}(b:GS a)(c):GS (a.pad c):=⟨b.pre,SZ b.tl c⟩
def Gr.YM(a:Gr)(b):(a.pad b).its.length=a.its.length:=by simp[Gr.its,Gr.pad,KT]
def fC:List Gr->List Int->List Gr
 |[],_=>[]
 |a,[]=>a
 |a::b,c::d=>a.pad c::fC b d
def Au(a):fC a []=a:=by cases a<;> rfl
def oK:∀(a:List Gr)(b:List Int),(fC a b).length=a.length
 |[],_=>by simp[fC]
 |a::b,[]=>by simp[fC]
 |a::b,c::d=>by simp[fC,oK b d]
def N4:∀{a:List Gr}(b:List Int),(∀c∈a,GS c)->∀d∈fC a b,GS d
 |[],_,_=>by simp[fC]
 |a::b,[],c=>by simpa[fC] using c
 |a::b,c::d,e=>by
  intro b f;rw[fC,oU] at f;rcases f with rfl|g
  ·exact Gr.Af7 (e a dS) c
  ·exact N4 d (fun a c=>e a (by simp[c])) b g
def rk:∀(a:List Gr)(b:List Int)(c:Nat),offG (fC a b) c=offG a c
 |[],a,b=>by simp[fC]
 |a::b,[],c=>by simp[fC]
 |a::b,c::d,0=>by rw[tJ,tJ]
 |a::b,c::d,e+1=>by
  rw[fC,tK,tK,rk b d e,Gr.YM]
def EX(a b c):lstG (fC a b) c=lstG a c:=by unfold lstG;rw[rk]
def xy(a b):(bF (fC a b)).length=(bF a).length:=by
 rw[<-EZ,<-EZ,oK,rk]
def DP:∀(a:List Gr)(b:List Int)(c:Nat),b.length<=c->(fC a b)[c]?=a[c]?
 |[],a,b,_=>by simp[fC]
 |a::b,[],c,_=>by simp[fC]
 |a::b,c::d,0,e=>by simp at e
 |a::b,c::d,e+1,f=>by
  rw[fC,qb,qb];exact DP b d e (jP f)
def BJ:∀(a:List Gr)(b:List Int)(c:Int)(d:Gr),a[b.length]?=M d->fC a (b++[c])=(fC a b).set b.length (d.pad c)
 |[],a,b,c,d=>by simp at d
 |a::b,[],c,d,e=>by
  have:a=d:=by simpa using e
  subst this;simp[fC,Au]
 |a::b,c::d,e,f,g=>by
  have a:=BJ b d e f (jP g);simp only[List.cons_append,fC,eu,List.set_cons_succ,a]
def U0{d}(a:∀h∈d,GS h){g e}(c:d[g]?=M e){i}(b:(bF d)[lstG d g]?=M i)(f):(bF d).set (lstG d g) (i.1,f)=bF (d.set g (e.pad f)):=by
 have h:=uD a c;have h:=Gr.pos (a e (bg c));have h:=BK c;have h:=(a e (bg c)).tl.ne;have a:g<d.length:=(aP.1 c).1
 have h:lstG d g=(bF (d.take g)).length+(e.its.length-1):=by
  have:offG d g=(bF (d.take g)).length:=rfl;omega
 have l:e.its[e.its.length-1]?=M i:=by
  rw[uG c,h,aU O,gj,bo O] at b;exact b
 have b:e.tl[e.tl.length-1]?=M i:=by
  have n:e.its.length-1=e.pre.length+(e.tl.length-1):=by simp[Gr.its];omega
  rw[n,Gr.its,aU O,gj] at l;exact l
 have l:e.its.set (e.its.length-1) (i.1,f)=(e.pad f).its:=by
  have n:e.its.length-1=e.pre.length+(e.tl.length-1):=by simp[Gr.its];omega
  rw[n,Gr.its,jT _ _ O,gj,KR _ _ _ b];rfl
 rw[uG c,h,jT _ _ O,gj,List.set_append_left _ _ O,l];have b:(d.set g (e.pad f))[g]?=M (e.pad f):=jA a;rw[uG b,List.take_set_of_le (aw _),List.drop_set_of_lt (Nat.lt_succ_self g)]
def Kt:∀{l:List (eQ×Int)},l≠[]->(∀i∈l,i.2=0)->∀a,pn (wF l a)=pn l+a
 |[],a,_,_=>absurd rfl a
 |[a],_,b,c=>by
  have:=b a dS;simp[wF,pn,Hh,this]
 |a::b::c,_,d,e=>by
  have f:=Kt (l:=b::c) dS (fun g h=>d g (by simp[h])) e;have d:pn (wF (a::b::c) e)=Hh a+pn (wF (b::c) e):=by simp[wF,pn]
  have d:pn (a::b::c)=Hh a+pn (b::c):=by simp[pn]
  omega
def Ob{c}(a:GS c)(b:∀i∈c.its,i.2=0)(d):pn (c.pad d).its=pn c.its+d:=by
 have:=Kt (l:=c.tl) (by have:=a.tl.ne;intro e;rw[e] at this;simp at this) (fun f g=>b f (by simp[Gr.its,g])) d;show pn (c.pre++wF c.tl d)=pn (c.pre++c.tl)+d;rw[Ix,Ix];omega
def AP(a:List Gr):List Int:=a.map fun b=>8*pn b.its
def FG:∀{G:List Gr}(a:List Int),a.length=G.length->(∀b∈G,GS b)->(∀c∈G,∀i∈c.its,i.2=0)->AP (fC G a)=Go.Top.sS (AP G) a
 |[],_,_,_,_=>by simp[fC,AP,Go.Top.sS]
 |a::b,[],c,_,_=>by simp at c
 |a::b,c::d,e,f,g=>by
  have h:=FG (G:=b) d (jP e) (fun l n=>f l (by simp[n])) (fun o p=>g o (by simp[p]));have b:=Ob (f a dS) (g a dS) c;simp only[AP,fC,List.map_cons,Go.Top.sS] at h ⊢;rw[h,b];congr 1;omega
def wZ(a b):bF (a++b)=bF a++bF b:=by simp[bF]
end Go.Proofs.YtbdhieahnneebaaGreatDoor
namespace Go.Top
section
section
variable {C K A n:Int}
def N3(a:0<K)(b:K=8*n)(c:A+K<=C):∀(d:List Int)(e:Int)(f:List Int),e<=C->qv C K A n e d=M f->∀(g:Nat)(h i:Int),d[g]?=M h->f[g]?=M i->0<=i/\(i=0\/n*(h+8*i)<=C)
 |[],d,e,_,f,g,h,i,l,_=>by simp at l
 |d::e,f,g,h,i,l,o,p,q,r=>by
  unfold qv at i;split at i
  ·cases i
  ·split at i
   ·rename_i s
    obtain⟨t,u,rfl⟩:=mB.1 i;obtain⟨v,w⟩:=AM (x:=f+(A-n*d)-C) a;generalize x:(f+(A-n*d)-C+K-1)/K=y at*
    cases l with
    |zero=>
     simp only[fF,bq] at q r;subst q;subst r;refine⟨?_,.inr ?_⟩
     ·rcases Int.lt_or_le y 0 with g|g
      ·have:=Int.mul_le_mul_of_nonneg_right (show y<=-1 by omega) (Int.le_of_lt a)
       omega
      ·exact g
     ·rw[EW b];omega
    |succ g=>
     exact N3 a b c e _ t (by omega) u g o p (by simpa using q) (by simpa using r)
   ·rename_i g
    obtain⟨h,s,rfl⟩:=mB.1 i;cases l with
    |zero=>
     simp only[fF,bq] at q r;subst r;exact⟨qZ 0,.inl rfl⟩
    |succ i=>
     have l:e≠[]:=by intro t;subst t;simp at q
     exact N3 a b c e _ h (by have:¬(0<f+(A-n*d)-C):=fun t=>g ⟨t,l⟩;omega) s i o p (by simpa using q) (by simpa using r)
end
end
end Go.Top
namespace Go.Proofs.YtbdhieahnneebaaGreatDoor
open Go.RowKit Go.Top
def TJ:(aE.info? 3).map (fun i=>(i.zero,i.size,i.bytes))=M (M (J E 0),1,8):=dK
def El(o:List Gr)(a:∀p∈o,GS p)(b:o≠[])(c:∀i∈bF o,Vw i)(d:(bF o).length<=256)(n:T)(g h l:Nat)(e:FP n g h (bF o))(f:fD n):
  aT aE 9 #[af (M ⟨g,h,S⟩) (bF o).length l] n fun p q=>∃r s,p=aK (fE #[af (M ⟨r,0,S⟩) o.length s,J E 0])/\jW q n.heap.size 102 4 (af (M ⟨r,0,S⟩) o.length s) ((cP o).map fP)/\bD n q:=by
 let ⟨p,q⟩:=aX (bF o);rw[<-q] at e c d ⊢;let ⟨r,s⟩:=aX n.heap.size;obtain⟨t,u,v,w,x,y⟩:=ej a (show 1<=o.length by cases o with|nil=>exact absurd rfl b|cons z H=>simp) c d e f;obtain⟨z,H,U,V⟩:=dq q s (show o.length<=256 from aY (AG a) (D8 q d)) (fun W Y=>S5 p W g h l Y d);have W:=fun Y=>run_make_row' (P:=aE) 28 3 (J E 0) 8 underlying28 TJ rfl E E p.length O O Y
 clear a b c d e f q;go_enter func9,ntmps9;go_upto_region 2 with fail
 have a:=aH (show Bn E (n.alloc (az (th #[J E 0] p.length) 3)) 3 r (tH [] p.length) by
  have b:th #[J E 0] p.length=aS E (tH [] p.length):=by
   apply ue.1;rw[toList_madeCells_one];simp[aS,tH]
  rw[b];exact Bn.D _ _ _ _ _ s)
 have b:=aH (show Below r n (n.alloc (az (th #[J E 0] p.length) 3)) from(aM _ _).alloc O _);rw[<-s];clear s W;generalize n.alloc (az (th #[J E 0] p.length) 3)=c at*
 go_wp2_with fail
 go_loopw [21] (fun d wr=>SzW p r r n d wr) (fun e _=>p.length-(intOf e).toNat)
 case atStart=>exact⟨0,by omega,rfl,a.o,b.o⟩
 case round=>
  obtain⟨d,e,rfl,f,q⟩:=hrel
  by_cases s:d<p.length
  ·have W:p[d]?=M p[d]:=aA s
   generalize p[d]=Y at*
   have a0:=v.o Y (bg W);have a1:bD n wr:=by rw[H.o] at q;exact q
   let ⟨a2,a3,_,_,a4,a5,a6⟩:=(x.o.ext a1).at W;let ⟨a4,a7⟩:=Y;dsimp only at a3;obtain⟨Y,a8,a9,aa,ab,ac⟩:=ej a5 a6 (Wk a4 a2 a7 wr a3 a0.p0 a0.p1 (y.o.ext a1)) f q W;have a2:=aH (show Hh (a4,a7)=(a4.bytes.length:Int)+a7 from rfl);have ad:=a0.bd;rw[a2.o] at ad;let ⟨ae,ag⟩:=aX ((a4.bytes.length:Int)+a7);rw[<-ag] at a9 a2 ad;have a4:E.wrap ((d:Int)+1)=((d+1:Nat):Int):=by rw[show((d+1:Nat):Int)=(d:Int)+1 by omega];exact an _ (dU w.o)
   clear W a0 q a1 a3 a5 a6 f ag;go_upto_region 6 with refine xq dW 99 (aI 27) rfl g h _ 148 d O rfl Y.o a8.o rfl underlying99 FM ?_;refine mR a9.o fun W Y=>?_
   have a0:=mX Y aa;have a1:=aH (show Below r n W from ab.o.trans (Y.mono (dU aa.o.lt)));clear Y a9;have W:((p.take d).map Hh).length=d:=by rw[cX,dE];omega
   have Y:=a0.o.cell d;have a3:=a0.o.frozen d;have a3:=a0.o.lt;rw[show p.length-d=(p.length-(d+1))+1 by omega] at Y
   rw[show(tH ((p.take d).map Hh) (p.length-(d+1)+1))[d]?=M 0 by
    unfold tH;rw[aU O,W,oC];rfl] at Y
   have a3:=aH W;clear W;simp only[bX] at Y;go_wp2_with fail;refine⟨⟨d+1,by omega,by go_num,?_,a1.o.setCell (by show r<=r;omega) _⟩,by simp[intOf];omega⟩;have W:=a0.o.L d ae;have Y:=KW ((p.take d).map Hh) (p.length-(d+1)) ae;rw[a3.o] at Y;rw[show p.length-d=(p.length-(d+1))+1 by omega,Y] at W;rw[qi,ac.o,fY];simpa[a2.o] using W
  ·obtain rfl:d=p.length:=O
   have W:=aH (show Bn E wr 3 r (p.map Hh) by
    have:=f;rw[oC,u7q] at this;simpa[tH] using this)
   have Y:=aH q;have a0:bD n wr:=by rw[H.o] at q;exact q
   have a1:=mX a0 x;have a2:=aH (V.o wr (x.o.ext a0));clear q a0 f V;go_wp2_with fail;refine a2.o.mono ?_;rintro f q ⟨V,rfl,a0,a3⟩;rw[z.o,MP t.o] at a0;obtain⟨a4,a5,rfl,a6,a7,a8⟩:=a0.rows (by intro a9;have:=congrArg mZ a9;rw[Ad,eK] at this;have:=u.o;omega);rw[Ad] at a0 a7 ⊢;obtain⟨a9,aa,ab,ac⟩:=dq a0 a3 a8 (show bD n wr by have:=Y.o;rw[H.o] at this;exact this);clear a0 a3 a8 a2;have Y:=u.o;have a0:((o.length:Int)==0)=av:=beq_eq_false_iff_ne.2 O;have a2:o[0]?=M (o[0]'Y):=aA _;have a3:=aH (uD t.o a2);clear a2;let ⟨a2,hF⟩:=aX (yk o 0);have a8:=ab.o.cell (oG (a:=0) (b:=0) (c:=0) Y) (j:=0) (v:=J E (a2:Int)) (by simp[Bd,fP,hF]) 0 O;rw[<-hF] at a3;have ad:=aH (show a2<p.length by have:=a3.o;rw[z.o];omega);clear hF;go_wp2_with fail
   go_loopw [49] (fun ae wr=>∃ag:Nat,ag<=a2/\ae=J E (ag:Int)/\wr=q) (fun ah _=>a2-(intOf ah).toNat)
   case atStart=>exact⟨0,by omega,rfl,rfl⟩
   case round=>
    obtain⟨ae,ag,rfl,rfl⟩:=hrel
    by_cases ah:ae<a2
    ·have ai:p[ae]?=M (p[ae]'(dU ad.o)):=aA _
     generalize (p[ae]'(dU ad.o))=aj at*
     let ⟨al,_,am,_,_⟩:=(a1.o.ext aa.o).at ai;rw[show h+148*ae=h+ae*148 by omega] at am;have ap:ae<p.length:=by have:=ad.o;omega
     have ar:=Ts aj.1;generalize aj.1.kind=ax at*
     have aj:E.wrap ((ae:Int)+1)=((ae+1:Nat):Int):=by rw[show((ae+1:Nat):Int)=(ae:Int)+1 by omega];exact an _ (dU w.o)
     clear ai;go_wp2;exact⟨⟨ae+1,by omega,by go_num,by first|trivial|rfl⟩,by simp[intOf];omega⟩
    ·obtain rfl:ae=a2:=O
     have ai:=aH (Iu o t.o _ _ _ g h l a4 a5 rfl aa.o (D8 z.o w.o) (D8 z.o a1.o) a9.o);rw[<-z.o] at ai;clear a8;go_wp2_with fail;refine mR ai.o fun a8 ⟨aj,al⟩=>?_
     have am:=aH (show JI o n r a4 a5 (xt o 0 0 o.length) a8 from⟨jW.mono aj (dU W.o.lt),by rw[<-z.o];exact W.o.ext al,ac.o.trans al⟩);clear aj al ai;have ai:n.heap.size<=r:=by rw[H.o];exact aw _
     have aj:=aH ai;let ⟨al,ap,ar⟩:=am.o.cell (oG (a:=0) (b:=0) (c:=o.length) Y) (j:=0) (v:=J E (yk o 0:Nat)) (by simp[Bd,fP]) (off:=0) O
     have ax:=aH (show JI o n r a4 a5 (xt o (0+1) 0 o.length) (a8.setCell ⟨a4,0,S⟩ (J E 0)) by
      have ay:=am.o.set ai (oG (a:=0) (b:=0) (c:=o.length) Y) (j:=0) dD (J E (offG o 0:Nat)) (off:=0) O;rw[O7 Y,tJ] at ay;exact ay)
     clear ai;go_wp2_with fail;generalize a8.setCell ⟨a4,0,S⟩ (J E 0)=ai at*
     clear al ap ar
     go_loopw [10] (fun al wr=>U3W o n r a4 a5 al wr) (fun ap _=>o.length-(intOf ap).toNat)
     case atStart=>exact⟨0,by omega,rfl,ax.o⟩
     case round=>
      obtain⟨al,ap,rfl,ar⟩:=hrel;have ay:=aH ar;have aV:E.wrap (al:Int)=(al:Int):=an _ (dU U.o);have b0:E.wrap ((al:Int)+1)=(al:Int)+1:=an _ (dU U.o);have b1:E.wrap ((al:Int)+1+1)=(al:Int)+1+1:=an _ (dU U.o)
      by_cases b2:al+1<o.length
      ·have b3:=uD t.o (aA (show al<o.length by omega))
       have b4:=uD t.o (aA b2);let ⟨⟨b5,b6,b7⟩,b8,b9,_⟩:=bZ (ar.cell (oG (a:=al+1) (b:=0) (c:=o.length) (show al<o.length by omega)) (j:=1) (v:=J E (lstG o al:Nat)) (by simp[Bd,fP]) (off:=al*4+1) O) (ar.cell (oG (a:=al+1) (b:=0) (c:=o.length) b2) (j:=0) (v:=J E (yk o (al+1):Nat)) (by simp[Bd,fP]) (off:=(al+1)*4) O);let ⟨ba,bb⟩:=aX (lstG o al);let ⟨bc,bd⟩:=aX (offG o (al+1));let ⟨be,bf⟩:=aX (yk o (al+1));rw[<-bb] at b5 b3;rw[<-bf] at b8;rw[<-bf,<-bd] at b4;rw[<-bd] at b3;have bi:=aH (bZ bb bd);have bk:be<p.length:=by rw[z.o];omega
       have bl:bc=ba+1/\bc<=be:=O;have bn:E.wrap ((ba:Int)+1)=(bc:Int):=by rw[show(ba:Int)+1=(bc:Int) by omega];exact an _ (dU w.o)
       have br:E.wrap ((bc:Int)-1)=(ba:Int):=by rw[show(bc:Int)-1=(ba:Int) by omega];exact an _ (dU w.o)
       have bs:=aH bl;clear b3 b4 bb bd bf ar bl;go_wp2_with fail
       go_loopw [11,12] (fun b3 b4 bb=>∃bd:Nat,bc<=bd/\bd<=be/\b3=J E (bc:Int)/\b4=J E (bd:Int)/\bb=wr) (fun _ bf _=>be-(intOf bf).toNat)
       case atStart=>exact⟨bc,by omega,bs.o.2,rfl,rfl,rfl⟩
       case round=>
        obtain⟨b3,b4,bb,rfl,rfl,rfl⟩:=hrel
        by_cases bd:b3<be
        ·have bf:p[b3]?=M (p[b3]'O):=aA _
         generalize (p[b3]'O)=bl at*
         let ⟨bt,_,bu,_,_⟩:=(x.o.ext ay.o.F).at bf;rw[show h+148*b3=h+b3*148 by omega] at bu;have bv:b3<p.length:=O;have bx:=Ts bl.1;generalize bl.1.kind=bz at*
         have b4:E.wrap ((b3:Int)+1)=((b3+1:Nat):Int):=by rw[show((b3+1:Nat):Int)=(b3:Int)+1 by omega];exact an _ (dU w.o)
         clear bf;go_wp2;exact⟨⟨b3+1,by omega,by omega,rfl,by go_num,by first|trivial|rfl⟩,by simp[intOf];omega⟩
        ·obtain rfl:b3=be:=O
         go_wp2;have b3:=ay.o.set aj.o (oG (a:=al+1) (b:=0) (c:=o.length) (show al<o.length by omega)) (j:=1) dD (J E (lstG o al:Nat)) (off:=al*4+1) O;rw[O6 (show al<o.length by omega),<-bi.o.1] at b3;have b4:=b3.set aj.o (oG (a:=al+1) (b:=0) (c:=o.length) b2) (j:=0) dD (J E (offG o (al+1):Nat)) (off:=(al+1)*4) O;rw[O7 b2,<-bi.o.2] at b4;exact⟨⟨al+1,by omega,by go_num,b4⟩,by simp[intOf];omega⟩
      ·have b3:al+1=o.length:=O
       let ⟨b4,b5,b6⟩:=ar.cell (oG (a:=al+1) (b:=0) (c:=o.length) (show al<o.length by omega)) (j:=1) (v:=J E (lstG o al:Nat)) (by simp[Bd,fP]) (off:=al*4+1) O;have b7:=uD t.o (aA (show al<o.length by omega));have b8:offG o (al+1)=p.length:=by rw[b3,EZ,<-z.o]
       have b9:E.wrap ((o.length:Int)-1)=(al:Int):=by rw[show(o.length:Int)-1=(al:Int) by omega];exact aV
       have ba:E.wrap ((p.length:Int)-1)=(lstG o al:Int):=by rw[show(p.length:Int)-1=(lstG o al:Int) by omega];exact an _ (dU w.o)
       have bb:=aH b3;have bc:=ar.set aj.o (oG (a:=al+1) (b:=0) (c:=o.length) (show al<o.length by omega)) (j:=1) dD (J E (lstG o al:Nat)) (off:=al*4+1) O;rw[O6 (show al<o.length by omega)] at bc;rw[b3] at bc;have bd:=aH bc;have be:al<o.length:=O;clear b7 b8 b3 ar ay bc;go_wp2_with fail;generalize wr.setCell ⟨a4,al*4+1,S⟩ (J E (lstG o al:Int))=ar at*
       clear b4 b5 b6
       go_loopw [119] (fun ay wr=>U5W o n r a4 a5 ay wr) (fun b3 _=>o.length-(intOf b3).toNat)
       case atStart=>exact⟨0,by omega,rfl,bd.o⟩
       case round=>
        obtain⟨ay,b3,rfl,b4⟩:=hrel;have b5:=aH b4;have b6:E.wrap ((ay:Int)+1)=((ay+1:Nat):Int):=by rw[show((ay+1:Nat):Int)=(ay:Int)+1 by omega];exact an _ (dU U.o)
        by_cases b7:ay<o.length
        ·have b8:o[ay]?=M o[ay]:=aA b7
         generalize o[ay]=bc at*
         have bf:=uD t.o b8;have bi:=BK b8;let ⟨⟨bk,bl,bn⟩,br,_,_⟩:=bZ (b4.cell (oG (a:=o.length) (b:=ay) (c:=o.length) b7) (j:=0) (v:=J E (offG o ay:Nat)) (by simp[Bd,fP,b7]) (off:=ay*4) O) (b4.cell (oG (a:=o.length) (b:=ay) (c:=o.length) b7) (j:=1) (v:=J E (lstG o ay:Nat)) (by simp[Bd,fP]) (off:=ay*4+1) O);let ⟨bs,bt⟩:=aX (lstG o ay);let ⟨bu,bv⟩:=aX (offG o ay);rw[<-bt] at br bf;rw[<-bv] at bk bf bi;rw[<-z.o] at bf;obtain⟨bx,bz⟩:=aQ (bZ bt bv) b8;have bC:bu+bc.its.length=bs+1/\bs+1<=p.length:=O;have bK:E.wrap ((bs:Int)+1)=((bs+1:Nat):Int):=by rw[show((bs+1:Nat):Int)=(bs:Int)+1 by omega];exact an _ (dU w.o)
         have bL:=aH bC;have bR:(bu:Int)<=((bs+1:Nat):Int):=O;have bU:((bs+1:Nat):Int)<=(p.length:Int):=O;have bV:(0:Int)<=(bu:Int):=O;have bY:bu<p.length:=O;have c0:¬p.length=bu:=O;have c1:¬bu=p.length:=O;clear bf bi bt bv b8 b4 bC;go_upto_region 35 with fail;go_quiet (fail);have b4:=aH (b5.o.ext ((bD.refl wr).drewN nq));generalize wr.drewN nq=b8 at*
         clear bk bl bn br;have bf:=t.o bc (bg bz.o);have bi:=aH (show∀bk∈bc.its,Vw bk from fun bl bn=>v.o bl (by rw[z.o];unfold bF;exact pL.2 ⟨bc,bg bz.o,bn⟩));have bk:bc.its.length<=256:=by have:=bL.o;have:=w.o;omega
         clear bf;go_wp2_with fail
         go_loopw [136] (fun bf wr=>U6W o bc ay n r a4 a5 bf wr) (fun bl _=>bc.its.length-(intOf bl).toNat)
         case atStart=>exact⟨0,by omega,rfl,by rw[show 8*pn (bc.its.take 0)=0 by simp[pn],QZ b7];exact b4.o⟩
         case round=>
          obtain⟨bf,bl,rfl,bn⟩:=hrel;have br:E.wrap ((bf:Int)+1)=((bf+1:Nat):Int):=by rw[show((bf+1:Nat):Int)=(bf:Int)+1 by omega];exact an _ O
          have bt:=bL.o
          by_cases bv:bf<bc.its.length
          ·have bC:bc.its[bf]?=M bc.its[bf]:=aA bv
           have c2:=bi.o _ (bg bC);generalize bc.its[bf]=c3 at*
           have a:=Aba bz.o bv;rw[bC,<-bx.o.2] at a;have b:=bn.k.cell (bu+bf);rw[bN,a] at b;simp only[bX] at b;have c:=bn.k.lt;have c:=c2.bd;let ⟨d,e⟩:=aX (8*pn (bc.its.take bf))
           have f:0<=d/\d<=3000000000:=by
            have f:=Sk (l:=bc.its.take bf) fun g h=>bi.o g (List.mem_of_mem_take h)
            have f:(bc.its.take bf).length<=256:=by rw[dE];omega
            omega
           have f:=aH (show 8*pn (bc.its.take (bf+1))=d+8*Hh c3 by rw[Sj bC,e];omega);rw[<-e] at bn;let ⟨g,h,l⟩:=bn.cell (P4 b7 d) (j:=2) (v:=J E d) rfl (off:=ay*4+2) O;have g:=aH bn;let ⟨h,l⟩:=aX (Hh c3);rw[<-l] at b c f;have b:E.wrap (8*h)=8*h:=an _ O;have b:E.wrap (d+8*h)=d+8*h:=an _ O;have b:(bf:Int)<((bs+1-bu:Nat):Int):=O;clear bC c2 a e bn l;go_wp2_with fail;have a:=g.o.set aj.o (P4 b7 d) (j:=2) dD (J E (d+8*h)) (off:=ay*4+2) O;rw[Uy,<-Yo b7] at a;exact⟨⟨bf+1,by omega,by go_num,by rw[f.o];exact a⟩,by simp[intOf];omega⟩
          ·have a:bf=bc.its.length:=O
           have b:JI o n r a4 a5 (xt o o.length (ay+1) o.length) wr:=by
            rw[<-Uz b7 (x:=8*pn (bc.its.take bf)) (by rw[a,u7q];unfold qy;rw[bz.o];rfl)];exact bn
           have a:=aH b;have c:¬(bf:Int)<((bs+1-bu:Nat):Int):=O;clear bn b;go_wp2_with fail;exact⟨⟨ay+1,by omega,by go_num,a.o⟩,by simp[intOf];omega⟩
        ·obtain rfl:ay=o.length:=O
         go_wp2;go_ret2;refine⟨a4,a5,rfl,?_,b5.o.F⟩;rw[<-VY];exact jW.mono b5.o.ow (dU aj.o)
def Ju{a:Array aq}{i b c d}(e:b<=c):(a.setIfInBounds c d).extract i b=a.extract i b:=by
 apply oZ;intro a;rw[iL,iL,sG];split
 ·rename_i a
  rw[nl O]
 ·rfl
def zL.pad{a b c d e}(g:zL a b c d e)(f):zL a b (c.setIfInBounds 147 (J E f)) d f:=by
 refine⟨by rw[sG];exact g.k,by rw[nl dD];exact g.k0,by rw[qI (yD g.k)],?_,fun a b=>?_,fun c d b=>?_,fun e f b=>?_⟩
 ·rw[bG]
  intro h i;let ⟨l,n⟩:=Array.getElem?_of_mem i
  by_cases i:l=147
  ·subst i
   rw[qI (yD g.k)] at n;injection n with l;subst l;rfl
  ·rw[nl (fun l=>i l.symm)] at n
   exact(bG.1 g.one) h (Array.mem_of_getElem? n)
 ·let ⟨h,i⟩:=g.seq a b
  exact⟨h,by rw[Ju dD];exact i⟩
 ·let ⟨a,h⟩:=g.G7 c d b
  exact⟨a,by rw[Ju dD];exact h⟩
 ·let ⟨a,⟨c,d,h,i,l⟩,n⟩:=g.qh e f b
  exact⟨a,⟨c,d,h,by rw[Ju dD];exact i,l⟩,n⟩
def pI.set{h e l f g a c}(p:pI h e (af (M ⟨l,0,S⟩) f g) a c){n i}(b:a[n]?=M i)(o){off}(d:off=148*n+147):
  ∃q,pI (h.setCell ⟨l,off,S⟩ (J E o)) e (af (M ⟨l,0,S⟩) f g) (a.set n (i.1,o)) q:=by
 have a:=(aP.1 b).1;let ⟨q,r⟩:∃s,c[n]?=M s:=⟨_,aA (eZ p.len a)⟩;have s:=p.it n i q b r;refine⟨c.set n (q.setIfInBounds 147 (J E o)),p.ow.setCell r dD (J E o) d,by rw[ee,ee];exact p.len,fun b t u v w=>?_⟩
 have c:∀(d:Array aq)(q:eQ)(r:Int),zL (iC (af (M ⟨l,0,S⟩) f g) e) h d q r->zL (iC (af (M ⟨l,0,S⟩) f g) e) (h.setCell ⟨l,off,S⟩ (J E o)) d q r:=fun x y z H=>
  H.G (k:=l) ((fO.refl h l S).set (a:=⟨l,off,S⟩) (.inl rfl) _) (fun d e f=>e.1 (oz f))
 by_cases d:b=n
 ·subst d
  rw[jA a] at v;rw[jA (eZ p.len a)] at w;injection v with a;injection w with e;subst a e;exact c _ _ _ (s.pad o)
 ·rw[ye (fun a=>d a.symm)] at v w
  exact c _ _ _ (p.it b t u v w)
def MC{b}(e:∀i∈b,FQ i){c:List Int}{d f h}(g:b[d]?=M f)(a:c[d]?=M h):((cP (fC b (c.take d))).map fP).set d ((⟨offG b d,lstG b d,qy (fC b (c.take d)) d,2⟩:Un).cells.setIfInBounds 2 (J E (qy (fC b (c.take d)) d+8*h)))=(cP (fC b (c.take (d+1)))).map fP:=by
 have i:=(aP.1 g).1;have l:=(aP.1 a).1;have l:c.take (d+1)=c.take d++[h]:=by rw[qi,a];rfl
 have a:(c.take d).length=d:=by rw[dE];omega
 have n:(fC b (c.take d))[d]?=M f:=by rw[DP b (c.take d) d O];exact g
 have o:=BJ b (c.take d) h f (eZ a g);rw[a] at o;rw[l,o];have a:=fun l p=>(e l p).x
 unfold cP;rw[ee,oK,qe,qe];refine xC (fun a l=>?_) ?_
 ·simp only[Function.comp]
  have p:qy ((fC b (c.take d)).set d (f.pad h)) a=qy (fC b (c.take d)) a:=by
   unfold qy;rw[ye (fun q=>l q.symm)]
  have l:∀q,offG ((fC b (c.take d)).set d (f.pad h)) q=offG (fC b (c.take d)) q:=fun r=>by rw[<-o,rk,rk]
  have q:lstG ((fC b (c.take d)).set d (f.pad h)) a=lstG (fC b (c.take d)) a:=by unfold lstG;rw[l]
  rw[l,q,p]
 ·have a:∀l,offG ((fC b (c.take d)).set d (f.pad h)) l=offG b l:=fun p=>by rw[<-o,rk]
  have l:lstG ((fC b (c.take d)).set d (f.pad h)) d=lstG b d:=by unfold lstG;rw[a]
  have o:qy ((fC b (c.take d)).set d (f.pad h)) d=qy (fC b (c.take d)) d+8*h:=by
   unfold qy;rw[jA (eZ oK i),n];have b:=e f (bg g);have:=Ob b.x b.z h;simp only[bX,Option.getD_some,this];omega
  simp only[Function.comp];rw[a,l,o];simp[fP]
def FQ.bits{a}(b:FQ a):0<=8*pn a.its/\8*pn a.its<=2577600:=by
 have c:=b.by
 have c:∀d:List (eQ×Int),(∀e∈d,e.2=0)->pn d=(byL d:Int):=by
  intro d
  induction d with
  |nil=>intro _;rfl
  |cons d e f=>
   intro g;have h:=g d dS;have h:=f fun i l=>g i (by simp[l])
   have f:pn (d::e)=Hh d+pn e:=by simp[pn]
   have g:byL (d::e)=d.1.bytes.length+byL e:=by simp[byL]
   rw[f,g,h];unfold Hh;omega
 rw[c a.its b.z];omega
def Ac{b}(a:∀c∈b,FQ c):∀d∈cP b,Rc d:=by
 intro c d;unfold cP at d;obtain⟨c,e,rfl⟩:=iy.1 d;have d:c<b.length:=by simpa using e
 have:=(a _ (List.getElem_mem d)).bits;have a:qy b c=8*pn (b[c]).its:=by unfold qy;rw[aA d];rfl
 refine⟨?_,?_,rfl⟩
 ·show 0<=qy b c;rw[a];omega
 ·show qy b c<=8388608;rw[a];omega
def Ou{d}(e:jV d){g}(f:∀i∈g,FQ i){a}(b:a<=d.cap){h}(c:d.tV a (cP g)=M h):h.length=g.length/\(∀(l:Nat)(n:Int),h[l]?=M n->0<=n/\n<=1048576)/\∀o∈cP (fC g h),Rc o:=by
 let ⟨a,i,l,n⟩:=e.Ig;unfold Sq.tV at c;rw[pk] at c;have a:h.length=g.length:=by have:=EY _ _ _ c;simpa using this
 have o:∀(p:Nat)(q r:Int),(g.map fun s=>8*pn s.its)[p]?=M q->h[p]?=M r->0<=r/\(r=0\/d.bit*(q+8*r)<=d.cap):=fun t u v w x=>N3 (n:=d.bit) l n i _ _ _ b c t u v w x
 have b:∀(c:Nat)(i:Gr)(l:Int),g[c]?=M i->h[c]?=M l->0<=l/\0<=8*pn i.its+8*l/\8*pn i.its+8*l<=8388608:=by
  intro c i l n p;have q:=(f i (bg n)).bits;let ⟨q,r⟩:=o c (8*pn i.its) l (by rw[bN,n];rfl) p;refine⟨q,by omega,?_⟩;rcases r with c|c
  ·subst c;omega
  ·have i:0<d.bit:=by unfold Sq.bit;have:=e.n1;omega
   have l:d.cap=d.bit*d.bu:=rfl;rw[l] at c;have:=Int.le_of_mul_le_mul_left c i;have:=e.b2;omega
 refine⟨a,fun c d e=>?_,fun i l=>?_⟩
 ·have i:=(aP.1 e).1
  have i:=aA (l:=g) (i:=c) O;have:=b c _ d i e;have c:=(f _ (bg i)).bits;omega
 ·unfold cP at l
  obtain⟨c,d,rfl⟩:=iy.1 l;have e:c<(fC g h).length:=by simpa using d
  have d:c<g.length:=by rw[oK] at e;exact e
  have i:=FG (G:=g) h a (fun l n=>(f l n).x) (fun o p=>(f o p).z);have a:=aA d;have d:=aA (l:=h) (i:=c) O
  have f:qy (fC g h) c=8*pn (g[c]).its+8*h[c]:=by
   have l:(AP (fC g h))[c]?=M (qy (fC g h) c):=by
    unfold AP qy;rw[bN,aA e];rfl
   rw[i] at l
   have e:∀(i n:List Int)(o:Nat)(p q:Int),i[o]?=M p->n[o]?=M q->(Go.Top.sS i n)[o]?=M (p+8*q):=by
    intro i
    induction i with
    |nil=>intro i n o p q _;simp at q
    |cons i n o=>
     intro i n p q r s;cases i with
     |nil=>simp at s
     |cons i t=>
      cases n with
      |zero=>
       simp only[fF,bq] at r s;subst r s;rfl
      |succ i=>exact o t i p q (jP r) (jP s)
   have i:=e (AP g) h c (8*pn (g[c]).its) h[c] (by unfold AP;rw[bN,a];rfl) d;rw[i] at l;injection l with e;exact e.symm
  have:=b c _ _ a d;refine⟨?_,?_,rfl⟩
  ·show 0<=qy (fC g h) c;rw[f];omega
  ·show qy (fC g h) c<=8388608;rw[f];omega
def KS:∀(a:List (eQ×Int))(b:Int)(i:eQ×Int),i∈wF a b->∃c∈a,i.1=c.1/\(i.2=c.2\/i.2=b)
 |[],a,b,c=>by simp[wF] at c
 |[a],b,c,d=>by
  obtain rfl:c=(a.1,b):=by simpa[wF] using d
  exact⟨a,by simp,rfl,.inr rfl⟩
 |a::b::c,d,e,f=>by
  rw[wF,oU] at f;rcases f with rfl|a
  ·exact⟨e,by simp,rfl,.inl rfl⟩
  ·let ⟨f,g,h⟩:=KS (b::c) d e a
   exact⟨f,List.mem_cons_of_mem _ g,h⟩
def Xn{a}(c:FQ a){b}(d:0<=b)(e:b<=1048576):∀i∈(a.pad b).its,Vw i:=by
 intro a b;rcases dG.1 b with f|f
 ·exact c.itx a (List.mem_append_left _ f)
 ·let ⟨a,b,g,h⟩:=KS _ _ _ f
  have f:=c.itx a (List.mem_append_right _ b);rcases h with a|a
  ·exact⟨by rw[a];exact f.p0,by rw[a];exact f.p1,by rw[g];exact f.len⟩
  ·exact⟨by rw[a];exact d,by rw[a];exact e,by rw[g];exact f.len⟩
def L8:∀{a:List Gr}{b:List Int},(∀c∈a,FQ c)->(∀(d:Nat)(e:Int),b[d]?=M e->0<=e/\e<=1048576)->∀i∈bF (fC a b),Vw i
 |[],a,_,_=>by simp[fC,bF]
 |a::b,[],c,_=>by
  intro a b;rw[Au] at b;let ⟨d,e,f⟩:=pL.1 b;exact(c d e).itx a f
 |a::b,c::d,e,f=>by
  intro b d;rw[fC,bF,gL,dG] at d;rcases d with g|g
  ·exact Xn (e a dS) (f 0 c rfl).1 (f 0 c rfl).2 b g
  ·exact L8 (fun a c=>e a (by simp[c])) (fun d h l=>f (d+1) h (jP l)) b g
def P3{a}(b:∀c∈cP a,Rc c):∀d∈a,0<=8*pn d.its/\8*pn d.its<=8388608:=by
 intro c d;have e:8*pn c.its∈(cP a).map (·.bits):=by rw[pk];exact iy.2 ⟨c,d,rfl⟩
 let ⟨a,c,d⟩:=iy.1 e;rw[<-d];exact⟨(b a c).1,(b a c).2.1⟩
def Aa3{a}(b:∀c∈a,0<=8*pn c.its/\8*pn c.its<=8388608):∀d∈cP a,Rc d:=by
 intro c d;have e:c.bits∈a.map fun f=>8*pn f.its:=by rw[<-pk];exact iy.2 ⟨c,d,rfl⟩
 let ⟨a,c,f⟩:=iy.1 e;refine⟨by rw[<-f];exact(b a c).1,by rw[<-f];exact(b a c).2,?_⟩;unfold cP at d;obtain⟨a,_,rfl⟩:=iy.1 d;rfl
def VV{a b}(c:∀e∈cP a,Rc e)(d:∀f∈cP b,Rc f):∀g∈cP (a++b),Rc g:=Aa3 fun h i=>by
 rcases dG.1 i with a|a
 ·exact P3 c h a
 ·exact P3 d h a
def T2{a b c d e f}:∀{g:List Int},mQ a b c d e g=M f->f<=a-b
 |[],a=>by
  unfold mQ at a;split at a
  ·cases a
  ·injection a with b;omega
 |a::b,c=>by
  unfold mQ at c;let ⟨a,_,b⟩:=kO.1 c;split at b
  ·cases b
  ·injection b with a;omega
def T4{a b c d e f}(g:0<=e)(h:0<=d):∀{i:List Int},(∀l∈i,0<=l)->mQ a b c d e i=M f->0<=f
 |[],_,a=>by
  unfold mQ at a;split at a
  ·cases a
  ·injection a with b;omega
 |a::b,c,d=>by
  unfold mQ at d;let ⟨b,_,e⟩:=kO.1 d;split at e
  ·cases e
  ·injection e with b
   have:=Int.mul_nonneg h (c a dS);omega
def Nw{a}(e:jV a){b c d f}(g:b≠[])(h:c≠[])(i:a.JP (cP c)=M f)(l:a.runs a.cap (cP b)=M d)(n:f<=d):∃o,a.tV a.cap (cP (b++c))=M o:=by
 let ⟨a,b,c,d⟩:=e.Ig;unfold Sq.JP at i;unfold Sq.runs at l;unfold Sq.tV;rw[pk] at i l ⊢;rw[fY];exact Hr c 0 f _ (jP h) i (T2 i) _ _ _ (jP g) l n
def N5(a:Option Addr)(b c:Nat)(d:T):aT aE 79 #[af a b c,J E 0] d fun e f=>e=aK (af a b c)/\f=d:=by
 go_enter func79,ntmps79;go_wp2;go_ret;exact⟨rfl,rfl⟩
def L3(a:Option Addr)(b c:Nat)(d:T):aT aE 80 #[af a b c,J E 0] d fun e f=>e=aK (af a b c)/\f=d:=by
 go_enter func80,ntmps80;go_wp2;go_ret;exact⟨rfl,rfl⟩
def Aej(a:T)(b:Sq)(c d e:Nat)(f:List Gr)(g:Int)(h:Ending)(i:T):Prop:=
 (b.tV g (cP f)=S/\h=aK (fE #[J E 0,ao av])/\bD a i)\/
 (∃l n o,b.tV g (cP f)=M l/\b.runs g (cP (fC f l))=M n/\h=aK (fE #[J E n,ao aB])/\pI i c (af (M ⟨d,0,S⟩) (bF f).length e) (bF (fC f l)) o/\fO a i d S)
def fO.Ac0{a e b f c}(g:fO a e b c)(d:a.heap.size<=f)(h i):fO a (e.setCell ⟨f,h,S⟩ i) b c:=
 ⟨g.os,g.tape,g.output,by simpa[World.setCell] using g.size,fun a b c d=>(eF e ⟨f,h,S⟩ i a (by show a≠f;omega)).trans (g.block a b c d)⟩
def jW.Pp{f a b c d e}(g:jW f a b c d e){h}(i:d.ownBlock≠M h)(l n):jW (f.setCell ⟨h,l,S⟩ n) a b c d e:=
 ⟨ko g.own (fun a b _=>eF f ⟨h,l,S⟩ n a (by show a≠h;intro c;subst c;exact i b)),g.k⟩
structure ItQ(b a:T)(c:Nat)(d:aq)(e:List (eQ×Int))(f:List (Array aq)):Prop where
 ow:jW a c 99 148 d f
 len:f.length=e.length
 it:∀(a:Nat)(g:eQ×Int)(h:Array aq),e[a]?=M g->f[a]?=M h->zL (iC d c) b h g.1 g.2
def pI.q{a b c d e}(f:pI a b c d e):ItQ a a b c d e:=⟨f.ow,f.len,f.it⟩
def ItQ.o{a b c d v e f}(g:ItQ a b c v e f)(h:fO a b d S)(i:v.ownBlock=M d):pI b c v e f:=
 ⟨g.ow,g.len,fun a b c d e=>(g.it a b c d e).K h.size (fun f l n=>h.block f n (fun o=>l.1 (eZ o i)) dS) (fun _ _ p=>p)⟩
def ItQ.set{a b c d e f g h}(q:ItQ a b c (af (M ⟨d,0,S⟩) e f) g h){n i}(o:g[n]?=M i)(p){off}(l:off=148*n+147):
  ∃r,ItQ a (b.setCell ⟨d,off,S⟩ (J E p)) c (af (M ⟨d,0,S⟩) e f) (g.set n (i.1,p)) r:=by
 have a:=(aP.1 o).1;let ⟨b,c⟩:∃d,h[n]?=M d:=⟨_,aA (eZ q.len a)⟩;refine⟨h.set n (b.setIfInBounds 147 (J E p)),q.ow.setCell c dD (J E p) l,by rw[ee,ee];exact q.len,fun d e f g r=>?_⟩
 by_cases h:d=n
 ·subst h
  rw[jA a] at g;rw[jA (eZ q.len a)] at r;injection g with a;injection r with l;subst a l;exact(q.it d i b o c).pad p
 ·rw[ye (fun a=>h a.symm)] at g r
  exact q.it d e f g r
def QK{e}(a:∀l∈e,FQ l){f:List Int}{g c h}(d:e[g]?=M c)(b:f[g]?=M h):∃i,(bF (fC e (f.take g)))[lstG e g]?=M i/\(bF (fC e (f.take g))).set (lstG e g) (i.1,h)=bF (fC e (f.take (g+1))):=by
 have l:=(aP.1 b).1;have l:=fun n o=>(a n o).x
 have a:f.take (g+1)=f.take g++[h]:=by rw[qi,b];rfl
 have b:(f.take g).length=g:=by rw[dE];omega
 have n:(fC e (f.take g))[g]?=M c:=by rw[DP e (f.take g) g O];exact d
 have o:=BJ e (f.take g) h c (eZ b d);rw[b] at o;have b:=uD l d;have b:lstG e g<(bF (fC e (f.take g))).length:=by rw[xy];omega
 let ⟨c,d⟩:∃p,(bF (fC e (f.take g)))[lstG e g]?=M p:=⟨_,aA b⟩;have b:=U0 (N4 (f.take g) l) n (eZ EX d) h;rw[EX] at b;exact⟨c,d,by rw[a,o];exact b⟩
structure StX(i:Sq)(c:List Gr)(a n b d e f l:Nat)(g:List Int)(o:T)(h:Nat)(wr:T):Prop where
 it:∃p,ItQ o wr a (af (M ⟨n,0,S⟩) (bF c).length b) (bF (fC c (g.take h))) p
 un:jW wr d 102 4 (af (M ⟨e,0,S⟩) c.length f) ((cP (fC c (g.take h))).map fP)
 j:sE wr l 26 i
 up:fO o wr n S
def StU(a:Sq)(b:List Gr)(c d e f g h i l:Nat)(n:List Int)(o:T)(p:aq)(wr:T):Prop:=
 ∃q:Nat,q<=b.length/\p=J E (q:Int)/\StX a b c d e f g h i n o q wr/\Bn E wr 2 l n
def Ws{a}(d:jV a){b}(f:∀i∈b,FQ i){c g}(h:g.length=b.length)(e:a.tV c (cP b)=M g):∃l,a.runs c (cP (fC b g))=M l:=by
 let ⟨a,b,c,i⟩:=d.Ig;unfold Sq.tV at e;rw[pk] at e;have a:=IN c i b _ _ _ e;unfold Sq.runs;rw[pk];have b:=FG g h (fun c d=>(f c d).x) (fun e i=>(f e i).z);unfold AP at b;rw[b];exact a
def U8(p:Sq)(a:jV p)(s:List Gr)(b:∀t∈s,FQ t)(c:s≠[])(d:(bF s).length<=256)(q:Int)(e:0<=q)(f:q<=p.cap)(g r h:Nat)(i:List (Array aq))(l:T)(n:pI l g (af (M ⟨r,0,S⟩) (bF s).length h) (bF s) i)(o:fD l):
  aT aE 41 #[aG p.cells,af (M ⟨r,0,S⟩) (bF s).length h,J E q] l (Aej l p g r h s q):=by
 let ⟨t,u⟩:=aX l.heap.size;have v:bD l (l.alloc (az p.cells 26)):=jd;have w:s.length<=256:=aY (AG fun x y=>(b x y).x) d;obtain⟨x,y,z,H,U⟩:=dZ w b (sE.new l t 26 p a u) v (n.ext v)
 have V:bF s≠[]:=by
  cases s with
  |nil=>exact absurd rfl c
  |cons W Y=>have:=Gr.pos (b W dS).x;intro a0;rw[show bF (W::Y)=W.its++bF Y by simp[bF]] at a0;have a1:=congrArg mZ a0;rw[aJ,eK] at a1;omega
 obtain⟨W,Y⟩:=aQ V (show g<=r/\r<l.heap.size from n.ow.gQ rfl);have a0:=pI.itl (n.ext v) V;let ⟨a1,a2,a3,a4,a5,a6⟩:=a0;simp only[dt,bq,iO,and_true,true_and] at a3;obtain⟨rfl,rfl⟩:=a3;obtain⟨a3,a7,a8,a9,aa⟩:=dZ (El s (fun ab ac=>(b ab ac).x) c (fun ad ae=>by obtain⟨ag,ah,ai⟩:=pL.1 ae;exact(b ag ah).itx ad ai) d _ r 0 h a6 (o.ext v)) a (show 1<=s.length by cases s with|nil=>exact absurd rfl c|cons aj al=>simp) (bZ e f) u;go_enter func41,ntmps41;go_upto_region 1 with fail;generalize l.alloc (az p.cells 26)=ab at*
 rw[<-u];clear u;go_wp2_with fail;refine a3.o.mono ?_;rintro u ac ⟨ad,ae,rfl,ag,ah⟩;let ⟨ai,aj,al⟩:=gO ah z H U;obtain⟨am,ap⟩:=aQ ag (show r<ab.heap.size/\t<ab.heap.size/\g<=r/\l.heap.size<=t/\l.heap.size<=ab.heap.size from⟨by have:=Y.o;have:=H.o.size;omega,z.o.lt,Y.o.1,by have:=aa.o;omega,H.o.size⟩);let ⟨ar,ax⟩:=aX ab.heap.size;rw[<-ax] at am ap;let ⟨ay,aV⟩:=aQ ax ah;clear ax;go_wp2_with fail;refine mR (N5 _ _ _ _) fun ax b0=>?_
 have b1:=b0.symm;subst b1;have b1:=am.o.rows (by intro b2;have b3:=congrArg mZ b2;have b4:=a8.o;rw[cX,eK,show(cP s).length=s.length by simp[cP]] at b3;omega);let ⟨b2,b3,b4,b5,b6,b7⟩:=b1;have b8:((cP s).map fP).length=s.length:=by simp[cP]
 rw[b8] at b4 b6;simp only[dt,bq,iO,and_true,true_and] at b4;obtain⟨rfl,rfl⟩:=b4;have b4:(cP s).length=s.length:=by simp[cP]
 have b9:=aH (Ac y.o);have ba:=aH (S9 p a7.o ad 0 ae (cP s) q a9.o.1 a9.o.2 (eZ b4 x.o) b9.o ac b7 (eZ b4 b6));rw[b4] at ba;have bb:=aH (show ar<=ad/\ad<ac.heap.size from⟨b5,by obtain⟨bc,bd,be,_⟩:=b7;exact be.lt⟩);go_wp2_with ((refine mJ dW (aI 3) rfl rfl ai.o ?_));refine ba.o.mono ?_;rintro bc bd ⟨be,bf⟩;let ⟨bi,bk,bl,bn,br⟩:=tN be ai al am aV aj;have bs:=aH (show ar<=ac.heap.size by have:=aV.o.size;have:=ay.o;omega);rcases bf with⟨bt,bu,bv,rfl,bx,bz⟩|⟨bv,rfl⟩
 ·rw[b4]
  let ⟨bf,bC,bK⟩:=bh bv bx bz;have bL:=aH (Ou a7.o y.o a9.o.2 bf.o);go_upto_region 6 with fail;go_wp2_with fail
  go_loopw [30] (fun bR wr=>StU p s g r h ar ad ae t bu bt ab bR wr) (fun bU _=>s.length-(intOf bU).toNat)
  case atStart=>
   refine⟨0,qo _,rfl,⟨⟨i,?_⟩,?_,bi.o,fO.bS _ _ bn.o⟩,bK.o⟩
   ·rw[dP,Au];exact⟨bk.o.ow,bk.o.len,U.o.it⟩
   ·rw[dP,Au];exact bl.o
  case round=>
   obtain⟨bR,bU,rfl,bV,bY⟩:=hrel
   by_cases c0:bR<s.length
   ·have c1:E.wrap ((bR:Int)+1)=((bR+1:Nat):Int):=by rw[show((bR+1:Nat):Int)=(bR:Int)+1 by omega];exact an _ (dU x.o)
    have c2:s[bR]?=M s[bR]:=aA c0;have c3:bR<bt.length:=by rw[bL.o.1];exact c0
    have c4:bt[bR]?=M bt[bR]:=aA c3;generalize s[bR]=c5 at*
    generalize bt[bR]=c6 at*
    let ⟨c7,c8,c9⟩:=QK y.o c2 c4;have ca:=MC y.o c2 c4;have cb:=(bL.o.2.1 bR c6 c4);let ⟨cc,cd⟩:=aX (lstG s bR);let ⟨ce,cf⟩:=aX (qy (fC s (bt.take bR)) bR);rw[<-cd] at c8 c9 ca;rw[<-cf] at ca
    have cg:ce=8*pn c5.its:=by
     rw[cf];unfold qy;rw[DP s (bt.take bR) bR (iJ dE),c2];rfl
    have ch:=(y.o c5 (bg c2)).bits;rw[<-cg] at ch
    have ci:((cP (fC s (bt.take bR))).map fP)[bR]?=M #[J E (offG s bR:Int),J E (cc:Int),J E ce,J E 2]:=by
     have ck:bR<(fC s (bt.take bR)).length:=by rw[oK];exact c0
     unfold cP;rw[qe,bN,aA (jP ck),List.getElem_range];simp only[bX,Function.comp,fP,rk,EX,<-cd,<-cf]
    have ck:((cP (fC s (bt.take bR))).map fP).set bR #[J E (offG s bR:Int),J E (cc:Int),J E (ce+8*c6),J E 2]=(cP (fC s (bt.take (bR+1)))).map fP:=by
     rw[<-ca];rfl
    have cl:cc<(bF s).length:=by
     have:=(aP.1 c8).1;rw[xy] at this;exact this
    let ⟨⟨cn,co⟩,cp,cr,cs⟩:=bV;have ct:ce+8*c6<=8388608+8388608:=by have:=cb.2;have:=ch.2;omega
    have cu:∀cv:T,jW cv ar 102 4 (af (M ⟨ad,0,S⟩) s.length ae) ((cP (fC s (bt.take bR))).map fP)->cv.cell? ⟨ad,bR*4+1,S⟩=M (J E (cc:Int))/\cv.cell? ⟨ad,bR*4+2,S⟩=M (J E ce)/\(∀cw,cv.frozen? ⟨ad,cw,S⟩=av)/\ad<cv.heap.size:=by
     intro cv cw;let ⟨cv,cx,cy,_,_,cz⟩:=cw.rows (by intro cA;rw[cA] at ci;simp at ci);simp only[dt,bq,iO,and_true] at cy;obtain⟨rfl,-,rfl⟩:=cy;have cv:=cz.cell ci (j:=1) (v:=J E (cc:Int)) rfl (bR*4+1) O;have cw:=cz.cell ci (j:=2) (v:=J E ce) rfl (bR*4+2) O;let ⟨cx,cy,cA,_⟩:=cz;exact⟨cv,cw,cA.frozen,cA.lt⟩
    let ⟨cv,_,_,_⟩:=cu wr cp
    obtain⟨cw,cx,cy,cz⟩:∃cA,wr.cell? ⟨r,cc*148+147,S⟩=M (J E cA)/\wr.frozen? ⟨r,cc*148+147,S⟩=av/\r<wr.heap.size:=by
     let ⟨cA,cB⟩:∃cC,cn[cc]?=M cC:=⟨_,aA (by rw[co.len];exact(aP.1 c8).1)⟩;let ⟨cC,cE,cF,_,_,cI⟩:=co.ow.rows (by intro cL;rw[cL] at cB;simp at cB);simp only[dt,bq,iO,and_true] at cF;obtain⟨rfl,-,rfl⟩:=cF;have cC:=cI.cell cB (j:=147) (co.it cc c7 cA c8 cB).kp (cc*148+147) O;let ⟨cA,cB,cE,_⟩:=cI;exact⟨_,cC,cE.frozen _,cE.lt⟩
    obtain⟨cA,cB,cC,cE,cF,cI⟩:=ej (bZ co (bZ c8 c9)) (bZ cp (bZ ci ck)) cu ct cr cs;have cL:=aH bY;have cN:wr.cell? ⟨bu,bR,S⟩=M (J E c6):=by rw[bY.cell bR,c4];rfl
    have cO:=aH c0;clear c9 c8 ca c2 c4 ci ck cr co cg cd cf c3 cu ct cp bY;have bY:ad≠r:=by have:=bb.o.1;have:=ap.o;omega
    go_upto_region 9 with fail;have c2:(af (M ⟨ad,0,S⟩) s.length ae).ownBlock≠M r:=by intro c3;exact bY (fB c3)
    have c3:=aH (cB.o.1.Pp c2 (cc*148+147) (J E c6));let ⟨c4,c8⟩:=cA.o.1.set cA.o.2.1 c6 (off:=cc*148+147) O;rw[cA.o.2.2] at c8;obtain⟨c9,ca,cd,cf⟩:=dq c8 (cI.o.set (a:=⟨r,cc*148+147,S⟩) (.inl rfl) (J E c6)) (show sE (wr.setCell ⟨r,cc*148+147,S⟩ (J E c6)) t 26 p from⟨cF.o.j.C (by show t≠r;have:=Y.o;have:=aa.o;omega) _,a7.o⟩) (cL.o.C (a:=⟨r,cc*148+147,S⟩) (by show bu≠r;have:=bC.o;have:=ap.o;have:=bs.o;omega) (J E c6));generalize wr.setCell ⟨r,cc*148+147,S⟩ (J E c6)=cg at*
    let ⟨_,a,b,c⟩:=cC.o cg c3.o;have a:=b (bR*4+2);have a:E.wrap (8*c6)=8*c6:=an _ O;have a:E.wrap (ce+8*c6)=ce+8*c6:=an _ O;go_wp2;have a:jW (cg.setCell ⟨ad,bR*4+2,S⟩ (J E (ce+8*c6))) ar 102 4 (af (M ⟨ad,0,S⟩) s.length ae) (((cP (fC s (bt.take bR))).map fP).set bR #[J E (offG s bR:Int),J E (cc:Int),J E (ce+8*c6),J E 2]):=c3.o.setCell cB.o.2.1 (j:=2) dD (J E (ce+8*c6)) (off:=bR*4+2) O;rw[cB.o.2.2] at a;exact⟨⟨bR+1,by omega,by go_num,⟨⟨c4,c9.o.ow.Pp (fun b=>bY (fB b).symm) _ _,c9.o.len,c9.o.it⟩,a,⟨cd.o.j.C (by show t≠ad;have:=bb.o.1;have:=ap.o.2.1;omega) _,a7.o⟩,ca.o.Ac0 (gC bb.o.1 ay.o) _ _⟩,cf.o.C (by show bu≠ad;have:=bC.o;have:=bb.o.2;omega) _⟩,by simp[intOf];omega⟩
   ·have a:bR=s.length:=O
    let ⟨⟨b,c⟩,d,e,f⟩:=bV;have b:bt.take bR=bt:=by rw[a,<-bL.o.1];exact u7q
    have g:decide ((bR:Int)<(s.length:Int))=av:=by simp;omega
    rw[b] at c d;obtain⟨g,h,i⟩:=bh (c.o f rfl) f e;have c:(cP (fC s bt)).length=s.length:=by simp[cP,oK]
    obtain⟨e,f,l,-,n,o⟩:=d.rows (by intro t;have u:=congrArg mZ t;have v:=a8.o;rw[cX,eK,c] at u;omega);rw[cX,c] at n;simp only[dt,bq,iO,and_true] at l;obtain⟨rfl,-,rfl⟩:=l;have d:=aH (Aa1 p a7.o ad 0 ae (cP (fC s bt)) q a9.o.1 a9.o.2 (eZ c x.o) bL.o.2.2 wr o (eZ c n));rw[c] at d;clear b a;go_upto_region 11 with fail;go_wp2_with ((refine mJ dW (aI 3) rfl rfl i.o ?_));refine d.o.mono ?_;rintro a b ⟨d,e⟩;let ⟨a,b⟩:=Ws a7.o y.o bL.o.1 bf.o;have a:=mX d g;have f:=aH (((fO.bS r S H.o).join h.o).ext d);rcases e with⟨d,g,h,i,rfl,l,n,o⟩|⟨i,rfl⟩
    ·rw[c] at n o
     let ⟨e,g⟩:∃h,s.length=h+1:=⟨s.length-1,by have:=a8.o;omega⟩;obtain⟨g,h,rfl,_,p,q⟩:=l.rows (by intro r;rw[r] at n;simp at n;have:=a8.o;omega);let ⟨g,h⟩:=o (by intro l;have p:=congrArg mZ l;rw[c,eK] at p;have:=a8.o;omega);rw[show s.length-1=e by omega] at h;have c:=q.cell h (j:=1) (v:=J E d) rfl (e*2+1) O;have c:=aH (bZ bf.o i);have g:E.wrap ((s.length:Int)-1)=(e:Int):=by rw[show(s.length:Int)-1=(e:Int) by omega];exact an _ (dU x.o)
     have g:e<s.length:=O;rw[n];go_wp2_with fail;refine mR (L3 _ _ _ _) fun e g=>?_
     have e:=g.symm;subst e;go_wp2;go_ret2;exact .inr ⟨bt,d,_,c.o.1,c.o.2,rfl,a.o,f.o⟩
    ·rw[b] at i;cases i
 ·have a:=aH bv
  go_wp2;go_ret2;exact .inl ⟨a.o,rfl,br.o⟩
def Lp(a b:Addr)(c:T):
  CallsD aE 39 #[aD (M a),aD (M b)] .returning c fun d e f=>d=aK (fE #[])/\e=.returning/\f=c:=by
 refine callsD_of_wpS func39 rfl fun a b c=>?_
 apply wpS_seq;apply wpS_region;simp[wpOpsS,go_sem,recoverD,c,ntmps39,Exit.thenS];refine wpS_cond (t:=false) (by simp[Act.eval,Array.replicate]) ?_;simp only[Bool.false_eq_true,if_false];refine wpS_of_wp (wp_skip ?_);cases a
 simp_all [bodyPostS,Ih,results39]
def Jc:(aE.info? 45).map (·.size)=M 4:=dK
def yu{a b h n c d}(r:b.results=#[.cell h c,.cell n d])(o e i p f g)
  (l:o.getD h sJ=aD (M i))(q:o.getD n sJ=aD (M p))(s:(oA c i).run a e=.ok f e)(t:(oA d p).run a e=.ok g e):(Ih b o).run a e=.ok (fE #[f,g]) e:=by
 have a:o[h]?.getD sJ=aD (M i):=by simpa using l
 have b:o[n]?.getD sJ=aD (M p):=by simpa using q
 simp[Ih,r,a,b,asAddr,s,t]
def UW(a:T)(b:Sq)(c:Nat)(d e:Int)(f:Ending)(g:T):Prop:=bD a g/\
 (f=aK (fE #[aG #[J E 0,af S 0 0,af S 0 0,J E 0],J E 9])\/
  ∃(h i l n o:Nat)(p:List Gr)(q:List Int)(r:Int)(s:List (Array aq)),f=aK (fE #[aG #[J E (h:Int),af (M ⟨l,0,S⟩) (bF p).length n,af (M ⟨o,0,S⟩) c c,J E r],J E 0])/\p.length=c/\(∀t∈p,FQ t)/\b.tV d (cP p)=M q/\b.runs d (cP (fC p q))=M r/\e<=r/\pI g i (af (M ⟨l,0,S⟩) (bF p).length n) (bF (fC p q)) s/\a.heap.size<=i)
def Uf(a:Abq)(b:Sq)(c d e:Bool)(f g:Nat)(h:List (FV×Fr))(i:List Int)(l n:aq)(o p:Int)(q:0<=o)(r:o<=b.cap)(s:0<=p)(t:T)(u:∀v,1<=v->v<=31->Gp t (tY b c d e (v:Nat) l n .nilIface) f g v h i):
  aT aE 11 #[aG b.cells,l,n,aG #[ao c,ao d,ao e],J E o,J E p] t (UW t b i.length o p):=by
 have v:∀(w:Fn)(first x:Array aq)(y:T),(Instr.makeFunc w first x).run aE y=.ok (.func w first x) y:=fun _ _ _ _=>rfl
 have w:=aH a;have x:=u 1 dD dD;have y:=aH (show jV b from x.sq);have z:=aH (Sq.size y.o);let ⟨H,U,V,W,Y,a0⟩:=x.ty;let ⟨a1,a2,a3,a4,a5,a6,a7⟩:=x.fr;have a8:l=af (M ⟨a1,a2,S⟩) h.length a3:=a4;have a9:n=af (M ⟨H,U,S⟩) i.length V:=W;let ⟨aa,ab⟩:=aX i.length;rw[x.len,<-ab] at a8;rw[<-ab] at a9 ⊢;have ac:=aH (show 1<=aa/\aa<=2 by rw[ab];exact⟨x.tx.n1,x.tx.n2⟩);subst a8;subst a9;obtain⟨a8,a9,ad⟩:=bh (bZ q r) u (fun ae=>vN b y.o ae)
 have ae:=aH (show∀ag,bD t ag->aT aE 40 #[aG b.cells,af (M ⟨a1,a2,S⟩) aa a3,af (M ⟨H,U,S⟩) aa V,aG #[ao c,ao d,ao e]] ag (fh ag (ao aB)) from fun ah ai=>AK b x.sq h i c d e _ _ ah (x.fr.ext ai) (x.ty.ext ai) x.tx x.len (fun aj al=>by
  have am:=x.dm aj al;have ap:=am.formed x.a1 x.a2 x.B1 x.B2;unfold jl at ap;simp only[bT] at ap;exact⟨ap.1.1,by rw[am.W];exact x.sw.symm,by rw[am.H];exact x.sh.symm⟩) x.B)
 have ag:=aH (show∀(ah:Nat),1<=ah->ah<=31->∀ai,bD t ai->aT aE 26 #[aG b.cells,af (M ⟨a1,a2,S⟩) aa a3,af (M ⟨H,U,S⟩) aa V,aG #[ao c,ao d,ao e],J E (ah:Int)] ai (Pf ai (tY b c d e ah (af (M ⟨a1,a2,S⟩) aa a3) (af (M ⟨H,U,S⟩) aa V) .nilIface) f g ah h aa) from fun aj al am ap ar=>by
  have:=C8 a b c d e aj f g h i _ _ ap ((u aj al am).ext ar);rw[<-ab] at this;exact this)
 obtain⟨ah,ai⟩:=aQ (show fD t from x.gl) (show(#[ao c,ao d,ao e]:Array aq).extract 0 (0+3)=#[ao c,ao d,ao e]/\0+3<=(#[ao c,ao d,ao e]:Array aq).size from⟨rfl,aw 3⟩);let ⟨aj,al,am,ap,ar,ax,ay,aV,b0,b1,b2,b3,b4⟩:=Dt t b.cells 26 (#[ao c,ao d,ao e]) 48 (#[J E 0,af S 0 0,af S 0 0,J E 0]) 45 (#[J E 0]) 36;obtain⟨b5,b6⟩:=aQ (show am.heap.size=aj+al.length by rw[ar,ay.o,ap];simp) ap;have b7:=aV;clear ab;let ⟨ab,b8⟩:=aX b.cap;have b9:=aH b8;rw[<-b8] at ad;have ba:decide (o<0)=av:=by simp;omega
 have bb:decide (ab<o)=av:=by simp;omega
 have bc:decide (p<0)=av:=by simp;omega
 go_enter_defers func11,ntmps11
 go_upto_region 1 with fail
 try simp only[sZ,ak]
 refine mr ar ?_
 try simp only[dA]
 rw[<-ap];clear ar ap b8;go_wp2_with (first|(refine lA 26 6 aj (b1.o _ aV.o) z.o ?_)|(refine lS 48 9 (aj+1) 0 (b2.o _ aV.o) ai.o.1 ai.o.2 ?_));refine mR (ae.o am (b0.o _ aV.o)) fun ap ar=>?_
 have b8:=mX ar aV;go_wp2_with ((refine lA 26 6 aj (b1.o _ b8.o) z.o ?_));refine mR (ad.o _) fun bd be=>?_
 have bf:=mX be b8;go_upto_region 5 with fail
 go_loopw [14] (fun bi wr=>∃bk:Nat,1<=bk/\bk<=32/\bi=J E (bk:Int)/\Fm t aj al wr) (fun bl _=>32-(intOf bl).toNat)
 case atStart=>exact⟨1,by decide,by decide,rfl,bf.o⟩
 case round=>
  obtain⟨bi,bk,bl,rfl,bn⟩:=hrel;have br:=aH bn
  by_cases bs:bi<=31
  ·have bt:=aH (bZ bk bs)
   have bu:E.wrap ((bi:Int)+1)=((bi+1:Nat):Int):=by rw[show((bi+1:Nat):Int)=(bi:Int)+1 by omega];exact an _ O
   go_wp2_with (first|(refine lA 26 6 aj (b1.o _ br.o) z.o ?_)|(refine lS 48 9 (aj+1) 0 (b2.o _ br.o) ai.o.1 ai.o.2 ?_));refine(ag.o bi bt.o.1 bt.o.2 wr (b0.o _ br.o)).mono ?_;rintro bv bx ⟨bz,bC,bK,bL,bR,bU,rfl,bV,bY,c0,c1⟩;have c2:=mX c1 br;obtain⟨c3,rfl,c4,c5⟩:=c0.g ac.o.1;obtain⟨c0,c6,c7,c8⟩:=dq bV (bZ c4 c5) (show aj+4<=bz/\t.heap.size<=bz from⟨by have:=br.o.k;have:=ay.o;omega,aY (b0.o _ br.o).size bY⟩) (show wr.heap.size<=bC from aY bY (bV.ow.gQ rfl).1);have c9:c3≠[]:=by intro ca;rw[ca] at c4;have:=ac.o.1;simp at c4;omega
   obtain⟨ca,cb⟩:=aQ (U8 b y.o c3 c5 c9 (by have:=(xJ c5).2;have:=ac.o.2;omega) o a8.o.1 a8.o.2 bz bC bK bU bx bV ((ah.o.ext (b0.o _ br.o)).ext c1)) c1;rw[show(bF c3).length=(bF c3).length from rfl];go_wp2_with ((refine lA 26 6 aj (b1.o _ c2.o) z.o ?_));refine ca.o.mono ?_;rintro cc cd ce;rcases ce with⟨cf,rfl,cg⟩|⟨ch,ci,ck,cf,cl,rfl,cn,co⟩
   ·have ce:=mX cg c2
    go_wp2;exact⟨⟨bi+1,by omega,by have:=bt.o.2;omega,by go_num,ce.o⟩,by simp[intOf];have:=bt.o.2;omega⟩
   ·obtain⟨ce,cp⟩:=aQ (br.o.ext (co.yG cb.o c8.o dS)) (bZ cf (bZ cl cn))
    by_cases cr:p<=ci
    ·have cs:decide (p<=ci)=aB:=by simp;omega
     have ct:=aH cr;go_upto_region 12 with fail;obtain⟨cu,cv⟩:=aQ ((b3.o _ ce.o).row #[J E (bi:Int),af (M ⟨bC,0,S⟩) (bF c3).length bK,af (M ⟨bL,0,S⟩) aa aa,J E ci]) (show Bx (cd.setRow (aj+1+1) #[J E (bi:Int),af (M ⟨bC,0,S⟩) (bF c3).length bK,af (M ⟨bL,0,S⟩) aa aa,J E ci]) (aj+1+1+1) 36 #[J E 0] from(b4.o _ ce.o).m O);have cw:=cv.o.cell 0 (v:=J E 0) rfl;have cx:=cv.o.frozen 0;have cy:=cv.o.lt;obtain⟨cz,cA,cB⟩:=bh (show(aE.info? 45).map (·.size)=M (#[J E (bi:Int),af (M ⟨bC,0,S⟩) (bF c3).length bK,af (M ⟨bL,0,S⟩) aa aa,J E ci]:Array aq).size from Jc) (show(#[J E 0,af S 0 0,af S 0 0,J E 0]:Array aq).size=(#[J E (bi:Int),af (M ⟨bC,0,S⟩) (bF c3).length bK,af (M ⟨bL,0,S⟩) aa aa,J E ci]:Array aq).size from rfl) (show(#[J E (bi:Int),af (M ⟨bC,0,S⟩) (bF c3).length bK,af (M ⟨bL,0,S⟩) aa aa,J E ci]:Array aq).all (·.oneCell')=aB by simp[cJ]);go_wp2_with refine bm rfl 45 (aI 12) (aI 77) rfl (aj+1+1) #[J E (bi:Int),af (M ⟨bC,0,S⟩) (bF c3).length bK,af (M ⟨bL,0,S⟩) aa aa,J E ci] rfl rfl (b3.o _ ce.o) cz.o cA.o cB.o ?_;obtain⟨cC,cE,cF,cI⟩:=dq (show Bx ((cd.setRow (aj+1+1) #[J E (bi:Int),af (M ⟨bC,0,S⟩) (bF c3).length bK,af (M ⟨bL,0,S⟩) aa aa,J E ci]).setCell ⟨aj+1+1+1,0,S⟩ (J E 0)) (aj+1+1) 45 #[J E (bi:Int),af (M ⟨bC,0,S⟩) (bF c3).length bK,af (M ⟨bL,0,S⟩) aa aa,J E ci] from cu.o.C (by show aj+1+1≠aj+1+1+1;omega) _) (show Bx ((cd.setRow (aj+1+1) #[J E (bi:Int),af (M ⟨bC,0,S⟩) (bF c3).length bK,af (M ⟨bL,0,S⟩) aa aa,J E ci]).setCell ⟨aj+1+1+1,0,S⟩ (J E 0)) (aj+1+1+1) 36 #[J E 0] from cv.o.L 0 (J E 0)) (show fO cd (cd.setRow (aj+1+1) #[J E (bi:Int),af (M ⟨bC,0,S⟩) (bF c3).length bK,af (M ⟨bL,0,S⟩) aa aa,J E ci]) (aj+1+1) S from fO.Bb (fO.refl _ _ _) _) (show fO (cd.setRow (aj+1+1) #[J E (bi:Int),af (M ⟨bC,0,S⟩) (bF c3).length bK,af (M ⟨bL,0,S⟩) aa aa,J E ci]) ((cd.setRow (aj+1+1) #[J E (bi:Int),af (M ⟨bC,0,S⟩) (bF c3).length bK,af (M ⟨bL,0,S⟩) aa aa,J E ci]).setCell ⟨aj+1+1+1,0,S⟩ (J E 0)) (aj+1+1+1) S from(fO.refl _ _ S).set (a:=⟨aj+1+1+1,0,S⟩) (.inl rfl) _);have cL:=cE.o.cell 0 (v:=J E 0) rfl;have cN:(oA 45 ⟨aj+1+1,0,S⟩).run aE ((cd.setRow (aj+1+1) #[J E (bi:Int),af (M ⟨bC,0,S⟩) (bF c3).length bK,af (M ⟨bL,0,S⟩) aa aa,J E ci]).setCell ⟨aj+1+1+1,0,S⟩ (J E 0))=.ok (aG #[J E (bi:Int),af (M ⟨bC,0,S⟩) (bF c3).length bK,af (M ⟨bL,0,S⟩) aa aa,J E ci]) ((cd.setRow (aj+1+1) #[J E (bi:Int),af (M ⟨bC,0,S⟩) (bF c3).length bK,af (M ⟨bL,0,S⟩) aa aa,J E ci]).setCell ⟨aj+1+1+1,0,S⟩ (J E 0)):=tm _ (aj+1+1) 45 45 #[J E (bi:Int),af (M ⟨bC,0,S⟩) (bF c3).length bK,af (M ⟨bL,0,S⟩) aa aa,J E ci] (0,0) _ cC.o Zh rfl Jc;have cO:(oA 36 ⟨aj+1+1+1,0,S⟩).run aE ((cd.setRow (aj+1+1) #[J E (bi:Int),af (M ⟨bC,0,S⟩) (bF c3).length bK,af (M ⟨bL,0,S⟩) aa aa,J E ci]).setCell ⟨aj+1+1+1,0,S⟩ (J E 0))=.ok (J E 0) ((cd.setRow (aj+1+1) #[J E (bi:Int),af (M ⟨bC,0,S⟩) (bF c3).length bK,af (M ⟨bL,0,S⟩) aa aa,J E ci]).setCell ⟨aj+1+1+1,0,S⟩ (J E 0)):=by simp[go_sem,cL]
     have cR:=aH (show bD t ((cd.setRow (aj+1+1) #[J E (bi:Int),af (M ⟨bC,0,S⟩) (bF c3).length bK,af (M ⟨bL,0,S⟩) aa aa,J E ci]).setCell ⟨aj+1+1+1,0,S⟩ (J E 0)) from cI.o.yG (cF.o.yG (b0.o _ ce.o) (dU b6.o) dS) (dU b6.o) dS);refine leaves_cons (f:=39) (args:=#[aD (M ⟨aj+1+1,0,S⟩),aD (M ⟨aj+1+1+1,0,S⟩)]) dS (by simp[go_sem]) ?_;refine(Lp _ _ _).mono ?_;rintro cS cT cU ⟨rfl,rfl,rfl⟩;exact⟨_,yu results11 _ _ _ _ _ _ rfl rfl cN cO,cR.o,.inr ⟨bi,bz,bC,bK,bL,c3,ch,ci,ck,rfl,c6.o.1,c6.o.2,cp.o.1,cp.o.2.1,ct.o,((cp.o.2.2).C cF.o (gC br.o.k c7.o)).C cI.o (gC br.o.k c7.o),c7.o.2⟩⟩
    ·have cs:decide (p<=ci)=av:=by simp;omega
     go_wp2;exact⟨⟨bi+1,by omega,by have:=bt.o.2;omega,by go_num,ce.o⟩,by simp[intOf];have:=bt.o.2;omega⟩
  ·skip
   go_upto_region 13 with fail;obtain⟨bt,bu⟩:=aQ ((b3.o _ br.o).row #[J E 0,af S 0 0,af S 0 0,J E 0]) (show Bx (wr.setRow (aj+1+1) #[J E 0,af S 0 0,af S 0 0,J E 0]) (aj+1+1+1) 36 #[J E 0] from(b4.o _ br.o).m O);have bv:=bu.o.cell 0 (v:=J E 0) rfl;have bx:=bu.o.frozen 0;have bz:=bu.o.lt;obtain⟨bC,bK,bL⟩:=bh (show(aE.info? 45).map (·.size)=M (#[J E 0,af S 0 0,af S 0 0,J E 0]:Array aq).size from Jc) (show(#[J E 0,af S 0 0,af S 0 0,J E 0]:Array aq).size=(#[J E 0,af S 0 0,af S 0 0,J E 0]:Array aq).size from rfl) (show(#[J E 0,af S 0 0,af S 0 0,J E 0]:Array aq).all (·.oneCell')=aB by simp[cJ]);go_wp2_with refine bm rfl 45 (aI 12) (aI 78) rfl (aj+1+1) #[J E 0,af S 0 0,af S 0 0,J E 0] rfl rfl (b3.o _ br.o) bC.o bK.o bL.o ?_;obtain⟨bR,bU,bV,bY⟩:=dq (show Bx ((wr.setRow (aj+1+1) #[J E 0,af S 0 0,af S 0 0,J E 0]).setCell ⟨aj+1+1+1,0,S⟩ (J E 9)) (aj+1+1) 45 #[J E 0,af S 0 0,af S 0 0,J E 0] from bt.o.C (by show aj+1+1≠aj+1+1+1;omega) _) (show Bx ((wr.setRow (aj+1+1) #[J E 0,af S 0 0,af S 0 0,J E 0]).setCell ⟨aj+1+1+1,0,S⟩ (J E 9)) (aj+1+1+1) 36 #[J E 9] from bu.o.L 0 (J E 9)) (show fO wr (wr.setRow (aj+1+1) #[J E 0,af S 0 0,af S 0 0,J E 0]) (aj+1+1) S from fO.Bb (fO.refl _ _ _) _) (show fO (wr.setRow (aj+1+1) #[J E 0,af S 0 0,af S 0 0,J E 0]) ((wr.setRow (aj+1+1) #[J E 0,af S 0 0,af S 0 0,J E 0]).setCell ⟨aj+1+1+1,0,S⟩ (J E 9)) (aj+1+1+1) S from(fO.refl _ _ S).set (a:=⟨aj+1+1+1,0,S⟩) (.inl rfl) _);have c0:=bU.o.cell 0 (v:=J E 9) rfl;have c1:(oA 45 ⟨aj+1+1,0,S⟩).run aE ((wr.setRow (aj+1+1) #[J E 0,af S 0 0,af S 0 0,J E 0]).setCell ⟨aj+1+1+1,0,S⟩ (J E 9))=.ok (aG #[J E 0,af S 0 0,af S 0 0,J E 0]) ((wr.setRow (aj+1+1) #[J E 0,af S 0 0,af S 0 0,J E 0]).setCell ⟨aj+1+1+1,0,S⟩ (J E 9)):=tm _ (aj+1+1) 45 45 #[J E 0,af S 0 0,af S 0 0,J E 0] (0,0) _ bR.o Zh rfl Jc;have c2:(oA 36 ⟨aj+1+1+1,0,S⟩).run aE ((wr.setRow (aj+1+1) #[J E 0,af S 0 0,af S 0 0,J E 0]).setCell ⟨aj+1+1+1,0,S⟩ (J E 9))=.ok (J E 9) ((wr.setRow (aj+1+1) #[J E 0,af S 0 0,af S 0 0,J E 0]).setCell ⟨aj+1+1+1,0,S⟩ (J E 9)):=by simp[go_sem,c0]
   have c3:=aH (show bD t ((wr.setRow (aj+1+1) #[J E 0,af S 0 0,af S 0 0,J E 0]).setCell ⟨aj+1+1+1,0,S⟩ (J E 9)) from bY.o.yG (bV.o.yG (b0.o _ br.o) (dU b6.o) dS) (dU b6.o) dS);refine leaves_cons (f:=39) (args:=#[aD (M ⟨aj+1+1,0,S⟩),aD (M ⟨aj+1+1+1,0,S⟩)]) dS (by simp[go_sem]) ?_;refine(Lp _ _ _).mono ?_;rintro c4 c5 c6 ⟨rfl,rfl,rfl⟩;exact⟨_,yu results11 _ _ _ _ _ _ rfl rfl c1 c2,c3.o,.inl rfl⟩
def Cu{f b c g h l d}(e:Region.wanted g (xZ b h.tmps)=aB)(n a o p)(q:g.op=.binOp .neq n o p a)(r s)(t:h.eval o=aG r)(u:h.eval p=aG s)(v:f.eqGuardType f.depth n=av)
  (i)(w:(binOp .neq n (aG r) (aG s)).run f l=.ok (ao i) l)(x:cG f b d c (h.put g.dst (ao i)) l):cG f b d (g::c) h l:=
 Go.BigFrame.wpList_want e fun _ a=>by
  have b:(execOp h.eval g).run f l=.ok (.value (ao i)) l:=by
   unfold execOp;simp only[q,t,u,Sem.run_bind,run_eqGuard_agg l .neq n o p r s v,Result.andThen_ok,w];rfl
  unfold Oper.wp;rw[b];exact a _ _ x
def MS(a b):lQ (a++b)=lQ a++lQ b:=by simp[lQ]
def mE.cells{a b d e}(i:mE a b 0 d e)(f:0<d)(g:∀n∈e,n.size=d)(l c)(h:(lQ e)[l]?=M c):a.cell? ⟨b,l,S⟩=M c:=by
 have a:=(aP.1 h).1;rw[BE g] at a;have b:l/d<e.length:=Nat.div_lt_of_lt_mul (eZ dh a);have a:d*(l/d)+l%d=l:=Nat.div_add_mod l d;have c:=Ev g (k:=l/d) (m:=e[l/d]) (aA b) (l%d) (Nat.mod_lt _ f);rw[a,h] at c;exact i.cell (aA b) c.symm l (by rw[oD,a])
def Cz{a b c d e g f}(h:d.guard=S)(l n o)
  (p:d.op=.call {callee:=.builtin .append,args:=#[l,n],argTypes:=#[o,o]})(q r s t)(u:a.underlying o=M (.slice q))(v:(a.info? q).map (fun i=>(i.zero,i.size,i.bytes))=M (M r,s,t))(w:r.cells.size=s)(x:0<s)(a1:t<=100000)
  {base y L}(z:e.eval l=y)(a6:jW g base q s y L)(a5:base<=g.heap.size)(H U V)(a2:L.length+V.length<=100000)(W:e.eval n=af (M ⟨H,0,S⟩) V.length U)(Y:mE g H 0 s V)(a4:∀a7∈V,a7.size=s)(a0:∀a8∈V,a8.all (·.oneCell')=aB)
  (a3:∀a7 a8,jW a8 base q s a7 (L++V)->Below base g a8->cG a b f c (e.put d.dst a7) a8):cG a b f (d::c) e g:=by
 refine uh g (p:=fun _=>True) h l n o p q r s t u v w x base y L.length (lQ L) z a6.own _ V.length U (lQ V) W ⟨BE a4,fun _=>⟨H,0,rfl,trivial,Y.lt,fun a b c=>by rw[oD];exact Y.cells x a4 a b c⟩⟩ (fun d e=>?_) (by unfold maxLen;omega) ?_ a5 ?_
 ·let ⟨a,b,c⟩:=pL.1 e
  exact(bG.1 (a0 a b)) d (jP c)
 ·exact aY (Nat.mul_le_mul a2 a1) dD
 ·intro a b c d e
  refine a3 a b ⟨by rw[MS,aJ];exact c,fun e f=>?_⟩ ?_
  ·rcases dG.1 f with a|a
   ·exact a6.k e a
   ·exact a4 e a
  ·refine Below.grown (aM _ _) d a5 fun a b=>?_
   rcases a6.own.2 with⟨rfl,_⟩|⟨a,c,d,rfl,e,_⟩
   ·simp[kC] at b
   ·simp only[kC,bq] at b
    omega
def Jr{a}(c:∀d∈a,GS d)(b:a≠[]):bF a≠[]:=by
 cases a with
 |nil=>exact absurd rfl b
 |cons a b=>
  intro b;have d:=((c a dS).tl.ne).1;rw[bF,gL,rL,Gr.its,rL] at b;rw[b.1.2] at d;exact absurd d dD
def Ov{b c d e f}(a:jW b c 102 4 (af (M ⟨d,0,S⟩) f.length e) ((cP f).map fP))(g:f≠[]):E0 b d 0 (cP f)/\(cP f).length=f.length/\(cP f).length<=e:=by
 have h:(cP f).length=f.length:=by simp[cP]
 obtain⟨i,l,n,_,o,p⟩:=a.rows (by intro q;apply g;have r:((cP f).map fP).length=0:=(by rw[q];rfl);rw[cX,h] at r;exact dR r);simp only[dt,bq,iO] at n;obtain⟨⟨rfl,_⟩,_,rfl⟩:=n;exact⟨p,h,by rw[cX] at o;exact o⟩
def RD(a:T)(b:Nat)(c:Sq)(d:Nat)(e:Int)(f:Array aq)(g:Int):Prop:=(g=9/\f=#[J E 0,af S 0 0,af S 0 0,J E 0])\/
 (g=0/\∃(h i l n o:Nat)(p:List Gr)(q:List Int)(r:Int)(s:List (Array aq)),f=#[J E (h:Int),af (M ⟨l,0,S⟩) (bF p).length n,af (M ⟨o,0,S⟩) d d,J E r]/\p.length=d/\(∀t∈p,FQ t)/\c.tV c.cap (cP p)=M q/\c.runs c.cap (cP (fC p q))=M r/\e<=r/\pI a i (af (M ⟨l,0,S⟩) (bF p).length n) (bF (fC p q)) s/\b<=i)
def RD.ext{a b c d e f g h}(i:RD a c d e f h g)(l:bD a b):RD b c d e f h g:=by
 rcases i with a|⟨b,c,d,e,f,g,h,n,o,p,q,r,s,t,u,v,w,x⟩
 ·exact .inl a
 ·exact .inr ⟨b,c,d,e,f,g,h,n,o,p,q,r,s,t,u,v,w.ext l,x⟩
instance {w w' x1 x2 x3 x4 x5 x6}:Tr w w' (RD w x1 x2 x3 x4 x5 x6) (RD w' x1 x2 x3 x4 x5 x6):=⟨fun hb h=>RD.ext h hb⟩
def RD.C{a b c d e f g}(n:RD a b c d e g f){h}(i:h<b)(l):RD (a.setRow h l) b c d e g f:=by
 rcases n with a|⟨b,c,d,e,f,g,h,i,l,o,p,q,r,s,t,u,v,w⟩
 ·exact .inl a
 ·exact .inr ⟨b,c,d,e,f,g,h,i,l,o,p,q,r,s,t,u,v.C (fO.Bb (fO.refl _ _ _) _) O,w⟩
def RD.k{a b c d e f g}(h:RD a b c d e g f):g.size=4/\g.all (·.oneCell')=aB:=by
 rcases h with⟨_,rfl⟩|⟨_,a,b,c,d,e,f,g,i,l,rfl,_⟩
 ·exact⟨rfl,by simp[cJ]⟩
 ·exact⟨rfl,by simp[cJ]⟩
def UW.fti{a b c d e f}(g:UW a c d c.cap e f b):∃h i,f=aK (fE #[aG h,J E i])/\RD b a.heap.size c d e h i/\bD a b:=by
 obtain⟨a,b|⟨c,d,e,f,h,i,l,n,o,p,q,r,s,t,u,v,w⟩⟩:=g
 ·exact⟨_,_,b,.inl ⟨rfl,rfl⟩,a⟩
 ·exact⟨_,_,p,.inr ⟨rfl,c,d,e,f,h,i,l,n,o,rfl,q,r,s,t,u,v,w⟩,a⟩
def Ww(a b c d):(Instr.build 48 #[(0,ao a),(1,ao b),(2,ao c)]).run aE d=.ok (aG #[ao a,ao b,ao c]) d:=dK
def ft0:Array aq:=#[J E 0,af S 0 0,af S 0 0,J E 0]
def OI:(aE.info? 45).map (·.size)=M 4:=dK
def Qx(c:T)(a b):jW (c.alloc (az #[] a)) c.heap.size a b (af (M ⟨c.heap.size,0,S⟩) 0 0) []:=
 ⟨⟨by simp[lQ],.inr ⟨c.heap.size,0,#[],rfl,aw _,heap_alloc_new c _,aw _,qo _,by simp,by simp[lQ]⟩⟩,by simp⟩
def Tt{a b c d e f g h i l q p}(r:pI a c f (bF i) q)(s:pI a d g (bF l) p)(t:bD a b)(n:jW b e 99 148 h ([]++q++p))(o:bF i≠[]):∃u v,h=af (M ⟨u,0,S⟩) (bF (i++l)).length v/\FP b u 0 (bF (i++l)):=by
 have a:([]++q++p).length=(bF (i++l)).length:=by have b:=r.len;have c:=s.len;rw[wZ];simp only[js,aJ];omega
 let ⟨b,c,d,_,_,e⟩:=n.rows (by intro f;apply o;rw[f,wZ,aJ] at a;exact dR (by simp only[eK] at a;omega));rw[a] at d;refine⟨b,c,d,[]++q++p,e,a,fun f g h i l=>?_⟩;rw[js] at l;rw[wZ] at i
 by_cases a:f<q.length
 ·rw[bo a] at l
  rw[bo (D8 r.len a)] at i;exact((r.it f g h i l).itc).ext t
 ·rw[aU O] at l
  rw[aU (by rw[<-r.len];omega),<-r.len] at i;exact((s.it _ g h i l).itc).ext t
def Tu:(aG fJ).cells.size=148:=dK
def pI.Af8{a b c d e}(f:pI a b c d e):∀g∈e,g.all (·.oneCell')=aB:=fun h i=>by
 let ⟨a,b⟩:=xX.1 i;have c:=(aP.1 b).1;rw[f.len] at c;exact(f.it a _ h (aA c) b).one
def pI.rwl{a b c d e f g}(h:pI a b (af (M ⟨c,0,S⟩) e d) f g)(i:f≠[]):mE a c 0 148 g:=by
 let ⟨a,b,c,_,_,d⟩:=h.ow.rows (by intro e;apply i;have:=h.len;rw[e] at this;exact dR this.symm);simp only[dt,bq,iO] at c;obtain⟨⟨rfl,_⟩,_,_⟩:=c;exact d
def Je:(aE.info? 32).map (·.size)=M 141:=dK
def MH(a b:Sq)(c:JJ a)(d:JJ b)(e f g h i l:Bool)(n o:Int)(p q:List (FV×Fr))(r s:List Int)(t u v w:aq)(x:T)(y:Dw x t u p r)(z:Dw x v w q s)(H:fD x):
  aT aE 3 #[aG (pD a t u e f g n),aG (pD b v w h i l o)] x (fh x (ao aB)):=by
 obtain⟨U,V,W,Y,a0⟩:=dZ c d y z H;obtain⟨a1,a2⟩:=aX x.heap.size;have a3:=aH a2;obtain⟨a4,a5⟩:=aX ([(32,(pD a t u e f g n)),(32,(pD b v w h i l o))]);obtain⟨a6,a7⟩:=aX ((x.alloc (az (pD a t u e f g n) 32)).alloc (az (pD b v w h i l o) 32));have a8:=XW x a1 a2 a5 a7;have a9:=TX a5 2;have aa:=BQ x a1 a5;have ab:=Du x a1 a5;have ac:=Ll a4 a3;clear a5 c d y z H;go_enter func3,ntmps3;go_upto_region 1 with fail
 try simp only[sZ,ak]
 refine mr a7 ?_
 try simp only[dA]
 rw[<-a2];clear a7 a2;go_wp2_with (first|(with_reducible refine bA dW 32 (aI 2) rfl a1 0 141 rfl _ _ _ _ (aa.o _ a8.o) (ij _ (uF U.o)) (yD (uF U.o)) rfl Bj Je ?_));refine(Hf a U.o e f g n p r t u a6 (W.o.ext (ac.o _ a8.o))).mono ?_;rintro ad ae ⟨ag,rfl,hb,ah⟩;have ai:=mX ah a8;clear ah a8;cases ag
 ·clear hb
  go_wp2_with fail;refine(Bs ae (a0.o.ext (ac.o _ ai.o))).mono ?_;rintro aj al ⟨rfl,am⟩;have ap:=aH ((ac.o _ ai.o).trans am);clear am;go_wp2_with fail;go_ret;exact⟨rfl,ap.o⟩
 have aj:=aH (hb rfl);clear hb;go_wp2_with (first|(with_reducible refine bA dW 32 (aI 3) rfl (a1+1) 0 141 rfl _ _ _ _ (ab.o _ ai.o) (ij _ (uF V.o)) (yD (uF V.o)) rfl Bj Je ?_));refine(Hf b V.o h i l o q s v w ae (Y.o.ext (ac.o _ ai.o))).mono ?_;rintro al am ⟨ap,rfl,hb,ar⟩;have ax:=mX ar ai;clear ar ai;cases ap
 ·clear hb
  go_wp2_with fail;refine(Bs am (a0.o.ext (ac.o _ ax.o))).mono ?_;rintro ay aV ⟨rfl,b0⟩;have b1:=aH ((ac.o _ ax.o).trans b0);clear b0;go_wp2_with fail;go_ret;exact⟨rfl,b1.o⟩
 have ay:=aH (hb rfl);clear hb;have aV:=aH (Aaa b a ay.o.2.1 aj.o.2.1 am);obtain⟨b0,b1,b2⟩:=aV.o;have b3:=aH b1;clear b1;cases b0
 case true=>
  clear b2;go_wp2_with (first|(with_reducible refine bA dW 26 (aI 27) rfl (a1+1) 0 135 rfl _ _ _ _ (ab.o _ ax.o) (iI V.o).1 (iI V.o).2 rfl ik ew ?_)|(with_reducible refine bA dW 26 (aI 29) rfl a1 0 135 rfl _ _ _ _ (aa.o _ ax.o) (iI U.o).1 (iI U.o).2 rfl ik ew ?_)|(with_reducible refine Cu (by first|rfl|(simp[Region.wanted,xZ,ak];done)) _ _ (aI 28) (aI 30) rfl _ _ rfl rfl dK _ b3.o ?_));refine(Bs am (a0.o.ext (ac.o _ ax.o))).mono ?_;rintro b4 b5 ⟨rfl,b6⟩;have b7:=aH ((ac.o _ ax.o).trans b6);clear b6;go_wp2_with fail;go_ret;exact⟨rfl,b7.o⟩
 obtain rfl:=b2 rfl;clear b2 aV;have b4:=aH aj.o.2.1;obtain⟨b5,b6⟩:∃b7:Nat,o=(b7:Int):=⟨o.toNat,by have:=ay.o.2.2.1;omega⟩;subst b6;have b7:=aH (show 1<=b5/\b5<=31 from⟨by have:=ay.o.2.2.1;omega,by have:=ay.o.2.2.2.1;omega⟩);obtain⟨b8,b9,ba⟩:=OR (al:=i) (v:=v) (vt:=w) ay.o.2 Y.o a0.o;obtain⟨bb,bc,bd⟩:=OR (al:=f) (v:=t) (vt:=u) aj.o.2 W.o a0.o;obtain⟨be,bf,bi⟩:=bh bd ba (show 1<=s.length/\s.length<=2/\1<=r.length/\r.length<=2 from⟨ay.o.2.2.2.2.1.2.n1,ay.o.2.2.2.2.1.2.n2,aj.o.2.2.2.2.1.2.n1,aj.o.2.2.2.2.1.2.n2⟩);clear bd ba;go_wp2_with (first|(with_reducible refine bA dW 26 (aI 27) rfl (a1+1) 0 135 rfl _ _ _ _ (ab.o _ ax.o) (iI V.o).1 (iI V.o).2 rfl ik ew ?_)|(with_reducible refine bA dW 26 (aI 29) rfl a1 0 135 rfl _ _ _ _ (aa.o _ ax.o) (iI U.o).1 (iI U.o).2 rfl ik ew ?_)|(with_reducible refine Cu (by first|rfl|(simp[Region.wanted,xZ,ak];done)) _ _ (aI 28) (aI 30) rfl _ _ rfl rfl dK _ b3.o ?_)|(with_reducible refine bA dW 32 (aI 3) rfl (a1+1) 0 141 rfl _ _ _ _ (ab.o _ ax.o) (ij _ (uF U.o)) (yD (uF U.o)) rfl Bj Je ?_));refine(Q0 b U.o h i l b5 b8 b9 q s v w am ((bf.o.ext (ac.o _ ax.o)) b5 b7.o.1 b7.o.2)).mono ?_;rintro bk bl ⟨bn,br,bs,bt,bu,bv,rfl,bx,_,bz,bC⟩;obtain⟨bK,rfl,bL,bR⟩:=bz.g bi.o.1;have bU:=mX bC ax;obtain⟨bV,bY,c0,c1,c2⟩:=dZ bx bR (show bK≠[] by intro c3;rw[c3] at bL;have:=bi.o.1;rw[<-bL] at this;exact absurd this dD) (show bK.length<=2 by rw[bL];exact bi.o.2.1) (show(bF bK).length<=8 by have c4:=(xJ bR).2;have c5:=bi.o.2.1;rw[bL] at c4;omega);clear bC ax bx bz bR bL;obtain⟨c3,c4,c5,_,_,c6⟩:=bV.o.itl (Jr (fun c7 c8=>(bY.o c7 c8).x) c0.o);simp only[dt,bq,iO] at c5;obtain⟨⟨rfl,_⟩,_,rfl⟩:=c5;have c7:=aH c6;clear c6;have c8:=aH (El bK (fun c9 ca=>(bY.o c9 ca).x) c0.o (fun cb cc=>by obtain⟨cd,ce,cf⟩:=pL.1 cc;exact(bY.o cd ce).itx cb cf) (dU c2.o) bl br 0 bs c7.o (a0.o.ext (ac.o _ bU.o)));go_wp2_with fail;refine c8.o.mono ?_;rintro c9 ca ⟨cb,cc,rfl,cd,ce⟩;obtain⟨cf,cg⟩:=di ce bU bV;have ch:=aH (Ov cd c0.o);clear ce cd bU bV c7 c8;have ci:=aH (VS b b4.o cb 0 cc (cP bK) (by rw[ch.o.2.1];have:=c1.o;omega) (Ac bY.o) ca ch.o.1 ch.o.2.2);go_wp2_with (first|(with_reducible refine bA dW 26 (aI 52) rfl a1 0 135 rfl _ _ _ _ (aa.o _ cf.o) (iI U.o).1 (iI U.o).2 rfl ik ew ?_));have ck:=ci.o;rw[ch.o.2.1] at ck;have cl:=aH ck;clear ck ci;obtain⟨cn,co⟩:=aX (b.JP (cP bK));cases cn with
 |none=>
  have cp:aT aE 10 #[aG b.cells,af (M ⟨cb,0,S⟩) bK.length cc,J E 0] ca (fh ca (fE #[J E 0,J E 9])):=by
   have cr:=cl.o;rw[<-co] at cr;exact cr
  clear co;refine cp.mono ?_;rintro cr cs ⟨rfl,ct⟩;have cu:=mX ct cf;clear ct cp;go_wp2_with fail;refine(Bs cs (a0.o.ext (ac.o _ cu.o))).mono ?_;rintro cv cw ⟨rfl,cx⟩;have cy:=aH ((ac.o _ cu.o).trans cx);clear cx;go_wp2_with fail;go_ret;exact⟨rfl,cy.o⟩
 |some cp=>
  have cr:aT aE 10 #[aG b.cells,af (M ⟨cb,0,S⟩) bK.length cc,J E 0] ca (fh ca (fE #[J E cp,J E 0])):=by
   have cs:=cl.o;rw[<-co] at cs;exact cs
  have cs:=aH co
  have ct:=aH (show 0<=cp by
   have cu:=co.symm;unfold Sq.JP at cu
   exact T4 (qZ 0) (by unfold Sq.bit;have:=b4.o.n1;omega) (fun cv hb=>by
    obtain⟨cw,cx,cy⟩:=iy.1 hb;rw[<-cy];exact(Ac bY.o cw cx).1) cu)
  clear co;refine cr.mono ?_;rintro cu cv ⟨rfl,cw⟩;obtain⟨cx,cy⟩:=di cw cf cg;clear cw cr cf cg ch cl;go_upto_region 10 with fail;refine aL 99 (fun cz=>Fm x a1 a4 cz) rfl (fun cA hb=>?_);have cz:=aH (show Fm x a1 a4 cv from cx.o);obtain⟨cB,cC⟩:=di hb cx cy;clear hb cx cy;refine gN 0 18 9 ?_;simp only[sZ,ak];go_big_quiet_step (fail);refine lR cz 26 62 a1 0 135 b.cells (fun _ cE=>⟨_,_,(aa.o _ cE),(iI U.o).1,(iI U.o).2⟩) ik ew ?_;simp only[sZ,ak];go_big_quiet_step (fail);refine lC cz 27 64 a1 135 (t) (fun _ cE=>(aa.o _ cE).cell 135 (Fq U.o)) underlying27 ?_;simp only[sZ,ak];go_big_quiet_step (fail);refine lC cz 28 66 a1 136 (u) (fun _ cE=>(aa.o _ cE).cell 136 (Fp U.o)) underlying28 ?_;simp only[sZ,ak];iterate 2 (go_big_quiet_step (fail))
  refine lC cz 4 69 a1 137 (ao e) (fun _ cE=>(aa.o _ cE).cell 137 (Fo U.o)) jD ?_;simp only[sZ,ak];iterate 2 (go_big_quiet_step (fail))
  refine lC cz 4 72 a1 138 (ao f) (fun _ cE=>(aa.o _ cE).cell 138 (Fl U.o)) jD ?_;simp only[sZ,ak];iterate 2 (go_big_quiet_step (fail))
  refine lC cz 4 75 a1 139 (ao g) (fun _ cE=>(aa.o _ cE).cell 139 (Fk U.o)) jD ?_;simp only[sZ,ak];refine ei rfl (aG #[ao e,ao f,ao g]) (fun cE=>iW (qs:=#[(0,ao e),(1,ao f),(2,ao g)]) rfl dK (Ww e f g cE)) ?_;simp only[sZ,ak];go_big_quiet_step (fail);refine lR cz 26 78 a1 0 135 b.cells (fun _ cE=>⟨_,_,(aa.o _ cE),(iI U.o).1,(iI U.o).2⟩) ik ew ?_;refine aN (zj 18 8 ?_);simp only[sZ,ak];refine bO rfl 12 #[aG b.cells] (J E b.cap) (fun cE=>by kernel_rfl) (fun cF cI=>vN b b4.o cF) ?_;refine gT 19 1 7 ?_;refine Md 20 24 6 cB (fun cE hb=> ?Xq30) fun cE hb=> ?Xq31
  case' Xq30=>
   simp only[sZ,ak];obtain⟨cF,HI7⟩:=di hb cB cC;clear hb cB cC;have cI:=aH (show bD cE cE from aM _ _);go_wp2_with fail;refine(Uf OM b e f g bb bc p r t u b.cap cp b4.o.qA.1 (qZ _) ct.o cE (be.o.ext (ac.o _ cF.o))).mono ?_;rintro cL cN cO;obtain⟨cR,cS,rfl,cT,hb⟩:=cO.fti;have cU:=aH cT;obtain⟨cV,cY⟩:=di hb cF cI;clear hb cF cI;clear cO cT;go_wp2_with fail;refine gT 21 3 3 ?_;have d0:=aH (show bD cN cN from aM _ _);refine fK 24 2 cV fun d1 hb=>?_
   simp only[sZ,ak];obtain⟨d2,d3,d4⟩:=gO hb d0 cV cY;clear hb cV cY d0;go_wp2_with fail;obtain⟨d5,d6,d7,d8,d9,dc⟩:=mY d1 ft0 45;obtain⟨df,dg⟩:=di d9 d3 d4;have dj:=mX d9 d2;have dk:=aH (show cN.heap.size<=d5/\a1+a4.length<=d5/\x.heap.size<=d5/\cE.heap.size<=d5 by rw[d7];exact⟨d2.o.size,d3.o.k,(ac.o _ d3.o).size,d4.o.size⟩);refine tf d8 ?_;rw[<-d7];clear d8 d7 d9 d3 d4 d2;refine fK 25 1 df fun dl hb=>?_
   simp only[sZ,ak];obtain⟨dm,dn,dp,dr⟩:=nj hb dj df dg dc;clear hb df dg dc dj;refine bm rfl 45 (aI 12) (aI 83) rfl d5 cR rfl rfl dr.o (by rw[(cU.o.k).1];exact OI) (by rw[(cU.o.k).1];rfl) (cU.o.k).2 ?_;obtain⟨HSc,HVc,HBc,HFc⟩:=dq (show Fm x a1 a4 (dl.setRow d5 cR) from dn.o.C (dU dk.o) cR) (show bD cE (dl.setRow d5 cR) from aO dp.o (dU dk.o)) (show Bx (dl.setRow d5 cR) d5 45 cR from dr.o.row cR) (cU.o.ext (show bD cN (dl.setRow d5 cR) from aO dm.o (dU dk.o)));clear dn dp dr dm
  case' Xq31=>
   simp only[sZ,ak];obtain⟨cF,HI7⟩:=di hb cB cC;clear hb cB cC;have cI:=aH (show bD cE cE from aM _ _);go_wp2_with fail;obtain⟨cL,cN,cO,cR,cS,cT⟩:=mY cE ft0 45;obtain⟨cU,cV⟩:=di cS cF cI;have cY:=aH (show a1+a4.length<=cL/\x.heap.size<=cL/\cE.heap.size<=cL by rw[cO];exact⟨cF.o.k,(ac.o _ cF.o).size,aw _⟩);refine tf cR ?_;rw[<-cO];clear cR cO cS cF cI;refine fK 20 5 cU fun d0 hb=>?_
   simp only[sZ,ak];obtain⟨d1,d2,d3⟩:=gO hb cU cV cT;clear hb cU cV cT;have d4:=aH (show cL<d0.heap.size from d3.o.lt);go_wp2_with fail;refine(Uf OM b e f g bb bc p r t u b.cap cp b4.o.qA.1 (qZ _) ct.o d0 (be.o.ext (ac.o _ d1.o))).mono ?_;rintro d5 d6 d7;obtain⟨d8,d9,rfl,dc,hb⟩:=d7.fti;have df:=aH dc;obtain⟨dg,dj,dk⟩:=gO hb d1 d2 d3;clear hb d1 d2 d3;clear d7 dc;go_wp2_with fail;refine gT 21 3 2 ?_;refine fK 25 1 dg fun dl hb=>?_
   simp only[sZ,ak];obtain⟨dm,dn,dp,dr⟩:=nj hb dg dj dk df;clear hb dg dj dk df;refine bm rfl 45 (aI 12) (aI 83) rfl cL d8 rfl rfl dp.o (by rw[(dr.o.k).1];exact OI) (by rw[(dr.o.k).1];rfl) (dr.o.k).2 ?_;obtain⟨HSc,HVc,HBc,HFc⟩:=dq (show Fm x a1 a4 (dl.setRow cL d8) from dm.o.C (dU cY.o) d8) (show bD cE (dl.setRow cL d8) from aO dn.o (dU cY.o)) (show Bx (dl.setRow cL d8) cL 45 d8 from dp.o.row d8) (dr.o.C d4.o d8);clear dm dn dp dr
  all_goals
   refine mn ⟨rfl,gT 26 1 0 ?_⟩;refine zI HSc fun cF hb=>?_
   obtain⟨cI,cL,cN,cO⟩:=nj hb HSc HVc HBc HFc;clear hb HSc HVc HBc HFc;have cR:=aH (HI7.o.ext cL.o)
   try simp only[ak]
   rcases cO.o with⟨rfl,cS⟩|⟨rfl,cT,cU,cV,cY,d0,d1,d2,d3,d4,cS,d5,d6,d7,d8,d9,dc,df⟩
   ·go_wp2_with fail
    refine(Bs cF (a0.o.ext (ac.o _ cI.o))).mono ?_;rintro dg dj ⟨rfl,dk⟩;have dl:=aH ((ac.o _ cI.o).trans dk);clear dk;go_wp2_with fail;go_ret;exact⟨rfl,dl.o⟩
   ·subst cS
    clear cO HI7 cL;obtain⟨dg,dj⟩:=aQ d6 dc;clear d6 dc df;have dk:=cN.o.cell 1 (v:=af (M ⟨cV,0,S⟩) (bF d1).length cY) rfl;have dl:=cN.o.lt;obtain⟨dm,dn,dp,dr,ds,dx⟩:=ej (show d1≠[] by intro dy;rw[dy] at d5;have:=bi.o.2.2.1;rw[<-d5] at this;exact absurd this dD) (show d1.length<=2 by rw[d5];exact bi.o.2.2.2) ((xJ dg.o).2) (Ou b4.o dg.o (qZ _) d7) d8 d9;clear d5 d7 d8 d9;obtain⟨dy,dC⟩:=aQ (N4 d2 (fun dL dO=>(dg.o dL dO).x)) (show fC d1 d2≠[] by intro dQ;apply dm.o;exact dR (by rw[<-oK d1 d2,dQ];rfl));obtain⟨dL,dO,dQ⟩:=bh (Jr dy.o dC.o) (show d4.length=(bF d1).length by rw[dj.o.len,xy]) (show bv.length=(bF bK).length from cR.o.len);obtain⟨dS,dV,e0⟩:=bh (dj.o.rwl dL.o) (cR.o.rwl (Jr (fun e1 e2=>(bY.o e1 e2).x) c0.o)) (show bD cF (cF.alloc (az #[] 99)) from(aM _ _).alloc (aw _) _);go_wp2_with (first|(at_builtin;refine Cz (base:=cF.heap.size) (L:=[]) rfl (aI 89) (aI 91) 35 rfl 99 (aG fJ) 148 296 nC AF Tu dD dD rfl (Qx cF 99 148) (aY (aw _) e0.o.size) cV cY d4 (by have e1:=dO.o;have e2:=dp.o;have e3:=dn.o;simp only[eK];omega) (oz dO.o) (dS.o.ext e0.o) dj.o.ow.k dj.o.Af8 ?_;intro e4 e5 e6 e7;obtain⟨HOA,HXA⟩:fj (jW e5 cF.heap.size 99 148 e4 ([]++d4))/\fj (bD cF e5):=⟨aH e6,aH (mf e0.o e7)⟩;clear e6 e7)|(at_builtin;refine Cz (base:=cF.heap.size) (L:=[]++d4) rfl (aI 92) (aI 93) 35 rfl 99 (aG fJ) 148 296 nC AF Tu dD dD rfl HOA.o HXA.o.size br bs bv (by have e8:=dO.o;have e9:=dp.o;have ea:=dn.o;have eb:=dQ.o;have ec:=c2.o;simp only[js];omega) (oz dQ.o) (dV.o.ext HXA.o) cR.o.ow.k cR.o.Af8 ?_;intro vb wB ed ef;obtain⟨HOB,HXB2⟩:fj (jW wB cF.heap.size 99 148 vb ([]++d4++bv))/\fj (bD cF wB):=⟨aH ed,aH (mf HXA.o ef)⟩;clear ed ef));obtain⟨e1,e2⟩:=aX (fC d1 d2++bK);have e3:=aH e2;obtain⟨e4,e5,rfl,e6⟩:=(show∃e7 e8,vb=af (M ⟨e7,0,S⟩) (bF e1).length e8/\FP wB e7 0 (bF e1) by rw[e2];exact Tt dj.o cR.o HXB2.o HOB.o dL.o);obtain⟨e7,e8⟩:=aQ (cI.o.ext HXB2.o) e6;clear e6 dk dl e2
    have e9:=aH (show∀ea∈e1,GS ea from fun eb ec=>by
     rw[e3.o] at ec;rcases dG.1 ec with ed|ed
     ·exact dy.o eb ed
     ·exact(bY.o eb ed).x)
    have ea:=aH (show∀eb∈bF bK,Vw eb from fun ec ed=>by obtain⟨ef,eg,ek⟩:=pL.1 ed;exact(bY.o ef eg).itx ec ek)
    have eb:=aH (show∀ec∈bF e1,Vw ec from fun ed ef=>by
     rw[e3.o,wZ] at ef;rcases dG.1 ef with eg|eg
     ·exact L8 dg.o dr.o.2.1 ed eg
     ·exact ea.o ed eg)
    obtain⟨ec,ed,ef,eg,ek⟩:=dZ (show(bF e1).length<=256 by rw[e3.o,wZ,aJ,xy];have el:=dp.o;have em:=dn.o;have ep:=c2.o;omega) (show e1≠[] by rw[e3.o];intro eq;exact dC.o (rL.1 eq).1) (show e1.length<=256 by rw[e3.o,aJ,oK];have:=dn.o;have:=c1.o;omega) (show∀es∈cP e1,Rc es by rw[e3.o];exact VV dr.o.2.2 (Ac bY.o)) (show∃et,b.tV b.cap (cP e1)=M et by rw[e3.o];exact Nw b4.o dC.o c0.o cs.o.symm ds.o dx.o);have el:=aH (El e1 e9.o ed.o eb.o ec.o wB e4 0 e5 e8.o (a0.o.ext (ac.o _ e7.o)));refine el.o.mono ?_;rintro em ep ⟨eq,es,rfl,et,hb⟩;have ev:=mX hb e7;have ex:=aH (Ov et ed.o);clear et hb el e7;have ey:=aH (fun ez eA eC=>S9 b b4.o eq 0 es (cP e1) b.cap b4.o.qA.1 (qZ _) (eZ ex.o.2.1 ef.o) eg.o ez eA eC);go_upto_region 16 with fail;refine aL 99 (fun ez=>Fm x a1 a4 ez) rfl (fun eA hb=>?_);have ez:=aH (show Fm x a1 a4 ep from ev.o);have eC:=mX hb ev;have eE:=aH (show E0 eA eq 0 (cP e1) from ex.o.1.ext hb);clear hb;refine gN 0 5 7 ?_;simp only[sZ,ak];go_big_quiet_step (fail);refine lR ez 26 101 a1 0 135 b.cells (fun _ eG=>⟨_,_,(aa.o _ eG),(iI U.o).1,(iI U.o).2⟩) ik ew ?_;simp only[sZ,ak];iterate 2 (go_big_quiet_step (fail))
    refine lR ez 26 104 a1 0 135 b.cells (fun _ eG=>⟨_,_,(aa.o _ eG),(iI U.o).1,(iI U.o).2⟩) ik ew ?_;refine aN (zj 5 6 ?_);simp only[sZ,ak];refine bO rfl 12 #[aG b.cells] (J E b.cap) (fun eG=>by kernel_rfl) (fun eL eM=>vN b b4.o eL) ?_;refine fK 6 5 eC fun eG hb=>?_
    simp only[sZ,ak];have eL:=mX hb eC;have eM:=ey.o eG (eE.o.ext hb) ex.o.2.2;rw[ex.o.2.1] at eM;have eR:=aH eM;clear hb eM ey eC eE;go_wp2_with fail;refine eR.o.mono ?_;rintro eS eU ⟨hb,⟨eV,eW,_,rfl,_⟩|⟨eX,_⟩⟩
    case inr=>
     obtain⟨eY,f0⟩:=ek.o;rw[f0] at eX;cases eX
    have eY:=mX hb eL;clear hb eL;go_wp2_with fail;refine gT 7 5 0 ?_;refine zI eY fun f0 hb=>?_
    have f1:=mX hb eY;clear hb eY
    try simp only[ak]
    go_wp2_with fail;refine(Bs f0 (a0.o.ext (ac.o _ f1.o))).mono ?_;rintro f2 f3 ⟨rfl,f4⟩;have f5:=aH ((ac.o _ f1.o).trans f4);clear f4;go_wp2_with fail;go_ret;exact⟨rfl,f5.o⟩
end Go.Proofs.YtbdhieahnneebaaGreatDoor
