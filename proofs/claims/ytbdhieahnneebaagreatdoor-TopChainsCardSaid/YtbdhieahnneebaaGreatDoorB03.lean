/- Laws that TopChains leans on. -/
import Derived.Test.YtbdhieahnneebaaGreatDoorB02
import Derived.Great.BuildSlice
set_option maxRecDepth 100000
set_option maxHeartbeats 32000000
set_option linter.all false
open Go.Proofs.Tryz
open And renaming intro->bZ
open Array renaming all_eq_true_iff_forall_mem->bG,getElem?_eq_getElem->pJ,getElem?_eq_some_iff->eJ,getElem?_toList->vp,length_toList->cj,range->Vl,toArray_toList->oT
open Array.mk renaming injEq->sX
open Bool renaming and_eq_true->bT,false->av,true->aB
open Go renaming Calls->aT,Oper->cQ,Operand->Gc,Program->nt,TypeId->aR,Value->aq,World->T,bodyPost_ret->dY,cell_of_row->Bf,cell_setRow_other->Afh,execOp->VI,results->Ih,setRow_other->iD,size_setRow->kB,undef->sJ,wpList->cG,wpQuiet_nil->aN,yielded->xZ
open Go.Act renaming put->ak
open Go.BigFrame renaming wpList_want->eI
open Go.Ending renaming returned->aK
open Go.Great renaming bodyPost_end0->gI
open Go.Instr renaming build->fk,field->Ip,index->eT
open Go.IntKind renaming i64->E,u32->lE,wrap_u32->ic
open Go.IntWalk renaming i64_in->an
open Go.Obj renaming cells->az
open Go.Oper renaming wp->Bg
open Go.Operand renaming tmp->aI
open Go.Proofs.Tryz renaming prog->aE,results248->Ik,underlying121->Acw,underlying158->Kg,underlying24->fV,underlying26->ik,underlying267->tk,underlying272->u9q,underlying277->ji,underlying280->mG,underlying283->Bi,underlying3->bJ,underlying324->kR,underlying338->H3,underlying376->tX,underlying4->jD,underlying54->dw,underlying63->db,underlying93->zV,zeroCells343->eP
open Go.Proofs.YtbdhieahnneebaaGreatDoor.Bx renaming new->jR
open Go.Proofs.YtbdhieahnneebaaGreatDoor.FV renaming cells->au,noU8->iq,size->fA,zero->aC
open Go.Proofs.YtbdhieahnneebaaGreatDoor.Mb renaming cells->qE,size->da
open Go.Proofs.YtbdhieahnneebaaGreatDoor.St renaming len->kj,start->bH
open Go.Region renaming wanted->bP
open Go.Result renaming andThen_ok->dv,ok->vF
open Go.RowKit renaming Below->bj,wrap64->RI
open Go.RowKit.Below renaming alloc->qk,drew->rS,grown->yM,heap_setCell->eF,refl->aM,setCell->iu
open Go.Sem renaming run_bind->fT,run_pure->iT
open Go.Value renaming agg->aG,bool->ao,func->Dx,int->J,oneCell'->cJ,ownBlock->kC,pointer->aD,slice->af,tuple->fE
open Go.Value.agg renaming injEq->qB
open Go.Value.int renaming injEq->sI
open Go.Value.slice renaming injEq->dt
open Go.World renaming setCell->gS,size_alloc->dA
open Int renaming natCast_mul->cm,tdiv_eq_ediv_of_nonneg->bB
open List renaming append_assoc->aW,append_nil->kg,drop->zF,drop_append_of_le_length->Cq,drop_eq_nil_of_le->fU,eq_of_mem_replicate->iK,flatMap_cons->gL,getD->jr,getElem?_append_left->bo,getElem?_append_right->aU,getElem?_eq_getElem->aA,getElem?_eq_none->de,getElem?_eq_some_iff->aP,getElem?_map->bN,getElem?_replicate->jM,getElem?_toArray->bw,length->mZ,length_append->aJ,length_drop->jO,length_map->cX,length_nil->eK,length_replicate->bp,length_singleton->cW,length_take->dE,map_append->fY,map_cons->sH,map_nil->Bh,map_toArray->qR,mem_append->dG,mem_cons->oU,mem_map->iy,mem_of_getElem?->bg,mem_of_mem_drop->iw,mem_of_mem_take->jb,mem_singleton->dJ,nil_append->js,not_mem_nil->sW,range->dI,range_succ->Cn,replicate->aF,take_append_of_le_length->Cp,take_left->Zj,take_of_length_le->kN,toArray->sK
open List.cons renaming injEq->oY
open Nat renaming add_mul->mj,le_refl->aw,le_trans->aY,lt_succ_self->Io,mul_add->zS,mul_comm->dh,mul_le_mul->fo,mul_le_mul_right->fH,one_mul->Vi,zero_add->oD
open Option renaming map_some->bX,none->S,some->M
open Option.some renaming injEq->bq
namespace Go.Proofs.YtbdhieahnneebaaGreatDoor
open Go.RowKit Go.Top
section
structure Al(w0:T)(g gm:Nat)(l:List (aR×Array aq))(m:Mb)(w:T):Prop where
 j:∀a b,l[a]?=M b->Bx w (g+a) b.1 b.2
 up:fO w0 w gm S
 k:g+l.length<=w.heap.size
 mx:Mx w gm m
 lt:gm<g
section
variable {w0 w w':T} {g gm:Nat} {l:List (aR×Array aq)} {m m':Mb}
def fO.ext{a}(b:fO w0 w gm a)(c:bD w w'):fO w0 w' gm a:=⟨c.os.trans b.os,c.tape.trans b.tape,c.output.trans b.output,aY b.size c.size,fun d e f g=>(c.block d (Nat.lt_of_lt_of_le e b.size)).trans (b.block d e f g)⟩
instance {w w' x0 x2 x3}:Tr w w' (fO x0 w x2 x3) (fO x0 w' x2 x3):=⟨fun hb h=>fO.ext h hb⟩
def Al.ext(a:Al w0 g gm l m w)(b:bD w w'):Al w0 g gm l m w':=⟨fun c d e=>(a.j c d e).ext b,a.up.ext b,aY a.k b.size,a.mx.ext b,a.lt⟩
instance {w w' x0 x1 x2 x3 x4}:Tr w w' (Al x0 x1 x2 x3 x4 w) (Al x0 x1 x2 x3 x4 w'):=⟨fun hb h=>Al.ext h hb⟩
def Al.C(c:Al w0 g gm l m w)(a:g=w0.heap.size){k}(b:g+l.length<=k)(d):Al w0 g gm l m (w.setRow k d):=by
 have a:=c.lt;exact⟨fun a b e=>(c.j a b e).m (by have:=(aP.1 e).1;omega),⟨c.up.os,c.up.tape,c.up.output,by rw[kB];exact c.up.size,fun f h i n=>(iD w k f d O).trans (c.up.block f h i n)⟩,by rw[kB];exact c.k,⟨c.mx.j.m O,c.mx.ok⟩,c.lt⟩
def Al.Aby(c:Al w0 g gm l m w)(a:g=w0.heap.size){d}(b:g+l.length<=d)(e f):Al w0 g gm l m (w.setCell ⟨d,e,S⟩ f):=by
 have a:=c.lt;have a:(w.setCell ⟨d,e,S⟩ f).heap.size=w.heap.size:=by simp[gS]
 exact⟨fun b h i=>(c.j b h i).C (by show g+b≠d;have:=(aP.1 i).1;omega) _,⟨c.up.os,c.up.tape,c.up.output,by rw[a];exact c.up.size,fun n o p q=>(eF w ⟨d,e,S⟩ f n (by show n≠d;omega)).trans (c.up.block n o p q)⟩,by rw[a];exact c.k,⟨c.mx.j.C (by show gm≠d;omega) _,c.mx.ok⟩,c.lt⟩
def Al.row(a:Al w0 g gm l m w)(b:m'.A):Al w0 g gm l m' (w.setRow gm m'.cells):=by
 have c:=a.lt;exact⟨fun c d e=>(a.j c d e).m O,⟨a.up.os,a.up.tape,a.up.output,by rw[kB];exact a.up.size,fun f h i n=>(iD w gm f _ i).trans (a.up.block f h i n)⟩,by rw[kB];exact a.k,⟨a.mx.j.row _,b⟩,a.lt⟩
def Al.cell(a:Al w0 g gm l m w)(b:m'.A)(c v)(d:m.cells.setIfInBounds c v=m'.cells):Al w0 g gm l m' (w.setCell ⟨gm,c,S⟩ v):=by
 have e:=a.lt;have e:(w.setCell ⟨gm,c,S⟩ v).heap.size=w.heap.size:=by simp[gS]
 exact⟨fun f h i=>(a.j f h i).C (by show g+f≠gm;omega) _,⟨a.up.os,a.up.tape,a.up.output,by rw[e];exact a.up.size,fun n o p q=>(eF w ⟨gm,c,S⟩ v n p).trans (a.up.block n o p q)⟩,by rw[e];exact a.k,⟨by rw[<-d];exact a.mx.j.L c v,b⟩,a.lt⟩
end
def Aex(w:T)(gm:Nat)(m:Mb)(a:Bool)(b:Ending)(w':T):Prop:=b=aK (ao a)/\fO w w' gm S/\Mx w' gm m
def AH(a:dM)(b c:Fr):Bool:=(a.s.B&&decide (a.h.st=3))&&decide (OH b c 2 224<OH b c 1 224)
def Hn{m:Mb}(b:m.A){c}(a:c<6){l}(d:l.length=64):sP 64 (m.oS c l).I c=l:=by
 have a:=b.I;unfold sP Mb.oS;dsimp only
 have a:(m.I.take (64*c)++l++m.I.drop (64*c+64)).drop (64*c)=l++m.I.drop (64*c+64):=by
  rw[aW,Cq (iJ dE)];rw[fU (iJ dE),js]
 rw[a,<-d,Zj]
def Aav(l m)(a:l.length=64)(b:m.length=64)(w):(binOp .neq 277 (aG (aS E l)) (aG (aS E m))).run aE w=.ok (ao (!decide (l=m))) w:=by
 have c:=pF (P:=aE) E E 9998 64 277 3 w ji bJ dK l m a b;rw[run_neq_struct];change ((Op.equalIn (9998+2) 277 (aG (aS E l)) (aG (aS E m))).run aE w).andThen _=_;rw[c];rfl
def QV(w:T):(fk 277 #[]).run aE w=.ok (aG (aS E zeros64)) w:=dK
def JH(m a b c d e f):∀g,(D9 m a b c d e f g).fd=f
 |0=>rfl
 |g+1=>JH m a b c d e f g
def uJ(s gm:Nat)(t:dM)(m:Mb)(n o:FV)(p q:Fr)(r:List Int)(w:T)(a:Kb w s t)(b:1<=t.q/\t.q<=31)(c:Mx w gm m)(d:Fv w n p)(e:Fv w o q)(f:ox p)(h:ox q)(i:Mh r)(l:fD w):
  aT aE 279 #[aD (M ⟨s,0,S⟩),aD (M ⟨gm,0,S⟩),n.val,o.val,aG (aS .u8 r)] w (Aex w gm (D9 m p q r t.q t.h.alt (AH t p q) 6) (P8 p q r t.q t.h.alt (AH t p q) 6)):=by
 let ⟨g,u⟩:=aX w.heap.size;have v:=aH u;let ⟨x,y⟩:=aX ([(63,n.cells),(63,o.cells),(24,aS .u8 r)]);let ⟨z,H⟩:=aX (((w.alloc (az n.cells 63)).alloc (az o.cells 63)).alloc (az (aS .u8 r) 24))
 have U:=aH (show Al w g gm x m z by
  have hF:Fm w g x z:=by rw[H,y];exact(((Fm.start w u).push (oz u) _ _).push (uM u) _ _).push (uM u) _ _
  have V:bD w z:=by have:=hF.F;rw[u] at this;exact this
  exact⟨hF.j,(fO.refl w gm S).ext V,hF.k,c.ext V,by rw[u];exact c.lt⟩)
 have V:=TX y 3;obtain⟨W,Y,a0,a1,a2,a3⟩:=ej (fun(m':Mb)(w':T)(a4:Al w g gm x m' w')=>show Bx w' g 63 n.cells from a4.j 0 _ (oz y)) (fun(m':Mb)(w':T)(a5:Al w g gm x m' w')=>show Bx w' (g+1) 63 o.cells from a5.j 1 _ (oz y)) (fun(m':Mb)(w':T)(a6:Al w g gm x m' w')=>show Bx w' (g+1+1) 24 (aS .u8 r) from a6.j 2 _ (oz y)) (fun(m':Mb)(w':T)(a7:Al w g gm x m' w')=>a.FW a7.up c) (fun(m':Mb)(w':T)(a8:Al w g gm x m' w')=>d.FW a8.up c) (fun(m':Mb)(w':T)(a9:Al w g gm x m' w')=>e.FW a9.up c);obtain⟨a4,a5,a6,a7⟩:=dq (fun(m':Mb)(w':T)(a8:Al w g gm x m' w')=>l.FW a8.up c) (show ox p/\ox q from⟨f,h⟩) i b;have a8:=aH c.ok;obtain⟨a9,aa,ab⟩:=bh (fun ac ad=>Oc (tQ d ac ad) (tQ e ac ad)) (fun ae ag=>tQ d ae ag) (fun ah ai=>tQ e ah ai);let ⟨ac,ad⟩:=aX (AH t p q);rw[<-ad];have ae:=aH ad;clear a c d e f h i l y b ad;go_enter func279,ntmps279;go_upto_region 1 with fail;refine mr H ?_;rw[<-u];clear H u;have a:=(a1.o _ _ U.o).j.lt;have b:=U.o.mx.lt;refine aL 14 (fun c=>Al w g gm x m c) rfl (fun d e=>?_);have c:=mX e U;have f:=aH U.o;clear e;refine gT 0 2 13 ?_;refine Ax 2 12 f.o ?_;simp only[sZ,ak];refine bO rfl 293 #[aD (M ⟨s,0,S⟩)] (ao (t.s.B&&decide (t.h.st=3))) (fun e=>by kernel_rfl) (fun h u=>(uI s t h (a1.o _ _ u)).mono (fun l y H=>⟨H.1,H.2▸bD.refl _⟩)) ?_;cases hbk:(t.s.B&&decide (t.h.st=3))
 case' false=>
  have hf:ac=av:=by rw[ae.o];unfold AH;rw[hbk];rfl
  refine gT 3 3 9 ?_;refine Oz 6 8 ?_;refine gT 7 2 6 ?_;refine Oz 9 5 ?_;refine gT 10 4 1 ?_;refine fK 14 0 c fun e h=>?_
  simp only[sZ,ak];have e:=mX h c;clear h c;have h:=e.o.mx.c4;have u:=e.o.mx.j.frozen 4;have l:=e.o.mx.lt;go_wp2;have y:=aH (e.o.cell (m':=m.rF av) (Mb.tU a8.o _) 4 (ao av) (Mb.NO a8.o _));refine pX fun H ad=>?_
  have HS8:=aH (show Al w g gm x (m.rF ac) H by rw[hf];exact y.o.ext ad);clear ad y e f h u l
 case' true=>
  let ⟨e,h⟩:=aX (OH p q 2 224);let ⟨u,l⟩:=aX (OH p q 1 224);have hf:ac=decide (e<u):=by rw[ae.o,h,l];unfold AH;rw[hbk];rfl
  obtain⟨y,H⟩:=aQ (show∀w',Fv w' n p->Fv w' o q->aT aE 294 #[n.val,o.val,J E 2] w' fun ad ag=>ad=aK (J E e)/\bD w' ag by intro w' ah ai;rw[h];exact D7 n o p q 2 O w' ah ai a5.o.1 a5.o.2) (show∀w',Fv w' n p->Fv w' o q->aT aE 294 #[n.val,o.val,J E 1] w' fun aj al=>aj=aK (J E u)/\bD w' al by intro w' am ap;rw[l];exact D7 n o p q 1 O w' am ap a5.o.1 a5.o.2);clear l h;refine gN 3 3 9 ?_;simp only[sZ,ak];go_big_quiet_step (fail);refine lF f 7 g n (fun _ h=>W.o _ _ h) ?_;refine lF f 8 (g+1) o (fun _ h=>Y.o _ _ h) ?_;refine aN (Ax 6 8 f.o ?_);simp only[sZ,ak];refine bO rfl 294 #[n.val,o.val,J E 2] (J E e) (fun h=>by kernel_rfl) (fun l ad=>y.o l (a2.o _ _ ad) (a3.o _ _ ad)) ?_;refine gN 7 2 6 ?_;simp only[sZ,ak];refine lF f 7 g n (fun _ h=>W.o _ _ h) ?_;refine lF f 8 (g+1) o (fun _ h=>Y.o _ _ h) ?_;refine aN (Ax 9 5 f.o ?_);simp only[sZ,ak];refine bO rfl 294 #[n.val,o.val,J E 1] (J E u) (fun h=>by kernel_rfl) (fun l y=>H.o l (a2.o _ _ y) (a3.o _ _ y)) ?_;refine gT 10 4 1 ?_;refine fK 14 0 c fun h l=>?_
  simp only[sZ,ak];have h:=mX l c;clear l c;have c:=h.o.mx.c4;have l:=h.o.mx.j.frozen 4;have y:=h.o.mx.lt;go_wp2;have H:=aH (h.o.cell (m':=m.rF (decide (e<u))) (Mb.tU a8.o _) 4 (ao (decide (e<u))) (Mb.NO a8.o _));refine pX fun e u=>?_
  have HS8:=aH (show Al w g gm x (m.rF ac) e by rw[hf];exact H.o.ext u);clear u H h f c l y
 all_goals
  clear hbk hf U;go_wp2
  go_loopw [11,31] (fun c e wr=>∃f:Nat,f<=6/\e=J E f/\c=ao (P8 p q r t.q t.h.alt ac f)/\Al w g gm x (D9 m p q r t.q t.h.alt ac f) wr) (fun _ h _=>6-(intOf h).toNat)
  case atStart=>exact⟨0,by omega,rfl,rfl,HS8.o⟩
  case round=>
   obtain⟨c,e,rfl,rfl,f⟩:=hrel
   by_cases h:c<6
   ·obtain⟨u,l,y,H,U,ad⟩:=ej (JH m p q r t.q t.h.alt ac c) (FL a8.o p q r t.q t.h.alt ac c e) (show P8 p q r t.q t.h.alt ac (c+1)=(P8 p q r t.q t.h.alt ac c|| !decide (K5 p q r t.q t.h.alt ac c=zeros64)) from rfl) (show D9 m p q r t.q t.h.alt ac (c+1)=((D9 m p q r t.q t.h.alt ac c).oS c (K5 p q r t.q t.h.alt ac c)).rG c (!decide (K5 p q r t.q t.h.alt ac c=zeros64)) from rfl) (J7 p q r t.q t.h.alt ac c) (show K5 p q r t.q t.h.alt ac c=Q1 (mO (oW (Dd (kT p 0 0 c ac) (kT q 0 0 c ac))) r t.q) t.h.alt from rfl)
    let ⟨ag,ah⟩:=aX (D9 m p q r t.q t.h.alt ac c);let ⟨ai,aj⟩:=aX (K5 p q r t.q t.h.alt ac c);let ⟨al,am⟩:=aX (P8 p q r t.q t.h.alt ac c);rw[<-ah] at u l H f;rw[<-aj] at y H U ad;rw[<-am] at y ⊢
    have ap:=aH (show∀ar,ox ar->Cc ar 0 0 c ac=(kT ar 0 0 c ac,0) by
     intro ar hf;unfold Cc;rw[if_pos ⟨hf.has,by omega,by omega⟩];rfl)
    obtain⟨ar,ax⟩:=aQ (fun w (ay:Fv w n p)=>vX _ p 0 0 c ac w ay.1 ay.2) (fun w (aV:Fv w o q)=>vX _ q 0 0 c ac w aV.1 aV.2);rw[ap.o p a5.o.1] at ar;rw[ap.o q a5.o.2] at ax;obtain⟨ay,aV,b0⟩:=bh (a9.o c ac) (aa.o c ac) (ab.o c ac);let ⟨b1,b2⟩:=aX (kT p 0 0 c ac);let ⟨b3,b4⟩:=aX (kT q 0 0 c ac);obtain⟨b5,b6⟩:=aQ (show b1.length=64 by rw[b2];exact rB _ _ _ _ _) (show b3.length=64 by rw[b4];exact rB _ _ _ _ _);rw[<-b2,<-b4] at ay ad;rw[<-b2] at ar aV;rw[<-b4] at ax b0;let ⟨b7,b8⟩:=aX (mO (oW (Dd b1 b3)) r t.q);rw[<-b8] at ad;let ⟨b9,ba⟩:=aQ b8 f;have bb:=(a1.o _ _ f).j.lt;have bc:=f.mx.lt;clear ah aj am b2 b4 b8 f ap HS8 a b;go_upto_region 6 with fail;refine aL 99 (fun a=>Al w g gm x ag a) rfl (fun b ah=>?_);have a:=mX ah ba;have aj:=aH ba.o;clear ah;refine gN 0 6 6 ?_;simp only[sZ,ak];refine lF aj 7 g n (fun _ ah=>W.o _ _ ah) ?_;simp only[sZ,ak];iterate 4 (go_big_quiet_step (fail))
    refine pQ rfl 4 (aI 38) rfl gm 4 rfl (ao ac) _ (fun ah am=>by obtain⟨ap,rfl⟩:=am;have:=(iQ (C:=fun b2=>Al w g gm x ag b2) aj.o ap).mx.c4;rw[u.o] at this;exact this) rfl jD ?_;refine aN (Ax 6 5 aj.o ?_);simp only[sZ,ak];refine bO rfl 233 #[n.val,J E 0,J E 0,J E c,ao ac] (fE #[aG (aS E b1),J E 0]) (fun ah=>by kernel_rfl) (fun am ap=>ar.o am (a2.o _ _ ap)) ?_;refine gT 7 2 3 ?_;refine zj 9 2 ?_;simp only[sZ,ak];refine bO rfl 295 #[aG (aS E b1),J E 0] (aG (aS E b1)) (fun ah=>by kernel_rfl) (fun am ap=>DQ b1 b5.o am) ?_;refine fK 10 1 a fun ah am=>?_
    simp only[sZ,ak];have ap:=mX am a;clear am a;go_wp2_with fail;let ⟨a,am⟩:=aX ah.heap.size;let ⟨b2,b4⟩:=aX (ah.alloc (az (aS E zeros64) 277));obtain⟨b8,bd,be⟩:=bh (show Al w g gm x ag b2 by rw[b4];exact ap.o.ext (jd)) (show Bn E b2 277 a zeros64 by rw[b4];exact Bn.D _ _ _ _ _ am) (show g+x.length<=a by rw[am];exact ap.o.k);refine tf b4 ?_;rw[<-am];clear b4 am ap;refine fK 11 0 b8 fun am ap=>?_
    simp only[sZ,ak];let ⟨b4,bf⟩:=di ap b8 bd;clear ap b8 bd;refine eD rfl (aI 13) (aI 43) rfl a b1 rfl rfl bf.o rfl b5.o ?_;obtain⟨ap,b8⟩:=aQ (show Al w g gm x ag (am.setRow a (aS E b1)) from b4.o.C v.o be.o _) (bf.o.row b1);refine mn ⟨rfl,zI ap fun bd bi=>?_⟩;let ⟨HS8,bk⟩:=di bi ap b8;clear bi ap b8;clear b4 bf aj;simp only[ak];go_upto_region 7 with fail;refine aL 99 (fun aj=>Al w g gm x ag aj) rfl (fun ap b4=>?_);let ⟨aj,b8⟩:=di b4 HS8 bk;have bf:=aH HS8.o;clear b4;refine gN 0 6 5 ?_;simp only[sZ,ak];refine lF bf 8 (g+1) o (fun _ b4=>Y.o _ _ b4) ?_;simp only[sZ,ak];iterate 4 (go_big_quiet_step (fail))
    refine pQ rfl 4 (aI 48) rfl gm 4 rfl (ao ac) _ (fun b4 bi=>by obtain⟨bl,rfl⟩:=bi;have:=(iQ (C:=fun bn=>Al w g gm x ag bn) bf.o bl).mx.c4;rw[u.o] at this;exact this) rfl jD ?_;refine aN (Ax 6 4 bf.o ?_);simp only[sZ,ak];refine bO rfl 233 #[o.val,J E 0,J E 0,J E c,ao ac] (fE #[aG (aS E b3),J E 0]) (fun b4=>by kernel_rfl) (fun bi bl=>ax.o bi (a3.o _ _ bl)) ?_;refine gT 7 2 2 ?_;refine zj 9 1 ?_;simp only[sZ,ak];refine bO rfl 295 #[aG (aS E b3),J E 0] (aG (aS E b3)) (fun b4=>by kernel_rfl) (fun bi bl=>DQ b3 b6.o bi) ?_;refine gT 10 1 0 ?_;refine zI aj fun b4 bi=>?_
    have bl:=aH (show Al w g gm x ag b4/\Bn E b4 277 a (Gx b1 b3 0) from⟨aj.o.ext bi,by have:=b8.o.ext bi;simpa[Gx] using this⟩);clear bi aj b8 bf HS8 bk ba;go_wp2
    go_loopw [54] (fun aj wr=>mD 64 (fun b8 wr=>Al w g gm x ag wr/\Bn E wr 277 a (Gx b1 b3 b8)) aj wr) (fun ba _=>64-(intOf ba).toNat)
    case atStart=>exact⟨0,by omega,rfl,bl.o⟩
    case round=>
     obtain⟨aj,b8,rfl,ba,bf⟩:=hrel;let ⟨bi,bk⟩:=aQ ba bf;clear ba bf bl
     by_cases ba:aj<64
     ·have bf:=eh (l:=b3) (k:=aj) (eZ b6.o ba)
      have bl:=fun w=>pG b6.o bf w
      have bn:=bk.o.cell aj;rw[Wc b5.o ba] at bn;simp only[bX] at bn;have br:=aH (Sn (b:=b3) b5.o ba);have bs:=aV.o.xat aj;have bt:=b0.o.xat aj;generalize cM b1 aj=bu at*
      generalize cM b3 aj=bv at*
      have b:E.wrap (bu-bv)=bu-bv:=an _ O;have b:=bk.o.frozen aj;have b:=bk.o.lt;clear bf bs bt;go_wp2;have b:=bk.o.L aj (bu-bv);rw[br.o] at b;exact⟨⟨aj+1,by omega,by go_num,bi.o.Aby v.o be.o _ _,b⟩,by simp[intOf];omega⟩
     ·obtain rfl:aj=64:=O
      have b:=bk.o;rw[show Gx b1 b3 64=Dd b1 b3 by simp[Gx,Dd,b5.o]] at b;have d:=aH (show(Dd b1 b3).length=64 by simp[Dd]);let ⟨e,n⟩:=aX (Dd b1 b3);rw[<-n] at ay b9 d b;obtain⟨o,p,q⟩:=bh b (show(oW e).length=64 by simp[oW]) (show b7.length=64 by rw[b9.o];simp[mO]);have u:=aH (fun w=>ED (oW e) r t.q p.o (fun z V=>(Nf ay.o a6.o a7.o.1 V).1) a6.o a7.o.1 a7.o.2 (fun W Y=>(Nf ay.o a6.o a7.o.1 Y).2) w);rw[<-b9.o] at u;have z:=aH (fun w (V:fD w)=>IU b7 q.o t.h.alt w V);rw[<-ad.o] at z;clear b n bk;go_upto_region 12 with fail;refine aL 99 (fun b=>Al w g gm x ag b/\Bn E b 277 a e) rfl (fun n V=>?_);have b:=aH (show Al w g gm x ag wr/\Bn E wr 277 a e from⟨bi.o,o.o⟩);let ⟨n,W⟩:=di V bi o;clear V;refine gN 0 1 15 ?_;simp only[sZ,ak];refine lR b 277 13 a 0 64 (aS E e) (fun _ V=>⟨_,_,V.2,ij _ (eZ bE d.o),by rw[bE,d.o];exact aw _⟩) ji gP ?_;refine aN (zj 1 14 ?_);simp only[sZ,ak];refine bO rfl 297 #[aG (aS E e)] (fE #[aG (aS E (oW e)),J E 0]) (fun d=>by kernel_rfl) (fun V Y=>MG e ay.o V) ?_;refine gT 2 2 12 ?_;refine zj 4 11 ?_;simp only[sZ,ak];refine bO rfl 295 #[aG (aS E (oW e)),J E 0] (aG (aS E (oW e))) (fun d=>by kernel_rfl) (fun V Y=>DQ (oW e) p.o V) ?_;refine gN 5 5 6 ?_;simp only[sZ,ak];refine lR b 24 9 (g+1+1) 0 64 (aS .u8 r) (fun _ d=>⟨_,_,a0.o _ _ d.1,ij _ (eZ bE a6.o.1),by rw[bE,a6.o.1];exact aw _⟩) fV iz ?_;simp only[sZ,ak];iterate 3 (go_big_quiet_step (fail))
      refine lC b 3 73 s 145 (J E t.q) (fun _ d=>(a1.o _ _ d.1).t 6 rfl) bJ ?_;refine aN (zj 10 5 ?_);simp only[sZ,ak];refine bO rfl 296 #[aG (aS E (oW e)),aG (aS .u8 r),J E t.q] (fE #[aG (aS E b7),J E 0]) (fun d=>by kernel_rfl) (fun p V=>u.o p) ?_;refine gT 11 2 3 ?_;refine zj 13 2 ?_;simp only[sZ,ak];refine bO rfl 295 #[aG (aS E b7),J E 0] (aG (aS E b7)) (fun d=>by kernel_rfl) (fun e p=>DQ b7 q.o e) ?_;refine oL 14 1 (fun d e=>⟨n.o.ext e,W.o.ext e⟩) fun p r=>?_
      simp only[sZ,ak];let ⟨d,e⟩:=di r n W;clear r n W;go_wp2_with fail;let ⟨n,r⟩:=aX p.heap.size;let ⟨u,V⟩:=aX (p.alloc (az (aS E zeros64) 277));obtain⟨p,W,Y,a0,a2⟩:=dZ (show Al w g gm x ag u by rw[V];exact d.o.ext ((aM _ _).alloc (aw _) _)) (show Bn E u 277 n zeros64 by rw[V];exact Bn.D _ _ _ _ _ r) (show g+x.length<=n by rw[r];exact d.o.k) (show a<n by rw[r];exact e.o.lt) (show Bn E u 277 _ _ by rw[V];exact e.o.alloc _);refine tf V ?_;rw[<-r];clear V r d e;refine oL 15 0 (fun a d=>⟨p.o.ext d,a2.o.ext d⟩) fun e r=>?_
      simp only[sZ,ak];let ⟨a,d,u⟩:=gO r p W a2;clear r p W a2;refine eD rfl (aI 16) (aI 78) rfl n b7 rfl rfl d.o rfl q.o ?_;obtain⟨p,r,V⟩:=bh (show Al w g gm x ag (e.setRow n (aS E b7)) from a.o.C v.o Y.o _) (d.o.row b7) (u.o.m (g':=n) (cs:=aS E b7) (dU a0.o));refine mn ⟨rfl,QD (fun e v=>⟨p.o.ext v,V.o.ext v⟩) fun W Y=>?_⟩;let ⟨HS8,e⟩:=di Y p r;clear Y p r;clear a d u V b o bi;simp only[ak];go_upto_region 13 with fail;refine aL 12 (fun a=>Al w g gm x ag a/\Bn E a 277 n b7) rfl (fun b d=>?_);have a:=aH (show Al w g gm x ag W/\Bn E W 277 n b7 from⟨HS8.o,e.o⟩);let ⟨b,o⟩:=di d HS8 e;clear d HS8 e;refine gN 0 8 5 ?_;simp only[sZ,ak];iterate 2 (go_big_quiet_step (fail))
      refine lR a 277 16 n 0 64 (aS E b7) (fun _ d=>⟨_,_,d.2,ij _ (eZ bE q.o),by rw[bE,q.o];exact aw _⟩) ji gP ?_;simp only[sZ,ak];iterate 4 (go_big_quiet_step (fail))
      refine lC a 4 85 s 144 (ao t.h.alt) (fun _ d=>(a1.o _ _ d.1).t 5 rfl) jD ?_;refine aN (Ax 8 4 a.o ?_);simp only[sZ,ak];refine bO rfl 298 #[aG (aS E b7),ao t.h.alt] (aG (aS E ai)) (fun d=>by kernel_rfl) (fun e n=>z.o e (a4.o _ _ n.1)) ?_;refine gT 9 3 1 ?_;refine oL 12 0 (fun d e=>⟨b.o.ext e,o.o.ext e⟩) fun n p=>?_
      simp only[sZ,ak];have d:=mX p b;clear p b;clear o;refine cD rfl 277 (aI 90) (aI 87) rfl gm (24+c*64) (aS E ai) rfl rfl _ _ (ag.oS c ai).cells d.o.mx.j (by rw[show 24+c*64=24+64*c by omega];exact Mb.Af3 l.o h U.o) (by rw[bE,U.o];exact gP) (by rw[bE,U.o,da l.o];omega) (pT _ _) ?_;have b:=aH (Mb.M0 l.o h U.o);have e:=aH (d.o.row b.o);refine mn ⟨rfl,pX fun n o=>?_⟩;have n:=mX o e;clear o e;clear d a;simp only[ak];have a:=aH (Hn l.o h U.o);have d:=Aav ai zeros64 U.o rfl;let ⟨e,l⟩:=aX (!decide (ai=zeros64));rw[<-l] at y H d;clear l;let ⟨l,o⟩:=aX (ag.oS c ai);rw[<-o] at a b n H;clear o;have o:=aH (show l.cells.extract (24+c*64) (24+c*64+64)=aS E ai/\24+c*64+64<=l.cells.size by have:=Mb.eL b.o h;rw[a.o] at this;rw[show 24+c*64=24+64*c by omega];exact⟨this,by rw[da b.o];omega⟩);go_upto_region 14 with fail;refine aL 13 (fun a=>Al w g gm x l a) rfl (fun p q=>?_);have a:=aH n.o;have p:=mX q n;clear q n;refine gT 0 7 7 ?_;refine gN 7 1 6 ?_;simp only[sZ,ak];refine lR a 277 97 gm (24+c*64) 64 (aS E ai) (fun _ n=>⟨_,_,n.mx.j,o.o.1,o.o.2⟩) ji gP ?_;refine aN (T9 8 5 1 ?_);simp only[sZ,ak];refine Cr rfl (aG (aS E zeros64)) (fun n=>CK (qs:=#[]) rfl dK (QV n)) ?_;simp only[sZ,ak];iterate 4 (go_big_quiet_step (fail))
      refine aN (fK 13 0 p fun n o=>?_);simp only[sZ,ak];have n:=mX o p;clear o p;let ⟨o,p⟩:∃q,l.P[c]?=M q:=⟨_,aA (eZ b.o.P h)⟩;have o:=n.o.mx.j.cell (18+c) (Mb.cC b.o p);have q:=n.o.mx.j.frozen (18+c);have r:=n.o.mx.lt;clear p;go_wp2;have p:=aH (Mb.G3 b.o c e);have s:=aH (n.o.cell (m':=l.rG c e) p.o (18+c) (ao e) (Mb.Abs b.o h e));refine pX fun l t=>?_
      have l:=mX t s;clear t s;clear n a o q r d;have a:=l.o.mx.j.cell (18+c) (Mb.cC p.o (d:=c) (b:=e) (by simp[Mb.rG,b.o.P,h]));have a:=l.o.mx.lt;cases al
      all_goals
       go_wp2;exact⟨⟨c+1,by omega,by go_num,by rw[y.o];simp,by rw[H.o];exact l.o⟩,by simp[intOf];omega⟩
   ·obtain rfl:c=6:=O
    go_wp2;go_ret;exact⟨rfl,f.up,f.mx⟩
end
section
def zJ:Mb:={iA with kind:=1}
def Nc:zJ.A:=⟨rfl,rfl,rfl,rfl,bp⟩
def Mb.vj(a:Mb):Mb:={a with P:=true6}
def Mb.xk{a:Mb}(b:a.A):a.vj.A:=⟨b.u,b.v,b.Z,rfl,b.I⟩
def Mb.Af4{a:Mb}(b:a.A):jH a.cells 18 (oI true6)=a.vj.cells:=by
 rw[Mb.dC b];have:=Af _ (bV a.P) (iV a.I) 18 0 (oI true6) (Mb.lC b) (by rw[bV_len,b.P];decide);rw[Nat.add_zero] at this;rw[this,Mb.dC (Mb.xk b)];congr 3;have:(bV a.P).drop (0+(oI true6).size)=[]:=fU (by rw[bV_len,b.P];decide);rw[this];rfl
section
variable {ops:Array cQ} {rest:List cQ} {o:cQ} {a:Act} {w:T} {Q:Exit->Act->T->Prop}
def PN(c:bP o (xZ ops a.tmps)=aB)(b:Gc)(d:o.op=.build 280 #[(0,b)])(e:a.eval b=J E 1)(f:cG aE ops Q rest (a.put o.dst (aG zJ.cells)) w):cG aE ops Q (o::rest) a w:=
 eI c fun _ b=>by
  have c:(fk 280 #[(0,J E 1)]).run aE w=.ok (aG zJ.cells) w:=dK;unfold Bg VI;simp only[d];simp only[qR,sH,Bh,e]
  first
   |(rw[c];exact b _ _ f)
   |(simp only[fT,iT,dv,c];exact b _ _ f)
end
def zK(a:dM)(b:Fr):Mb:=(D9 zJ b (jJ 16 16 128 128 128) a.s.X a.q a.h.alt (AH a b (jJ 16 16 128 128 128)) 6).vj
structure Pa(a b:Mb):Prop where
 kind:b.kind=a.kind
 u:b.u=a.u
 fp:b.fp=a.fp
 v:b.v=a.v
 Z:b.Z=a.Z
 delta:b.delta=a.delta
def AS(a b c d e f g):∀h,Pa a (D9 a b c d e f g h)
 |0=>⟨rfl,rfl,rfl,rfl,rfl,rfl⟩
 |h+1=>by
  let ⟨i,l,n,o,p,q⟩:=AS a b c d e f g h;exact⟨i,l,n,o,p,q⟩
def W8{a}(b:a.length=64)(d:∀e∈a,-4095<=e/\e<=4095)(c):∀f∈Q1 a c,-4095<=f/\f<=4095:=by
 intro a b;simp only[Q1,iy,List.mem_range] at b;obtain⟨a,e,rfl⟩:=b;let ⟨b,f,g⟩:=tA c a e;exact d _ (oF O)
def OD{w a b c d}(g:Fv w a c)(h:Fv w b d){e}(i:Mh e){f}(l:1<=f)(n o p):∀q∈K5 c d e f n o p,-4095<=q/\q<=4095:=
 W8 (by simp[mO]) (Qn (Oc (tQ g p o) (tQ h p o)) i l) n
def NF{m a b c d e f}(g:E6 m)(h:∀i,∀l∈K5 a b c d e f i,-4095<=l/\l<=4095):∀n,E6 (D9 m a b c d e f n)
 |0=>g
 |a+1=>by
  intro b c;have d:=NF g h a;simp only[D9,Mb.rG,Mb.oS,dG] at c;rcases c with(e|e)|e
  ·exact d b (jb e)
  ·exact h a b e
  ·exact d b (iw e)
def DF{m}(a:m.I=aF 384 0):E6 m:=by
 intro b c;rw[a] at c;obtain rfl:=iK c;omega
structure Cj(a:dM):Prop where
 ok:a.c.A
 ty:a.c.ty=a.h.ty
 st:a.c.st=a.h.st
 B:a.c.B=a.s.B
 q1:1<=a.q
 q2:a.q<=31
def OS{d}(c:Cj d)(a b):rq d.c=aB\/AH d a b=av:=by
 unfold rq AH;rw[c.B,c.st];cases(d.s.B&&decide (d.h.st=3))<;> simp
def Ae1{g}(f:Cj g){w a b h}(c:Fv w a h)(d:Fv w b (jJ 16 16 128 128 128))(e:jV g.s):K7 g.c (zK g h):=by
 have a:=AS zJ h (jJ 16 16 128 128 128) g.s.X g.q g.h.alt (AH g h (jJ 16 16 128 128 128)) 6;have b:=FL Nc h (jJ 16 16 128 128 128) g.s.X g.q g.h.alt (AH g h (jJ 16 16 128 128 128)) 6 (aw _);have i:E6 (D9 zJ h (jJ 16 16 128 128 128) g.s.X g.q g.h.alt (AH g h (jJ 16 16 128 128 128)) 6):=NF (m:=zJ) (DF (m:=zJ) rfl) (OD c d e.X f.q1 _ _) 6;have c:E6 (zK g h):=fun d e=>i d e
 refine⟨Mb.xk b,.inr (.inl ⟨a.kind,a.u,a.fp,a.v,a.Z,rfl,?_,c⟩),?_,c,a.delta⟩
 ·unfold YI
  have b:(zK g h).delta=0:=a.delta;have c:nF (zK g h)=aB:=by unfold nF;rw[show(zK g h).kind=1 from a.kind];rfl
  rw[if_pos c,b];refine⟨?_,by omega,by omega⟩;rw[show(zK g h).fd=AH g h (jJ 16 16 128 128 128) from JH _ _ _ _ _ _ _ _];exact OS f _ _
 ·intro b c
  rw[show(zK g h).v=aF 8 0 from a.v] at c;obtain rfl:=iK c;omega
def FA(f:Nat)(h:dM)(a:Cj h)(g:FV)(i:Fr)(w:T)(e:Kb w f h)(b:Fv w g i)(c:ox i)(d:fD w):
  aT aE 277 #[aD (M ⟨f,0,S⟩),g.val] w fun l n=>l=aK (aG (zK h i).cells)/\bD w n/\K7 h.c (zK h i):=by
 let ⟨l,n,o,p⟩:=dq a b c d;have a:=aH e.ok;let ⟨b,c⟩:=aX w.heap.size;let ⟨d,q⟩:=aQ c e;let ⟨e,r⟩:=aX ([(63,(au g)),(280,iA.cells)]);let ⟨s,t⟩:=aX ((w.alloc (az (au g) 63)).alloc (az iA.cells 280));have u:=XW w b c r t;have v:=TX r 2;have v:=BQ w b r;have x:=Du w b r;have y:=Ll e d;have z:=aH (fun(H:T)(U:Fm w b e H)=>q.o.ext (y.o H U));clear r;go_enter func277,ntmps277;go_upto_region 1 with(refine mL rfl (M 4) rfl rfl ?_);refine mr t ?_;rw[<-c];clear t c;go_upto_region 2 with(first|(refine PN dW _ rfl rfl ?_)|(refine mL rfl (M 5) rfl rfl ?_)|(refine r6 rfl (aI 5) (aI 6) rfl s.heap.size rfl (da fG) Nc rfl rfl ?_));let ⟨c,q⟩:=aX s.heap.size;let ⟨r,t⟩:=aX (s.alloc (az zJ.cells 280));obtain⟨s,H,U⟩:=bh (show Fm w b e r by rw[t];exact u.o.alloc _) (show Mx r c zJ by rw[t];exact Mx.new _ _ Nc _ q) (show b+e.length<=c by rw[q];exact u.o.k);rw[<-t,<-q];clear t q;have q:=(z.o _ s.o).j.lt;refine aL 11 (fun q=>Fm w b e q/\Mx q c zJ) rfl (fun t u=>?_);have q:=aH (show Fm w b e r/\Mx r c zJ from⟨s.o,H.o⟩);let ⟨r,t⟩:=di u s H;refine gN 0 2 10 ?_;simp only[sZ,ak];go_big_quiet_step (fail);refine lF q 3 b g (fun _ s=>v.o _ s.1) ?_;refine aN (gT 6 4 6 ?_);refine gN 10 1 5 ?_;simp only[sZ,ak];refine lR q 24 16 f 11 64 (aS .u8 h.s.X) (fun _ s=>(z.o _ s.1).X) fV iz ?_;refine aN (oL 2 4 (fun q s=>⟨r.o.ext s,t.o.ext s⟩) fun u v=>?_);simp only[sZ,ak];let ⟨q,s⟩:=di v r t;go_wp2_with fail;refine(se 16 16 128 128 128 u O O O rfl).mono ?_;intro r t u;obtain⟨r,rfl,t,v⟩:=u.fx;let ⟨u,H⟩:=di v q s;have q:=aH t;go_wp2_with fail;refine gT 3 2 2 ?_;refine zj 5 1 ?_;simp only[sZ,ak];refine bO rfl 117 #[r.val,J E 0] r.val (fun s=>by kernel_rfl) (fun t v=>iR r t) ?_;refine oL 11 0 (fun s t=>⟨u.o.ext t,H.o.ext t⟩) fun v V=>?_
 simp only[sZ,ak];let ⟨s,t,W⟩:=gO V u H q;obtain⟨q,u⟩:=aQ (Ae1 l.o (n.o.ext (y.o _ s.o)) W.o a.o) (uJ f c h zJ g r i (jJ 16 16 128 128 128) h.s.X v (z.o _ s.o) ⟨l.o.q1,l.o.q2⟩ t.o (n.o.ext (y.o _ s.o)) W.o o.o (ox.flat _ _ _) a.o.X (p.o.ext (y.o _ s.o)));let ⟨a,f⟩:=aX (D9 zJ i (jJ 16 16 128 128 128) h.s.X h.q h.h.alt (AH h i (jJ 16 16 128 128 128)) 6);have g:=aH (show zK h i=a.vj by rw[f];rfl);rw[<-f] at u;clear f;go_wp2_with fail;refine mR u.o fun f ⟨h,i⟩=>?_
 have l:Fm w b e f:=⟨fun n o p=>(s.o.j n o p).G h (by have:=(aP.1 p).1;have:=U.o;omega) dS,s.o.F.trans ⟨h.os,h.tape,h.output,h.size,fun r t=>h.block r (dU s.o.k) (dU U.o) dS⟩,aY s.o.k h.size⟩;let ⟨e,f⟩:=aQ l i;go_wp2_with fail;refine pX fun h i=>?_
 let ⟨l,n⟩:=di i e f;obtain⟨e,f⟩:=aQ (show Mx (h.setRow c a.vj.cells) c a.vj from⟨n.o.j.row _,Mb.xk n.o.ok⟩) (l.o.C U.o a.vj.cells);have i:jH a.cells 18 #[ao aB,ao aB,ao aB,ao aB,ao aB,ao aB]=a.vj.cells:=Mb.Af4 n.o.ok;obtain⟨l,o,p⟩:=bh i (show(aE.info? 276).map (·.size)=M (#[ao aB,ao aB,ao aB,ao aB,ao aB,ao aB]:Array aq).size from FO) (show(#[ao aB,ao aB,ao aB,ao aB,ao aB,ao aB]:Array aq).all (·.oneCell')=aB by simp[cJ]);rw[show w.heap.size+1=b+1 by rw[d.o]];have r:=aH (show 18+(#[ao aB,ao aB,ao aB,ao aB,ao aB,ao aB]:Array aq).size<=a.cells.size by rw[da n.o.ok];decide);clear i;have i:=aH (show Mx (h.setRow c a.vj.cells) (b+1) iA from⟨x.o _ f.o,fG⟩);go_wp2_with (first|(refine cD dW 276 (aI 20) (aI 19) rfl c 18 #[ao aB,ao aB,ao aB,ao aB,ao aB,ao aB] rfl rfl _ _ a.vj.cells n.o.j l.o o.o r.o p.o ?_)|(refine fM dW (aI 5) rfl rfl e.o ?_)|(refine mK rfl (aI 4) (aI 21) rfl (b+1) (Mb.xk n.o.ok) i.o rfl rfl ?_));rw[g.o] at q ⊢;exact rR results277 (i.o.j.row _) mG (by rw[da (Mb.xk n.o.ok)];exact jL) ⟨rfl,by have:=aO (g:=b+1) (cs:=a.vj.cells) f.o.F O;rw[d.o] at this;rw[d.o];exact this,q.o⟩
end
def Oa(a b c d e f g):jH (oy a b c d e f) 3 (au g)=oy a b c d e g:=rfl
def Kq(a b c d e f g):3+(au g).size<=(oy a b c d e f).size:=show 3+5<=8 by decide
def Jd(a):(aE.info? 63).map (·.size)=M (au a).size:=bM
def Ct{a b c d e f}(i:c.guard=S)(l n)(o:c.op=.store 272 l n)(p q r)
  (s:d.eval l=aD (M ⟨p,0,S⟩))(t:d.eval n=aG (mW q r)){g h}(u:Bx e p g h)(v:h.size=2)(w:cG aE a f b (d.put c.dst sJ) (e.setRow p (mW q r))):cG aE a f (c::b) d e:=
 bm i 272 l n o p (mW q r) s t u iS v (by simp[mW,cJ]) w
def Aeh(a:T)(b:Ending)(c:T):Prop:=∃d e f:Int,b=aK (fE #[aG (mW d e),J E f])/\vw d e/\(f=0\/f=1)/\bD a c
def xc(a:Nat)(h:dM)(i:Option Addr)(l n:Nat)(o p:Nat)(b:FV)(q r:Int)(c:vw q r)(d:T)(e:Kb d a h)(f:Mf d i l o p h.JR)(g:Mf d i l o p h.Ie):
  aT aE 328 #[aD (M ⟨a,0,S⟩),aG (oy i l n o p b),J E 0,aG (mW q r)] d (Aeh d):=by
 let ⟨s,t,u,v⟩:=dq f g c e;let ⟨w,x,y,z,H,U,V,W,Y,a0,a1,a2⟩:=Nk d (oy i l n o p b) 445 (mW q r) 272 (mW 0 0) 272;have a3:=aH (fun(a4:T)(a5:Nat)(a6:w<=a5)(a7:Array aq)(a8:bD d a4)=>show bD d (a4.setRow a5 a7) from aO a8 (D8 U.o a6));go_enter func328,ntmps328;go_upto_region 1 with fail;refine mr H ?_;rw[<-z];clear H z;obtain⟨z,H,a4,a5⟩:=dq (a0.o _ W.o) (a1.o _ W.o) (a2.o _ W.o) (Y.o _ W.o);have a6:=(v.o.ext a5.o).j.lt;let ⟨_,_,a7,a8,a9⟩:=(v.o.ext a5.o).te 37 5 (au h.JR) rfl dD;have aa:a<w:=by rw[U.o];exact v.o.j.lt
 have ab:=aH aa;go_upto_region 2 with(first|(refine lS 63 17 a 176 a7 a8 a9 ?_)|(refine cD dW 63 (aI 19) (aI 18) rfl w 3 (au h.JR) rfl rfl _ _ (oy i l n o p h.JR) z.o (Oa ..) (Jd _) (Kq ..) (FV.one _) ?_));obtain⟨ac,ad,ae,ag⟩:=dq (z.o.row (oy i l n o p h.JR)) (H.o.m (g':=w) (cs':=oy i l n o p h.JR) O) (a4.o.m (g':=w) (cs':=oy i l n o p h.JR) O) (a3.o _ w (aw _) (oy i l n o p h.JR) a5.o);generalize y.setRow w (oy i l n o p h.JR)=ah at*
 go_wp2_with (first|(refine lA 445 5 w ac.o (oH ..) ?_)|(refine lA 272 7 (w+1) ad.o (jF ..) ?_));refine(BX i l n o p h.JR q r u.o _ (s.o.ext ag.o)).mono ?_;rintro ai aj ⟨al,am,ap,rfl,ar,ax,ay,aV⟩;let ⟨b0,b1,b2,b3⟩:=nj aV ac ad ae ag;have b4:=aH ar;go_upto_region 3 with refine kl rfl (aI 10) (aI 22) rfl _ rfl _ _ _ rfl rfl ?_;let ⟨b5,b6,b7,b8,b9,ba⟩:=mY aj (oX al am ap) 449;have bb:=aH (show w+1+1<b5 by rw[b7];exact b2.o.lt);let ⟨bc,bd,be,bf⟩:=nj b9 b0 b1 b2 b3;rw[<-b8,<-b7];clear b8 b7;have b7:=(v.o.ext bf.o).j.lt;let ⟨_,_,b8,bi,bk⟩:=(v.o.ext bf.o).te 42 5 (au h.Ie) rfl dD;go_upto_region 4 with(first|(refine lS 63 28 a 181 b8 bi bk ?_)|(refine cD dW 63 (aI 30) (aI 29) rfl w 3 (au h.Ie) rfl rfl _ _ (oy i l n o p h.Ie) bc.o (Oa ..) (Jd _) (Kq ..) (FV.one _) ?_));obtain⟨bl,bn,br,bs,bt⟩:=dZ (ba.o.m (g':=w) (cs':=oy i l n o p h.Ie) (dU bb.o)) (bc.o.row (oy i l n o p h.Ie)) (bd.o.m (g':=w) (cs':=oy i l n o p h.Ie) O) (be.o.m (g':=w) (cs':=oy i l n o p h.Ie) O) (a3.o _ w (aw _) (oy i l n o p h.Ie) bf.o);generalize b6.setRow w (oy i l n o p h.Ie)=bu at*
 go_wp2_with (first|(refine lA 445 5 w bn.o (oH ..) ?_)|(refine lA 272 7 (w+1) br.o (jF ..) ?_));refine(BX i l n o p h.Ie q r u.o _ (t.o.ext bt.o)).mono ?_;rintro a b ⟨c,d,e,rfl,f,g,h,i⟩;let ⟨a,g,h⟩:=gO i bs bl bt;have i:=aH f;go_upto_region 5 with refine kl rfl (aI 11) (aI 33) rfl _ rfl _ _ _ rfl rfl ?_;let ⟨f,l,n,o,p,q⟩:=mY b (oX c d e) 449;let ⟨b,l,r⟩:=gO p g a h;rw[<-o,<-n];clear o n;have a:=b.o.cell 2 (v:=J E ap) rfl;have a:=q.o.cell 2 (v:=J E e) rfl
 by_cases a:e<ap
 ·have g:decide (e<ap)=aB:=decide_eq_true a
  go_wp2_with (first|(refine lS 272 39 f 0 q.o (Fw c d e) (yD cK) ?_)|(refine Ct rfl (aI 8) (aI 40) rfl (w+1+1) c d rfl rfl l.o (jF ..) ?_));exact rT results328 (l.o.row _) u9q iS ⟨c,d,1,rfl,i.o,.inr rfl,a3.o _ _ O _ r.o⟩
 ·have c:decide (e<ap)=av:=decide_eq_false a
  go_wp2_with (first|(refine lS 272 41 b5 0 b.o (Fw al am ap) (yD cK) ?_)|(refine Ct rfl (aI 8) (aI 42) rfl (w+1+1) al am rfl rfl l.o (jF ..) ?_));exact rT results328 (l.o.row _) u9q iS ⟨al,am,0,rfl,b4.o,.inl rfl,a3.o _ _ O _ r.o⟩
def J8(a b c d e f):(aE.info? 445).map (·.size)=M (oy a b c d e f).size:=xh
def Iw(a b c d e f):(oy a b c d e f).all (·.oneCell')=aB:=by simp[oy,cJ]
def LG(a b c d e f g):(fk 445 #[(0,af a b c),(1,J E d),(2,J E e),(3,aG (au f))]).run aE g=.ok (aG (oy a b c d e f)) g:=dK
def fO.ofRow{a b gm}(c:bD a b)(d):fO a (b.setRow gm d) gm S:=
 ⟨by have:=(aO (B:=gm) (g:=gm) (cs:=d) (aM gm b) (aw _)).os;rw[this];exact c.os,by have:=(aO (B:=gm) (g:=gm) (cs:=d) (aM gm b) (aw _)).tape;rw[this];exact c.tape,by have:=(aO (B:=gm) (g:=gm) (cs:=d) (aM gm b) (aw _)).output;rw[this];exact c.output,by rw[kB];exact c.size,fun a e f _=>(iD b gm a d f).trans (c.block a e)⟩
def zx(a:T)(b:FV):Prop:=∃(c:Fr)(d e:Nat),SrF c d e/\Fv a b c
def zx.ext{a b c}(d:zx a c)(e:bD a b):zx b c:=by
 let ⟨a,b,c,f,g⟩:=d;exact⟨a,b,c,f,g.ext e⟩
instance {w w' x1}:Tr w w' (zx w x1) (zx w' x1):=⟨fun hb h=>zx.ext h hb⟩
def Fv.tg{a i l b}(h:Fv a i l)(n:ox l)(g:zx a b){c d}(e:c<=3)(f:d<=3):Mf a i.ya i.yn (16*c) (16*d) b:=by
 let ⟨a,b,c,d,e⟩:=g;let ⟨⟨f,g,o,p,q,r,s,t,u,v,w,_,_⟩,_⟩:=h;let ⟨f,g,h,o,p,q,r,s,t,u,x⟩:=i;simp only[FV.val,qB,sX,oY,dt,sI] at v;obtain⟨_,_,⟨rfl,rfl,rfl⟩,_⟩:=v;exact⟨⟨l.Y,16,a,b,c,n.Y,by decide,by decide,d,w,e⟩,by omega,by omega⟩
def Abk(p:Nat)(r:dM)(c:r.h.st=3)(x:Nat)(b:aR)(y:Array aq)(d:408<=y.size)(s:FV)(a:Fr)(t u:Nat)(e:t<=3)(f:u<=3)(v w:Int)(g:vw v w)(q:T)(h:Kb q p r)(o:Bx q x b y)(i:Fv q s a)(l:ox a)(n:zx q r.w0):
  aT aE 318 #[aD (M ⟨p,0,S⟩),aD (M ⟨x,0,S⟩),J E 0,s.val,J E t,J E u,aG (mW v w)] q fun z H=>z=aK (fE #[])/\∃U V,vw U V/\fO q H x S/\Bx H x b (jH y 5 (mW U V)):=by
 obtain⟨a,b,z,H,U,V⟩:=ej (i.tg l n e f) g h o d c;have c:=o.lt;have c:E.wrap (16*(t:Int))=16*(t:Int):=an _ O;have c:E.wrap (16*(u:Int))=16*(u:Int):=an _ O;let ⟨c,d,e,f,g,h,i,l,n,o,W⟩:=Jo q (au s) 63 (mW v w) 272;have e:=aH (fun(h:T)(i:Fm q c d h)=>z.o.ext (n.o h i));go_enter func318,ntmps318;go_upto_region 1 with fail;refine mr g ?_;rw[<-f];clear g f;have f:=(e.o _ l.o).j.lt;refine aL 14 (fun f=>Fm q c d f) rfl (fun g h=>?_);have f:=aH l.o;have g:=mX h l;refine gN 0 13 2 ?_;simp only[sZ,ak];go_big_quiet_step (fail);refine lC f 54 15 c 2 (af s.ya s.yn s.yc) (fun _ h=>(o.o _ h).cell 2 rfl) dw ?_;simp only[sZ,ak];iterate 9 (go_big_quiet_step (fail))
 refine lR f 63 25 p 166 5 (au r.w0) (fun _ h=>(e.o _ h).te 27 5 (au r.w0) rfl dD) db bM ?_;simp only[sZ,ak];refine ei rfl (aG (oy s.ya s.yn s.yc (16*(t:Int)) (16*(u:Int)) r.w0)) (fun f=>iW (qs:=#[(0,af s.ya s.yn s.yc),(1,J E (16*(t:Int))),(2,J E (16*(u:Int))),(3,aG (au r.w0))]) rfl dK (LG _ _ _ _ _ _ f)) ?_;refine aN (fK 13 1 g fun f h=>?_);simp only[sZ,ak];have i:=mX h g;go_wp2_with fail;let ⟨g,h⟩:=aX f.heap.size;let ⟨l,o⟩:=aX (f.alloc (az (oy S 0 0 0 0 aC) 445));have f:=aH (show Fm q c d l by rw[o];exact i.o.alloc _);have l:=DZ o h;have p:=aH (show c+d.length<=g by rw[h];exact i.o.k);refine tf o ?_;rw[<-h];clear o h;refine fK 14 0 f fun h i=>?_
 simp only[sZ,ak];let ⟨h,o⟩:=di i f l;refine bm rfl 445 (aI 14) (aI 27) rfl g _ rfl rfl o.o (J8 ..) rfl (Iw ..) ?_;obtain⟨f,i⟩:=aQ (h.o.C (k:=g) p.o (oy s.ya s.yn s.yc (16*(t:Int)) (16*(u:Int)) r.w0)) (o.o.row (oy s.ya s.yn s.yc (16*(t:Int)) (16*(u:Int)) r.w0));refine mn ⟨rfl,pX fun h l=>?_⟩;let ⟨o,p⟩:=di l f i;simp only[ak];have f:=(e.o _ o.o).j.lt;have f:=(e.o _ o.o).t 1 rfl;rw[show 139+1=140 from rfl] at f;rw[V.o] at f;go_upto_region 4 with fail;refine aL 10 (fun e=>Fm q c d e/\Bx e g 445 (oy s.ya s.yn s.yc (16*(t:Int)) (16*(u:Int)) r.w0)) rfl (fun f i=>?_);have e:=aH (show Fm q c d h/\Bx h g 445 (oy s.ya s.yn s.yc (16*(t:Int)) (16*(u:Int)) r.w0) from⟨o.o,p.o⟩);let ⟨d,f⟩:=di i o p;refine gN 0 4 7 ?_;simp only[sZ,ak];iterate 2 (go_big_quiet_step (fail))
 refine lR e 445 14 g 0 8 (oy s.ya s.yn s.yc (16*(t:Int)) (16*(u:Int)) r.w0) (fun _ h=>qg h.2 rfl) underlying445 xh ?_;refine lR e 272 13 (c+1) 0 2 (mW v w) (fun _ g=>qg (W.o _ g.1) rfl) u9q iS ?_;refine aN (gT 6 3 4 ?_);refine oL 4 3 (fun c e=>⟨d.o.ext e,f.o.ext e⟩) fun g h=>?_
 simp only[sZ,ak];let ⟨c,e⟩:=di h d f;have d:=aH (BX s.ya s.yn s.yc (16*t) (16*u) r.w0 v w b.o g (a.o.ext (n.o _ c.o)));rw[cm,cm] at d;go_wp2_with fail;refine d.o.mono ?_;rintro a b ⟨d,f,g,rfl,h,_,_,i⟩;let ⟨a,b⟩:=di i c e;have c:=aH h;go_wp2_with fail;refine T9 5 1 2 ?_;simp only[sZ,ak];refine ei rfl (aG (mW d f)) (fun e=>by kernel_rfl) ?_;refine aN (gT 9 1 1 ?_);refine oL 10 0 (fun e g=>⟨a.o.ext g,b.o.ext g⟩) fun h i=>?_
 simp only[sZ,ak];have b:=mX i a;have a:=aH (H.o.ext (n.o _ b.o));refine cD rfl 272 (aI 63) (aI 59) rfl x 5 (mW d f) rfl rfl _ _ (jH y 5 (mW d f)) a.o rfl iS (by rw[jF];have:=U.o;omega) (by simp[mW,cJ]) ?_;obtain⟨e,g⟩:=aQ (fO.ofRow (gm:=x) (n.o _ b.o) (jH y 5 (mW d f))) (a.o.row (jH y 5 (mW d f)));refine mn ⟨rfl,pX fun a b=>?_⟩;have a:=aH (fO.ext e.o b);have e:=mX b g;simp only[ak];go_wp2;exact gI rfl rfl ⟨rfl,d,f,c.o,a.o,e.o⟩
def qT{a vs b}(c:b+vs.size<=a.size):(jH a b vs).size=a.size:=by
 simp[jH];omega
def CJ(a:Array aq)(b:Nat)(c d e:Int):Array aq:=(jH a (5+b*2) (mW c d)).setIfInBounds (13+b) (J E e)
def MQ{a b}(c:408<=a.size)(d:b<=1)(e f g):(CJ a b e f g).size=a.size:=by
 unfold CJ;rw[Array.size_setIfInBounds,qT (iJ jF)]
def fO.cell{a b c}(d:fO a b c S)(e v):fO a (b.setCell ⟨c,e,S⟩ v) c S:=by
 have a:(b.setCell ⟨c,e,S⟩ v).heap.size=b.heap.size:=by simp[gS]
 exact⟨d.os,d.tape,d.output,by rw[a];exact d.size,fun f g h i=>(eF b ⟨c,e,S⟩ v f h).trans (d.block f g h i)⟩
def Abl(r:Nat)(s:dM)(p:s.h.st≠3)(y:Nat)(b:aR)(z:Array aq)(c:408<=z.size)(t:FV)(a:Fr)(u v:Nat)(d:u<=3)(e:v<=3)(w x:Int)(f:vw w x)(q:T)(g:Kb q r s)(o:Bx q y b z)(h:Fv q t a)(i:ox a)(l:zx q s.JR)(n:zx q s.Ie):
  aT aE 318 #[aD (M ⟨r,0,S⟩),aD (M ⟨y,0,S⟩),J E 0,t.val,J E u,J E v,aG (mW w x)] q fun H U=>H=aK (fE #[])/\∃V W Y,vw V W/\(Y=0\/Y=1)/\fO q U y S/\Bx U y b (CJ z 0 V W Y):=by
 obtain⟨a,b,H,U,V,W⟩:=ej (h.tg i l d e) (h.tg i n d e) f g o c;have c:=aH p;have c:=o.lt;have c:E.wrap (16*(u:Int))=16*(u:Int):=an _ O;have c:E.wrap (16*(v:Int))=16*(v:Int):=an _ O;have c:(s.h.st==3)=av:=beq_eq_false_iff_ne.2 p;let ⟨c,d,e,f,g,h,i,l,n,o,p⟩:=Jo q (au t) 63 (mW w x) 272;have e:=aH (fun(h:T)(i:Fm q c d h)=>U.o.ext (n.o h i));go_enter func318,ntmps318;go_upto_region 1 with fail;refine mr g ?_;rw[<-f];clear g f;have f:=(e.o _ l.o).j.lt;refine aL 14 (fun f=>Fm q c d f) rfl (fun g h=>?_);have f:=aH l.o;have g:=mX h l;refine gN 0 13 2 ?_;simp only[sZ,ak];go_big_quiet_step (fail);refine lC f 54 15 c 2 (af t.ya t.yn t.yc) (fun _ h=>(o.o _ h).cell 2 rfl) dw ?_;simp only[sZ,ak];iterate 9 (go_big_quiet_step (fail))
 refine lR f 63 25 r 166 5 (au s.w0) (fun _ h=>(e.o _ h).te 27 5 (au s.w0) rfl dD) db bM ?_;simp only[sZ,ak];refine ei rfl (aG (oy t.ya t.yn t.yc (16*(u:Int)) (16*(v:Int)) s.w0)) (fun f=>iW (qs:=#[(0,af t.ya t.yn t.yc),(1,J E (16*(u:Int))),(2,J E (16*(v:Int))),(3,aG (au s.w0))]) rfl dK (LG _ _ _ _ _ _ f)) ?_;refine aN (fK 13 1 g fun f h=>?_);simp only[sZ,ak];have i:=mX h g;go_wp2_with fail;let ⟨g,h⟩:=aX f.heap.size;let ⟨l,o⟩:=aX (f.alloc (az (oy S 0 0 0 0 aC) 445));have f:=aH (show Fm q c d l by rw[o];exact i.o.alloc _);have l:=DZ o h;have U:=aH (show c+d.length<=g by rw[h];exact i.o.k);refine tf o ?_;rw[<-h];clear o h;refine fK 14 0 f fun h i=>?_
 simp only[sZ,ak];let ⟨h,o⟩:=di i f l;refine bm rfl 445 (aI 14) (aI 27) rfl g _ rfl rfl o.o (J8 ..) rfl (Iw ..) ?_;obtain⟨f,i⟩:=aQ (h.o.C (k:=g) U.o (oy t.ya t.yn t.yc (16*(u:Int)) (16*(v:Int)) s.w0)) (o.o.row (oy t.ya t.yn t.yc (16*(u:Int)) (16*(v:Int)) s.w0));refine mn ⟨rfl,pX fun h l=>?_⟩;let ⟨o,U⟩:=di l f i;simp only[ak];have f:=(e.o _ o.o).j.lt;have f:=(e.o _ o.o).t 1 rfl;rw[show 139+1=140 from rfl] at f;go_upto_region 3 with fail;refine aL 16 (fun f=>Fm q c d f/\Bx f g 445 (oy t.ya t.yn t.yc (16*(u:Int)) (16*(v:Int)) s.w0)) rfl (fun i l=>?_);have f:=aH (show Fm q c d h/\Bx h g 445 (oy t.ya t.yn t.yc (16*(u:Int)) (16*(v:Int)) s.w0) from⟨o.o,U.o⟩);let ⟨d,h⟩:=di l o U;refine gT 0 5 17 ?_;refine gN 5 1 16 ?_;simp only[sZ,ak];refine lR f 445 14 g 0 8 (oy t.ya t.yn t.yc (16*(u:Int)) (16*(v:Int)) s.w0) (fun _ i=>qg i.2 rfl) underlying445 xh ?_;refine aN (gT 6 1 15 ?_);refine gN 7 1 14 ?_;simp only[sZ,ak];refine lR f 272 13 (c+1) 0 2 (mW w x) (fun _ g=>qg (p.o _ g.1) rfl) u9q iS ?_;refine aN (gT 12 3 11 ?_);refine gT 17 3 8 ?_;refine oL 8 7 (fun c f=>⟨d.o.ext f,h.o.ext f⟩) fun g i=>?_
 simp only[sZ,ak];let ⟨c,f⟩:=di i d h;have d:=aH (xc r s t.ya t.yn t.yc (16*u) (16*v) s.w0 w x H.o g (e.o _ c.o) (a.o.ext (n.o _ c.o)) (b.o.ext (n.o _ c.o)));rw[cm,cm] at d;go_wp2_with fail;refine d.o.mono ?_;rintro a b ⟨d,e,g,rfl,h,i,l⟩;let ⟨a,b⟩:=di l c f;let ⟨c,f⟩:=aQ h i;go_wp2_with fail;refine gT 9 3 4 ?_;refine gT 15 1 3 ?_;refine oL 16 2 (fun h i=>⟨a.o.ext i,b.o.ext i⟩) fun l o=>?_
 simp only[sZ,ak];have b:=mX o a;have a:=aH (V.o.ext (n.o _ b.o));refine cD rfl 272 (aI 49) (aI 44) rfl y 5 (mW d e) rfl rfl _ _ (jH z 5 (mW d e)) a.o rfl iS (by rw[jF];have:=W.o;omega) (by simp[mW,cJ]) ?_;obtain⟨h,i⟩:=aQ (fO.ofRow (gm:=y) (n.o _ b.o) (jH z 5 (mW d e))) (a.o.row (jH z 5 (mW d e)));refine mn ⟨rfl,?_⟩;refine gT 20 1 1 ?_;refine X8 21 0 fun a b=>?_
 simp only[sZ,ak];have a:=aH (fO.ext h.o b);have h:=mX b i;let ⟨b,i⟩:∃l,(jH z 5 (mW d e))[13]?=M l:=⟨_,pJ (by rw[qT (by rw[jF];have:=W.o;omega)];have:=W.o;omega)⟩;have b:=h.o.cell 13 i;have b:=h.o.frozen 13;have b:=h.o.lt;go_wp2_with fail;obtain⟨b,i⟩:=aQ (fO.cell a.o 13 (J E g)) (h.o.L 13 (J E g));refine pX fun a h=>?_
 have a:=aH (fO.ext b.o h);have b:=mX h i
 try simp only[ak]
 go_wp2;exact dY (v:=fE #[]) (by simp[Ih,results318]) rfl ⟨rfl,d,e,g,c.o,f.o,a.o,b.o⟩
section
def Fu(cs:Array aq)(a:Nat->Int×Int×Int):Nat->Array aq
 |0=>cs
 |b+1=>CJ (Fu cs a b) b (a b).1 (a b).2.1 (a b).2.2
def I3{cs a V'}:∀b,(∀i,i<b->a i=V' i)->Fu cs a b=Fu cs V' b
 |0,_=>rfl
 |a+1,b=>by rw[Fu,Fu,I3 a fun c d=>b c O,b a O]
def Lr{cs V}(a:408<=cs.size):∀b,b<=2->(Fu cs V b).size=cs.size
 |0,_=>rfl
 |b+1,c=>by
  have c:=Lr (V:=V) a b O;rw[Fu,MQ O O,c]
def Dn(a:Fr)(b c:Nat):List Int:=(dI c).flatMap fun d=>(a.Y.drop ((b+2*d)*16)).take 16
def Hz(a b c):Dn a b (c+1)=Dn a b c++(a.Y.drop ((b+2*c)*16)).take 16:=by
 unfold Dn;rw[Cn,List.flatMap_append];simp
def Fb{f}(a:f.Y.length=256){p}(b:p<=1):∀c,c<=8->(Dn f p c).length=16*c
 |0,_=>rfl
 |c+1,d=>by
  rw[Hz,aJ,Fb a b c O,dE,jO,a];omega
def Xj{a}(d:Yx a.Y)(b c):∀e∈Dn a b c,0<=e/\e<=255:=by
 intro a b;unfold Dn at b;let ⟨c,_,e⟩:=List.mem_flatMap.1 b;exact d a (iw (jb e))
def QW(a b c d e w):(fk 445 #[(0,af a b c),(1,J E d),(2,J E e)]).run aE w=.ok (aG (oy a b c d e aC)) w:=dK
def Ir{a b c d}{w:T}{e}(g:c.guard=S)(h i)(l:c.op=.store 445 h i)(n)(o:w.heap.size=n){f}(p:f.size=8)(q r s t u v)
  (x:d.eval h=aD (M ⟨n,0,S⟩))(y:d.eval i=aG (oy q r s t u v))(z:cG aE a e b (d.put c.dst sJ) (w.alloc (az (oy q r s t u v) 445))):cG aE a e (c::b) d (w.alloc (az f 445)):=
 dd g 445 h i l n o (J8 q r s t u v) (oz p) (Iw q r s t u v) x y z
def vw.zero:vw 0 0:=⟨by decide,by decide,by decide,by decide⟩
def Xu:(aE.info? 5).map (fun i=>(i.zero,i.size,i.bytes))=M (M (J .u8 0),1,1):=dK
def DX{w0 w base}(a:base=w0.heap.size)(b:bj base w0 w):bD w0 w:=by subst a;exact b
structure GU(w0:T)(base gm:Nat)(t:aR)(cs:Array aq)(g:Nat)(x1:FV)(nx ny:Int)(w:T):Prop where
 b0:Bx w g 63 (au x1)
 Q:Bx w (g+1) 272 (mW nx ny)
 mb:Bx w gm t cs
 F:bj base w0 w
 l1:base<=gm
 l2:gm<g
section
variable {w0 w w':T} {base gm g:Nat} {t:aR} {cs cs':Array aq} {x1:FV} {nx ny:Int}
def GU.ext(a:GU w0 base gm t cs g x1 nx ny w)(b:bD w w'):GU w0 base gm t cs g x1 nx ny w':=
 ⟨a.b0.ext b,a.Q.ext b,a.mb.ext b,a.F.trans (b.mono (gC a.mb.lt a.l1)),a.l1,a.l2⟩
instance {w w' x0 x1 x2 x3 x4 x5 x6 x7 x8}:Tr w w' (GU x0 x1 x2 x3 x4 x5 x6 x7 x8 w) (GU x0 x1 x2 x3 x4 x5 x6 x7 x8 w'):=⟨fun hb h=>GU.ext h hb⟩
def GU.row(b:GU w0 base gm t cs g x1 nx ny w)(a):GU w0 base gm t a g x1 nx ny (w.setRow gm a):=
 ⟨b.b0.m (dU b.l2),b.Q.m (dU b.l2),b.mb.row _,aO b.F b.l1,b.l1,b.l2⟩
def GU.cell(a:GU w0 base gm t cs g x1 nx ny w)(b v):GU w0 base gm t (cs.setIfInBounds b v) g x1 nx ny (w.setCell ⟨gm,b,S⟩ v):=
 ⟨a.b0.C (by show g≠gm;have:=a.l2;omega) _,a.Q.C (by show g+1≠gm;have:=a.l2;omega) _,a.mb.L b v,a.F.setCell (by show base<=gm;exact a.l1) _,a.l1,a.l2⟩
def GU.app{a:aq}{b}(d:GU w0 base gm t cs g x1 nx ny w)(e:w.grownBy w' a.ownBlock)(f:∀h,a.ownBlock=M h->b<=h)(c:g+1<b):GU w0 base gm t cs g x1 nx ny w':=
 ⟨d.b0.grown e (fun a=>by have:=f g a.symm;omega),d.Q.grown e (fun b=>by have:=f (g+1) b.symm;omega),d.mb.grown e (fun c=>by have:=f gm c.symm;have:=d.l2;omega),d.F.grown e (gC d.mb.lt d.l1) (fun h i=>by have:=f h i;have:=d.l1;have:=d.l2;omega),d.l1,d.l2⟩
end
def FfW(w0:T)(base gm:Nat)(t:aR)(cs:Array aq)(g:Nat)(x1:FV)(nx ny:Int)(i:aq)(wr:T):Prop:=
 ∃(a:Nat)(b:Nat->Int×Int×Int),a<=2/\i=J E (a:Int)/\(∀c,vw (b c).1 (b c).2.1/\((b c).2.2=0\/(b c).2.2=1))/\GU w0 base gm t (Fu cs b a) g x1 nx ny wr
def FgW(w0:T)(base gm:Nat)(t:aR)(cs:Array aq)(g:Nat)(x1:FV)(nx ny:Int)(a:Fr)(b c:Nat)(d e:aq)(wr:T):Prop:=
 ∃f:Nat,f<=8/\e=J E ((b+2*f:Nat):Int)/\jX wr c 5 d (Dn a b f)/\c<=wr.heap.size/\GU w0 base gm t cs g x1 nx ny wr
def Tg8{w a h b}(i:du (fun _=>True) w a 128 h)(l:h.length=16*8)(g:zx w b){c d}(e:c<=3)(f:d<=3):Mf w a 128 (16*c) (8*d) b:=by
 let ⟨a,b,c,d,e⟩:=g;exact⟨⟨h,8,a,b,c,l,by decide,by decide,d,i,e⟩,by omega,by omega⟩
def Abm(r:Nat)(s:dM)(base gm:Nat)(t:aR)(cs:Array aq)(a:408<=cs.size)(x1:FV)(q:Fr)(u v:Nat)(x:u<=3)(y:v<=3)(nx ny:Int)(b:vw nx ny)(w0 w:T)(c:base=w0.heap.size)(d:bj base w0 w)(e:base<=gm)(f:Kb w0 r s)(h:Bx w gm t cs)(l:Fv w0 x1 q)(n:ox q)(o:zx w0 s.JR)(p:zx w0 s.Ie):
  aT aE 320 #[aD (M ⟨r,0,S⟩),aD (M ⟨gm,0,S⟩),J E 0,x1.val,J E u,J E v,aG (mW nx ny)] w fun z w'=>z=aK (fE #[])/\∃H:Nat->Int×Int×Int,(∀i,vw (H i).1 (H i).2.1/\((H i).2.2=0\/(H i).2.2=1))/\bj base w0 w'/\Bx w' gm t (Fu cs H 2):=by
 obtain⟨z,H,U,V,W,Y⟩:=ej b a c (fun(w':T)(a0:bj base w0 w')=>DX c a0) f l;let ⟨U,Y,a0⟩:=bh n o p;have a1:E.wrap (16*(u:Int))=16*(u:Int):=an _ O;have a1:E.wrap (8*(v:Int))=8*(v:Int):=an _ O;let ⟨a1,a2,a3⟩:=l.yat n;have a4:=a3.a;have a5:=a3.n;have a6:=a3.W;have a7:x1.H=16:=by rw[l.wh.2];exact n.H
 have a8:du (fun _=>True) w0 (M ⟨a1,a2,S⟩) 256 q.Y/\256<=x1.yc:=by
  let ⟨⟨a9,aa,ab,ac,ad,ae,ag,ah,ai,aj,al,_,_⟩,am⟩:=l;have a9:=(eH.o am).1;let ⟨aa,ab,ac,ad,ae,ag,ah,ai,am,ap,ar⟩:=x1;simp only[FV.val,qB,sX,oY,dt,sI] at aj;obtain⟨_,_,⟨rfl,rfl,rfl⟩,_⟩:=aj;dsimp only at a4 a5 a9 ⊢;subst a4 a5;exact⟨al,a9⟩
 have a9:=aH a8.1;have aa:=a8.2;have aa:=aH l.yH.1;let ⟨g,ab⟩:=aX w.heap.size;let ⟨ac,ad⟩:=aX ((w.alloc (az (au x1) 63)).alloc (az (mW nx ny) 272));have ae:bD w ac:=by rw[ad];exact(jd).alloc dS _
 have ag:=aH (show GU w0 base gm t cs g x1 nx ny ac from⟨by rw[ad,ab];exact(jR _ _ _).alloc _,by rw[ad,ab];exact Bx.D _ _ _ _ dS,h.ext ae,d.trans (ae.mono (dU h.lt)),e,by rw[ab];exact h.lt⟩);clear b a d e f h l n o p a3 a8 ae c;go_enter func320,ntmps320;go_upto_region 1 with fail;refine mr ad ?_;rw[<-ab];clear ad ab;go_wp2_with fail
 go_loopw [18] (fun a wr=>FfW w0 base gm t cs g x1 nx ny a wr) (fun b _=>2-(intOf b).toNat)
 case atStart=>exact⟨0,fun _=>(0,0,0),by omega,rfl,fun _=>⟨vw.zero,.inl rfl⟩,ag.o⟩
 case round=>
  obtain⟨a,b,c,rfl,d,e⟩:=hrel;let ⟨c,f⟩:=aQ e d;have d:E.wrap ((a:Int)+1)=((a+1:Nat):Int):=by rw[show((a+1:Nat):Int)=(a:Int)+1 by omega];exact an _ O
  by_cases d:a<2
  ·have d:decide ((a:Int)<2)=aB:=decide_eq_true O
   let ⟨d,e⟩:=aX wr.heap.size;obtain⟨h,l⟩:=aQ (show g+1<d by rw[e];exact c.o.Q.lt) e;clear e;go_wp2_with fail
   go_loopw [15,16] (fun e n wr=>FgW w0 base gm t (Fu cs b a) g x1 nx ny q a d e n wr) (fun _ o _=>18-(intOf o).toNat)
   case atStart=>exact⟨0,by omega,by simp,jX.nil,by rw[l.o];exact aw _,c.o⟩
   case round=>
    obtain⟨e,l,rfl,n,o,p⟩:=hrel;let ⟨l,a3,a8⟩:=bh o n p;have n:wr.cell? ⟨g,0,S⟩=M (J E 16):=by rw[<-a6];exact a8.o.b0.cell 0 rfl
    have o:wr.cell? ⟨g,1,S⟩=M (J E 16):=by rw[<-a7];exact a8.o.b0.cell 1 rfl
    have p:wr.cell? ⟨g,2,S⟩=M (af (M ⟨a1,a2,S⟩) 256 x1.yc):=by rw[<-a5,<-a4];exact a8.o.b0.cell 2 rfl
    by_cases a1:e<8
    ·let ⟨a1,a2⟩:=aX (a+2*e)
     rw[<-a2];let ⟨a4,a5⟩:=aX (a1*16);have a6:a1<=15:=O;have a6:a4+16<=256:=O;have a6:E.wrap ((a1:Int)*16)=(a4:Int):=by rw[show(a1:Int)*16=(a4:Int) by omega];exact an _ O
     have a6:E.wrap ((a1:Int)+1)=(a1:Int)+1:=an _ O;have a6:E.wrap (((a1:Int)+1)*16)=((a4+16:Nat):Int):=by rw[show((a1:Int)+1)*16=((a4+16:Nat):Int) by omega];exact an _ O
     have a6:E.wrap ((a1:Int)+2)=(a1:Int)+2:=an _ O;have a6:(a4:Int)<=((a4+16:Nat):Int):=O;have a6:((a4+16:Nat):Int)<=(x1.yc:Int):=O;have a6:¬x1.yc=a4:=O;have a6:(a4:Int)<=(x1.yc:Int):=O;obtain⟨a6,a7,ab,ac⟩:=dq (bZ a2 a5) ((a9.o.sub (k:=a4) (m:=16) O).ext (V.o _ a8.o.F)) (show(Dn q a e).length=16*e from Fb U.o.Y O e O) (show Dn q a (e+1)=Dn q a e++(q.Y.drop a4).take 16 by rw[Hz,a5,a2]);clear a2 a5;go_wp2_with (first|(at_builtin;go_must (refine jw _ rfl (aI 28) (aI 40) 54 rfl 5 dw Xu d _ (Dn q a e) rfl a3.o _ _ _ ((q.Y.drop a4).take 16) rfl (du.cast a7.o (by first|rfl|(simp;done)|(simp;omega)) (by first|rfl|(simp;done)|(simp;omega))) (by have:=ab.o;simp;omega) l.o ?_;intro a2 w7 ho7 hg7 _)));obtain⟨a2,a4,a5⟩:=bh (a8.o.app hg7 (fun a9 ab=>(a3.o.lt a9 ab).1) h.o) ho7 (show d<=w7.heap.size from aY l.o hg7.size);clear ho7 hg7 a8 a3 a7 n o p;go_wp2_with fail;exact⟨⟨e+1,by omega,by rw[show(a+2*(e+1):Nat)=a1+2 by have:=a6.o;omega];go_num,by rw[ac.o];exact a4.o,a5.o,a2.o⟩,by have:=a6.o;simp[intOf];omega⟩
    ·have d:e=8:=O
     subst d;have d:=Fb (f:=q) U.o.Y (p:=a) O 8 O;obtain⟨e,h,rfl,l⟩:=a3.o.ret (p:=fun _=>True) (fun _ _=>trivial) (Xj aa.o a 8);rw[d] at l ⊢;have U:=aH l;have a1:=aH d;clear l a3 d;let ⟨d,l⟩:=aX (a+2*8);rw[<-l];have a2:¬(d:Int)<16:=O;clear l;go_upto_region 10 with(first|(refine gV dW 445 #[(0,aI 42),(1,aI 44),(2,aI 46)] rfl #[(0,af e (16*8) h),(1,J E (16*(u:Int))),(2,J E (8*(v:Int)))] dK (aG (oy e (16*8) h (16*(u:Int)) (8*(v:Int)) aC)) (QW _ _ _ _ _ _) ?_)|(refine Ir rfl (aI 17) (aI 47) rfl _ rfl dS _ _ _ _ _ _ rfl rfl ?_))
     try simp only[ak]
     let ⟨d,l⟩:=aX wr.heap.size;let ⟨a3,a4⟩:=aX (wr.alloc (az (oy e 128 h (16*(u:Int)) (8*(v:Int)) aC) 445));have a5:=aH (show GU w0 base gm t (Fu cs b a) g x1 nx ny a3 by rw[a4];exact a8.o.ext (jd));have a6:=DZ a4 l;have a7:=aH (show du (fun _=>True) a3 e 128 (Dn q a 8) by rw[a4];exact U.o.ext (jd));rw[<-a4,<-l];clear a4 l a8 U n o p a2;have l:=a5.o.mb.lt;have l:r<a3.heap.size:=(W.o.ext (V.o _ a5.o.F)).j.lt;have l:(a:Int)<2:=O;refine aL 18 (fun l=>GU w0 base gm t (Fu cs b a) g x1 nx ny l/\Bx l d 445 (oy e 128 h (16*(u:Int)) (8*(v:Int)) aC)) rfl (fun n o=>?_);have l:=aH (show GU w0 base gm t (Fu cs b a) g x1 nx ny a3/\Bx a3 d 445 (oy e 128 h (16*(u:Int)) (8*(v:Int)) aC) from⟨a5.o,a6.o⟩);let ⟨n,p,q⟩:=gO o a5 a6 a7;clear o a5 a6 a7;refine gT 0 7 17 ?_;refine gN 7 1 16 ?_;simp only[sZ,ak];refine lR l 445 17 d 0 8 (oy e 128 h (16*(u:Int)) (8*(v:Int)) aC) (fun _ o=>qg o.2 rfl) underlying445 xh ?_;refine aN (gT 8 1 15 ?_);refine gN 9 1 14 ?_;simp only[sZ,ak];refine lR l 272 13 (g+1) 0 2 (mW nx ny) (fun _ d=>qg d.1.Q rfl) u9q iS ?_;refine aN (gT 14 3 11 ?_);refine gT 19 3 8 ?_;refine oL 10 7 (fun d o=>⟨n.o.ext o,p.o.ext o⟩) fun U a2=>?_
     simp only[sZ,ak];let ⟨d,o,a3⟩:=gO a2 n p q;clear a2 n p q;have n:=V.o _ d.o.F;have p:=aH (xc r s e 128 h (16*u) (8*v) aC nx ny z.o U (W.o.ext n) (Tg8 a3.o a1.o (Y.o.ext n) x y) (Tg8 a3.o a1.o (a0.o.ext n) x y));rw[cm,cm] at p;go_wp2_with fail;refine p.o.mono ?_;rintro e h ⟨n,q,r,rfl,s,u,v⟩;let ⟨e,h⟩:=di v d o;have x:=aH (bZ s u);clear v s u d o p a3;go_wp2_with fail;refine gT 11 3 4 ?_;refine gT 17 1 3 ?_;refine oL 18 2 (fun d o=>⟨e.o.ext o,h.o.ext o⟩) fun p s=>?_
     simp only[sZ,ak];have d:=mX s e;clear s e h l;have e:(Fu cs b a).size=cs.size:=Lr H.o a O;have h:=aH e;refine cD rfl 272 (aI 65) (aI 60) rfl gm (5+a*2) (mW n q) rfl rfl _ _ (jH (Fu cs b a) (5+a*2) (mW n q)) d.o.mb rfl iS (by rw[jF,e];have:=H.o;omega) (by simp[mW,cJ]) ?_;have l:=aH (d.o.row (jH (Fu cs b a) (5+a*2) (mW n q)));refine mn ⟨rfl,?_⟩;clear d e;refine gT 22 1 1 ?_;refine X8 23 0 fun d e=>?_
     simp only[sZ,ak];have d:=mX e l;clear e l;let ⟨e,l⟩:∃o,(jH (Fu cs b a) (5+a*2) (mW n q))[13+a]?=M o:=⟨_,pJ (by rw[qT (by rw[jF,h.o];have:=H.o;omega),h.o];have:=H.o;omega)⟩;have e:=d.o.mb.cell (13+a) l;have h:=d.o.mb.frozen (13+a);have l:=d.o.mb.lt;go_wp2_with fail;have o:=aH (d.o.cell (13+a) (J E r));refine pX fun p s=>?_
     have p:=mX s o;clear s d o e h l
     try simp only[ak]
     go_wp2;refine⟨⟨a+1,fun d=>if d=a then(n,q,r) else b d,by omega,by go_num,fun d=>?_,?_⟩,by simp[intOf];omega⟩
     ·dsimp only
      split
      ·exact x.o
      ·exact f.o d
     ·have d:Fu cs (fun e=>if e=a then(n,q,r) else b e) (a+1)=(jH (Fu cs b a) (5+a*2) (mW n q)).setIfInBounds (13+a) (J E r):=by
       rw[Fu,I3 (V':=b) a fun e h=>by simp;omega];simp[CJ]
      rw[d];exact p.o
  ·have d:a=2:=O
   subst d;go_wp2_with fail;exact gI rfl rfl ⟨rfl,b,f.o,c.o.F,c.o.mb⟩
end
def jE{o d e f w g h}(q:f.guard=S)(r x)(s:f.op=.buildSlice r 1 #[(0,x)])(t H U z)(u:o.underlying r=M (.slice t))
  (p:(o.info? t).map (fun i=>(i.zero,i.size))=M (M z,U))(a:z.cells.size=U)(V:H.size=U)(b:0<U)(c:U<=100000)(l)(n:g.heap.size=l)(y:w.eval x=aG H)
  (v:cG o d h e (w.put f.dst (af (M ⟨l,0,S⟩) 1 1)) (g.alloc (az H t))):cG o d h (f::e) w g:=by
 subst n;cases hie:o.info? t with
 |none=>simp[hie] at p
 |some a=>
  simp only[hie,bX,bq,Prod.mk.injEq] at p;let ⟨b,c⟩:=p;refine wpList_buildSlice q r t 1 _ s H a z u hie b (iJ c) (iJ c) ?_ v;have a:(#[(0,x)].map fun(b,d)=>(b,w.eval d)).toList=[(0,aG H)]:=by simp[y]
  rw[a,c];have a:((Vl (1*U)).map (z.cells[·%z.cells.size]!)).size=U:=by simp
  generalize ((Vl (1*U)).map (z.cells[·%z.cells.size]!))=b at a
  let ⟨c⟩:=b;have b:c.length=U:=a;rw[I2 c (v:=aG H) (off:=0) (size:=U) dS V O];rw[Instr.fill];simp only[fu,Value.cells,List.take_zero,js,oD,cj];rw[fU O];simp
def fO.G9{a b c d e}(h:fO b c d S)(i:bj e a b)(f:e<=d)(g:e<=b.heap.size):bj e a c:=
 ⟨h.os.trans i.os,h.tape.trans i.tape,h.output.trans i.output,aY i.size h.size,fun a b=>(h.block a O O dS).trans (i.block a b)⟩
structure Ph(e:T)(f a:Nat)(b:FV)(c d:Nat)(g:St):Prop where
 b0:Bx e f 338 #[aD (M ⟨a,0,S⟩)]
 Q:Bx e (f+1) 63 (au b)
 b2:Bx e (f+1+1) 3 #[J E c]
 b3:Bx e (f+1+1+1) 3 #[J E d]
 b4:Bx e (f+1+1+1+1) 324 (aS E g.l)
def Ph.ext{a b c d e f g h}(i:Ph a c d e f g h)(l:bD a b):Ph b c d e f g h:=
 ⟨i.b0.ext l,i.Q.ext l,i.b2.ext l,i.b3.ext l,i.b4.ext l⟩
instance {w w' x1 x2 x3 x4 x5 x6}:Tr w w' (Ph w x1 x2 x3 x4 x5 x6) (Ph w' x1 x2 x3 x4 x5 x6):=⟨fun hb h=>Ph.ext h hb⟩
def Aig(a:T)(b c:Nat)(d:aR)(e:Array aq)(f:T):Prop:=∃g h,vw g h/\bj b a f/\Bx f c d (jH e 5 (mW g h))
def Aih(a:T)(b c:Nat)(d:aR)(e:Array aq)(f:T):Prop:=∃g h i,vw g h/\(i=0\/i=1)/\bj b a f/\Bx f c d (CJ e 0 g h i)
def Aif(a:T)(b c:Nat)(d:aR)(e:Array aq)(f:T):Prop:=∃g:Nat->Int×Int×Int,(∀h,vw (g h).1 (g h).2.1/\((g h).2.2=0\/(g h).2.2=1))/\bj b a f/\Bx f c d (Fu e g 2)
def St.vx(a:St):Int:=cM a.v 0
def St.vy(a:St):Int:=cM a.v 1
def St.Abv{a:St}(b:a.A):vw a.vx a.vy/\(aS E a.l).extract 4 (4+2)=mW a.vx a.vy/\4+2<=(aS E a.l).size:=by
 let ⟨a,c,d,e,f,g,h,i,_,l,n,_⟩:=St.ex b;refine⟨?_,?_,by rw[bE,kj b];decide⟩
 ·rw[i];exact⟨l.1,l.2,n.1,n.2⟩
 ·rw[i];rfl
def Ya(u:Nat)(a:dM)(b:a.h.st=3)(H U:Nat)(V:aR)(W:Array aq)(g:408<=W.size)(v:FV)(c:Fr)(w x:Nat)(d:w<=3)(e:x<=3)(y:St)(h:y.A)(z:Nat)(Y f:T)(i:H=Y.heap.size)(l:bj H Y f)(n:H<=U)(o:Kb Y u a)(p:Bx f U V W)(q:Fv Y v c)(r:ox c)(s:Ph Y z u v w x y)(t:zx Y a.w0):
  aT aE 317 #[aD (M ⟨U,0,S⟩),J E 0,aD (M ⟨z,0,S⟩),aD (M ⟨z+1,0,S⟩),aD (M ⟨z+1+1,0,S⟩),aD (M ⟨z+1+1+1,0,S⟩),aD (M ⟨z+1+1+1+1,0,S⟩)] f fun a0 a1=>a0=aK (fE #[])/\Aig Y H U V W a1:=by
 have a0:bD Y f:=DX i l;obtain⟨a1,a2,a3,a4⟩:=dq (s.ext a0) (St.Abv h) i l;obtain⟨a5,a6,a7,a8⟩:=dq (fun a9 (aa:bD f a9)=>Abk u a b U V W g v c w x d e y.vx y.vy a2.o.1 a9 ((o.ext a0).ext aa) (p.ext aa) ((q.ext a0).ext aa) r ((t.ext a0).ext aa)) n p g;clear g h i l n o p q r s a0 t;go_enter func317,ntmps317;refine aL 10 (fun a=>Ph a z u v w x y) rfl (fun b c=>?_);have a:=aH a1.o;have b:=mX c a1;have d:=aH c;clear c a1;refine gN 0 6 5 ?_;simp only[sZ,ak];refine lC a 338 2 z 0 (aD (M ⟨u,0,S⟩)) (fun _ c=>c.b0.cell 0 rfl) H3 ?_;simp only[sZ,ak];iterate 2 (go_big_quiet_step (fail))
 refine lF a 3 (z+1) v (fun _ c=>c.Q) ?_;refine lC a 3 4 (z+1+1) 0 (J E w) (fun _ c=>c.b2.cell 0 rfl) bJ ?_;refine lC a 3 5 (z+1+1+1) 0 (J E x) (fun _ c=>c.b3.cell 0 rfl) bJ ?_;refine aN (gT 6 3 2 ?_);refine gN 9 1 1 ?_;simp only[sZ,ak];refine lR a 272 17 (z+1+1+1+1) 4 2 (mW y.vx y.vy) (fun _ c=>⟨_,_,c.b4,a2.o.2.1,a2.o.2.2⟩) u9q iS ?_;refine aN (fK 10 0 b fun c e=>?_);simp only[sZ,ak];have f:=mX e d;clear e b d a;go_wp2_with fail;refine mR (a5.o c f.o) fun a ⟨b,d,e,g,h⟩=>?_
 obtain⟨a,i⟩:=aQ (show H<=c.heap.size by have:=a7.o.lt;have:=a6.o;have:=f.o.size;omega) (show bj H Y c from a4.o.trans (f.o.mono (gC a7.o.lt a6.o)));have c:=aH (bZ e (bZ (fO.G9 g i.o a6.o a.o) h));clear e g h;go_wp2_with fail;refine pX fun a e=>?_
 have f:=aH (show vw b d/\bj H Y a/\Bx a U V (jH W 5 (mW b d)) from⟨c.o.1,c.o.2.1.trans (e.mono (eZ a3.o c.o.2.1.size)),c.o.2.2.ext e⟩);clear e c
 try simp only[ak]
 go_wp2;exact gI rfl rfl ⟨rfl,b,d,f.o⟩
def Yb(v:Nat)(a:dM)(b:a.h.st≠3)(U V:Nat)(W:aR)(Y:Array aq)(g:408<=Y.size)(w:FV)(c:Fr)(x y:Nat)(d:x<=3)(e:y<=3)(z:St)(h:z.A)(H:Nat)(a0 f:T)(i:U=a0.heap.size)(l:bj U a0 f)(n:U<=V)(o:Kb a0 v a)(p:Bx f V W Y)(q:Fv a0 w c)(r:ox c)(s:Ph a0 H v w x y z)(t:zx a0 a.JR)(u:zx a0 a.Ie):
  aT aE 317 #[aD (M ⟨V,0,S⟩),J E 0,aD (M ⟨H,0,S⟩),aD (M ⟨H+1,0,S⟩),aD (M ⟨H+1+1,0,S⟩),aD (M ⟨H+1+1+1,0,S⟩),aD (M ⟨H+1+1+1+1,0,S⟩)] f fun a1 a2=>a1=aK (fE #[])/\Aih a0 U V W Y a2:=by
 have a1:bD a0 f:=DX i l;obtain⟨a2,a3,a4,a5⟩:=dq (s.ext a1) (St.Abv h) i l;obtain⟨a6,a7,a8,a9⟩:=dq (fun aa (ab:bD f aa)=>Abl v a b V W Y g w c x y d e z.vx z.vy a3.o.1 aa ((o.ext a1).ext ab) (p.ext ab) ((q.ext a1).ext ab) r ((t.ext a1).ext ab) ((u.ext a1).ext ab)) n p g;clear g h i l n o p q r s a1 t u;go_enter func317,ntmps317;refine aL 10 (fun a=>Ph a H v w x y z) rfl (fun b c=>?_);have a:=aH a2.o;have b:=mX c a2;have d:=aH c;clear c a2;refine gN 0 6 5 ?_;simp only[sZ,ak];refine lC a 338 2 H 0 (aD (M ⟨v,0,S⟩)) (fun _ c=>c.b0.cell 0 rfl) H3 ?_;simp only[sZ,ak];iterate 2 (go_big_quiet_step (fail))
 refine lF a 3 (H+1) w (fun _ c=>c.Q) ?_;refine lC a 3 4 (H+1+1) 0 (J E x) (fun _ c=>c.b2.cell 0 rfl) bJ ?_;refine lC a 3 5 (H+1+1+1) 0 (J E y) (fun _ c=>c.b3.cell 0 rfl) bJ ?_;refine aN (gT 6 3 2 ?_);refine gN 9 1 1 ?_;simp only[sZ,ak];refine lR a 272 17 (H+1+1+1+1) 4 2 (mW z.vx z.vy) (fun _ c=>⟨_,_,c.b4,a3.o.2.1,a3.o.2.2⟩) u9q iS ?_;refine aN (fK 10 0 b fun c e=>?_);simp only[sZ,ak];have f:=mX e d;clear e b d a;go_wp2_with fail;refine mR (a6.o c f.o) fun a ⟨b,d,e,g,h,i,l⟩=>?_
 obtain⟨a,n⟩:=aQ (show U<=c.heap.size by have:=a8.o.lt;have:=a7.o;have:=f.o.size;omega) (show bj U a0 c from a5.o.trans (f.o.mono (gC a8.o.lt a7.o)));have c:=aH (bZ g (bZ h (bZ (fO.G9 i n.o a7.o a.o) l)));clear g h i l;go_wp2_with fail;refine pX fun a f=>?_
 have g:=aH (show vw b d/\(e=0\/e=1)/\bj U a0 a/\Bx a V W (CJ Y 0 b d e) from⟨c.o.1,c.o.2.1,c.o.2.2.1.trans (f.mono (eZ a4.o c.o.2.2.1.size)),c.o.2.2.2.ext f⟩);clear f c
 try simp only[ak]
 go_wp2;exact gI rfl rfl ⟨rfl,b,d,e,g.o⟩
def Abn(u:Nat)(a:dM)(H U:Nat)(V:aR)(W:Array aq)(f:408<=W.size)(v:FV)(b:Fr)(w x:Nat)(c:w<=3)(d:x<=3)(y:St)(g:y.A)(z:Nat)(Y e:T)(h:H=Y.heap.size)(i:bj H Y e)(l:H<=U)(n:Kb Y u a)(o:Bx e U V W)(p:Fv Y v b)(q:ox b)(r:Ph Y z u v w x y)(s:zx Y a.JR)(t:zx Y a.Ie):
  aT aE 319 #[aD (M ⟨U,0,S⟩),J E 0,aD (M ⟨z,0,S⟩),aD (M ⟨z+1,0,S⟩),aD (M ⟨z+1+1,0,S⟩),aD (M ⟨z+1+1+1,0,S⟩),aD (M ⟨z+1+1+1+1,0,S⟩)] e fun a0 a1=>a0=aK (fE #[])/\Aif Y H U V W a1:=by
 have a0:bD Y e:=DX h i;obtain⟨a1,a2,a3,a4⟩:=dq (r.ext a0) (St.Abv g) h i;obtain⟨a4,a5,a6,a7⟩:=dq (fun a8 (a9:bD e a8)=>Abm u a H U V W f v b w x c d y.vx y.vy a2.o.1 Y a8 h (i.trans (a9.mono (dU o.lt))) l n (o.ext a9) p q s t) l o f;clear f g h i l n o p q r a0 s t;go_enter func319,ntmps319;refine aL 10 (fun a=>Ph a z u v w x y) rfl (fun b c=>?_);have a:=aH a1.o;have b:=mX c a1;have d:=aH c;clear c a1;refine gN 0 6 5 ?_;simp only[sZ,ak];refine lC a 338 2 z 0 (aD (M ⟨u,0,S⟩)) (fun _ c=>c.b0.cell 0 rfl) H3 ?_;simp only[sZ,ak];iterate 2 (go_big_quiet_step (fail))
 refine lF a 3 (z+1) v (fun _ c=>c.Q) ?_;refine lC a 3 4 (z+1+1) 0 (J E w) (fun _ c=>c.b2.cell 0 rfl) bJ ?_;refine lC a 3 5 (z+1+1+1) 0 (J E x) (fun _ c=>c.b3.cell 0 rfl) bJ ?_;refine aN (gT 6 3 2 ?_);refine gN 9 1 1 ?_;simp only[sZ,ak];refine lR a 272 17 (z+1+1+1+1) 4 2 (mW y.vx y.vy) (fun _ c=>⟨_,_,c.b4,a2.o.2.1,a2.o.2.2⟩) u9q iS ?_;refine aN (fK 10 0 b fun c e=>?_);simp only[sZ,ak];have f:=mX e d;clear e b d a;go_wp2_with fail;refine mR (a4.o c f.o) fun a ⟨b,d,e,g⟩=>?_
 have a:=aH (bZ d (bZ e g));clear d e g;go_wp2_with fail;refine pX fun c d=>?_
 have e:=aH (show(∀f,vw (b f).1 (b f).2.1/\((b f).2.2=0\/(b f).2.2=1))/\bj H Y c/\Bx c U V (Fu W b 2) from⟨a.o.1,a.o.2.1.trans (d.mono (eZ a3.o a.o.2.1.size)),a.o.2.2.ext d⟩);clear d a
 try simp only[ak]
 go_wp2;exact gI rfl rfl ⟨rfl,b,e.o⟩
section
def Mc(a:Bool)(b c d e f g:Int):Mb:=⟨2,[aB,av],a,av,[b,c,d,e,0,0,0,0],[f,g,0,0],0,aF 6 av,aF 384 0⟩
def K4(a:Bool):Mb:=⟨2,[av,av],a,av,[0,0,0,0,0,0,0,0],[0,0,0,0],0,aF 6 av,aF 384 0⟩
theorem EI(a b c d e f g):(Mc a b c d e f g).A:=⟨rfl,rfl,rfl,rfl,bp⟩
theorem MZ(a):(K4 a).A:=⟨rfl,rfl,rfl,rfl,bp⟩
structure zM(k:dM)(a:Mb):Prop where
 ex:∃b c d e f g h,a=Mc b c d e f g h/\vw c d/\vw e f/\(g=0\/g=1)/\(h=0\/h=1)/\(b=aB->(k.s.B&&decide (k.h.st=3))=aB)/\(b=av->e=0/\f=0/\h=0)/\(b=av->k.h.st=3->g=0)
theorem zM.ok{k a}(h:zM k a):a.A:=by
 obtain⟨a,b,c,d,e,f,g,rfl,_⟩:=h.ex;exact EI ..
def xP(a:Mb):Array aq:=(a.cells.toList++iA.cells.toList).toArray
theorem xf{a}(h:a.A):(xP a).size=816:=by simp[xP,da h,da fG]
theorem Zt(a):jH (xP iA) 0 (K4 a).cells=xP (K4 a):=dK
theorem Zs(a):(xP (K4 a)).setIfInBounds 1 (ao aB)=xP (Mc a 0 0 0 0 0 0):=dK
theorem Aed(a b c):jH (xP (Mc a 0 0 0 0 0 0)) 5 (mW b c)=xP (Mc a b c 0 0 0 0):=dK
theorem Aec(a b c s):CJ (xP (Mc a 0 0 0 0 0 0)) 0 b c s=xP (Mc a b c 0 0 s 0):=dK
theorem Aeb(a b):Fu (xP (Mc a 0 0 0 0 0 0)) b 2=xP (Mc a (b 0).1 (b 0).2.1 (b 1).1 (b 1).2.1 (b 0).2.2 (b 1).2.2):=dK
theorem Zr{a}(h:a.A):(xP a).extract 0 (0+408)=a.cells:=by
 unfold xP;have hs:=da h;rw[List.extract_toArray,List.extract_eq_take_drop,List.drop_zero,Cp (by simp[hs]),kN (by simp[hs])]
theorem Us(a):(xP (K4 a))[1]?=M (ao av):=dK
theorem SC(a b)(c:b.op=.alloc 436)(w):(VI a b).run aE w=.ok (.value (aD (M ⟨w.heap.size,0,S⟩))) (w.alloc (az (xP iA) 436)):=by
 obtain⟨a,d,e,f,g,guard⟩:=b;dsimp only at c;subst c
 kernel_rfl
theorem Cv{a b c d w e}(g:c.guard=S)(f)(h:c.dst=f)(i:c.op=.alloc 436)
  (l:cG aE a e b (d.put f (aD (M ⟨w.heap.size,0,S⟩))) (w.alloc (az (xP iA) 436))):cG aE a e (c::b) d w:=
 wpList_plain g fun _ a=>by
  subst h;unfold Bg;rw[SC _ _ i];exact a _ _ l
theorem H8{a:Array cQ}{b:List cQ}{c:cQ}{d:Act}{w:T}{e:Exit->Act->T->Prop}(h:bP c (xZ a d.tmps)=aB)(f g:Gc)(l:c.op=.build 280 #[(0,f),(2,g)])(n:d.eval f=J E 2)(i:Bool)(o:d.eval g=ao i)(p:cG aE a e b (d.put c.dst (aG (K4 i).cells)) w):cG aE a e (c::b) d w:=
 eI h fun _ a=>by
  have hr:(fk 280 #[(0,J E 2),(2,ao i)]).run aE w=.ok (aG (K4 i).cells) w:=dK;unfold Bg VI;simp only[l];simp only[qR,sH,Bh,n,o]
  first
   |(rw[hr];exact a _ _ p)
   |(simp only[fT,iT,dv,hr];exact a _ _ p)
theorem Cf:(aE.info? 280).map (fun i=>(i.zero,i.size,i.bytes))=M (M (aG iA.cells),408,3200):=dK
theorem Cg:(aE.info? 280).map (fun i=>(i.zero,i.size))=M (M (aG iA.cells),408):=dK
structure GQ(w:T)(k:dM):Prop where
 wh:k.h.st=3->zx w k.w0
 fl:k.h.st≠3\/k.s.B=aB->zx w k.JR/\zx w k.Ie
theorem GQ.ext{w a k}(h:GQ w k)(b:bD w a):GQ a k:=⟨fun c=>(h.wh c).ext b,fun d=>⟨(h.fl d).1.ext b,(h.fl d).2.ext b⟩⟩
instance {w w' x1}:Tr w w' (GQ w x1) (GQ w' x1):=⟨fun hb h=>GQ.ext h hb⟩
def ClP(k:dM)(w0:T)(base gm:Nat)(a:T):Prop:=∃b,zM k b/\bj base w0 a/\Bx a gm 436 (xP b)
section
variable (gk:Nat) (k:dM) (base gm:Nat) (x1:FV) (f1:Fr) (mx my:Nat) (hx3:mx<=3) (hy3:my<=3) (s:St) (hs:s.A) (g:Nat) (w0 w:T) (hbase:base=w0.heap.size) (hbe:bj base w0 w) (hgm:base<=gm) (h:Kb w0 gk k) (h1:Fv w0 x1 f1) (e1:ox f1) (hcl:Ph w0 g gk x1 mx my s) (hr:GQ w0 k)
include hx3 hy3 hs hbase hbe hgm h h1 e1 hcl hr
theorem Y9(a:Bx w gm 436 (xP (Mc av 0 0 0 0 0 0))):
  aT aE 317 #[aD (M ⟨gm,0,S⟩),J E 0,aD (M ⟨g,0,S⟩),aD (M ⟨g+1,0,S⟩),aD (M ⟨g+1+1,0,S⟩),aD (M ⟨g+1+1+1,0,S⟩),aD (M ⟨g+1+1+1+1,0,S⟩)] w fun b c=>b=aK (fE #[])/\ClP k w0 base gm c:=by
 by_cases b:k.h.st=3
 ·refine(Ya gk k b base gm _ _ (by rw[xf (EI ..)];decide) x1 f1 mx my hx3 hy3 s hs g w0 w hbase hbe hgm h a h1 e1 hcl (hr.wh b)).mono ?_
  rintro c d ⟨e,f,i,l,n,o⟩;rw[Aed] at o;exact⟨e,_,⟨av,f,i,0,0,0,0,rfl,l,vw.zero,.inl rfl,.inl rfl,by simp,by simp,by simp⟩,n,o⟩
 ·let ⟨c,d⟩:=hr.fl (.inl b)
  refine(Yb gk k b base gm _ _ (by rw[xf (EI ..)];decide) x1 f1 mx my hx3 hy3 s hs g w0 w hbase hbe hgm h a h1 e1 hcl c d).mono ?_;rintro a c ⟨d,e,f,i,l,n,o,p⟩;rw[Aec] at p;exact⟨d,_,⟨av,e,f,0,0,i,0,rfl,l,vw.zero,n,.inl rfl,by simp,by simp,fun _ a=>absurd a b⟩,o,p⟩
theorem Y8(b:(k.s.B&&decide (k.h.st=3))=aB)(a:Bx w gm 436 (xP (Mc aB 0 0 0 0 0 0))):
  aT aE 319 #[aD (M ⟨gm,0,S⟩),J E 0,aD (M ⟨g,0,S⟩),aD (M ⟨g+1,0,S⟩),aD (M ⟨g+1+1,0,S⟩),aD (M ⟨g+1+1+1,0,S⟩),aD (M ⟨g+1+1+1+1,0,S⟩)] w fun c d=>c=aK (fE #[])/\ClP k w0 base gm d:=by
 let ⟨c,d⟩:=hr.fl (.inr (by simp at b;exact b.1));refine(Abn gk k base gm _ _ (by rw[xf (EI ..)];decide) x1 f1 mx my hx3 hy3 s hs g w0 w hbase hbe hgm h a h1 e1 hcl c d).mono ?_;rintro a c ⟨d,e,f,i,l⟩;rw[Aeb] at l;exact⟨d,_,⟨aB,_,_,_,_,_,_,rfl,(f 0).1,(f 1).1,(f 0).2,(f 1).2,fun _=>b,by simp,by simp⟩,i,l⟩
end
end
section
def lQ(L:List (Array aq)):List aq:=L.flatMap (·.toList)
def BE{n}:∀{L:List (Array aq)},(∀a∈L,a.size=n)->(lQ L).length=L.length*n
 |[],_=>by simp[lQ]
 |a::L,b=>by
  have c:=BE (L:=L) (n:=n) fun d e=>b d (by simp[e])
  unfold lQ at*;simp only[gL,aJ,cj,b a dS,c,List.length_cons,mj];omega
def Ev{n}:∀{L:List (Array aq)},(∀a∈L,a.size=n)->∀{k:Nat}{m:Array aq},L[k]?=M m->∀b,b<n->(lQ L)[n*k+b]?=m[b]?
 |[],_,_,_,a,_,_=>by simp at a
 |a::L,b,0,c,d,e,f=>by
  simp only[List.getElem?_cons_zero,bq] at d;subst d;unfold lQ;have c:=b a dS;rw[gL,bo (by simp[c];omega),Nat.mul_zero,oD,vp]
 |a::L,b,c+1,d,e,f,g=>by
  have h:=b a dS;have i:=Ev (L:=L) (fun l o=>b l (by simp[o])) (k:=c) (m:=d) (jP e) f g;unfold lQ at*;rw[gL,aU (by simp[h,zS];omega),<-i];congr 1;simp only[cj,h,zS];omega
def Hl(L a):lQ (L++[a])=lQ L++a.toList:=by simp[lQ]
structure jW(w:T)(base:Nat)(e:aR)(n:Nat)(v:aq)(L:List (Array aq)):Prop where
 own:w.ownsRow base e n v L.length (lQ L)
 k:∀a∈L,a.size=n
def jW.nil(w base e n):jW w base e n (af S 0 0) []:=⟨World.ownsRow_nil _ _ _ _,by simp⟩
section
variable {w w':T} {base:Nat} {e:aR} {n:Nat} {v:aq} {L:List (Array aq)}
def ko{a b}(c:w.ownsRow base e n v a b)(d:∀f,v.ownBlock=M f->f<w.heap.size->w'.heap[f]?=w.heap[f]?):w'.ownsRow base e n v a b:=by
 let ⟨f,g⟩:=c;refine⟨f,?_⟩;rcases g with h|⟨i,l,o,rfl,p,q,r⟩
 ·exact .inl h
 ·refine .inr ⟨i,l,o,rfl,p,?_,r⟩
  rw[d i rfl ((eJ.1 q).1)];exact q
def jW.ext(a:jW w base e n v L)(b:bD w w'):jW w' base e n v L:=⟨ko a.own fun c _ d=>b.block c d,a.k⟩
instance {w w' x1 x2 x3 x4 x5}:Tr w w' (jW w x1 x2 x3 x4 x5) (jW w' x1 x2 x3 x4 x5):=⟨fun hb h=>jW.ext h hb⟩
def jW.alloc(a:jW w base e n v L)(o):jW (w.alloc o) base e n v L:=a.ext (jd)
def jW.rows(a:jW w base e n v L)(b:L≠[]):∃c d,v=af (M ⟨c,0,S⟩) L.length d/\base<=c/\L.length<=d/\mE w c 0 n L:=by
 let ⟨⟨c,d⟩,f⟩:=a;rcases d with⟨_,a⟩|⟨c,g,h,rfl,i,l,o,_,p,q⟩
 ·exact absurd (List.eq_nil_of_length_eq_zero a) b
 ·refine⟨c,g,rfl,i,o,h,e,l,fun a b d=>?_⟩
  have c:=(aP.1 d).1;have c:=f b (bg d)
  have b:n*a+n<=h.size:=by
   have b:(a+1)*n<=g*n:=fH n O;rw[p];rw[mj,Vi,dh a n] at b;exact b
  refine⟨c,?_,by omega⟩;apply Array.ext_getElem?;intro b;rw[Array.getElem?_extract]
  by_cases c:b<n
  ·rw[if_pos O,<-Ev f d b c,<-q]
   have c:n*a+b<L.length*n:=by
    have b:(a+1)*n<=L.length*n:=fH n O;rw[mj,Vi,dh a n] at b;omega
   rw[List.getElem?_take_of_lt c,vp,oD]
  ·rw[if_neg O,Array.getElem?_eq_none O]
def jW.len(a:jW w base e n v L):∃b c,v=af b L.length c/\L.length<=c:=by
 rcases a.own.2 with⟨rfl,b⟩|⟨c,d,f,rfl,_,_,g,_⟩
 ·exact⟨S,0,by rw[b],by omega⟩
 ·exact⟨_,d,rfl,g⟩
end
def iX{w:T}{base a e n b v c}(d:w.ownsRow base e n v b c)(f:a<=base):w.ownsRow a e n v b c:=by
 let ⟨g,h⟩:=d;refine⟨g,?_⟩;rcases h with i|⟨l,o,p,rfl,q,r⟩
 ·exact .inl i
 ·exact .inr ⟨l,o,p,rfl,aY f q,r⟩
def mN{b c d f g w h}(l:f.guard=S)(n o p)
  (q:f.op=.call {callee:=.builtin .append,args:=#[n,o],argTypes:=#[p,p]})(e r s t)(u:b.underlying p=M (.slice e))(x:(b.info? e).map (fun i=>(i.zero,i.size,i.bytes))=M (M r,s,t))(y:r.cells.size=s)(z:0<s)(a1:t<=100000)
  {base v L}(H:g.eval n=v)(a5:jW w base e s v L)(a:L.length<=100000)(a4:base<=w.heap.size)(U V)(W:g.eval o=af (M ⟨U,0,S⟩) 1 1)(a0:Bx w U e V)(a3:V.size=s)(Y:V.all (·.oneCell')=aB)
  (a2:∀a6 w',jW w' base e s a6 (L++[V])->bj base w w'->w.grownBy w' v.ownBlock->cG b c h d (g.put f.dst a6) w'):cG b c h (f::d) g w:=by
 refine uh w (p:=fun _=>True) l n o p q e r s t u x y z base v L.length (lQ L) H a5.own _ 1 1 V.toList W ⟨by simp[a3],fun _=>⟨U,0,rfl,trivial,a0.lt,fun a v b=>?_⟩⟩ (fun c d=>(bG.1 Y) c (jP d)) (by unfold maxLen;omega) ?_ a4 ?_
 ·rw[oD]
  exact a0.cell a (jP b)
 ·exact aY (fo (show L.length+1<=100001 by omega) a1) dD
 ·intro a w' b c _
  refine a2 a w' ⟨by rw[Hl,aJ];exact b,fun d f=>?_⟩ ?_ c
  ·rw[dG,dJ] at f
   rcases f with a|rfl
   ·exact a5.k d a
   ·exact a3
  ·refine yM (aM _ _) c a4 fun a b=>?_
   rcases a5.own.2 with⟨rfl,_⟩|⟨a,c,d,rfl,f,_⟩
   ·simp[kC] at b
   ·simp only[kC,bq] at b
    omega
end
def PrW(a:dM)(b:Nat)(c:T)(d i:aq)(wr:T):Prop:=
 ∃(e:Nat)(f:List Mb),e<=2/\i=J E (e:Int)/\jW wr b 280 408 d (f.map qE)/\f.length=e/\(∀g∈f,zM a g)/\bD c wr
def DrW(a:dM)(b:Nat)(c d e:T)(f:List Mb)(g i:aq)(wr:T):Prop:=
 (i=J E 0/\jW d b 280 408 g (f.map qE)/\wr=e)\/(i=J E 1/\∃h,zM a h/\jW wr b 280 408 g ((f++[h]).map qE)/\bD c wr)
def Aeo(a:dM)(b:T)(c:Ending)(d:T):Prop:=∃(e:aq)(f:List Mb),c=aK e/\jW d b.heap.size 280 408 e (f.map qE)/\1<=f.length/\f.length<=2/\(∀g∈f,zM a g)/\bD b d
def Is{a b c d}{e:T}{f}(h:c.guard=S)(i l)(n:c.op=.store 435 i l)(o)(p:e.heap.size=o){g}(q:g.size=2)(r s)(t:r.oneCell'=aB)(u:s.oneCell'=aB)
  (v:d.eval i=aD (M ⟨o,0,S⟩))(w:d.eval l=aG #[r,s])(x:cG aE a f b (d.put c.dst sJ) (e.alloc (az #[r,s] 435))):cG aE a f (c::b) d (e.alloc (az g 435)):=
 dd h 435 i l n o p (vs:=#[r,s]) dK (oz q) (by simp[t,u]) v w x
def jW.ZI{a b c d e f g}(h:jW a b d e f g)(i:c<=b):jW a c d e f g:=⟨iX h.own i,h.k⟩
def DW{a:Mb}(b:a.A):(aE.info? 280).map (·.size)=M a.cells.size:=by rw[da b];exact jL
def LD(a):0+(K4 a).cells.size<=(xP iA).size:=by rw[da (MZ a),xf fG];decide
def Ur{a}(b:a.A):0+408<=(xP a).size:=by rw[xf b];decide
def zMb:(aG iA.cells).cells.size=408:=da fG
def UG(a b):(#[a,b]:Array aq).extract 0 (0+2)=#[a,b]:=rfl
def Rb(a b):(#[a,b]:Array aq).size=2:=rfl
def XI:(aE.info? 435).map (·.size)=M 2:=dK
def Fz(r:Nat)(s:dM)(a:s.h.ty=2)(b:FV)(c:Fr)(d e:Nat)(f:d<=3)(g:e<=3)(h:St)(i:h.A)(l:T)(n:Kb l r s)(o:Fv l b c)(p:ox c)(q:GQ l s):
  aT aE 299 #[aD (M ⟨r,0,S⟩),b.val,J E d,J E e,h.val] l (Aeo s l):=by
 let ⟨t,u⟩:=aQ n a;let ⟨v,w⟩:=aX l.heap.size;have x:=aH w;let ⟨y,z⟩:=aX ([(338,#[aD (M ⟨r,0,S⟩)]),(63,(au b)),(3,#[J E d]),(3,#[J E e]),(324,(aS E h.l))]);let ⟨H,U⟩:=aX (((((l.alloc (az #[aD (M ⟨r,0,S⟩)] 338)).alloc (az (au b) 63)).alloc (az #[J E d] 3)).alloc (az #[J E e] 3)).alloc (az (aS E h.l) 324));have V:=Abd l v w z U;have W:=TX z 5;have Y:=BQ l v z;have a0:=Du l v z;have a1:=Ln l v z;have a2:=Jp l v z;have a3:=Lm l v z;have a4:=Ll y x;obtain⟨a5,a6⟩:=aQ (show Ph H v r b d e h from⟨Y.o _ V.o,a0.o _ V.o,a1.o _ V.o,a2.o _ V.o,a3.o _ V.o⟩) (a4.o _ V.o);clear z;let ⟨z,a7⟩:=aX (Dx (Fn.func 317) #[] #[aD (M ⟨v,0,S⟩),aD (M ⟨v+1,0,S⟩),aD (M ⟨v+1+1,0,S⟩),aD (M ⟨v+1+1+1,0,S⟩),aD (M ⟨v+1+1+1+1,0,S⟩)]);let ⟨a8,a9⟩:=aX (Dx (Fn.func 319) #[] #[aD (M ⟨v,0,S⟩),aD (M ⟨v+1,0,S⟩),aD (M ⟨v+1+1,0,S⟩),aD (M ⟨v+1+1+1,0,S⟩),aD (M ⟨v+1+1+1+1,0,S⟩)]);let ⟨aa,ab⟩:=aQ a7 a9;have ac:∀ad,(eT 435 (aG #[z,a8]) (J E 0)).run aE ad=.ok z ad:=by rw[a7,a9];intro ae;kernel_rfl
 have ad:∀ae,(eT 435 (aG #[z,a8]) (J E 1)).run aE ae=.ok a8 ae:=by rw[a7,a9];intro ag;kernel_rfl
 let ⟨ae,ag⟩:=aX (H.alloc (az #[z,a8] 435));have ah:=aH (show Bx ae H.heap.size 435 #[z,a8] by rw[ag];exact jR _ _ _);have ai:=Gl ag;let ⟨aj,al⟩:=aX ae.heap.size;have am:=aH al;let ⟨ap,ar⟩:=di ai a6 a5;obtain⟨ax,ay,aV⟩:=bh (show l.heap.size<=aj by rw[al];exact ap.o.size) (fun b0 b1 b2 (b3:bD ae b1) (b4:b0=b1.heap.size) b5 b6=>Y9 r s b0 b0 b c d e f g h i v b1 b2 b4 b5 (aw _) ((n.ext ap.o).ext b3) ((o.ext ap.o).ext b3) p (ar.o.ext b3) ((q.ext ap.o).ext b3) b6) (fun b7 b8 b9 (ba:bD ae b8) (bb:b7=b8.heap.size) bc hbk bd=>Y8 r s b7 b7 b c d e f g h i v b8 b9 bb bc (aw _) ((n.ext ap.o).ext ba) ((o.ext ap.o).ext ba) p (ar.o.ext ba) ((q.ext ap.o).ext ba) hbk bd);unfold St.val;go_enter func299,ntmps299;go_upto_region 1 with fail;refine mr U ?_;rw[<-w];clear U w;go_upto_region 2 with refine Is rfl (aI 11) (aI 20) rfl _ rfl dS _ _ rfl rfl rfl rfl ?_;change Code.wp _ _ _ _ (H.alloc (az #[Dx (Fn.func 317) #[] #[aD (M ⟨v,0,S⟩),aD (M ⟨v+1,0,S⟩),aD (M ⟨v+1+1,0,S⟩),aD (M ⟨v+1+1+1,0,S⟩),aD (M ⟨v+1+1+1+1,0,S⟩)],Dx (Fn.func 319) #[] #[aD (M ⟨v,0,S⟩),aD (M ⟨v+1,0,S⟩),aD (M ⟨v+1+1,0,S⟩),aD (M ⟨v+1+1+1,0,S⟩),aD (M ⟨v+1+1+1+1,0,S⟩)]] 435));rw[<-a7,<-a9,<-ag];clear ag a7 a9;have w:=aH (bD.refl ae);go_wp2_with refine bA dW 435 (aI 11) rfl H.heap.size 0 2 rfl _ _ _ _ ah.o (UG z a8) (yD Rb) rfl underlying435 XI ?_
 go_loopw [12,22] (fun U a7 wr=>PrW s aj ae U a7 wr) (fun _ a9 _=>2-(intOf a9).toNat)
 case atStart=>exact⟨0,[],by omega,rfl,jW.nil _ _ _ _,rfl,by simp,w.o⟩
 case round=>
  obtain⟨U,a7,a9,rfl,ag,b0,b1,b2⟩:=hrel;let ⟨b3,b4,b5,b6⟩:=dq ag b0 b1 b2;clear b0;generalize wr=b0 at*
  have b7:=(ar.o.ext b6.o).b0.cell 0 (v:=aD (M ⟨r,0,S⟩)) rfl
  by_cases b8:U<2
  ·obtain rfl|rfl:U=0\/U=1:=O
   ·go_upto_region 8 with refine Cv rfl (M 15) rfl rfl ?_
    try simp only[sZ,ak]
    let ⟨b9,ba,bb,bc,bd,be⟩:=mY b0 (xP iA) 436;have bf:=aH (show bj b9 b0 ba by rw[bb];exact bd);have bi:=mX bd b6;have bk:=aH bb;rw[<-bc,<-bb];clear bc bb;have bb:=(ar.o.ext bi.o).b0.cell 0 (v:=aD (M ⟨r,0,S⟩)) rfl;have bc:=aH (kJ r s (.inr u.o) ba (t.o.ext (ap.o.trans bi.o)));rw[u.o,show JA 2=1 from rfl] at bc;go_wp2_with fail;refine sQ bc.o ?_;go_wp2_with fail
    go_loopw [12,35] (fun bl bn br=>DrW s aj ae b0 ba a7 bl bn br) (fun _ bs _=>1-(intOf bs).toNat)
    case atStart=>exact .inl ⟨rfl,b3.o,rfl⟩
    case round=>
     rcases hrel with⟨rfl,bl,rfl⟩|⟨rfl,bn,br,bl,bs⟩
     ·have bt:=aH bl
      go_upto_region 12 with(first|(refine H8 dW _ (aI 40) rfl rfl av rfl ?_)|(refine cD dW 280 (aI 42) (aI 41) rfl b9 0 ((K4 av).cells) rfl rfl _ _ (xP (K4 av)) be.o (Zt av) (DW (MZ _)) (LD _) (Mb.one _) ?_));obtain⟨bu,bv⟩:=aQ (be.o.row (xP (K4 av))) (show bj b9 b0 (wr.setRow b9 (xP (K4 av))) from aO bf.o (aw _));generalize wr.setRow b9 (xP (K4 av))=bx at*
      have bz:=bu.o.cell 1 (Us av);have bC:=bu.o.frozen 1;have bK:=bu.o.lt;go_upto_region 13 with fail;obtain⟨bL,bR⟩:=aQ (show Bx (bx.setCell ⟨b9,1,S⟩ (ao aB)) b9 436 (xP (Mc av 0 0 0 0 0 0)) by rw[<-Zs];exact bu.o.L 1 _) (show bj b9 b0 (bx.setCell ⟨b9,1,S⟩ (ao aB)) from bv.o.setCell (by show b9<=b9;exact aw _) _);generalize bx.setCell ⟨b9,1,S⟩ (ao aB)=bU at*
      have ba:=aa.o;subst ba;go_wp2_with fail;refine mR (ay.o b9 b0 bU b6.o bk.o bR.o bL.o) fun ba ⟨bb,bc,bd,be⟩=>?_
      have bf:bD b0 ba:=by rw[bk.o] at bd;exact bd
      let ⟨bd,bi⟩:=aQ bc be;have bc:=mX bf bt;have be:=aH bf;obtain⟨bf,bk⟩:=aQ (show(a7.map qE).length<=100000 by rw[cX,b4.o];decide) (show aj<=(ba.alloc (az bb.cells 280)).heap.size by have:=be.o.size;have:=b6.o.size;rw[am.o];simp;omega);go_wp2_with (first|(refine lS 280 55 b9 0 bi.o (Zr bd.o.ok) (Ur bd.o.ok) ?_)|(refine jE rfl 267 (aI 56) rfl 280 bb.cells 408 (aG iA.cells) tk Cg zMb (da bd.o.ok) dD dD _ rfl rfl ?_)|(at_builtin;go_must (refine mN (base:=aj) rfl (aI 53) (aI 57) 267 rfl 280 (aG iA.cells) 408 3200 tk Cf zMb dD dD rfl (bc.o.alloc _) bf.o bk.o _ bb.cells rfl (jR _ _ _) (da bd.o.ok) (Mb.one bb) ?_;intro bt w9 ho9 hb9 _)));obtain⟨b9,bc⟩:=aQ ho9 (show bj aj ae w9 from(show bj aj ae ba by rw[am.o];exact b6.o.trans be.o).trans (((aM _ _).alloc (by have:=be.o.size;have:=b6.o.size;rw[am.o];omega) _).trans hb9));have ba:=aH (show bD ae w9 by have:=bc.o;rw[am.o] at this;exact this);go_wp2_with fail;exact⟨.inr ⟨rfl,bb,bd.o,by rw[fY];exact b9.o,ba.o⟩,by simp[intOf]⟩
     ·let ⟨b9,ba,bb⟩:=bh bl bs br
      have bc:=(ar.o.ext ba.o).b0.cell 0 (v:=aD (M ⟨r,0,S⟩)) rfl;have bc:=aH (kJ r s (.inr u.o) wr (t.o.ext (ap.o.trans ba.o)));rw[u.o,show JA 2=1 from rfl] at bc;go_wp2_with fail;refine sQ bc.o ?_;go_wp2_with fail
      exact⟨⟨1,a7++[bn],by omega,rfl,b9.o,by rw[aJ,b4.o];rfl,fun bc bd=>by
       rw[dG,dJ] at bd;rcases bd with b9|rfl
       ·exact b5.o bc b9
       ·exact bb.o,ba.o⟩,by simp[intOf]⟩
   ·cases hbk:(s.s.B&&decide (s.h.st=3)) with
    |false=>
     have b9:=aH hbk;go_wp2_with fail;refine sQ (uI r s b0 (t.o.ext (ap.o.trans b6.o))) ?_;rw[b9.o];go_wp2;go_ret;exact⟨_,a7,rfl,jW.ZI b3.o ax.o,by have:=b4.o;omega,by have:=b4.o;omega,b5.o,ap.o.trans b6.o⟩
    |true=>
     have b9:=aH hbk;go_wp2_with fail;refine sQ (uI r s b0 (t.o.ext (ap.o.trans b6.o))) ?_;rw[b9.o];go_upto_region 8 with refine Cv rfl (M 15) rfl rfl ?_
     try simp only[sZ,ak]
     let ⟨ba,bb,bc,bd,be,bf⟩:=mY b0 (xP iA) 436;have bi:=aH (show bj ba b0 bb by rw[bc];exact be);have bk:=mX be b6;have bl:=aH bc;rw[<-bd,<-bc];clear bd bc;have bc:=(ar.o.ext bk.o).b0.cell 0 (v:=aD (M ⟨r,0,S⟩)) rfl;have bd:=aH (kJ r s (.inr u.o) bb (t.o.ext (ap.o.trans bk.o)));rw[u.o,show JA 2=1 from rfl] at bd;go_wp2_with fail;refine sQ bd.o ?_;go_wp2_with fail
     go_loopw [12,35] (fun bn br bs=>DrW s aj ae b0 bb a7 bn br bs) (fun _ bt _=>1-(intOf bt).toNat)
     case atStart=>exact .inl ⟨rfl,b3.o,rfl⟩
     case round=>
      rcases hrel with⟨rfl,bn,rfl⟩|⟨rfl,br,bs,bn,bt⟩
      ·have bu:=aH bn
       go_upto_region 12 with(first|(refine H8 dW _ (aI 40) rfl rfl aB rfl ?_)|(refine cD dW 280 (aI 42) (aI 41) rfl ba 0 ((K4 aB).cells) rfl rfl _ _ (xP (K4 aB)) bf.o (Zt aB) (DW (MZ _)) (LD _) (Mb.one _) ?_));obtain⟨bv,bx⟩:=aQ (bf.o.row (xP (K4 aB))) (show bj ba b0 (wr.setRow ba (xP (K4 aB))) from aO bi.o (aw _));generalize wr.setRow ba (xP (K4 aB))=bz at*
       have bC:=bv.o.cell 1 (Us aB);have bK:=bv.o.frozen 1;have bL:=bv.o.lt;go_upto_region 13 with fail;obtain⟨bR,bU⟩:=aQ (show Bx (bz.setCell ⟨ba,1,S⟩ (ao aB)) ba 436 (xP (Mc aB 0 0 0 0 0 0)) by rw[<-Zs];exact bv.o.L 1 _) (show bj ba b0 (bz.setCell ⟨ba,1,S⟩ (ao aB)) from bx.o.setCell (by show ba<=ba;exact aw _) _);generalize bz.setCell ⟨ba,1,S⟩ (ao aB)=bV at*
       have a:=ab.o;subst a;go_wp2_with fail;refine mR (aV.o ba b0 bV b6.o bl.o bU.o b9.o bR.o) fun a ⟨b,c,d,e⟩=>?_
       have f:bD b0 a:=by rw[bl.o] at d;exact d
       let ⟨d,g⟩:=aQ c e;have c:=mX f bu;have e:=aH f;obtain⟨f,h⟩:=aQ (show(a7.map qE).length<=100000 by rw[cX,b4.o];decide) (show aj<=(a.alloc (az b.cells 280)).heap.size by have:=e.o.size;have:=b6.o.size;rw[am.o];simp;omega);go_wp2_with (first|(refine lS 280 55 ba 0 g.o (Zr d.o.ok) (Ur d.o.ok) ?_)|(refine jE rfl 267 (aI 56) rfl 280 b.cells 408 (aG iA.cells) tk Cg zMb (da d.o.ok) dD dD _ rfl rfl ?_)|(at_builtin;go_must (refine mN (base:=aj) rfl (aI 53) (aI 57) 267 rfl 280 (aG iA.cells) 408 3200 tk Cf zMb dD dD rfl (c.o.alloc _) f.o h.o _ b.cells rfl (jR _ _ _) (da d.o.ok) (Mb.one b) ?_;intro i w9 ho9 hb9 _)));obtain⟨c,f⟩:=aQ ho9 (show bj aj ae w9 from(show bj aj ae a by rw[am.o];exact b6.o.trans e.o).trans (((aM _ _).alloc (by have:=e.o.size;have:=b6.o.size;rw[am.o];omega) _).trans hb9));have a:=aH (show bD ae w9 by have:=f.o;rw[am.o] at this;exact this);go_wp2_with fail;exact⟨.inr ⟨rfl,b,d.o,by rw[fY];exact c.o,a.o⟩,by simp[intOf]⟩
      ·let ⟨a,b,c⟩:=bh bn bt bs
       have d:=(ar.o.ext b.o).b0.cell 0 (v:=aD (M ⟨r,0,S⟩)) rfl;have d:=aH (kJ r s (.inr u.o) wr (t.o.ext (ap.o.trans b.o)));rw[u.o,show JA 2=1 from rfl] at d;go_wp2_with fail;refine sQ d.o ?_;go_wp2_with fail
       exact⟨⟨2,a7++[br],by omega,rfl,a.o,by rw[aJ,b4.o];rfl,fun d e=>by
        rw[dG,dJ] at e;rcases e with a|rfl
        ·exact b5.o d a
        ·exact c.o,b.o⟩,by simp[intOf]⟩
  ·have a:U=2:=O
   subst a;go_wp2;go_ret;exact⟨_,a7,rfl,jW.ZI b3.o ax.o,by have:=b4.o;omega,by have:=b4.o;omega,b5.o,ap.o.trans b6.o⟩
def DfW(a:T)(b i:aq)(wr:T):Prop:=∃(c:Nat)(d:Int),c<=3/\i=J E (c:Int)/\b=J E d/\0<=d/\d<=65280*c/\bD a wr
def DgW(a:Nat)(b:Int)(c:T)(d i:aq)(wr:T):Prop:=∃(e:Nat)(f:Int),e<=a/\i=J E (e:Int)/\d=J E f/\0<=f/\f<=b+255*e/\bD c wr
def PlP(a:T)(b c:aq):Prop:=∃d e f g h i l n,b=af (M ⟨d,e,S⟩) (l:List Int).length f/\c=af (M ⟨g,h,S⟩) (n:List Int).length i/\Vx a d e l/\Vx a g h n/\l.length=n.length/\l.length<=256
def Fv.pls{a d e h i}(b:Fv a d h)(c:Fv a e i)(f:ox h)(g:ox i):PlP a (af d.ya d.yn d.yc) (af e.ya e.yn e.yc)/\PlP a (af d.ua d.un d.uc) (af e.ua e.un e.uc)/\PlP a (af d.va d.vn d.vc) (af e.va e.vn e.vc):=by
 let ⟨⟨a,l,n,o,p,q,r,s,t,u,v,w,x⟩,_⟩:=b;let ⟨⟨a,b,l,n,o,p,q,r,s,t,y,z,H⟩,_⟩:=c;let ⟨a,b,c,l,n,o,p,q,r,s,U⟩:=d;let ⟨a,b,c,d,l,n,o,p,q,r,s⟩:=e;simp only[FV.val,qB,sX,oY,dt,sI] at u t;obtain⟨_,_,⟨rfl,rfl,rfl⟩,⟨rfl,rfl,rfl⟩,⟨rfl,rfl,rfl⟩,_⟩:=u;obtain⟨_,_,⟨rfl,rfl,rfl⟩,⟨rfl,rfl,rfl⟩,⟨rfl,rfl,rfl⟩,_⟩:=t;have a:=f.Y;have b:=g.Y;have c:=f.U;have d:=g.U;have e:=f.V;have l:=g.V;refine⟨?_,?_,?_⟩
 ·obtain⟨a,b,rfl,rfl,c⟩:=v.ZK O
  obtain⟨d,e,rfl,rfl,f⟩:=y.ZK O;exact⟨a,b,_,d,e,_,h.Y,i.Y,rfl,rfl,c,f,by omega,by omega⟩
 ·obtain⟨a,b,rfl,rfl,c⟩:=w.ZK O
  obtain⟨d,e,rfl,rfl,f⟩:=z.ZK O;exact⟨a,b,_,d,e,_,h.U,i.U,rfl,rfl,c,f,by omega,by omega⟩
 ·obtain⟨a,b,rfl,rfl,c⟩:=x.ZK O
  obtain⟨d,e,rfl,rfl,f⟩:=H.ZK O;exact⟨a,b,_,d,e,_,h.V,i.V,rfl,rfl,c,f,by omega,by omega⟩
def Ahx(c d e f g h)(b:Nat)(a:b<3):∃i l:Option Addr×Nat×Nat,((i=c/\l=d)\/(i=e/\l=f)\/(i=g/\l=h))/\∀n,(eT 438 (aG #[af c.1 c.2.1 c.2.2,af d.1 d.2.1 d.2.2,af e.1 e.2.1 e.2.2,af f.1 f.2.1 f.2.2,af g.1 g.2.1 g.2.2,af h.1 h.2.1 h.2.2]) (J E (b:Int))).run aE n=.ok (aG #[af i.1 i.2.1 i.2.2,af l.1 l.2.1 l.2.2]) n:=by
 obtain rfl|rfl|rfl:b=0\/b=1\/b=2:=O
 ·exact⟨c,d,.inl ⟨rfl,rfl⟩,fun a=>by kernel_rfl⟩
 ·exact⟨e,f,.inr (.inl ⟨rfl,rfl⟩),fun a=>by kernel_rfl⟩
 ·exact⟨g,h,.inr (.inr ⟨rfl,rfl⟩),fun a=>by kernel_rfl⟩
def GM(e f:FV)(g h:Fr)(i:T)(a:Fv i e g)(b:Fv i f h)(c:ox g)(d:ox h):
  aT aE 300 #[e.val,f.val] i fun l n=>∃o:Int,l=aK (J E o)/\0<=o/\o<=195840/\bD i n:=by
 have l:=aH (a.pls b c d);let ⟨n,o⟩:=aX i.heap.size;let ⟨p,q⟩:=aX ((i.alloc (az (au e) 63)).alloc (az (au f) 63));have r:bD i p:=by rw[q];exact(jd).alloc dS _
 have s:=aH r;have t:Bx p n 63 (au e):=by rw[q,o];exact(jR _ _ _).alloc _
 have u:Bx p (n+1) 63 (au f):=by rw[q,o];exact Bx.D _ _ _ _ dS
 have v:p.cell? ⟨n,2,S⟩=M (.slice e.ya e.yn e.yc):=t.cell 2 rfl;have w:p.cell? ⟨n,3,S⟩=M (.slice e.ua e.un e.uc):=t.cell 3 rfl;have x:p.cell? ⟨n,4,S⟩=M (.slice e.va e.vn e.vc):=t.cell 4 rfl;have y:p.cell? ⟨n+1,2,S⟩=M (.slice f.ya f.yn f.yc):=u.cell 2 rfl;have z:p.cell? ⟨n+1,3,S⟩=M (.slice f.ua f.un f.uc):=u.cell 3 rfl;have H:p.cell? ⟨n+1,4,S⟩=M (.slice f.va f.vn f.vc):=u.cell 4 rfl;clear a b c d r t u;go_enter func300,ntmps300;go_upto_region 1 with fail;refine mr q ?_;rw[<-o];clear q o;go_wp2
 go_loopw [5,27] (fun a b wr=>DfW p a b wr) (fun _ c _=>3-(intOf c).toNat)
 case atStart=>exact⟨0,0,by omega,rfl,rfl,by omega,by omega,bD.refl _⟩
 case round=>
  obtain⟨a,b,c,rfl,rfl,d,o,q⟩:=hrel;have r:=aH q;clear q v w x y z H;have q:E.wrap ((a:Int)+1)=((a+1:Nat):Int):=by rw[show((a+1:Nat):Int)=(a:Int)+1 by omega];exact an _ O
  by_cases t:a<3
  ·let ⟨u,v,w,x⟩:=Ahx (e.ya,e.yn,e.yc) (f.ya,f.yn,f.yc) (e.ua,e.un,e.uc) (f.ua,f.un,f.uc) (e.va,e.vn,e.vc) (f.va,f.vn,f.vc) a t
   dsimp only at x
   have y:PlP i (af u.1 u.2.1 u.2.2) (af v.1 v.2.1 v.2.2):=by
    rcases w with⟨rfl,rfl⟩|⟨rfl,rfl⟩|⟨rfl,rfl⟩
    ·exact l.o.1
    ·exact l.o.2.1
    ·exact l.o.2.2
   let ⟨z,H,U,V,W,Y,a0,a1,a2,a3,a4,a5,a6,a7⟩:=y;rw[a2,a3] at x;obtain⟨a8,a9,aa⟩:=bh (a4.ext s.o) (a5.ext s.o) a6;clear w a2 a3 a6;have w:decide ((a:Int)<3)=aB:=decide_eq_true O;go_upto_region 5 with fail;let ⟨a2,a3⟩:=aX wr.heap.size;let ⟨a6,ab⟩:=aX (wr.alloc (az #[af (M ⟨z,H,S⟩) a0.length U,af (M ⟨V,W,S⟩) a1.length Y] 437));have ac:=DZ ab a3;have ad:=aH (show bD p a6 by rw[ab];exact r.o.trans ((aM _ _).alloc (aw _) _));rw[<-ab,<-a3];clear ab a3 r x;have x:a6.cell? ⟨a2,0,S⟩=M (af (M ⟨z,H,S⟩) a0.length U):=ac.o.cell 0 rfl;have a3:=ac.o.lt;go_wp2
   go_loopw [5,33] (fun ab ae wr=>DgW a0.length b a6 ab ae wr) (fun _ ag _=>a0.length-(intOf ag).toNat)
   case atStart=>exact⟨0,b,by omega,rfl,rfl,d,by omega,bD.refl _⟩
   case round=>
    obtain⟨ab,ae,ag,rfl,rfl,ah,ai,aj⟩:=hrel;have al:=aH aj;have am:wr.cell? ⟨a2,1,S⟩=M (af (M ⟨V,W,S⟩) a1.length Y):=(ac.o.ext aj).cell 1 rfl;have ap:=(ac.o.ext aj).lt;have ar:=a8.o.ext (ad.o.trans aj);have ax:=a9.o.ext (ad.o.trans aj);clear aj x a3;have x:E.wrap ((ab:Int)+1)=((ab+1:Nat):Int):=by rw[show((ab+1:Nat):Int)=(ab:Int)+1 by omega];exact an _ O
    by_cases a3:ab<a0.length
    ·let ⟨aj,_,ay,aV,b0⟩:=ar.at_ ab a3
     let ⟨b1,_,b2,b3,b4⟩:=ax.at_ ab (dU aa.o);have b5:=ar.lt;have b6:=ax.lt;have b7:(ab:Int)<(a1.length:Int):=by have:=aa.o;omega
     have b8:E.wrap aj=aj:=an _ O;have b9:E.wrap b1=b1:=an _ O;have ba:=UM ay aV b2 b3;have bb:E.wrap (ae+max (aj-b1) (-(aj-b1)))=ae+max (aj-b1) (-(aj-b1)):=an _ O;clear ar ax;go_wp2;exact⟨⟨ab+1,ae+max (aj-b1) (-(aj-b1)),by omega,by go_num,rfl,by omega,by omega,al.o⟩,by simp[intOf];omega⟩
    ·have aj:ab=a0.length:=O
     clear ar ax;have ar:=aH aj;have ax:¬(ab:Int)<(a0.length:Int):=O;clear aj;go_wp2;exact⟨⟨a+1,ae,by omega,by go_num,rfl,ah,by have:=ar.o;omega,ad.o.trans al.o⟩,by simp[intOf];omega⟩
  ·obtain rfl:a=3:=O
   go_wp2;go_ret;exact⟨b,rfl,d,by omega,s.o.trans r.o⟩
section
theorem ZE.same{c m a b d}(e:Pa m a)(h:ZE c m b d):ZE c a b d:=by
 have f:∀{g i l n o p q},Rs m g i l n o p q->Rs a g i l n o p q:=fun k=>⟨by rw[e.v];exact k.a,by rw[e.v];exact k.b,by rw[e.v];exact k.c,by rw[e.v];exact k.e,by rw[e.Z];exact k.s,by rw[e.Z];exact k.t⟩
 have g:∀{i l},AZ c m i l->AZ c a i l:=by
  intro n o k;unfold AZ at*;split
  ·rename_i a
   rw[if_pos a] at k;let ⟨a,b,d,i,l,n,o,p⟩:=k;exact⟨a,b,d,i,l,n,f o,⟨by rw[e.fp];exact p.one,by rw[e.fp];exact p.Z,p.r,p.s⟩⟩
  ·rename_i a
   rw[if_neg a] at k;exact f k
 exact⟨by rw[e.u];exact h.u,h.f,h.s,by rw[e.fp];exact h.fp,g h.d0,g h.d1⟩
theorem SO(a)(b:a<6):sP 64 (aF 384 (0:Int)) a=zeros64:=by
 unfold sP zeros64;rw[List.drop_replicate,List.take_replicate];congr 1;omega
section
variable {k:dM} (hk:Cj k) (hty:k.c.ty=2)
include hk
theorem zM.pr{m}(h:zM k m):ZE k.c m aB av:=by
 obtain⟨a,b,c,d,e,f,g,rfl,i,l,n,o,p,q,r⟩:=h.ex;refine⟨rfl,fun _=>⟨rfl,rfl⟩,rfl,fun a=>?_,?_,?_⟩
 ·unfold rq
  rw[hk.B,hk.st];exact p a
 ·unfold AZ
  rw[if_pos rfl];refine⟨b,c,d,e,f,g,⟨rfl,rfl,rfl,rfl,rfl,rfl⟩,⟨fun a=>q a,fun a p=>?_,⟨⟨i.x1,i.x2⟩,⟨i.y1,i.y2⟩,⟨l.x1,l.x2⟩,⟨l.y1,l.y2⟩⟩,⟨n,o⟩⟩⟩;refine r a ?_;unfold im at p;rw[hk.st] at p;simpa using p
 ·unfold AZ
  rw[if_neg dD];exact⟨rfl,rfl,rfl,rfl,rfl,rfl⟩
include hty
theorem zM.mbw{m:Mb}(h:zM k m):K7 k.c m:=by
 have a:=zM.pr hk h;obtain⟨b,c,d,e,f,g,i,rfl,l,n,o,p,q,r,s⟩:=h.ex;refine⟨EI ..,.inr (.inr ⟨rfl,by rw[hty];decide,⟨aB,av,a⟩,?_,?_,DF rfl⟩),?_,DF rfl,rfl⟩
 ·unfold YI
  rw[if_neg (show¬nF (Mc b c d e f g i)=aB by show¬(decide ((2:Int)=1)|| !decide (aF 6 av=aF 6 av))=aB;decide)];exact⟨rfl,rfl⟩
 ·intro a o
  have p:(Mc b c d e f g i).P[a]?=M av:=by
   show(aF 6 av)[a]?=M av;rw[jM,if_pos o]
  rw[p];show M av=M (!decide (sP 64 (aF 384 (0:Int)) a=zeros64));rw[SO a o];simp
 ·intro a b
  have g:a∈[c,d,e,f,0,0,0,0]:=b;simp only[oU,List.mem_nil_iff,or_false] at g;have:=l.x1;have:=l.x2;have:=l.y1;have:=l.y2;have:=n.x1;have:=n.x2;have:=n.y1;have:=n.y2;omega
end
theorem Qt{m:Mb}(h:m.A){a b}(c:a<6)(d:b<a){e}(f:e.length=64):sP 64 (m.oS a e).I b=sP 64 m.I b:=by
 have a:=h.I;unfold sP Mb.oS;dsimp only;rw[aW,Cq (iJ dE),Cp (by rw[jO,dE];omega)];rw[List.drop_take,List.take_take];congr 1;omega
section
variable {m:Mb} (h:m.A) (f1 f2:Fr) (mat:List Int) (q:Int) (alt fd:Bool)
include h
theorem UI:∀a,a<=6->∀b,b<a->(D9 m f1 f2 mat q alt fd a).P[b]?=M (!decide (K5 f1 f2 mat q alt fd b=zeros64))/\sP 64 (D9 m f1 f2 mat q alt fd a).I b=K5 f1 f2 mat q alt fd b
 |0,_,a,b=>by omega
 |a+1,b,c,d=>by
  have b:=FL h f1 f2 mat q alt fd a O;have d:=J7 f1 f2 mat q alt fd a
  by_cases e:c=a
  ·subst e
   refine⟨?_,?_⟩
   ·show((D9 m f1 f2 mat q alt fd c).P.set c _)[c]?=_
    rw[List.getElem?_set_self (iJ b.P)]
   ·exact Hn b O d
  ·let ⟨e,f⟩:=UI a O c O
   refine⟨?_,?_⟩
   ·show((D9 m f1 f2 mat q alt fd a).P.set a _)[c]?=_
    rw[List.getElem?_set_ne O];exact e
   ·exact(Qt b O (show c<a by omega) d).trans f
end
theorem UH{f1 f2 mat q alt fd}:∀a,P8 f1 f2 mat q alt fd a=av->∀b,b<a->K5 f1 f2 mat q alt fd b=zeros64
 |0,_,a,b=>by omega
 |a+1,h,b,c=>by
  simp only[P8,Bool.or_eq_false_iff,Bool.not_eq_false',decide_eq_true_eq] at h
  by_cases c:b=a
  ·subst c;exact h.2
  ·exact UH a h.1 b O
theorem P7{f1 f2 mat q alt fd}:∀a,P8 f1 f2 mat q alt fd a=aB->∃b,b<a/\K5 f1 f2 mat q alt fd b≠zeros64
 |0,h=>by cases h
 |a+1,h=>by
  simp only[P8,Bool.or_eq_true,Bool.not_eq_true',decide_eq_false_iff_not] at h;rcases h with h|h
  ·let ⟨b,c,d⟩:=P7 a h
   exact⟨b,by omega,d⟩
  ·exact⟨a,by omega,h⟩
structure V0(k:dM)(m:Mb):Prop where
 w:K7 k.c m
 sm:∃a,zM k a/\Pa a m
section
variable {k:dM} (hk:Cj k) (hty:k.c.ty=2)
include hk hty
theorem zM.inr{m}(h:zM k m):V0 k m:=⟨zM.mbw hk hty h,m,h,⟨rfl,rfl,rfl,rfl,rfl,rfl⟩⟩
theorem Yu{m}(h:zM k m){a b c f1 f2}(d:Fv a b f1)(e:Fv a c f2)(f:jV k.s)(g:1<=k.q):
  (P8 f1 f2 k.s.R k.q k.h.alt (AH k f1 f2) 6=aB->V0 k (D9 m f1 f2 k.s.R k.q k.h.alt (AH k f1 f2) 6))/\
  (P8 f1 f2 k.s.R k.q k.h.alt (AH k f1 f2) 6=av->V0 k ((D9 m f1 f2 k.s.R k.q k.h.alt (AH k f1 f2) 6).rF av)):=by
 have i:=AS m f1 f2 k.s.R k.q k.h.alt (AH k f1 f2) 6;have l:=zM.mbw hk hty h;have n:=FL l.ok f1 f2 k.s.R k.q k.h.alt (AH k f1 f2) 6 (aw _);have o:=UI l.ok f1 f2 k.s.R k.q k.h.alt (AH k f1 f2) 6 (aw _);have p:E6 (D9 m f1 f2 k.s.R k.q k.h.alt (AH k f1 f2) 6):=NF l.I (OD d e f.R g _ _) 6;have q:=JH m f1 f2 k.s.R k.q k.h.alt (AH k f1 f2) 6;have r:=ZE.same i (zM.pr hk h);have s:m.kind=2:=by obtain⟨t,u,v,w,x,y,z,rfl,_⟩:=h.ex;rfl
 generalize t:D9 m f1 f2 k.s.R k.q k.h.alt (AH k f1 f2) 6=u at*
 have a:FbX u:=fun b c=>by rw[(o b c).1,(o b c).2]
 have b:LO u:=fun c d=>l.vc c (D8 i.v d)
 constructor
 ·intro c
  let ⟨d,e,f⟩:=P7 6 c;refine⟨⟨n,.inr (.inr ⟨i.kind.trans s,by rw[hty];decide,⟨aB,av,r⟩,?_,a,p⟩),b,p,i.delta.trans l.dl⟩,m,h,i⟩;unfold YI
  have c:nF u=aB:=by
   unfold nF
   have:u.P≠aF 6 av:=by
    intro g;have r:=(o d e).1;rw[g,jM,if_pos e] at r;simp at r;exact f r
   rw[decide_eq_false this];simp
  rw[if_pos c,i.delta.trans l.dl,q];exact⟨OS hk f1 f2,by omega,by omega⟩
 ·intro c
  have d:=UH 6 c
  have c:u.P=aF 6 av:=by
   apply List.ext_getElem?;intro e
   by_cases f:e<6
   ·rw[(o e f).1,d e f,jM,if_pos f];simp
   ·rw[de (iJ n.P),de eB]
  have d:Pa m (u.rF av):=⟨i.kind,i.u,i.fp,i.v,i.Z,i.delta⟩;refine⟨⟨Mb.tU n _,.inr (.inr ⟨i.kind.trans s,by rw[hty];decide,⟨aB,av,ZE.same d (zM.pr hk h)⟩,?_,fun e f=>a e f,fun g o=>p g o⟩),fun q r=>b q r,fun t v=>p t v,i.delta.trans l.dl⟩,m,h,d⟩;unfold YI
  have a:¬nF (u.rF av)=aB:=by
   unfold nF;have b:(u.rF av).kind=2:=i.kind.trans s;have d:(u.rF av).P=aF 6 av:=c;rw[b,d]
   decide
  rw[if_neg a];exact⟨rfl,i.delta.trans l.dl⟩
end
def JL(a:T)(k:dM)(b c:Nat):Prop:=∀m,zM k m->∃d,Rp m d b c/\tS a k.c k.rx k.ry k.rz (cM m.Z 0) d
theorem JL.ext{a b k c d}(h:JL a k c d)(e:bD a b):JL b k c d:=fun m f=>by
 let ⟨a,b,c⟩:=h m f;exact⟨a,b,c.ext e⟩
instance {w w' x1 x2 x3}:Tr w w' (JL w x1 x2 x3) (JL w' x1 x2 x3):=⟨fun hb h=>JL.ext h hb⟩
def Ch(a:T)(k:dM)(m:Mb)(b c:Nat):Prop:=∃d,ox d/\AX a k m b c d
theorem V0.Abt{k}(hk:Cj k)(c:jV k.s){a}(d:fD a){e f}(b:JL a k e f){m}(h:V0 k m):Ch a k m e f:=by
 let ⟨a,g,i⟩:=h.sm;let ⟨l,n,o⟩:=b a g;have b:a.kind=2/\a.u=[aB,av]:=by obtain⟨p,q,r,s,t,u,v,rfl,_⟩:=g.ex;exact⟨rfl,rfl⟩
 have a:Rp m l e f:=⟨n.hs,by rw[i.v];exact n.v0,by rw[i.fp,i.v];exact n.v1,by rw[i.fp,i.Z];exact n.fl⟩;refine⟨rP m k.s.R k.q k.h.alt (Ap m l e f) 6,AT (ox.prd a) 6,fun g n=>?_⟩;exact Xc k.c hk.ok k.s c k.h.alt k.q hk.q1 hk.q2 k.rx k.ry k.rz m h.w.ok h.w.fm (i.kind.trans b.1) (i.u.trans b.2) h.w.I l e f g (d.ext n) a (eZ i.Z (o.ext n))
theorem Es{k}(hk:Cj k)(hty:k.c.ty=2)(c:jV k.s){a}(d:fD a){e f}(b:JL a k e f):Ch a k iA e f:=by
 have a:Bw (if im k.c=aB then tG k.c else 0)=Mc av 0 0 0 0 (if im k.c=aB then tG k.c else 0) 0:=rfl
 have g:zM k (Bw (if im k.c=aB then tG k.c else 0)):=by
  rw[a];refine⟨av,0,0,0,0,_,0,rfl,vw.zero,vw.zero,?_,.inl rfl,by simp,by simp,fun _ a=>?_⟩
  ·unfold tG
   split
   ·split
    ·exact .inr rfl
    ·exact .inl rfl
   ·exact .inl rfl
  ·rw[if_neg (by unfold im;rw[hk.st,a];decide)]
 let ⟨a,h,i⟩:=b _ g;have b:cM (Bw (if im k.c=aB then tG k.c else 0)).Z 0=(if im k.c=aB then tG k.c else 0):=rfl;rw[b] at i;exact⟨_,ox.prd h,fun b g=>Xd k.c hk.ok k.s c k.h.alt k.q hk.q1 hk.q2 k.rx k.ry k.rz hty a e f b (d.ext g) h (i.ext g)⟩
theorem I1{k}(hk:Cj k)(b:jV k.s){a}(c:fD a){mx my f1}(d:K7 k.c (zK k f1)):Ch a k (zK k f1) mx my:=by
 have a:=AS zJ f1 (jJ 16 16 128 128 128) k.s.X k.q k.h.alt (AH k f1 (jJ 16 16 128 128 128)) 6;exact⟨rP (zK k f1) k.s.X k.q k.h.alt (jJ 16 16 128 128 128) 6,AT (ox.flat _ _ _) 6,fun e f=>OA k.c hk.ok k.s b k.h.alt k.q hk.q1 hk.q2 k.rx k.ry k.rz (zK k f1) d.ok d.fm a.kind d.I mx my e (c.ext f)⟩
end
def AE:(aE.info? 324).map (·.size)=M 8:=dK
def yQ{c:nt}{d:Array cQ}{e:List cQ}{f:cQ}{g:Act}{h:T}{i:Exit->Act->T->Prop}(s:bP f (xZ d g.tmps)=aB)(t:aR)(u:Gc)(v:f.op=.load t u)(w a off x o:Nat)(r:off=a+x*o)(y:g.eval u=aD (M ⟨w,off,S⟩)){b:List (Array aq)}(n:mE h w a x b){p:Array aq}(q:b[o]?=M p)
  {l:TypeDesc}(z:(match l with| .struct _| .array _ _=>aB|_=>av)=aB)(H:c.underlying t=M l)(U:(c.info? t).map (·.size)=M x)(V:cG c d i e (g.put f.dst (aG p)) h):cG c d i (f::e) g h:=by
 let ⟨a,b,c,d⟩:=n;let ⟨_,a,b⟩:=d o p q;subst r;exact bA s t u v w _ x y _ _ _ _ c a b z H U V
def mE.m{a b c d e}(h:mE a b c d e){g}(i:b≠g)(f):mE (a.setRow g f) b c d e:=by
 let ⟨a,b,c,d⟩:=h;exact⟨a,b,c.m i,d⟩
def ix{a b c d}{e:T}{f}(h:c.guard=S)(i l)(n:c.op=.store 63 i l)(o)(p:e.heap.size=o){g}(q:g.size=5)(r)
  (s:d.eval i=aD (M ⟨o,0,S⟩))(t:d.eval l=r.val)(u:cG aE a f b (d.put c.dst sJ) (e.alloc (az (au r) 63))):cG aE a f (c::b) d (e.alloc (az g 63)):=
 dd h 63 i l n o p (Jd r) (oz q) (FV.one r) s t u
def Wv{a b}{c:Act}{d e f}(n:b.op=.field d e f){g h}(l:c.eval e=g){i}(o:(Ip d g f).run a i=.ok h i):(VI c.eval b).run a i=.ok (.value h) i:=by
 subst l;unfold VI;simp only[n];rw[fT,o];rfl
def KE{b}(e:b.A)(c d a):(Ip 376 (aG (kq b c d)) 1).run aE a=.ok (J E c) a:=by
 have a:(kq b c d)[408]?=M (J E c):=by
  unfold kq;rw[bw,aW,aU (by simp[da e])];simp[da e]
 have b:∀c,(isAgg 3).run aE c=.ok av c:=fun _=>by kernel_rfl
 simp[Ip,run_underlying tX,part,b,go_sem,asAgg,a]
def L6(a:FV)(b:St)(c:Mb)(d:FV):List (aR×Array aq):=[(63,(au a)),(324,(aS E b.l)),(280,iA.cells),(280,c.cells),(63,au d)]
def InW(a:dM)(b:T)(c:Nat)(d:FV)(e:St)(f:Nat)(g:List Mb)(h i:aq)(wr:T):Prop:=
 ∃(l:Nat)(n:Int)(o:Mb)(p:FV),l<=g.length/\i=J E (l:Int)/\h=J E n/\(l=0->n=-1)/\(1<=l->zM a o/\∃q,Fv wr p q/\ox q)/\o.A/\Fm b c (L6 d e o p) wr/\mE wr f 0 408 (g.map qE)
def Aer(a:dM)(b:T)(c:Ending)(d:T):Prop:=∃e,c=aK (aG e.cells)/\V0 a e/\bD b d
def Lw(a:Nat)(b:dM)(c:Cj b)(d:b.h.ty=2)(e:FV)(f:Fr)(g h:Nat)(i:g<=3)(l:h<=3)(n:St)(o:n.A)(p:T)(q:Kb p a b)(r:Fv p e f)(s:ox f)(t:GQ p b)(u:JL p b g h)(v:fD p):
  aT aE 280 #[aD (M ⟨a,0,S⟩),e.val,J E g,J E h,n.val] p (Aer b p):=by
 obtain⟨w,x,y,z,H,U⟩:=ej c (show b.c.ty=2 by rw[c.ty];exact d) q r s o;obtain⟨V,W,Y⟩:=bh (show(aS E n.l).size=8 by rw[bE,kj o]) u v;have a0:=aH q.ok;obtain⟨a1,a2⟩:=aQ (fun a3 (a4:bD p a3)=>Fz a b d e f g h i l n o a3 (q.ext a4) (r.ext a4) s (t.ext a4)) (fun a5 a6 (a7:V0 b a5) (a8:bD p a6)=>V0.Abt c q.ok (v.ext a8) (u.ext a8) a7);let ⟨a3,a4⟩:=aX p.heap.size;have a5:=aH a4;let ⟨a6,a7⟩:=aX (((((p.alloc (az (au e) 63)).alloc (az (aS E n.l) 324)).alloc (az iA.cells 280)).alloc (az iA.cells 280)).alloc (az aC.cells 63));obtain⟨a8,a9,aa,ab,ac,ad⟩:=ej (show Fm p a3 (L6 e n iA aC) a6 by rw[a7];unfold L6;exact((((((Fm.start p a4).push (oz a4) _ _).push (uM a4) _ _).push (uM a4) _ _).push (uM a4) _ _).push (uM a4) _ _)) (fun(ae:T) ag ah (ai:Fm p a3 (L6 e n ag ah) ae)=>show bD p ae by have:=ai.F;rw[a5.o] at this;exact this) (fun(aj:T) al am (ap:Fm p a3 (L6 e n al am) aj)=>show Bx aj a3 63 (au e) from ap.at 0 rfl) (fun(ar:T) ax ay (aV:Fm p a3 (L6 e n ax ay) ar)=>show Bx ar (a3+1) 324 (aS E n.l) from aV.at 1 rfl) (fun(b0:T) b1 b2 (b3:Fm p a3 (L6 e n b1 b2) b0)=>show Bx b0 (a3+1+1) 280 iA.cells from b3.at 2 rfl) (fun(b4:T) b5 b6 (b7:Fm p a3 (L6 e n b5 b6) b4)=>show Bx b4 (a3+1+1+1) 280 b5.cells from b7.at 3 rfl);obtain⟨ae,ag⟩:=aQ (fun(ah:T) ai aj (al:Fm p a3 (L6 e n ai aj) ah)=>show Bx ah (a3+1+1+1+1) 63 (au aj) from al.at 4 rfl) (fun(am:T) ap ar (ax:Fm p a3 (L6 e n ap ar) am)=>show a3+5<=am.heap.size from ax.k);unfold St.val;go_enter func280,ntmps280;go_upto_region 3 with(first|(refine mL rfl (M 10) rfl rfl ?_)|(refine mL rfl (M 11) rfl rfl ?_))
 try simp only[sZ,ak]
 refine mr a7 ?_
 try simp only[dA]
 rw[<-a4];clear a7 a4;go_wp2_with (first|(refine lA 63 6 a3 (aa.o _ _ _ a8.o) (fA e) ?_)|(refine lA 324 9 (a3+1) (ab.o _ _ _ a8.o) V.o ?_));refine(a1.o a6 (a9.o _ _ _ a8.o)).mono ?_;rintro a4 a7 ⟨ah,ai,rfl,aj,al,am,ap,ar⟩;obtain⟨ax,ay,rfl,aV,b0,b1⟩:=aj.rows (by intro b2;have:=congrArg mZ b2;rw[cX,eK] at this;omega);rw[cX] at b0 ⊢;have aj:=mX ar a8;obtain⟨b2,b3,b4,b5⟩:=dq b1 (show a3+1+1+1+1<ax by have:=ag.o _ _ _ a8.o;omega) ap (bZ al am);go_wp2_with fail
 go_loopw [13,25] (fun b6 b7 wr=>InW b p a3 e n ax ai b6 b7 wr) (fun _ b8 _=>ai.length-(intOf b8).toNat)
 case atStart=>exact⟨0,-1,iA,aC,by omega,rfl,rfl,fun _=>rfl,fun b6=>by omega,fG,aj.o,b2.o⟩
 case round=>
  obtain⟨b6,b7,b8,b9,ba,rfl,rfl,bb,bc,bd,be,bf⟩:=hrel;let ⟨bi,bk,bl,bn,br⟩:=dZ bb bc bd be bf
  by_cases bs:b6<ai.length
  ·have bt:ai[b6]?=M ai[b6]:=aA bs
   generalize ai[b6]=bu at*
   obtain⟨bv,bx⟩:=aQ (b4.o bu (bg bt)) (show(ai.map qE)[b6]?=M bu.cells by rw[bN,bt];rfl);have bz:E.wrap ((b6:Int)+1)=((b6+1:Nat):Int):=by rw[show((b6+1:Nat):Int)=(b6:Int)+1 by omega];exact an _ (dU b5.o)
   have bC:=aH (zM.inr w.o x.o bv.o);clear bt;go_upto_region 7 with(first|(refine yQ dW 280 (aI 27) rfl ax 0 _ 408 b6 O rfl br.o bx.o rfl mG jL ?_)|(refine mL rfl (M 15) rfl rfl ?_)|(refine r6 rfl (aI 15) (aI 28) rfl wr.heap.size rfl (da fG) bv.o.ok rfl rfl ?_));let ⟨bt,bK⟩:=aX wr.heap.size;let ⟨bL,bR⟩:=aX (wr.alloc (az bu.cells 280));obtain⟨bU,bV,bY,c0⟩:=dq (show Fm p a3 (L6 e n b8 b9) bL by rw[bR];exact bn.o.alloc _) (show mE bL ax 0 408 (ai.map qE) by rw[bR];exact br.o.ext (jd)) (show Mx bL bt bu by rw[bR];exact Mx.new _ _ bv.o.ok _ bK) (show a3+5<=bt by rw[bK];exact ag.o _ _ _ bn.o);have c1:=GL bR
   try rw[<-bR]
   try rw[<-bK]
   clear bR bK;have bK:=aH (show 1<=b6->zM b b8/\∃bR,Fv bL b9 bR/\ox bR from fun c2=>by obtain⟨c3,c4,c5,c6⟩:=bk.o c2;exact⟨c3,c4,c5.ext c1.o,c6⟩);go_wp2_with refine fM dW (aI 15) rfl rfl bY.o ?_;let ⟨bR,c2,c3⟩:=a2.o bu bL bC.o (a9.o _ _ _ bU.o);refine(rm a b bu bv.o.ok g h bR bL (y.o.ext (a9.o _ _ _ bU.o)) c3).mono ?_;rintro c4 c5 ⟨c6,rfl,c7,c8⟩;have c9:=aH c2;let ⟨ca,cb,cc⟩:=gO c8 bU bV bY;obtain⟨cd,ce⟩:=aQ c7 (show 1<=b6->zM b b8/\∃cf,Fv c5 b9 cf/\ox cf from fun cg=>by obtain⟨ch,ci,ck,cl⟩:=bK.o cg;exact⟨ch,ci,ck.ext c8,cl⟩);go_upto_region 8 with refine ix rfl (aI 16) (aI 33) rfl _ rfl dS c6 rfl rfl ?_
   try simp only[ak]
   let ⟨bK,cf,cg,ch,ci,ck⟩:=mY c5 (au c6) 63;let ⟨cl,cn,co,cp⟩:=nj ci ca cb cc cd;obtain⟨cr,cs⟩:=aQ (show bt<bK by rw[cg];exact cc.o.j.lt) (show 1<=b6->zM b b8/\∃ct,Fv cf b9 ct/\ox ct from fun cu=>by obtain⟨cv,cw,cx,cy⟩:=ce.o cu;exact⟨cv,cw,cx.ext ci,cy⟩);rw[<-ch,<-cg];clear ch cg;have cg:a<cf.heap.size:=(y.o.ext (a9.o _ _ _ cl.o)).j.lt;refine aL 99 (fun ch=>Fm p a3 (L6 e n b8 b9) ch/\Mx ch bt bu/\Bx ch bK 63 (au c6)) rfl (fun ct cu=>?_);obtain⟨ch,cv,cw⟩:=bh (show Fm p a3 (L6 e n b8 b9) cf/\Mx cf bt bu/\Bx cf bK 63 (au c6) from⟨cl.o,co.o,ck.o⟩) (show Fm p a3 (L6 e n b8 b9) ct/\Mx ct bt bu/\Bx ct bK 63 (au c6) from⟨cl.o.ext cu,co.o.ext cu,ck.o.ext cu⟩) cu;refine gN 0 2 14 ?_;simp only[sZ,ak];refine lF ch 6 a3 e (fun _ cx=>aa.o _ _ _ cx.1) ?_;refine lF ch 16 bK c6 (fun _ cx=>cx.2.2) ?_;refine aN (gN 3 3 11 ?_);simp only[sZ,ak];go_big_quiet_step (fail);refine lR ch 324 9 (a3+1) 0 8 (aS E n.l) (fun _ cx=>qg (ab.o _ _ _ cx.1) V.o) kR AE ?_;refine lR ch 280 15 bt 0 408 bu.cells (fun _ cx=>qg cx.2.1.j (da bv.o.ok)) mG jL ?_;refine aN (gN 8 4 7 ?_);simp only[sZ,ak];iterate 3 (go_big_quiet_step (fail))
   refine lC ch 3 44 a 145 (J E b.q) (fun _ cx=>(y.o.ext (a9.o _ _ _ cx.1)).t 6 rfl) bJ ?_;refine aN (fK 2 6 cv fun cx cy=>?_);simp only[sZ,ak];let ⟨cz,cA⟩:=di cy cv cw;go_wp2_with fail;refine(GM e c6 f bR cx (z.o.ext (a9.o _ _ _ cz.o.1)) (cp.o.ext cA.o) H.o c9.o).mono ?_;rintro cB cC ⟨cE,rfl,_,_,cF⟩;let ⟨cI,cL⟩:=di cF cz cA;go_wp2_with fail;refine fK 6 5 cI fun cN cO=>?_
   simp only[sZ,ak];let ⟨cR,cS⟩:=di cO cI cL;go_wp2_with fail;refine(nI a b w.o.ok n U.o bu bC.o.w cN (y.o.ext (a9.o _ _ _ cR.o.1))).mono ?_;rintro cT cU ⟨cV,rfl,cY⟩;let ⟨d0,d1⟩:=di cY cR cS;go_wp2_with fail;refine T9 7 1 4 ?_;simp only[sZ,ak];refine ei rfl (J E cV) (fun d2=>Wv rfl rfl (KE bv.o.ok cV _ d2)) ?_;refine aN (gT 12 4 0 ?_);refine zI d0 fun d2 d3=>?_
   have d4:=mX d3 d1
   try simp only[ak]
   generalize RI (cE+RI ((RI (cV*b.q)).tdiv 2))=d5;obtain⟨d6,d7,d8,d9,dc,df⟩:=ej (cl.o.ext d4.o) (co.o.ext d4.o) (ck.o.ext d4.o) (cn.o.ext d4.o) (cp.o.ext d4.o) (show 1<=b6->zM b b8/\∃dg,Fv d2 b9 dg/\ox dg from fun dj=>by obtain⟨dk,dl,dm,dn⟩:=cs.o dj;exact⟨dk,dl,dm.ext d4.o,dn⟩)
   by_cases cs:b7<0\/d5<b7
   ·have dg:decide (b7<0)=aB\/(decide (b7<0)=av/\decide (d5<b7)=aB):=by
     by_cases dj:b7<0
     ·exact .inl (decide_eq_true dj)
     ·exact .inr ⟨decide_eq_false dj,decide_eq_true O⟩
    rcases dg with dj|⟨dj,dk⟩
    all_goals
     go_upto_region 10 with fail;refine aL 99 (fun dg=>Mx dg bt bu/\Bx dg bK 63 (au c6)) rfl (fun dl dm=>?_);have dg:=aH (show Mx d2 bt bu/\Bx d2 bK 63 (au c6) from⟨d7.o,d8.o⟩);let ⟨dn,dp,dr,ds,dx⟩:=tN dm d6 d7 d8 d9 dc;refine gN 0 3 3 ?_;simp only[sZ,ak];refine lR dg 280 15 bt 0 408 bu.cells (fun _ dy=>qg dy.1.j (da bv.o.ok)) mG jL ?_;refine lF dg 16 bK c6 (fun _ dy=>dy.2) ?_;simp only[sZ,ak];go_big_quiet_step (fail);refine aN (oL 3 2 (fun dy dC=>⟨dp.o.ext dC,dr.o.ext dC⟩) fun dD dK=>?_);simp only[sZ,ak];let ⟨dy,dC,dL,dO,dQ⟩:=tN dK dn dp dr ds dx;refine mK rfl (aI 11) (aI 56) rfl (a3+1+1+1) bv.o.ok ⟨ad.o _ _ _ dy.o,bl.o⟩ rfl rfl ?_;obtain⟨dV,e0,e1,e2,e3⟩:=dZ (show Fm p a3 (L6 e n bu b9) (dD.setRow (a3+1+1+1) bu.cells) from dy.o.set 3 rfl bu.cells) (dC.o.C (k:=a3+1+1+1) (dU c0.o) bu.cells) (dL.o.m (g':=a3+1+1+1) (cs':=bu.cells) (gC c0.o cr.o)) (dO.o.m (g:=a3+1+1+1) (dU b3.o) bu.cells) (dQ.o.row (ad.o _ _ _ dy.o) Mb.noU8 bu.cells);generalize dD.setRow (a3+1+1+1) bu.cells=e4 at*
     refine mn ⟨rfl,oL 4 1 (fun e5 e6=>⟨e0.o.ext e6,e1.o.ext e6⟩) fun e7 e8=>?_⟩;simp only[sZ,ak];let ⟨e5,e6,e9,ea,eb⟩:=tN e8 dV e0 e1 e2 e3;refine bI rfl (aI 12) (aI 57) rfl (a3+1+1+1+1) c6 rfl rfl (ae.o _ _ _ e5.o) (fA _) ?_;obtain⟨ec,ed,ef,eg,ek⟩:=dZ (show Fm p a3 (L6 e n bu c6) (e7.setRow (a3+1+1+1+1) (au c6)) from e5.o.set 4 rfl (au c6)) (e6.o.C (k:=a3+1+1+1+1) (dU c0.o) (au c6)) (e9.o.m (g':=a3+1+1+1+1) (cs':=au c6) (gC c0.o cr.o)) (ea.o.m (g:=a3+1+1+1+1) (dU b3.o) (au c6)) (eb.o.row (ae.o _ _ _ e5.o) (iq b9) (au c6));generalize e7.setRow (a3+1+1+1+1) (au c6)=el at*
     refine mn ⟨rfl,gT 5 1 0 ?_⟩;refine QD (fun bt bx=>⟨ed.o.ext bx,ef.o.ext bx⟩) fun bz bC=>?_
     let ⟨bt,bx,bz⟩:=gO bC ec eg ek
     try simp only[ak]
     go_wp2_with fail;exact⟨⟨b6+1,d5,bu,c6,by omega,by go_num,rfl,fun bC=>by omega,fun _=>⟨bv.o,bR,bz.o,c9.o⟩,bv.o.ok,bt.o,bx.o⟩,by simp[intOf];omega⟩
   ·have bt:decide (b7<0)=av:=decide_eq_false O
    have bt:decide (d5<b7)=av:=decide_eq_false O
    have bt:=aH (show 1<=b6 by
     rcases Nat.eq_zero_or_pos b6 with bu|bu
     ·have:=bi.o bu;omega
     ·exact bu)
    go_wp2_with fail;exact⟨⟨b6+1,b7,b8,b9,by omega,by go_num,rfl,fun bu=>by omega,fun _=>df.o bt.o,bl.o,d6.o,d9.o⟩,by simp[intOf];omega⟩
  ·have bt:b6=ai.length:=O
   have bu:decide ((b6:Int)<(ai.length:Int))=av:=decide_eq_false O;let ⟨bv,bx,bz,bC⟩:=bk.o (dU b5.o);obtain⟨bK,bL,bR,bU,bV⟩:=dZ bv bz bC (Yu w.o x.o bv (z.o.ext (a9.o _ _ _ bn.o)) bz a0.o w.o.q1) (fun bY (c0:bD wr bY) (c1:Mx bY (a3+1+1+1) b8)=>uJ a (a3+1+1+1) b b8 e b9 f bx b.s.R bY ((y.o.ext (a9.o _ _ _ bn.o)).ext c0) ⟨w.o.q1,w.o.q2⟩ c1 ((z.o.ext (a9.o _ _ _ bn.o)).ext c0) (bz.ext c0) H.o bC a0.o.R ((Y.o.ext (a9.o _ _ _ bn.o)).ext c0));let ⟨bY,c0⟩:=aX (D9 b8 f bx b.s.R b.q b.h.alt (AH b f bx) 6);let ⟨c1,c2⟩:=aX (P8 f bx b.s.R b.q b.h.alt (AH b f bx) 6);rw[<-c0,<-c2] at bV bU;have c3:a<wr.heap.size:=(y.o.ext (a9.o _ _ _ bn.o)).j.lt;clear bt c0 c2;go_upto_region 12 with fail;refine aL 8 (fun bt=>Fm p a3 (L6 e n b8 b9) bt) rfl (fun c0 c2=>?_);have bt:=aH bn.o;have c4:=mX c2 bn;have c5:=aH c2;refine gN 0 3 6 ?_;simp only[sZ,ak];go_big_quiet_step (fail);refine lF bt 6 a3 e (fun _ c6=>aa.o _ _ _ c6) ?_;refine lF bt 12 (a3+1+1+1+1) b9 (fun _ c6=>ae.o _ _ _ c6) ?_;refine aN (gT 3 4 2 ?_);refine gN 7 1 1 ?_;simp only[sZ,ak];refine lR bt 24 66 a 75 64 (aS .u8 b.s.R) (fun _ c6=>(y.o.ext (a9.o _ _ _ c6)).R) fV iz ?_;refine aN (fK 8 0 c4 fun c6 c7=>?_);simp only[sZ,ak];let ⟨c8,c9⟩:=di c7 c4 c5;go_wp2_with fail;refine mR (bV.o c6 c9.o ⟨ad.o _ _ _ c8.o,bl.o⟩) fun ca ⟨cb,cc⟩=>?_
   obtain⟨cd,ce,cf⟩:=bh (show bj a3 p ca from fO.G9 cb c8.o.F O (dU (ag.o _ _ _ c8.o))) (show Bx ca (a3+1+1) 280 iA.cells from(ac.o _ _ _ c8.o).G cb O dS) cc;go_wp2_with fail;refine pX fun cg ch=>?_
   have ci:=aH (cd.o.trans (ch.mono (eZ a5.o cd.o.size)));let ⟨ck,cl⟩:=di ch ce cf
   try simp only[ak]
   have cn:=aH (da cl.o.ok);cases c1 with
   |true=>
    have c1:=aH (bU.o.1 rfl);go_wp2_with (first|(refine fM dW (aI 11) rfl rfl cl.o ?_)|(refine mK rfl (aI 10) (aI 69) rfl (a3+1+1) cl.o.ok ⟨ck.o,fG⟩ rfl rfl ?_));exact rR results280 (ck.o.row _) mG (DW cl.o.ok) ⟨bY,rfl,c1.o,by have:=aO (g:=a3+1+1) (cs:=bY.cells) ci.o O;rw[a5.o] at this;rw[a5.o];exact this⟩
   |false=>
    have c1:=aH (bU.o.2 rfl);have co:=cl.o.c4;have cp:=cl.o.j.frozen 4;have cr:=cl.o.j.lt;go_upto_region 15 with fail;obtain⟨cs,ct,cu⟩:=bh (show Mx (cg.setCell ⟨a3+1+1+1,4,S⟩ (ao av)) (a3+1+1+1) (bY.rF av) from⟨by rw[<-Mb.NO cl.o.ok];exact cl.o.j.L 4 _,Mb.tU cl.o.ok _⟩) (ck.o.C (a:=⟨a3+1+1+1,4,S⟩) (by show a3+1+1≠a3+1+1+1;omega) (ao av)) (show bj a3 p (cg.setCell ⟨a3+1+1+1,4,S⟩ (ao av)) from ci.o.setCell (by show a3<=a3+1+1+1;omega) _);generalize cg.setCell ⟨a3+1+1+1,4,S⟩ (ao av)=cv at*
    go_wp2_with (first|(refine fM dW (aI 11) rfl rfl cs.o ?_)|(refine mK rfl (aI 10) (aI 71) rfl (a3+1+1) cs.o.ok ⟨ct.o,fG⟩ rfl rfl ?_));exact rR results280 (ct.o.row _) mG (DW cs.o.ok) ⟨bY.rF av,rfl,c1.o,by have:=aO (g:=a3+1+1) (cs:=(bY.rF av).cells) cu.o O;rw[a5.o] at this;rw[a5.o];exact this⟩
section
section
attribute [local go_sem ↓] kH kI
end
structure vh(a:Nat)(b:T)(c:Fr)(d e f:aq):Prop where
 o1:jX b a 5 d c.Y
 o2:jX b a 5 e c.U
 o3:jX b a 5 f c.V
 s1:Rk d e
 s2:Rk d f
 s3:Rk e f
def Rk.symm{a b}(c:Rk a b):Rk b a:=fun d e f=>c d f e
def vh.ext{a b c d e f g}(h:vh a b d e f g)(i:bj b.heap.size b c):vh a c d e f g:=
 ⟨h.o1.ext i,h.o2.ext i,h.o3.ext i,h.s1,h.s2,h.s3⟩
instance {w w' x0 x2 x3 x4 x5}:Tr w w' (vh x0 w x2 x3 x4 x5) (vh x0 w' x2 x3 x4 x5):=⟨fun hb h=>vh.ext h hb⟩
def vh.low{a b c d e f}(h:vh a b c d e f){g}(i:g.block<a)(l):vh a (b.setCell g l) c d e f:=
 ⟨h.o1.low i l,h.o2.low i l,h.o3.low i l,h.s1,h.s2,h.s3⟩
def vh.pick{a b c d e f}(i:vh a b c d e f)(g)(h:0<(jq c g).length):
  ∃l n,yE g d e f=af (M ⟨l,0,S⟩) (jq c g).length n/\a<=l/\l<b.heap.size/\(jq c g).length<=n/\(∀o p,(jq c g)[o]?=M p->b.cell? ⟨l,o,S⟩=M (J .u8 p))/\(∀q,b.frozen? ⟨l,q,S⟩=av)/\
   ∀n o,n<(jq c g).length->vh a (b.setCell ⟨l,n,S⟩ (J .u8 o)) (uu c g ((jq c g).set n o)) d e f:=by
 unfold yE jq uu at*
 by_cases l:g=4
 ·simp only[if_pos l] at*
  obtain⟨n,o,rfl,p,q,r,s,t⟩:=i.o2.form h;exact⟨n,o,rfl,p,q,r,s,t,fun u v w=>⟨jX.C (a:=⟨n,u,S⟩) i.o1 (fun x=>i.s1 n x rfl) _,i.o2.L u w v,jX.C (a:=⟨n,u,S⟩) i.o3 (fun y=>i.s3 n rfl y) _,i.s1,i.s2,i.s3⟩⟩
 ·simp only[if_neg l] at*
  by_cases n:g=5
  ·simp only[if_pos n] at*
   obtain⟨o,p,rfl,q,r,s,t,u⟩:=i.o3.form h;exact⟨o,p,rfl,q,r,s,t,u,fun v w x=>⟨jX.C (a:=⟨o,v,S⟩) i.o1 (fun y=>i.s2 o y rfl) _,jX.C (a:=⟨o,v,S⟩) i.o2 (fun z=>i.s3 o z rfl) _,i.o3.L v x w,i.s1,i.s2,i.s3⟩⟩
  ·simp only[if_neg n] at*
   obtain⟨a,b,rfl,c,d,e,f,g⟩:=i.o1.form h;exact⟨a,b,rfl,c,d,e,f,g,fun h l n=>⟨i.o1.L h n l,jX.C (a:=⟨a,h,S⟩) i.o2 (fun o=>i.s1 a rfl o) _,jX.C (a:=⟨a,h,S⟩) i.o3 (fun p=>i.s2 a rfl p) _,i.s1,i.s2,i.s3⟩⟩
end
def jX.ge{a b c d e f g}(h:jX a b f (af (M ⟨c,0,S⟩) d e) g):b<=c/\c<a.heap.size:=h.lt c rfl
end Go.Proofs.YtbdhieahnneebaaGreatDoor
namespace Go.Proofs.YtbdhieahnneebaaGreatDoor
open Go.RowKit
def sd(n g h e i o:Nat)(d)(a:n<=64)(b:g<=3)(c:h<=3)(f:e=16*h*n+16*g)(l:i=8*h*(n/2)+8*g)(p:o=n/2):
  aT aE 207 #[J E n,J E g,J E h] d fun q r=>q=aK (fE #[aG #[J E e,J E n,J E 16,J E 16],aG #[J E i,J E o,J E 8,J E 8]])/\bj d.heap.size d r:=by
 have:=n8 n g h d O O O O O O;have a:(16*(h:Int)*(n:Int)+16*(g:Int))=(e:Int):=by rw[f];push_cast;rfl
 have b:(8*(h:Int)*((n:Int)/2)+8*(g:Int))=(i:Int):=by rw[l];push_cast;rfl
 have c:((n:Int)/2)=(o:Int):=by rw[p];push_cast;rfl
 rw[b,a,c] at this;exact this
def KN{p}(a b c d e f g)(h:du p g a b f)(i:b<=c)(l:d<=100000)(n:e<=1000)(o:∀q,q<16->d+q*e+16<=b):
  aT aE 173 #[af a b c,aG #[J E d,J E e,J E 16,J E 16]] g (Rm g (mT f d e 16 16)):=
 qV a b c d e 16 16 f g h i O O O l n o
def D3{p}(a b c d e f g)(h:du p g a b f)(i:b<=c)(l:d<=100000)(n:e<=1000)(o:∀q,q<8->d+q*e+8<=b):
  aT aE 173 #[af a b c,aG #[J E d,J E e,J E 8,J E 8]] g (Rm g (mT f d e 8 8)):=
 qV a b c d e 8 8 f g h i O O O l n o
def Vp(a b c:Nat):Nat:=16*c*a+16*b
def OB(a b c:Nat):Nat:=8*c*(a/2)+8*b
def vu(a:Fr)(b c:Nat):Fr:=⟨16,16,mT a.Y (Vp a.W.toNat b c) a.W.toNat 16 16,mT a.U (OB a.W.toNat b c) (a.W.toNat/2) 8 8,mT a.V (OB a.W.toNat b c) (a.W.toNat/2) 8 8⟩
def N7{f c d e}(a:d<f)(b:e<c):(∀g,g<16->Vp (16*f) d e+g*(16*f)+16<=(16*c)*(16*f))/\(∀h,h<8->OB (16*f) d e+h*(16*f/2)+8<=(8*c)*(8*f)):=by
 constructor
 ·intro a b
  have:=Fa (r:=16*e+a) (R:=16*c) (w:=16*f) (c:=16*d+15) O O;unfold Vp;rw[mj] at this;omega
 ·intro a b
  rw[show 16*f/2=8*f by omega];have:=Fa (r:=8*e+a) (R:=8*c) (w:=8*f) (c:=8*d+7) O O;unfold OB;rw[show 16*f/2=8*f by omega];rw[mj] at this;omega
def Zp{e a f}(b:a<e)(c:e<=4)(d:f<4):Vp (16*e) a f<=10000/\OB (16*e) a f<=10000:=by
 have a:16*f*(16*e)<=48*64:=fo O O;have a:8*f*(16*e/2)<=24*32:=fo O O;unfold Vp OB;omega
def yg{f:Nat->Prop}(b:aq)(g:Fr)(c d:Int)(h:T)(e:dF f h b g)(a:oP g c d=av):
  aT aE 275 #[b,J E c,J E d] h (nk h (vI,1)):=by
 have a:=e;obtain⟨b,c,d,i,l,n,o,p,q,rfl,r,s,t⟩:=e;go_enter func275,ntmps275;go_wp2_with fail;refine mR (pz (p:=f) _ g _ _ _ (by(repeat with_reducible apply dF.alloc);exact a)) fun b c=>?_
 have a:bj h.heap.size h b:=(((aM _ h).alloc dS _).alloc dS _).trans (c.mono eB);have d:Bx b (h.heap.size+1) 63 #[J E 0,J E 0,af S 0 0,af S 0 0,af S 0 0]:=(Bx.D _ _ _ _ dS).ext c;clear c;let ⟨b,c,e,f,g⟩:=d.dz;have b:=d.frozen 0;have b:=d.frozen 1;have b:=d.frozen 2;have b:=d.frozen 3;have b:=d.frozen 4;have b:=d.lt;go_wp2_with fail;refine dY (v:=fE #[aG #[J E 0,J E 0,af S 0 0,af S 0 0,af S 0 0],J E 1]) (by simp only[Ih,results275];go_simp) rfl (uz (B:=1) ?_ rfl)
 repeat(first|(with_reducible exact a)|(refine iu ?_ (by first|(simp;done)|(simp;omega)) _)|(refine qk ?_ (by first|(simp;done)|(simp;omega)) _)|(refine rS ?_))
end Go.Proofs.YtbdhieahnneebaaGreatDoor
namespace Go.Proofs.YtbdhieahnneebaaGreatDoor
open Go.RowKit
def vW{g:Nat->Prop}(h:aq)(i:Fr)(l n o p:Nat)(q:T)(a:dF g q h i)(b:eH h)(r:oP i l n=aB)
   (c:i.W=((16*o:Nat):Int))(s:o<=4)(t:l<o)(u:p<=4)(v:n<p)(d:i.Y.length=(16*p)*(16*o))(e:i.U.length=(8*p)*(8*o))(f:i.V.length=(8*p)*(8*o)):
   aT aE 275 #[h,J E l,J E n] q (nk q (vu i l n,0)):=by
 have w:=a;obtain⟨x,y,z,H,U,V,W,Y,a0,rfl,a1,a2,a3⟩:=a;obtain⟨a,a4,a5⟩:=b.o;obtain⟨b,a6⟩:=N7 t v;rw[<-d,a1.len] at b;have a7:=a6;rw[<-e,a2.len] at a6;rw[<-f,a3.len] at a7;have a8:=Zp t s (show n<4 by omega);have a9:i.W.toNat=16*o:=O;have aa:vu i l n=⟨16,16,mT i.Y (Vp (16*o) l n) (16*o) 16 16,mT i.U (OB (16*o) l n) (16*o/2) 8 8,mT i.V (OB (16*o) l n) (16*o/2) 8 8⟩:=by unfold vu;rw[a9]
 rw[aa];obtain⟨ab,ac⟩:=aX (16*o);rw[<-ac] at b a6 a7 a8 ⊢;have ad:i.W=(ab:Int):=O;have ae:ab<=64:=O;obtain⟨ag,ah⟩:=aX (Vp ab l n);obtain⟨ai,aj⟩:=aX (OB ab l n);obtain⟨al,am⟩:=aX (ab/2);have ap:=fun ar=>sd ab l n ag ai al ar ae O O ah aj am
 rw[<-ah,<-aj,<-am];rw[<-ah] at b a8;rw[<-aj] at a6 a7 a8;rw[<-am] at a6 a7;rw[ad] at w ⊢;obtain⟨ar,ax,ay,aV,b0⟩:=dZ ap b a6 a7 w;obtain⟨b1,b2⟩:=a8;have a8:al<=64:=O;clear d e f c a9 ac ad ah aj am ap b a6 a7 w aa;go_enter func275,ntmps275;go_wp2_with fail;refine(pz (p:=g) _ i _ _ _ (by(repeat with_reducible apply dF.alloc);exact b0.o)).mono ?_;rintro b c ⟨rfl,d⟩;have e:bj q.heap.size q c:=(((aM _ q).alloc dS _).alloc dS _).trans (d.mono eB);have f:Bx c q.heap.size 63 #[J E ab,J E i.H,af x y z,af H U V,af W Y a0]:=((jR q _ _).alloc _).ext d;have w:Bx c (q.heap.size+1) 63 #[J E 0,J E 0,af S 0 0,af S 0 0,af S 0 0]:=(Bx.D _ _ _ _ dS).ext d;clear d;obtain⟨d,a6,a7,a9,aa⟩:=f.dz;have ac:=w.lt;go_wp2_with fail;clear d a6 a7 a9 aa;refine(ar.o _).mono ?_;rintro d a6 ⟨rfl,a7⟩;have a9:=e.trans (a7.mono e.size);have aa:=f.ext a7;have ad:=w.ext a7;have ah:=a7.size;clear a7 f w e;go_upto_region 4 with fail;have e:=(aa.alloc (az #[J E ag,J E ab,J E 16,J E 16] 288)).alloc (az #[J E ai,J E al,J E 8,J E 8] 288);have f:=(ad.alloc (az #[J E ag,J E ab,J E 16,J E 16] 288)).alloc (az #[J E ai,J E al,J E 8,J E 8] 288);have w:=(jR a6 288 #[J E ag,J E ab,J E 16,J E 16]).alloc (az #[J E ai,J E al,J E 8,J E 8] 288);have a7:=Bx.D (a6.alloc (az #[J E ag,J E ab,J E 16,J E 16] 288)) 288 #[J E ai,J E al,J E 8,J E 8] (a6.heap.size+1) dS;have aj:=(a9.alloc a9.size (az #[J E ag,J E ab,J E 16,J E 16] 288)).alloc (by have:=a9.size;simp;omega) (az #[J E ai,J E al,J E 8,J E 8] 288);generalize (a6.alloc (az #[J E ag,J E ab,J E 16,J E 16] 288)).alloc (az #[J E ai,J E al,J E 8,J E 8] 288)=am at*
 have ap:=aa.lt;have b3:=ad.lt;generalize a6.heap.size=b4 at*
 clear aa ad a9;have a9:=a1.ext aj;have aa:=a2.ext aj;have ad:=a3.ext aj;obtain⟨b5,b6,b7,b8,b9⟩:=e.dz;obtain⟨ba,bb,bc,bd,be⟩:=f.dz;obtain⟨bf,bi,bk,bl⟩:=w.iE;obtain⟨bn,br,bs,bt⟩:=a7.iE;have bu:=f.frozen 0;have bv:=f.frozen 1;have bx:=f.frozen 2;have bz:=f.frozen 3;have bC:=f.frozen 4;have bK:=e.lt;have bL:=f.lt;have bR:=w.lt;have bU:=a7.lt
 go_region_held3 (fun bV=>bV.cell? ⟨q.heap.size,2,S⟩=M (.slice x y z)/\bV.cell? ⟨q.heap.size,3,S⟩=M (.slice H U V)/\bV.cell? ⟨q.heap.size,4,S⟩=M (.slice W Y a0)/\bV.cell? ⟨b4,0,S⟩=M (J E ag)/\bV.cell? ⟨b4,1,S⟩=M (J E ab)/\bV.cell? ⟨b4,2,S⟩=M (J E 16)/\bV.cell? ⟨b4,3,S⟩=M (J E 16)/\bV.cell? ⟨b4+1,0,S⟩=M (J E ai)/\bV.cell? ⟨b4+1,1,S⟩=M (J E al)/\bV.cell? ⟨b4+1,2,S⟩=M (J E 8)/\bV.cell? ⟨b4+1,3,S⟩=M (J E 8))
   (first|(refine⟨?_,?_,?_,?_,?_,?_,?_,?_,?_,?_,?_⟩<;> go_simp;done)|go_keep)
   (first
    |(go_at_call 173;((with_reducible refine(KN (p:=g) x y z ag ab i.Y _ a9.drew a O O ax.o).mono ?_);rintro bV bY ⟨A4,n4,m4,rfl,hcp4,hB4,hb4⟩;have hb4:bj am.heap.size am bY:=(by first|exact ml (ml hb4)|exact ml hb4);obtain⟨c0,c1⟩:=gU hb4;have c2:=hb4.size;have c3:q.heap.size<bY.heap.size:=O;have c4:q.heap.size+1<bY.heap.size:=O;have c5:b4<bY.heap.size:=O;have c6:b4+1<bY.heap.size:=O))
    |(go_at_call 173;((with_reducible refine(D3 (p:=g) H U V ai al i.U _ (aa.ext hb4) a4 O O ay.o).mono ?_);rintro bV bY ⟨A5,n5,m5,rfl,hcp5,hB5,hb5⟩;obtain⟨c0,c1⟩:=gU hb5;have c2:=hb5.size;have c3:q.heap.size<bY.heap.size:=O;have c4:q.heap.size+1<bY.heap.size:=O;have c5:b4<bY.heap.size:=O;have c6:b4+1<bY.heap.size:=O))
    |(go_at_call 173;((with_reducible refine(D3 (p:=g) W Y a0 ai al i.V _ ((ad.ext hb4).ext hb5) a5 O O aV.o).mono ?_);rintro bV w6 ⟨A6,n6,m6,rfl,hcp6,hB6,hb6⟩;obtain⟨bY,c0⟩:=gU hb6;have c1:=hb6.size;have c2:q.heap.size<w6.heap.size:=O;have c3:q.heap.size+1<w6.heap.size:=O)))
 go_wp2;have bV:¬(am.heap.size<=q.heap.size+1):=O;have bY:=aj.size;have c0:bj q.heap.size q w6:=((aj.trans (hb4.mono O)).trans (hb5.mono O)).trans (hb6.mono O);have c1:=((hB4.ext hb5).ext hb6).mono (q:=(am.heap.size<=·)) (fun c2 _ c3=>c3);have c2:=(hB5.mono (q:=(am.heap.size<=·)) (fun c3 _ c4=>by omega)).ext hb6;have c3:=hB6.mono (q:=(am.heap.size<=·)) (fun c4 _ c5=>by omega);refine dY (v:=fE #[aG #[J E 16,J E 16,af A4 n4 m4,af A5 n5 m5,af A6 n6 m6],J E 0]) (by simp only[Ih,results275];go_simp) rfl ⟨_,rfl,eH.mk hcp4 hcp5 hcp6,⟨A4,n4,m4,A5,n5,m5,A6,n6,m6,rfl,?_,?_,?_⟩,?_⟩
 · refine du.mono (p:=(am.heap.size<=·)) ?_ (fun c4 _ c5=>by omega)
   repeat refine du.setCell ?_ bV _
   exact c1
 · refine du.mono (p:=(am.heap.size<=·)) ?_ (fun c4 _ c5=>by omega)
   repeat refine du.setCell ?_ bV _
   exact c2
 · refine du.mono (p:=(am.heap.size<=·)) ?_ (fun c4 _ c5=>by omega)
   repeat refine du.setCell ?_ bV _
   exact c3
 ·
   repeat(first|(with_reducible exact c0)|(with_reducible refine iu ?_ (by first|(simp;done)|(simp;omega)) _)|(with_reducible refine qk ?_ (by first|(simp;done)|(simp;omega)) _)|(with_reducible refine rS ?_))
end Go.Proofs.YtbdhieahnneebaaGreatDoor
namespace Go.Proofs.YtbdhieahnneebaaGreatDoor
open Go.RowKit
def Bk.own{a b e c f}(g:Bk a c e f)(h:b<=e)(d:f.length<=100000):jX a b c (af (M ⟨e,0,S⟩) f.length f.length) f:=
 ⟨by simp,.inr ⟨e,f.length,_,rfl,h,g,aw _,by simp only[maxLen];omega,by simp,by rw[Nat.mul_one];exact kN dS⟩⟩
def J6(a:Fr)(b c:Int):Fr×Int:=if oP a b c=aB then(vu a b.toNat c.toNat,0) else(vI,1)
def tC{a}(c d e f g)(h:dF a g c d)(b:eH c):aT aE 275 #[c,J E e,J E f] g (nk g (J6 d e f)):=by
 unfold J6
 by_cases a:oP d e f=aB
 ·rw[if_pos a]
  obtain⟨i,l,n,rfl,rfl,o,p⟩:=Le a;obtain⟨o,p,q,r,s,t,u,v,w,x,y⟩:=vO i;exact vW c d l n o p g h b a q t O v O w x y
 ·rw[if_neg a]
  exact yg c d e f g h (jP a)
open Go.Top
def ox.mb(a b c):ox (vu a b c):=⟨rfl,rfl,by simp[vu,q9],by simp[vu,q9],by simp[vu,q9]⟩
def Aid(a:dM)(b:Mb)(c d:Nat):Prop:=∀e,fD e->(a.h.ty=2->JL e a c d)->Ch e a b c d
def ZD(a:T)(b:dM)(c d:Nat)(e:St)(f:Mb->Prop)(g:Ending)(h:T):Prop:=∃(i:Mb)(l:Int),g=aK (aG (kq i l (mS i e)))/\K7 b.c i/\Aid b i c d/\f i/\bD a h
def nJ{a}(b:a.A){n c}(d:c.A):(aE.info? 376).map (·.size)=M (kq a n c).size:=by rw[gD b (kj d)];exact FN
def Ns(n:Nat)(o:dM)(a:Cj o)(b:o.h.ty=1)(h:Fr)(i l:Nat)(p:St)(c:p.A)(q:T)(d:Kb q n o)(e:Fv q o.src h)(f:oP h i l=aB)(g:fD q):
  aT aE 248 #[aD (M ⟨n,0,S⟩),J E i,J E l,p.val] q (ZD q o i l p (fun r=>r=zK o (vu h i l))):=by
 obtain⟨r,s,t,u,v,w⟩:=ej a d (show o.h.ty=1\/o.h.ty=2 from .inl b) b c (show(aS E p.l).size=8 by rw[bE,kj c]);have a:=aH d.ok;obtain⟨b,c⟩:=aQ g (show∀d (x:bD q d),aT aE 275 #[o.src.val,J E i,J E l] d (kM d (vu h i l)) from fun y z=>(tC o.src.val h i l y (e.ext z).1 (e.ext z).2).mono (fun H U V=>by unfold J6 at V;rw[if_pos f] at V;exact nk.fx V));let ⟨d,e,f,g,x,y,z,H,U,V,W⟩:=Jo q (aS E p.l) 324 (kq iA 0 Ma) 376;unfold St.val;go_enter func248,ntmps248;go_upto_region 1 with(refine kG rfl (M 8) rfl rfl ?_)
 try simp only[sZ,ak]
 refine mr x ?_
 try simp only[dA]
 rw[<-g];clear x g;have g:=(s.o.ext (U.o _ H.o)).j.lt;let ⟨_,_,g,x,Y⟩:=(s.o.ext (U.o _ H.o)).te 7 5 (au o.src) rfl dD;go_wp2_with refine lS 63 16 n 146 g x Y ?_;refine(c.o f (U.o _ H.o)).mono ?_;rintro c f ⟨g,rfl,x,Y⟩;have c:=mX Y H;have H:=aH x;go_wp2_with fail;refine mR (iR g f) fun x Y=>?_
 let ⟨f,a0⟩:=di Y c H;go_upto_region 2 with refine ix rfl (aI 9) (aI 23) rfl _ rfl dS g rfl rfl ?_
 try simp only[ak]
 let ⟨c,H,Y,a1,a2,a3⟩:=mY x (au g) 63;let ⟨x,a4⟩:=di a2 f a0;have a0:=aH (show d+2<=c by rw[Y];have:=f.o.k;rw[z.o] at this;exact this);rw[<-a1,<-Y];clear a1 Y;have f:=aH (kJ n o t.o H (s.o.ext (U.o _ x.o)));rw[u.o,show JA 1=0 from rfl] at f;go_wp2_with fail;refine sQ f.o ?_;go_upto_region 3 with fail;refine aL 6 (fun f=>Fm q d e f/\Bx f c 63 (au g)) rfl (fun t u=>?_);have f:=aH (show Fm q d e H/\Bx H c 63 (au g) from⟨x.o,a3.o⟩);let ⟨e,t,z⟩:=gO u x a3 a4;refine gN 0 4 3 ?_;simp only[sZ,ak];go_big_quiet_step (fail);refine lR f 324 7 d 0 8 (aS E p.l) (fun _ u=>qg (V.o _ u.1) w.o) kR AE ?_;simp only[sZ,ak];go_big_quiet_step (fail);refine lF f 9 c g (fun _ u=>u.2) ?_;refine aN (oL 4 2 (fun c f=>⟨e.o.ext f,t.o.ext f⟩) fun u w=>?_);simp only[sZ,ak];let ⟨c,f,x⟩:=gO w e t z;go_wp2_with fail;refine mR (FA n o r.o g (vu h i l) u (s.o.ext (U.o _ c.o)) x.o (ox.mb _ _ _) (b.o.ext (U.o _ c.o))) fun e ⟨t,w⟩=>?_
 let ⟨b,e⟩:=di t c f;have c:=aH w;let ⟨f,g⟩:=aX (zK o (vu h i l));obtain⟨h,t⟩:=aQ g (fun u (w:fD u)=>I1 (mx:=i) (my:=l) r.o a.o w c.o);rw[<-g] at c t ⊢;clear g;go_wp2_with fail;refine oL 5 1 (fun a g=>⟨b.o.ext g,e.o.ext g⟩) fun i l=>?_
 simp only[sZ,ak];let ⟨a,g⟩:=di l b e;go_wp2_with fail;refine(nI n o r.o.ok p v.o f c.o i (s.o.ext (U.o _ a.o))).mono ?_;rintro b e ⟨i,rfl,l⟩;let ⟨b,e⟩:=di l a g;have a:=aH (pC c.o.ok c.o.vc c.o.I v.o);go_wp2_with fail;refine oL 6 0 (fun g l=>⟨b.o.ext l,e.o.ext l⟩) fun n o=>?_
 simp only[sZ,ak];have e:=mX o b;refine bm rfl 376 (aI 8) (aI 32) rfl (d+1) (kq f i (mS f p)) rfl rfl (W.o _ e.o) (nJ c.o.ok a.o) (by rw[gD c.o.ok (kj a.o),gD fG rfl]) (xM _ _ _) ?_;obtain⟨b,g⟩:=aQ ((W.o _ e.o).row (kq f i (mS f p))) (show bD q (n.setRow (d+1) (kq f i (mS f p))) from aO (U.o _ e.o) (iJ y.o));refine mn ⟨rfl,pX fun d e=>?_⟩;let ⟨d,l⟩:=di e b g
 try simp only[ak]
 go_wp2;exact rR Ik d.o tX (nJ c.o.ok a.o) ⟨f,i,rfl,c.o,fun b e _=>t.o b e,h.o,l.o⟩
section
def Fm.Af2{a w b c d e}(h:Fm a c e w)(i:fO w b d S)(f:c+e.length<=d)(g:d<w.heap.size):Fm a c e b:=
 ⟨fun a b c=>(h.j a b c).G i (by have:=(aP.1 c).1;omega) dS,i.G9 h.F O O,aY h.k i.size⟩
def Ch.ext{w a b c d e}(f:Ch w b c d e)(g:bD w a):Ch a b c d e:=by
 let ⟨a,b,c⟩:=f;exact⟨a,b,c.ext g⟩
instance {w w' x1 x2 x3 x4}:Tr w w' (Ch w x1 x2 x3 x4) (Ch w' x1 x2 x3 x4):=⟨fun hb h=>Ch.ext h hb⟩
section
variable {ops:Array cQ} {rest:List cQ} {o:cQ} {a:Act} {w:T} {Q:Exit->Act->T->Prop}
def PK(c:bP o (xZ ops a.tmps)=aB)(b:Gc)(d:o.op=.build 280 #[(0,b)])(e:a.eval b=J E 0)(f:cG aE ops Q rest (a.put o.dst (aG iA.cells)) w):cG aE ops Q (o::rest) a w:=
 eI c fun _ b=>by
  have c:(fk 280 #[(0,J E 0)]).run aE w=.ok (aG iA.cells) w:=dK;unfold Bg VI;simp only[d];simp only[qR,sH,Bh,e]
  first
   |(rw[c];exact b _ _ f)
   |(simp only[fT,iT,dv,c];exact b _ _ f)
def Cx{c}(n:bP o (xZ ops a.tmps)=aB)(d b)(p:o.op=.box d b)(e)(h:o.dst=e)(f)(i:w.heap.size=f)(g)(l:(a.eval b).cells=g)
  (q:cG c ops Q rest (a.put e (aD (M ⟨f,0,S⟩))) (w.alloc (az g d))):cG c ops Q (o::rest) a w:=by
 subst h i l;refine eI n fun b c=>?_
 unfold Bg VI;simp only[p,fT,Instr.box,newVar,newRow,run_newObj_alloc,iT,dv];exact c _ _ q
end
def Hg{a:Prop}{b c d:Type}(A:T->b->c->d->Prop)(e:T->b->c->d->Prop)(f:(∀w h i l,A w h i l->e w h i l)->a)(g:∀w n o p,A w n o p->e w n o p):a:=f g
def Up{a}(d:a.A)(b c):(kq a b c)[408]?=M (J E b):=by
 have:=da d;unfold kq;rw[bw,aW,aU (by simp[this])];simp[this]
def LC:(kq iA 0 Ma).all oV=aB:=dK
def lG{ops rest o a w Q}(e:o.guard=S)(f g)(h:o.op=.store 376 f g)(i){l b n c p d}(q:l.A)(r:p.A)(s:b.A)(t:d.l.length=8)(u:Bx w i 376 (kq b c d))(v:a.eval f=aD (M ⟨i,0,S⟩))(x:a.eval g=aG (kq l n p))
  (y:cG aE ops Q rest (a.put o.dst sJ) (w.setRow i (kq l n p))):cG aE ops Q (o::rest) a w:=
 bm e 376 f g h i (kq l n p) v x u (nJ q r) (by rw[gD q (kj r),gD s t]) (xM _ _ _) y
def Nr(p:Nat)(q:dM)(a:Cj q)(b:q.h.ty=2)(o:Fr)(r s:Nat)(c:r<=3)(d:s<=3)(t:St)(e:t.A)(w:T)(f:Kb w p q)(g:Fv w q.src o)(h:oP o r s=aB)(i:GQ w q)(l:JL w q r s)(n:fD w):
  aT aE 248 #[aD (M ⟨p,0,S⟩),J E r,J E s,t.val] w (ZD w q r s t (fun _=>True)):=by
 obtain⟨u,v,x,y,z,H⟩:=ej a f c d (show q.h.ty=1\/q.h.ty=2 from .inr b) b;obtain⟨U,V,W⟩:=bh (show q.c.ty=2 by rw[a.ty];exact b) e (show(aS E t.l).size=8 by rw[bE,kj e]);have Y:=aH f.ok;obtain⟨a0,a1,a2,a3,a4,a5⟩:=ej n i l (Es a (a.ty.trans b) f.ok n l) (show K7 q.c iA from⟨fG,.inl ⟨rfl,by rw[a.ty,b];decide⟩,fun a6 a7=>(by obtain rfl:=iK a7;omega),fun a8 a9=>(by obtain rfl:=iK a9;omega),rfl⟩) (show∀aa (ab:bD w aa),aT aE 275 #[q.src.val,J E r,J E s] aa (kM aa (vu o r s)) from fun ac ad=>(tC q.src.val o r s ac (g.ext ad).1 (g.ext ad).2).mono (fun ae ag ah=>by unfold J6 at ah;rw[if_pos h] at ah;exact nk.fx ah));let ⟨a6,a7,a8,a9,aa,ab,ac,ad,ae,ag,ah⟩:=Jo w (aS E t.l) 324 (kq iA 0 Ma) 376;unfold St.val;go_enter func248,ntmps248;go_upto_region 1 with(refine kG rfl (M 8) rfl rfl ?_)
 try simp only[sZ,ak]
 refine mr aa ?_
 try simp only[dA]
 rw[<-a9];clear aa a9;have a9:=(v.o.ext (ae.o _ ad.o)).j.lt;let ⟨_,_,aa,ai,aj⟩:=(v.o.ext (ae.o _ ad.o)).te 7 5 (au q.src) rfl dD;go_wp2_with refine lS 63 16 p 146 aa ai aj ?_;refine(a5.o a8 (ae.o _ ad.o)).mono ?_;rintro al am ⟨ap,rfl,ar,ax⟩;have ay:=mX ax ad;have aV:=aH ar;go_wp2_with fail;refine mR (iR ap am) fun b0 b1=>?_
 let ⟨b2,b3⟩:=di b1 ay aV;go_upto_region 2 with refine ix rfl (aI 9) (aI 23) rfl _ rfl dS ap rfl rfl ?_
 try simp only[ak]
 let ⟨b4,b5,b6,b7,b8,b9⟩:=mY b0 (au ap) 63;let ⟨ba,bb⟩:=di b8 b2 b3;have bc:=aH (show a6+2<=b4 by rw[b6];have:=b2.o.k;rw[ac.o] at this;exact this);rw[<-b7,<-b6];clear b7 b6;have b6:=aH (kJ p q z.o b5 (v.o.ext (ae.o _ ba.o)));rw[H.o,show JA 2=1 from rfl] at b6;let ⟨b7,bd,be⟩:=a3.o;obtain⟨bf,bi,bk⟩:=bh bd be (show Ch w q iA r s from a3.o);go_wp2_with fail;refine b6.o.mono ?_;rintro bl bn ⟨rfl,rfl⟩;go_upto_region 5 with(first|(refine PK dW _ rfl rfl ?_)|(refine mL rfl (M 10) rfl rfl ?_)|(refine r6 rfl (aI 10) (aI 33) rfl b5.heap.size rfl (da fG) fG rfl rfl ?_));let ⟨br,bs⟩:=aX b5.heap.size;let ⟨bt,bu⟩:=aX (b5.alloc (az iA.cells 280));obtain⟨bv,bx,bz,bC,bK⟩:=dZ (show Fm w a6 a7 bt by rw[bu];exact ba.o.alloc _) (show Bx bt b4 63 (au ap) by rw[bu];exact b9.o.alloc _) (show Fv bt ap (vu o r s) by rw[bu];exact bb.o.ext (jd)) (show Mx bt br iA by rw[bu];exact Mx.new _ _ fG _ bs) (show a6+2<=br/\b4<br by rw[bs];have:=ba.o.k;rw[ac.o] at this;exact⟨this,b9.o.lt⟩)
 try simp only[ak]
 rw[<-bu,<-bs];clear bu bs;go_wp2_with refine lA 280 10 br bC.o.j (da fG) ?_;refine(rm p q iA fG r s b7 bt (v.o.ext (ae.o _ bv.o)) (bi.o.ext (ae.o _ bv.o))).mono ?_;rintro bs bu ⟨bL,rfl,bR,bU⟩;let ⟨bV,bY,c0,c1⟩:=nj bU bv bx bz bC;have c2:=aH bR;go_upto_region 6 with refine ix rfl (aI 11) (aI 38) rfl _ rfl dS bL rfl rfl ?_
 try simp only[ak]
 let ⟨c3,c4⟩:=aX bu.heap.size;let ⟨c5,c6⟩:=aX (bu.alloc (az (au bL) 63));have c7:=Gl c6;have c8:=aH (show Fm w a6 a7 c5/\Bx c5 b4 63 (au ap)/\Bx c5 c3 63 (au bL)/\Mx c5 br iA from⟨bV.o.ext c7,bY.o.ext c7,by rw[c6];exact Bx.D _ _ _ _ c4,c1.o.ext c7⟩);let ⟨c9,ca⟩:=di c7 c0 c2;have cb:=aH (show br<c3 by rw[c4];exact c1.o.lt);rw[<-c6,<-c4];clear c6 c4;refine aL 99 (fun c4=>Fm w a6 a7 c4/\Bx c4 b4 63 (au ap)/\Bx c4 c3 63 (au bL)/\Mx c4 br iA) rfl (fun c6 cc=>?_);let ⟨c4,cd,ce⟩:=gO cc c8 c9 ca;refine gN 0 2 15 ?_;simp only[sZ,ak];refine lF c8 9 b4 ap (fun _ cf=>cf.2.1) ?_;refine lF c8 11 c3 bL (fun _ cf=>cf.2.2.1) ?_;refine aN (fK 2 14 c4 fun cf cg=>?_);simp only[sZ,ak];let ⟨ch,ci,ck⟩:=gO cg c4 cd ce;go_wp2_with fail;refine mR (N1 _ _ (vu o r s) b7 cf ci.o.1 ck.o.1) fun cl cn=>?_
 let ⟨HD9,co,cp⟩:=gO cn ch ci ck;generalize (OY (vu o r s) b7==0)=cr;go_wp2_with fail;cases cr
 case' true=>
  refine gT 3 1 13 ?_;refine Oz 4 12 ?_;refine Oz 5 11 ?_;refine Oz 6 10 ?_;refine Oz 7 9 ?_;refine Oz 8 8 ?_;refine Oz 9 7 ?_;refine Oz 10 6 ?_;refine Oz 11 5 ?_;refine Oz 12 4 ?_;refine Oz 13 3 ?_;refine Oz 14 2 ?_;refine Oz 15 1 ?_;refine gT 16 1 0 ?_;refine zI HD9 fun cr cs=>?_
  have ct:=mX cs HD9;have HD9:=ct;generalize cr=cu at*
  try simp only[ak]
  go_wp2_with (first|(refine lA 324 7 a6 (ag.o _ HD9.o.1) W.o ?_)|(refine lA 280 10 br HD9.o.2.2.2.j (da fG) ?_));refine(nI p q u.o.ok t V.o iA a4.o cu (v.o.ext (ae.o _ HD9.o.1))).mono ?_;rintro cr cs ⟨nb,rfl,ct⟩;have cr:=aH (HD9.o.1.ext ct);have ct:=aH (pC a4.o.ok a4.o.vc a4.o.I V.o);go_wp2_with refine bm rfl 376 (aI 8) (aI 59) rfl (a6+1) (kq iA nb (mS iA t)) rfl rfl (ah.o _ cr.o) (nJ a4.o.ok ct.o) (by rw[gD a4.o.ok (kj ct.o),gD fG rfl]) (xM _ _ _) ?_;obtain⟨cu,cv⟩:=aQ ((ah.o _ cr.o).row (kq iA nb (mS iA t))) (show bD w (cs.setRow (a6+1) (kq iA nb (mS iA t))) from aO (ae.o _ cr.o) (iJ ab.o));exact rR Ik cu.o tX (nJ a4.o.ok ct.o) ⟨iA,nb,rfl,a4.o,fun cr cs cw=>Es u.o U.o Y.o cs (cw H.o),trivial,cv.o⟩
 case' false=>
  refine gT 3 2 12 ?_;refine T9 5 1 11 ?_;simp only[sZ,ak];refine ei rfl (aG iA.cells) (fun cr=>iW (qs:=#[]) rfl dK dK) ?_;refine aN (gN 7 2 9 ?_);simp only[sZ,ak];refine lF c8 9 b4 ap (fun _ cr=>cr.2.1) ?_;refine lF c8 11 c3 bL (fun _ cr=>cr.2.2.1) ?_;refine aN (gT 9 4 5 ?_);refine gN 13 1 4 ?_;simp only[sZ,ak];refine lR c8 24 51 p 75 64 (aS .u8 q.s.R) (fun _ cr=>(v.o.ext (ae.o _ cr.1)).R) fV iz ?_;refine aN (fK 6 3 HD9 fun cr cs=>?_);simp only[sZ,ak];let ⟨ct,cu,cv⟩:=gO cs HD9 co cp;refine Cx rfl 280 (aI 44) rfl (M 45) rfl cr.heap.size rfl iA.cells rfl ?_;let ⟨cw,cx⟩:=aX cr.heap.size;let ⟨cy,cz⟩:=aX (cr.alloc (az iA.cells 280));have cA:=Gl cz;let ⟨cB,cC,cE⟩:=gO cA ct cu cv;obtain⟨cF,cI⟩:=aQ (show Mx cy cw iA by rw[cz];exact Mx.new _ _ fG _ cx) (show br<cw/\b4<cw/\c3<cw/\a6+2<=cw by rw[cx];have:=ct.o.1.k;rw[ac.o] at this;exact⟨ct.o.2.2.2.lt,ct.o.2.1.lt,ct.o.2.2.1.lt,this⟩);rw[<-cz,<-cx];clear cz cx;refine mn ⟨rfl,fK 14 2 cB fun cx cz=>?_⟩;simp only[sZ,ak];let ⟨cL,cN,cO,cR⟩:=nj cz cB cC cE cF;go_wp2_with fail;refine mR (uJ p cw q iA ap bL (vu o r s) b7 q.s.R cx (v.o.ext (ae.o _ cL.o.1)) ⟨u.o.q1,u.o.q2⟩ cR.o cN.o cO.o (ox.mb _ _ _) bf.o Y.o.R (a0.o.ext (ae.o _ cL.o.1))) fun cS ⟨cT,cU⟩=>?_
  obtain⟨cV,cY,d0⟩:=bh (show bj cw cx cS from fO.G9 cT (aM _ _) (aw _) (dU cR.o.lt)) (show Fm w a6 a7 cS/\Bx cS b4 63 (au ap)/\Bx cS c3 63 (au bL)/\Mx cS br iA from⟨cL.o.1.Af2 cT (by have:=cI.o;rw[ac.o];omega) cR.o.lt,cL.o.2.1.G cT (dU cI.o) dS,cL.o.2.2.1.G cT (dU cI.o) dS,⟨cL.o.2.2.2.j.G cT (dU cI.o) dS,fG⟩⟩) (show Fv cS ap (vu o r s) from cN.o.FW cT cR.o);generalize P8 (vu o r s) b7 q.s.R q.q q.h.alt (AH q (vu o r s) b7) 6=d1;go_wp2_with fail;refine gT 15 2 0 ?_;refine zI cY fun d2 d3=>?_
  let ⟨d4,d5⟩:=di d3 cY d0
  try simp only[ak]
  cases d1
  case' false=>
   have HD9:=d4;generalize d2=d1 at*
   go_wp2_with (first|(refine lA 324 7 a6 (ag.o _ HD9.o.1) W.o ?_)|(refine lA 280 10 br HD9.o.2.2.2.j (da fG) ?_));refine(nI p q u.o.ok t V.o iA a4.o d1 (v.o.ext (ae.o _ HD9.o.1))).mono ?_;rintro a b ⟨nb,rfl,c⟩;have a:=aH (HD9.o.1.ext c);have c:=aH (pC a4.o.ok a4.o.vc a4.o.I V.o);go_wp2_with refine bm rfl 376 (aI 8) (aI 59) rfl (a6+1) (kq iA nb (mS iA t)) rfl rfl (ah.o _ a.o) (nJ a4.o.ok c.o) (by rw[gD a4.o.ok (kj c.o),gD fG rfl]) (xM _ _ _) ?_;obtain⟨d,e⟩:=aQ ((ah.o _ a.o).row (kq iA nb (mS iA t))) (show bD w (b.setRow (a6+1) (kq iA nb (mS iA t))) from aO (ae.o _ a.o) (iJ ab.o));exact rR Ik d.o tX (nJ a4.o.ok c.o) ⟨iA,nb,rfl,a4.o,fun a b f=>Es u.o U.o Y.o b (f H.o),trivial,e.o⟩
  go_upto_region 8 with fail;have a:=aH (show Fm w a6 a7 d2/\Bx d2 b4 63 (au ap) from⟨d4.o.1,d4.o.2.1⟩);have b:=d5;apply Hg (A:=fun c k8 d nb=>Fm w a6 a7 c/\Bx c b4 63 (au ap)/\Fv c ap (vu o r s)/\Bx c k8 376 (kq d nb (mS d t))/\(a6+2<=k8/\b4<k8)/\V0 q d)
  ·rintro(c:fj _)
   refine aL 99 (fun d=>Fm w a6 a7 d/\Bx d b4 63 (au ap)) rfl (fun e f=>?_);have d:=a;let ⟨g,h⟩:=di f a b;clear f;let ⟨a,b⟩:∃f,f=e:=⟨_,rfl⟩;rw[<-b] at g h ⊢;refine gN 0 7 4 ?_;simp only[sZ,ak];go_big_quiet_step (fail);refine lR d 324 7 a6 0 8 (aS E t.l) (fun _ a=>qg (ag.o _ a.1) W.o) kR AE ?_;simp only[sZ,ak];go_big_quiet_step (fail);refine lF d 9 b4 ap (fun _ a=>a.2) ?_;simp only[sZ,ak];iterate 2 (go_big_quiet_step (fail))
   refine lR d 324 7 a6 0 8 (aS E t.l) (fun _ a=>qg (ag.o _ a.1) W.o) kR AE ?_;refine aN (Md 7 9 3 g (fun a b=>?_) fun a b=>?_)
   ·simp only[sZ,ak]
    let ⟨d,e⟩:=di b g h;go_wp2_with fail;refine(Lw p q u.o H.o ap (vu o r s) r s x.o y.o t V.o a (v.o.ext (ae.o _ d.o.1)) e.o (ox.mb _ _ _) (a1.o.ext (ae.o _ d.o.1)) (a2.o.ext (ae.o _ d.o.1)) (a0.o.ext (ae.o _ d.o.1))).mono ?_;rintro f i ⟨l,rfl,n,z⟩;have f:=aH n;let ⟨i,n⟩:=di z d e;go_wp2_with fail;have d:=aH (pC f.o.w.ok f.o.w.vc f.o.w.I V.o);refine Md 8 9 2 i (fun wc e=> ?Xq7) fun wc e=> ?Xq8
    case' Xq7=>
     simp only[sZ,ak];let ⟨z,U⟩:=di e i n;go_wp2_with fail;refine(nI p q u.o.ok t V.o l f.o.w wc (v.o.ext (ae.o _ z.o.1))).mono ?_;rintro a3 a4 ⟨nb,rfl,a5⟩;let ⟨a3,a4⟩:=di a5 z U;go_wp2_with fail;refine fK 9 1 a3 fun z U=>?_
     simp only[sZ,ak];let ⟨a5,a8⟩:=di U a3 a4;refine kG rfl (M 12) rfl rfl ?_;let ⟨k8,U,a3,a4,a9,HCf⟩:=mY z (kq iA 0 Ma) 376;have HKK:=aH (show a6+2<=k8/\b4<k8 by rw[a3];have:=a5.o.1.k;rw[ac.o] at this;exact⟨this,a5.o.2.lt⟩);let ⟨HDf,HFf⟩:=di a9 a5 a8;rw[<-a4,<-a3];clear a4 a3;refine mn ⟨rfl,?_⟩
    case' Xq8=>
     simp only[sZ,ak];let ⟨z,U⟩:=di e i n;refine kG rfl (M 12) rfl rfl ?_;let ⟨k8,e,i,n,a3,a4⟩:=mY wc (kq iA 0 Ma) 376;have HKK:=aH (show a6+2<=k8/\b4<k8 by rw[i];have:=z.o.1.k;rw[ac.o] at this;exact⟨this,z.o.2.lt⟩);let ⟨e,a5⟩:=di a3 z U;rw[<-n,<-i];clear n i;refine mn ⟨rfl,fK 8 1 e fun i n=>?_⟩;simp only[sZ,ak];let ⟨z,U,a3⟩:=gO n e a5 a4;go_wp2_with fail;refine(nI p q u.o.ok t V.o l f.o.w i (v.o.ext (ae.o _ z.o.1))).mono ?_;rintro e i ⟨nb,rfl,n⟩;let ⟨HDf,HFf,HCf⟩:=gO n z U a3;go_wp2_with fail
    all_goals
     refine fK 10 0 HDf fun e i=>?_
     simp only[sZ,ak];let ⟨n,z,U⟩:=gO i HDf HFf HCf;refine lG rfl (aI 12) (aI 68) rfl k8 f.o.w.ok d.o fG rfl U.o rfl rfl ?_;obtain⟨d,i,a3⟩:=bh (show Fm w a6 a7 (e.setRow k8 (kq l nb (mS l t)))/\Bx (e.setRow k8 (kq l nb (mS l t))) b4 63 (au ap) from⟨n.o.1.C (eZ ac.o HKK.o.1) _,n.o.2.m (dU HKK.o)⟩) (z.o.row U.o LC (kq l nb (mS l t))) (U.o.row (kq l nb (mS l t)));refine mn ⟨rfl,zI d fun e n=>?_⟩;simp only[ak];have z:=c.o e k8 l nb ⟨d.o.1.ext n,d.o.2.ext n,i.o.ext n,a3.o.ext n,HKK.o,f.o⟩;exact z
   ·simp only[sZ,ak]
    let ⟨d,e⟩:=di b g h;refine kG rfl (M 12) rfl rfl ?_;let ⟨k8,b,f,g,h,i⟩:=mY a (kq iA 0 Ma) 376;have HKK:=aH (show a6+2<=k8/\b4<k8 by rw[f];have:=d.o.1.k;rw[ac.o] at this;exact⟨this,d.o.2.lt⟩);let ⟨a,b⟩:=di h d e;rw[<-g,<-f];clear g f;refine mn ⟨rfl,fK 7 2 a fun wc d=>?_⟩;simp only[sZ,ak];let ⟨e,f,g⟩:=gO d a b i;go_wp2_with fail;refine(Lw p q u.o H.o ap (vu o r s) r s x.o y.o t V.o wc (v.o.ext (ae.o _ e.o.1)) f.o (ox.mb _ _ _) (a1.o.ext (ae.o _ e.o.1)) (a2.o.ext (ae.o _ e.o.1)) (a0.o.ext (ae.o _ e.o.1))).mono ?_;rintro a b ⟨d,rfl,h,i⟩;have a:=aH h;let ⟨b,h,l⟩:=gO i e f g;go_wp2_with fail;have e:=aH (pC a.o.w.ok a.o.w.vc a.o.w.I V.o);refine fK 8 1 b fun f g=>?_
    simp only[sZ,ak];let ⟨i,n,x⟩:=gO g b h l;go_wp2_with fail;refine(nI p q u.o.ok t V.o d a.o.w f (v.o.ext (ae.o _ i.o.1))).mono ?_;rintro b f ⟨nb,rfl,g⟩;let ⟨HDf,HFf,HCf⟩:=gO g i n x;go_wp2_with fail;refine fK 10 0 HDf fun b f=>?_
    simp only[sZ,ak];let ⟨g,h,i⟩:=gO f HDf HFf HCf;refine lG rfl (aI 12) (aI 68) rfl k8 a.o.w.ok e.o fG rfl i.o rfl rfl ?_;obtain⟨e,f,l⟩:=bh (show Fm w a6 a7 (b.setRow k8 (kq d nb (mS d t)))/\Bx (b.setRow k8 (kq d nb (mS d t))) b4 63 (au ap) from⟨g.o.1.C (eZ ac.o HKK.o.1) _,g.o.2.m (dU HKK.o)⟩) (h.o.row i.o LC (kq d nb (mS d t))) (i.o.row (kq d nb (mS d t)));refine mn ⟨rfl,zI e fun b g=>?_⟩;simp only[ak];have h:=c.o b k8 d nb ⟨e.o.1.ext g,e.o.2.ext g,f.o.ext g,l.o.ext g,HKK.o,a.o⟩;exact h
  intro a k8 b nb ⟨c,d,e,f,g,h⟩
  try dsimp only
  obtain⟨i,l,n,x,y⟩:=dZ (show Fm w a6 a7 a/\Bx a b4 63 (au ap) from⟨c,d⟩) e f g h;go_upto_region 9 with fail;let ⟨c,d⟩:=aX (zK q (vu o r s));have e:=aH d;clear d;apply Bv (A:=fun d k9 n9=>Fm w a6 a7 d/\Bx d k8 376 (kq b nb (mS b t))/\Bx d k9 376 (kq c n9 (mS c t))/\(a6+2<=k9/\k8<k9)/\K7 q.c c)
  ·rintro(d:fj _)
   refine aL 99 (fun f=>Fm w a6 a7 f/\Bx f b4 63 (au ap)/\Bx f k8 376 (kq b nb (mS b t))) rfl (fun g h=>?_);have f:=aH (show Fm w a6 a7 a/\Bx a b4 63 (au ap)/\Bx a k8 376 (kq b nb (mS b t)) from⟨i.o.1,i.o.2,n.o⟩);let ⟨a,i⟩:=di h f l;clear h;let ⟨h,l⟩:∃n,n=g:=⟨_,rfl⟩;rw[<-l] at a i ⊢;refine gN 0 4 4 ?_;simp only[sZ,ak];go_big_quiet_step (fail);refine lR f 324 7 a6 0 8 (aS E t.l) (fun _ g=>qg (ag.o _ g.1) W.o) kR AE ?_;simp only[sZ,ak];go_big_quiet_step (fail);refine lF f 9 b4 ap (fun _ g=>g.2.1) ?_;refine aN (Md 4 6 3 a (fun f g=>?_) fun f g=>?_)
   ·simp only[sZ,ak]
    let ⟨h,l⟩:=di g a i;go_wp2_with fail;refine mR (FA p q u.o ap (vu o r s) f (v.o.ext (ae.o _ h.o.1)) l.o (ox.mb _ _ _) (a0.o.ext (ae.o _ h.o.1))) fun n ⟨z,U⟩=>?_
    rw[<-e.o] at U ⊢;have n:=aH U;clear U;let ⟨U,W⟩:=di z h l;go_wp2_with fail;have h:=aH (pC n.o.ok n.o.vc n.o.I V.o);refine Md 5 6 2 U (fun wc l=> ?Xq9) fun wc l=> ?Xq10
    case' Xq9=>
     simp only[sZ,ak];let ⟨z,a1⟩:=di l U W;go_wp2_with fail;refine(nI p q u.o.ok t V.o c n.o wc (v.o.ext (ae.o _ z.o.1))).mono ?_;rintro a3 a4 ⟨n9,rfl,a5⟩;let ⟨a3,a4⟩:=di a5 z a1;go_wp2_with fail;refine fK 6 1 a3 fun z a1=>?_
     simp only[sZ,ak];let ⟨a5,a8⟩:=di a1 a3 a4;refine kG rfl (M 13) rfl rfl ?_;let ⟨k9,a1,a3,a4,a9,HCf⟩:=mY z (kq iA 0 Ma) 376;have HKK:=aH (show a6+2<=k9/\k8<k9 by rw[a3];have:=a5.o.1.k;rw[ac.o] at this;exact⟨this,a5.o.2.2.lt⟩);let ⟨HDf,HFf⟩:=di a9 a5 a8;rw[<-a4,<-a3];clear a4 a3;refine mn ⟨rfl,?_⟩
    case' Xq10=>
     simp only[sZ,ak];let ⟨z,a1⟩:=di l U W;refine kG rfl (M 13) rfl rfl ?_;let ⟨k9,l,U,W,a3,a4⟩:=mY wc (kq iA 0 Ma) 376;have HKK:=aH (show a6+2<=k9/\k8<k9 by rw[U];have:=z.o.1.k;rw[ac.o] at this;exact⟨this,z.o.2.2.lt⟩);let ⟨l,a5⟩:=di a3 z a1;rw[<-W,<-U];clear W U;refine mn ⟨rfl,fK 5 1 l fun z U=>?_⟩;simp only[sZ,ak];let ⟨W,a1,a3⟩:=gO U l a5 a4;go_wp2_with fail;refine(nI p q u.o.ok t V.o c n.o z (v.o.ext (ae.o _ W.o.1))).mono ?_;rintro l z ⟨n9,rfl,U⟩;let ⟨HDf,HFf,HCf⟩:=gO U W a1 a3;go_wp2_with fail
    all_goals
     refine fK 7 0 HDf fun l z=>?_
     simp only[sZ,ak];let ⟨U,W,a1⟩:=gO z HDf HFf HCf;refine lG rfl (aI 13) (aI 74) rfl k9 n.o.ok h.o fG rfl a1.o rfl rfl ?_;obtain⟨h,z⟩:=aQ (show Fm w a6 a7 (l.setRow k9 (kq c n9 (mS c t)))/\Bx (l.setRow k9 (kq c n9 (mS c t))) b4 63 (au ap)/\Bx (l.setRow k9 (kq c n9 (mS c t))) k8 376 (kq b nb (mS b t)) from⟨U.o.1.C (eZ ac.o HKK.o.1) _,U.o.2.1.m (gC HKK.o x.o),U.o.2.2.m (dU HKK.o)⟩) (a1.o.row (kq c n9 (mS c t)));refine mn ⟨rfl,zI h fun l U=>?_⟩;simp only[ak];have W:=d.o l k9 n9 ⟨h.o.1.ext U,h.o.2.2.ext U,z.o.ext U,HKK.o,n.o⟩;exact W
   ·simp only[sZ,ak]
    let ⟨h,l⟩:=di g a i;refine kG rfl (M 13) rfl rfl ?_;let ⟨k9,a,g,i,n,z⟩:=mY f (kq iA 0 Ma) 376;have HKK:=aH (show a6+2<=k9/\k8<k9 by rw[g];have:=h.o.1.k;rw[ac.o] at this;exact⟨this,h.o.2.2.lt⟩);let ⟨a,f⟩:=di n h l;rw[<-i,<-g];clear i g;refine mn ⟨rfl,fK 4 2 a fun wc g=>?_⟩;simp only[sZ,ak];let ⟨h,i,l⟩:=gO g a f z;go_wp2_with fail;refine mR (FA p q u.o ap (vu o r s) wc (v.o.ext (ae.o _ h.o.1)) i.o (ox.mb _ _ _) (a0.o.ext (ae.o _ h.o.1))) fun a ⟨f,g⟩=>?_
    rw[<-e.o] at g ⊢;have a:=aH g;clear g;let ⟨g,n,o⟩:=gO f h i l;go_wp2_with fail;have f:=aH (pC a.o.ok a.o.vc a.o.I V.o);refine fK 5 1 g fun h i=>?_
    simp only[sZ,ak];let ⟨l,z,U⟩:=gO i g n o;go_wp2_with fail;refine(nI p q u.o.ok t V.o c a.o h (v.o.ext (ae.o _ l.o.1))).mono ?_;rintro g h ⟨n9,rfl,i⟩;let ⟨HDf,HFf,HCf⟩:=gO i l z U;go_wp2_with fail;refine fK 7 0 HDf fun g h=>?_
    simp only[sZ,ak];let ⟨i,l,n⟩:=gO h HDf HFf HCf;refine lG rfl (aI 13) (aI 74) rfl k9 a.o.ok f.o fG rfl n.o rfl rfl ?_;obtain⟨f,h⟩:=aQ (show Fm w a6 a7 (g.setRow k9 (kq c n9 (mS c t)))/\Bx (g.setRow k9 (kq c n9 (mS c t))) b4 63 (au ap)/\Bx (g.setRow k9 (kq c n9 (mS c t))) k8 376 (kq b nb (mS b t)) from⟨i.o.1.C (eZ ac.o HKK.o.1) _,i.o.2.1.m (gC HKK.o x.o),i.o.2.2.m (dU HKK.o)⟩) (n.o.row (kq c n9 (mS c t)));refine mn ⟨rfl,zI f fun g i=>?_⟩;simp only[ak];have l:=d.o g k9 n9 ⟨f.o.1.ext i,f.o.2.2.ext i,h.o.ext i,HKK.o,a.o⟩;exact l
  intro a k9 n9 ⟨d,f,g,h,i⟩
  try dsimp only
  let ⟨l,n,o,p,v⟩:=dZ d f g h i;obtain⟨d,f⟩:=aQ (fun g (h:fD g)=>show Ch g q c r s by have:=I1 (mx:=r) (my:=s) u.o Y.o h (e.o▸v.o);rw[<-e.o] at this;exact this) (fun i (p:fD i) (z:bD w i)=>show Ch i q b r s from V0.Abt u.o Y.o p (a2.o.ext z) y.o);have e:=o.o.cell 408 (Up v.o.ok n9 _);have f:=n.o.cell 408 (Up y.o.w.ok nb _);obtain⟨g,h,i,p⟩:=dq (pC v.o.ok v.o.vc v.o.I V.o) (pC y.o.w.ok y.o.w.vc y.o.w.I V.o) (l.o.C (k:=k8) (eZ ac.o x.o.1) (kq c n9 (mS c t))) (n.o.row (kq c n9 (mS c t)));let ⟨q,r⟩:=aX (a.setRow k8 (kq c n9 (mS c t)));rw[<-r] at i p
  by_cases s:n9<nb
  ·have x:decide (n9<nb)=aB:=decide_eq_true s
   go_wp2_with (first|(refine lA 376 13 k9 (o.o) (gD v.o.ok (kj g.o)) ?_)|(refine lG rfl (aI 12) (aI 80) rfl k8 v.o.ok g.o y.o.w.ok (kj h.o) n.o rfl rfl ?_;rw[<-r];clear e f n o l)|(refine lA 376 12 k8 (p.o) (gD v.o.ok (kj g.o)) ?_)|(refine lG rfl (aI 8) (aI 81) rfl (a6+1) v.o.ok g.o fG rfl (ah.o _ i.o) rfl rfl ?_));obtain⟨e,f⟩:=aQ ((ah.o _ i.o).row (kq c n9 (mS c t))) (show bD w (q.setRow (a6+1) (kq c n9 (mS c t))) from aO (ae.o _ i.o) (iJ ab.o));exact rR Ik e.o tX (nJ v.o.ok g.o) ⟨c,n9,rfl,v.o,fun i o _=>d.o i o,trivial,f.o⟩
  ·have c:decide (n9<nb)=av:=decide_eq_false s
   go_wp2_with (first|(refine lA 376 12 k8 (n.o) (gD y.o.w.ok (kj h.o)) ?_)|(refine lG rfl (aI 8) (aI 81) rfl (a6+1) y.o.w.ok h.o fG rfl (ah.o _ l.o) rfl rfl ?_));obtain⟨c,d⟩:=aQ ((ah.o _ l.o).row (kq b nb (mS b t))) (show bD w (a.setRow (a6+1) (kq b nb (mS b t))) from aO (ae.o _ l.o) (iJ ab.o));exact rR Ik c.o tX (nJ y.o.w.ok h.o) ⟨b,nb,rfl,y.o.w,fun a e f=>V0.Abt u.o Y.o e (f H.o) y.o,trivial,d.o⟩
end
def Zl(a b:Fr)(c d:Nat):Fr:=⟨a.W,a.H,fN a.Y b.Y (Vp a.W.toNat c d) a.W.toNat 16 16,fN a.U b.U (OB a.W.toNat c d) (a.W.toNat/2) 8 8,fN a.V b.V (OB a.W.toNat c d) (a.W.toNat/2) 8 8⟩
def Tc{a}(b:bQ a=aB)(c:a.W=16)(d:a.H=16):a.Y.length=16*16/\a.U.length=8*8/\a.V.length=8*8:=by
 simp only[bQ,bT,decide_eq_true_eq] at b;let ⟨⟨⟨_,a⟩,e⟩,f⟩:=b;rw[c,d] at a e f;refine⟨by omega,by omega,by omega⟩
def GB{p}(a b c d e f g h i l n)(o:Bk n 5 a i)(q:i.length=b)(r:b<=c)(s:du p n f g l)(t:¬p a)(u:g<=h)(v:d<=100000)(w:e<=1000)(x:b<=100000)
  (y:g=16*16)(z:∀H,H<16->d+H*e+16<=b):
  aT aE 165 #[af (M ⟨a,0,S⟩) b c,aG #[J E d,J E e,J E 16,J E 16],af f g h] n (fun H U=>H=aK (fE #[])/\Bk U 5 a (fN i l d e 16 16)/\n.grownBy U (M a)):=
 km a b c d e 16 16 f g h i l n o q r s t u O O O v w x y z
def yx{p}(a b c d e f g h i l n)(o:Bk n 5 a i)(q:i.length=b)(r:b<=c)(s:du p n f g l)(t:¬p a)(u:g<=h)(v:d<=100000)(w:e<=1000)(x:b<=100000)
  (y:g=8*8)(z:∀H,H<8->d+H*e+8<=b):
  aT aE 165 #[af (M ⟨a,0,S⟩) b c,aG #[J E d,J E e,J E 8,J E 8],af f g h] n (fun H U=>H=aK (fE #[])/\Bk U 5 a (fN i l d e 8 8)/\n.grownBy U (M a)):=
 km a b c d e 8 8 f g h i l n o q r s t u O O O v w x y z
def oq{i l:Nat->Prop}(n o:aq)(p q:Fr)(r s t u:Nat)(v:T)(a:dF i v n p)(b:dF l v o q)(w:eH o)(x:oP p r s=aB)(y:bQ q=aB)(c:q.W=16)(d:q.H=16)
   (e:p.W=((16*t:Nat):Int))(z:t<=4)(H:r<t)(U:u<=4)(V:s<u)(f:p.Y.length=(16*u)*(16*t))(g:p.U.length=(8*u)*(8*t))(h:p.V.length=(8*u)*(8*t)):
   aT aE 164 #[n,J E r,J E s,o] v (nk v (Zl p q r s,0)):=by
 have W:=a;have Y:=b;let ⟨a0,a1,a2⟩:=Tc y c d;have a3:p.Y.length<=4096:=by rw[f];exact aY (fo (show 16*u<=64 by omega) (show 16*t<=64 by omega)) O
 have a4:p.U.length<=1024:=by rw[g];exact aY (fo (show 8*u<=32 by omega) (show 8*t<=32 by omega)) O
 have a5:p.V.length<=1024:=by rw[h];exact aY (fo (show 8*u<=32 by omega) (show 8*t<=32 by omega)) O
 obtain⟨a6,a7,a8,a9,aa,ab,ac,ad,ae,rfl,ag,ah,ai⟩:=a;obtain⟨a,aj,al,am,ap,ar,ax,ay,aV,rfl,b0,b1,b2⟩:=b;let ⟨b,b3,b4⟩:=w.o;rw[b0.len] at a0;rw[b1.len] at a1;rw[b2.len] at a2;let ⟨b5,b6⟩:=N7 H V;have b7:=b6;rw[<-f] at b5;rw[<-g] at b6;rw[<-h] at b7;have b8:=Zp H z (show s<4 by omega);have b9:=aH ag.yH;have ba:=aH ah.yH;have bb:=aH ai.yH;have bc:=aH b0.yH;have bd:=aH b1.yH;have be:=aH b2.yH;have bf:p.W.toNat=16*t:=O;have bi:Zl p q r s=⟨p.W,p.H,fN p.Y q.Y (Vp (16*t) r s) (16*t) 16 16,fN p.U q.U (OB (16*t) r s) (16*t/2) 8 8,fN p.V q.V (OB (16*t) r s) (16*t/2) 8 8⟩:=by unfold Zl;rw[bf]
 rw[bi];let ⟨bk,bl⟩:=aX (16*t);rw[<-bl] at b5 b6 b7 b8 ⊢;have bn:p.W=(bk:Int):=O;have br:bk<=64:=O;let ⟨bs,bt⟩:=aX (Vp bk r s);let ⟨bu,bv⟩:=aX (OB bk r s);let ⟨bx,bz⟩:=aX (bk/2);have bC:=fun bK=>sd bk r s bs bu bx bK br O O bt bv bz
 rw[<-bt,<-bv,<-bz];rw[<-bt] at b5 b8;rw[<-bv] at b6 b7 b8;rw[<-bz] at b6 b7;have bK:=gX (l:=q.Y) (m:=p.Y) (wd:=16) 16 b5;have bL:=gX (l:=q.U) (m:=p.U) (wd:=8) 8 b6;have bR:=gX (l:=q.V) (m:=p.V) (wd:=8) 8 b7;have bU:=ri (fr:=bs) (st:=bk) (wd:=16) b9.o bc.o 16;have bV:=ri (fr:=bu) (st:=bx) (wd:=8) ba.o bd.o 8;have bY:=ri (fr:=bu) (st:=bx) (wd:=8) bb.o be.o 8;let ⟨c0,c1⟩:=aX (fN p.Y q.Y bs bk 16 16);let ⟨c2,c3⟩:=aX (fN p.U q.U bu bx 8 8);let ⟨c4,c5⟩:=aX (fN p.V q.V bu bx 8 8);rw[<-c1] at bK bU ⊢;rw[<-c3] at bL bV ⊢;rw[<-c5] at bR bY ⊢;rw[bn] at W ⊢;rw[c,d] at Y ⊢;let ⟨c6,c7,c8,c9,ca,cb⟩:=ej bC b5 b6 b7 W Y;let ⟨cc,cd,ce,cf,cg,ch⟩:=ej bn c1 c3 c5 bK bL;let ⟨ci,ck,cl,cn,co,cp⟩:=ej bR bU bV bY a0 a1;obtain⟨cr,cs,ct,cu⟩:=dq a2 (b0.mono (q:=(·<v.heap.size)) (fun _ cv _=>cv)) (b1.mono (q:=(·<v.heap.size)) (fun _ cw _=>cw)) (b2.mono (q:=(·<v.heap.size)) (fun _ cx _=>cx));let ⟨cv,cw⟩:=b8;have cx:bx<=64:=O;clear f g h e bf bl bn bt bv bz bC b5 b6 b7 W Y bi ag ah ai b0 b1 b2 c1 c3 c5 bK bL bR bU bV bY a0 a1 a2 c d;go_enter func164,ntmps164;go_wp2_with fail;refine(pz (p:=i) _ p _ _ _ (by(repeat with_reducible apply dF.alloc);exact ca.o)).mono ?_;rintro c d ⟨rfl,e⟩;have f:bj v.heap.size v d:=((((aM _ v).alloc dS _).alloc dS _).alloc eB _).trans (e.mono eB);have g:Bx d v.heap.size 63 #[J E bk,J E p.H,af a6 a7 a8,af a9 aa ab,af ac ad ae]:=(((jR v _ _).alloc _).alloc _).ext e;have h:Bx d (v.heap.size+1) 63 #[J E 16,J E 16,af a aj al,af am ap ar,af ax ay aV]:=((Bx.D _ _ _ _ dS).alloc _).ext e;have W:Bx d (v.heap.size+1+1) 63 #[J E 0,J E 0,af S 0 0,af S 0 0,af S 0 0]:=(Bx.D _ _ _ _ dS).ext e;clear e;let ⟨e,Y,a0,a1,a2⟩:=h.dz;have ag:=h.lt;go_wp2_with fail;clear e Y a0 a1 a2;refine mR (dB _ q _ (cb.o.ext f)) fun e Y=>?_
 have a0:=f.trans (Y.mono f.size);have a1:=g.ext Y;have a2:=h.ext Y;have ah:=W.ext Y;clear g h W f;let ⟨f,g,h,W,ai⟩:=a1.dz;let ⟨b0,b1,b2,b5,b6⟩:=a2.dz;have b7:=a1.lt;have bf:=a2.lt;have bi:=ah.lt;go_wp2_with fail;clear f g h W ai b0 b1 b2 b5 b6;refine(D4 (p:=i) _ p _ (ca.o.ext a0) O O O).mono ?_;rintro f g ⟨h,W,ai,b0,rfl,b1,b2⟩;have b5:=b1.val;subst b5;rw[cc.o];have b5:=a0.trans (b2.mono a0.size);have b6:=a1.ext b2;have bl:=a2.ext b2;have bn:=ah.ext b2;have bt:=b2.size;have bv:=b1.Q;have bz:=b1.b2;have bC:=b1.b3;have bK:=b1.n12;have bL:=b1.n13;have bR:=b1.n23;clear a1 a2 ah a0;go_upto_region 4 with fail;have a0:=b6.alloc (az #[J E bk,J E p.H,af (M ⟨W,0,S⟩) p.Y.length p.Y.length,af (M ⟨ai,0,S⟩) p.U.length p.U.length,af (M ⟨b0,0,S⟩) p.V.length p.V.length] 63);have a1:=bl.alloc (az #[J E bk,J E p.H,af (M ⟨W,0,S⟩) p.Y.length p.Y.length,af (M ⟨ai,0,S⟩) p.U.length p.U.length,af (M ⟨b0,0,S⟩) p.V.length p.V.length] 63);have a2:=bn.alloc (az #[J E bk,J E p.H,af (M ⟨W,0,S⟩) p.Y.length p.Y.length,af (M ⟨ai,0,S⟩) p.U.length p.U.length,af (M ⟨b0,0,S⟩) p.V.length p.V.length] 63);have ah:=jR g 63 #[J E bk,J E p.H,af (M ⟨W,0,S⟩) p.Y.length p.Y.length,af (M ⟨ai,0,S⟩) p.U.length p.U.length,af (M ⟨b0,0,S⟩) p.V.length p.V.length];have bU:=b1.k1.alloc (az #[J E bk,J E p.H,af (M ⟨W,0,S⟩) p.Y.length p.Y.length,af (M ⟨ai,0,S⟩) p.U.length p.U.length,af (M ⟨b0,0,S⟩) p.V.length p.V.length] 63);have bV:=b1.k2.alloc (az #[J E bk,J E p.H,af (M ⟨W,0,S⟩) p.Y.length p.Y.length,af (M ⟨ai,0,S⟩) p.U.length p.U.length,af (M ⟨b0,0,S⟩) p.V.length p.V.length] 63);have bY:=b1.k3.alloc (az #[J E bk,J E p.H,af (M ⟨W,0,S⟩) p.Y.length p.Y.length,af (M ⟨ai,0,S⟩) p.U.length p.U.length,af (M ⟨b0,0,S⟩) p.V.length p.V.length] 63);have c1:=b5.alloc b5.size (az #[J E bk,J E p.H,af (M ⟨W,0,S⟩) p.Y.length p.Y.length,af (M ⟨ai,0,S⟩) p.U.length p.U.length,af (M ⟨b0,0,S⟩) p.V.length p.V.length] 63);generalize g.alloc (az #[J E bk,J E p.H,af (M ⟨W,0,S⟩) p.Y.length p.Y.length,af (M ⟨ai,0,S⟩) p.U.length p.U.length,af (M ⟨b0,0,S⟩) p.V.length p.V.length] 63)=c3 at*
 have c5:=b1.k1.lt;have cy:=b1.k2.lt;have cz:=b1.k3.lt;have cA:=ah.lt;generalize g.heap.size=cB at*
 clear b6 bl bn b5 b1;let ⟨b1,b5,b6,bl,bn⟩:=a0.dz;have cC:=a0.lt;have cE:=a1.lt;have cF:=a2.lt;go_wp2_with fail;clear b1 b5 b6 bl bn;refine mR (c6.o _) fun b1 b5=>?_
 have b6:=b5.size;have bl:=a0.ext b5;have bn:=a1.ext b5;have cI:=a2.ext b5;have cL:=ah.ext b5;replace cN:=bU.ext b5;replace cO:=bV.ext b5;replace cR:=bY.ext b5;have cS:=c1.trans (b5.mono c1.size);clear a0 a1 a2 ah c1;go_upto_region 5 with fail;have a0:=(bn.alloc (az #[J E bs,J E bk,J E 16,J E 16] 288)).alloc (az #[J E bu,J E bx,J E 8,J E 8] 288);have a1:=(cI.alloc (az #[J E bs,J E bk,J E 16,J E 16] 288)).alloc (az #[J E bu,J E bx,J E 8,J E 8] 288);have a2:=(cL.alloc (az #[J E bs,J E bk,J E 16,J E 16] 288)).alloc (az #[J E bu,J E bx,J E 8,J E 8] 288);have ah:=(cN.alloc (az #[J E bs,J E bk,J E 16,J E 16] 288)).alloc (az #[J E bu,J E bx,J E 8,J E 8] 288);have c1:=(cO.alloc (az #[J E bs,J E bk,J E 16,J E 16] 288)).alloc (az #[J E bu,J E bx,J E 8,J E 8] 288);have cT:=(cR.alloc (az #[J E bs,J E bk,J E 16,J E 16] 288)).alloc (az #[J E bu,J E bx,J E 8,J E 8] 288);have cU:=(jR b1 288 #[J E bs,J E bk,J E 16,J E 16]).alloc (az #[J E bu,J E bx,J E 8,J E 8] 288);have cV:=Bx.D (b1.alloc (az #[J E bs,J E bk,J E 16,J E 16] 288)) 288 #[J E bu,J E bx,J E 8,J E 8] (b1.heap.size+1) dS;have cY:=(cS.alloc cS.size (az #[J E bs,J E bk,J E 16,J E 16] 288)).alloc (by have:=cS.size;simp;omega) (az #[J E bu,J E bx,J E 8,J E 8] 288);generalize (b1.alloc (az #[J E bs,J E bk,J E 16,J E 16] 288)).alloc (az #[J E bu,J E bx,J E 8,J E 8] 288)=d0 at*
 have d1:=cL.lt;have d2:=cU.lt;have d3:=cV.lt;generalize b1.heap.size=d4 at*
 clear bl bn cI cL cN cO cR cS;have bl:=cs.o.ext cY;have bn:=ct.o.ext cY;have cI:=cu.o.ext cY;let ⟨cL,cN,cO,cR,cS⟩:=a2.dz;let ⟨d5,d6,d7,d8,d9⟩:=a0.dz;let ⟨dc,df,dg,dj⟩:=cU.iE;go_wp2_with fail;clear cL cN cO cR cS d5 d6 d7 d8 d9 dc df dg dj;refine mR (GB (p:=(·<v.heap.size)) W p.Y.length p.Y.length bs bk a aj al p.Y q.Y _ ah rfl (aw _) bl O b O O O co.o c7.o) fun cL ⟨cN,cO⟩=>?_
 have cR:=cO.size;have cS:=a0.grown cO eB;have d5:=a1.grown cO eB;have d6:=a2.grown cO eB;have d7:=cV.grown cO eB;have d8:=c1.grown cO eB;have d9:=cT.grown cO eB;have dc:=bn.grown cO (fun df dg _=>by simp;omega);have df:=cI.grown cO (fun dg dj _=>by simp;omega);have dg:=cY.grown cO O (fun dj dk=>by cases dk;omega);clear cO a0 a1 a2 cU cV ah c1 cT bl bn cI cY;rw[<-cd.o] at cN;let ⟨a0,a1,a2,ah,bl⟩:=d6.dz;let ⟨bn,c1,cI,cO,cT⟩:=cS.dz;let ⟨cU,cV,cY,dj⟩:=d7.iE;go_wp2_with fail;clear a0 a1 a2 ah bl bn c1 cI cO cT cU cV cY dj;refine mR (yx (p:=(·<v.heap.size)) ai p.U.length p.U.length bu bx am ap ar p.U q.U _ d8 rfl (aw _) dc O b3 O O O cp.o c8.o) fun a0 ⟨a1,a2⟩=>?_
 have ah:=a2.size;have bl:=cS.grown a2 eB;have bn:=d5.grown a2 eB;have c1:=d6.grown a2 eB;have cI:=d7.grown a2 eB;have cO:=cN.grown a2 eB;have cT:=d9.grown a2 eB;have cU:=df.grown a2 (fun cV cY _=>by simp;omega);have cV:=dg.grown a2 O (fun cY dj=>by cases dj;omega);clear a2 cS d5 d6 d7 cN d8 d9 dc df dg;rw[<-ce.o] at a1;let ⟨a2,cN,cS,cY,d5⟩:=c1.dz;let ⟨d6,d7,d8,d9,dc⟩:=bl.dz;let ⟨df,dg,dj,dk⟩:=cI.iE;go_wp2_with fail;clear a2 cN cS cY d5 d6 d7 d8 d9 dc df dg dj dk;refine mR (yx (p:=(·<v.heap.size)) b0 p.V.length p.V.length bu bx ax ay aV p.V q.V _ cT rfl (aw _) cU O b4 O O O cr.o c9.o) fun a2 ⟨cN,cS⟩=>?_
 have cY:=cS.size;have d5:=bn.grown cS eB;have d6:=c1.grown cS eB;have d7:=cO.grown cS eB;have d8:=a1.grown cS eB;have d9:=cV.grown cS O (fun dc df=>by cases df;omega);clear cS bl bn c1 cI cO a1 cT cU cV;rw[<-cf.o] at cN;let ⟨a1,bl,bn,c1,cI⟩:=d6.dz;let ⟨cO,cS,cT,cU,cV⟩:=d5.dz;have dc:=d5.frozen 0;have df:=d5.frozen 1;have dg:=d5.frozen 2;have dj:=d5.frozen 3;have dk:=d5.frozen 4;have dl:=d6.lt;have dm:=d5.lt;go_wp2_with fail;have dn:¬(e.heap.size<=v.heap.size+1+1):=O;have dp:=d7.zA (p:=(e.heap.size<=·)) bv ck.o;have dr:=d8.zA (p:=(e.heap.size<=·)) bz cl.o;have ds:=cN.zA (p:=(e.heap.size<=·)) bC cn.o;rw[cg.o] at dp;rw[ch.o] at dr;rw[ci.o] at ds;refine dY (v:=fE #[aG #[J E bk,J E p.H,af (M ⟨W,0,S⟩) p.Y.length p.Y.length,af (M ⟨ai,0,S⟩) p.U.length p.U.length,af (M ⟨b0,0,S⟩) p.V.length p.V.length],J E 0]) (by simp only[Ih,results164];go_simp) rfl ⟨_,rfl,eH.mk (aw _) (aw _) (aw _),⟨_,_,_,_,_,_,_,_,_,rfl,?_,?_,?_⟩,?_⟩
 · refine du.mono (p:=(e.heap.size<=·)) ?_ (fun dx _ dy=>by omega)
   repeat refine du.setCell ?_ dn _
   exact dp
 · refine du.mono (p:=(e.heap.size<=·)) ?_ (fun dx _ dy=>by omega)
   repeat refine du.setCell ?_ dn _
   exact dr
 · refine du.mono (p:=(e.heap.size<=·)) ?_ (fun dx _ dy=>by omega)
   repeat refine du.setCell ?_ dn _
   exact ds
 ·
   repeat(first|(with_reducible exact d9)|(refine iu ?_ (by first|(simp;done)|(simp;omega)) _)|(refine qk ?_ (by first|(simp;done)|(simp;omega)) _)|(refine rS ?_))
def Yz(a:T)(b:Int)(c:List Int)(d:Ending)(e:T):Prop:=
 ∃f g h,d=aK (fE #[aG #[J E b,af f g h],J E 0])/\du (a.heap.size<=·) e f g c/\bj a.heap.size a e/\g<=h
def du.row{a g c d e}(f:du a g c d e){h}(i:∀b,a b->b≠h)(l):du a (g.setRow h l) c d e:=by
 obtain⟨a,c,d⟩:=f;refine⟨a,c,fun e=>?_⟩;obtain⟨a,c,f,n,o⟩:=d e;exact⟨a,c,f,n,fun d e p=>(Afh g h l ⟨a,c+d,S⟩ (i a n)).trans (o d e p)⟩
def du.NN{a b c d e f}(g:du a c d e f)(h:∀i,a i->b i):du b c d e f:=by
 obtain⟨a,b,c⟩:=g;refine⟨a,b,fun d=>?_⟩;obtain⟨a,b,e,f,g⟩:=c d;exact⟨a,b,e,h a f,g⟩
def nK:(aE.info? 121).map (·.size)=M 2:=dK
def mH{c d e f g h}(p:e.guard=S)(q r)(s:e.op=.store 121 q r)
  (t){i l n o}(u:f.eval q=aD (M ⟨t,0,S⟩))(v:f.eval r=aG #[J E i,af l n o])
  {w a b}(x:Bx g t w #[a,b])
  (y:cG aE c h d (f.put e.dst sJ) (g.setRow t #[J E i,af l n o])):cG aE c h (e::d) f g:=
 wpList_store_row p _ q r s t _ u v w _ x nK rfl (by simp[cJ]) y
structure PsW(f:T)(g a h i l:Nat)(b:je)(c:List Mb)(d:Nat)(e:Nat)(wr:T)(n:Option Nat):Prop where
 ww:Wr wr g a n (jC 5 d++IF b c (bH d) e)
 zE:Bx wr h 121 #[J E 0,af S 0 0]
 b16:Bx wr i 283 #[J E b.ty,J E b.st,ao b.B,ao b.sec]
 b17:Bx wr l 324 (aS E (MO c (bH d) e).l)
 F:bj g f wr
 Pm:n≠M h
 r16:n≠M i
 r17:n≠M l
def PsR(a:T)(b c d e f:Nat)(g:je)(h:List Mb)(i:Nat)(l:Nat)(wr:T):Prop:=∃n,PsW a b c d e f g h i l wr n
def IZ(p:Sq)(a:Pc)(q:Bool)(b:RE p a q)(n:Nat)(c:(n:Int)<Dr p a/16)(u:Nat)(d:1<=u)(e:u<=31)(r s o:Nat)(v:List Mb)(f:(v.length:Int)=p.w/16)(t:T)(g:Vv t r s v)
  (w:je)(h:w=⟨a.ty,a.st,p.B,q⟩)(i:w.A)(l:∀x∈v,K7 w x):
  aT aE 251 #[aG p.cells,a.v,ao q,J E n,J E u,af (M ⟨r,s,S⟩) v.length o] t (Yz t (1+n) (kX (jC 5 u++IF w v (bH u) v.length++[aB]))):=by
 obtain⟨x,y,z,H⟩:=dq (fun U=>ET p a q b U) (fun V=>wD p a q b V) (fun W=>AQ W) (fun Y=>vZ p b.sq a q Y);have U:(bH (u:Int)).val=aG #[J E u,J E 0,J E 0,J E 0,J E 0,J E 0,J E 0,J E 0]:=rfl;have V:=aH (fun W=>Ep u W);rw[U] at V;clear U;have U:=b.sq;have W:0<=Dr p a/16/\Dr p a/16<=4:=by have:=U.h1;have:=U.h2;unfold Dr;split<;> omega
 obtain⟨Y,a0⟩:=aX (Dr p a/16);rw[<-a0] at y W c;rw[<-h] at H;obtain⟨a1,a2⟩:=aX (jC 5 u++IF w v (bH u) v.length++[aB]);rw[<-a2];obtain⟨a3,a4,a5⟩:=bh a2 h e;have a6:=U.w1;have a7:=U.w2;have a8:v.length<=4:=O;have a9:p.w.tdiv 16=(v.length:Int):=by rw[bB O,f]
 have aa:E.wrap (v.length:Int)=v.length:=an _ O;have ab:decide ((n:Int)<0)=av:=by simp
 have ac:decide (Y<=(n:Int))=av:=by simp;omega
 have ad:decide ((u:Int)<1)=av:=by simp;omega
 have ae:decide (31<(u:Int))=av:=by simp;omega
 have ag:lE.wrap (u:Int)=u:=by rw[ic];omega
 have ah:E.wrap (1+(n:Int))=1+n:=an _ O;obtain⟨ai,aj,al,am,ap⟩:=dZ (fun ar ax=>ID l (St.tT (q:=u) O O) ar ax) (fun ay aV=>IE l (St.tT (q:=u) O O) ay aV) l g i;have ar:r<t.heap.size:=by obtain⟨_,_,ax,_⟩:=g;exact ax.lt
 have ax:=aH ar;obtain⟨ay,aV,b0,b1,b2,b3⟩:=a;unfold Pc.v at*;dsimp only at*;obtain⟨a,b4⟩:=aX (((t.alloc (az p.cells 26)).alloc (az #[J E ay,J E aV,J E b0,ao b1,ao b2,ao b3] 93)).alloc (az #[J E 0,af S 0 0] 121));obtain⟨b5,b6,b7,b8,b9⟩:=dZ (show rH a t.heap.size p by rw[b4];exact((rH.new t _ p U rfl).ext ((aM _ _).alloc (aw _) _)).ext ((aM _ _).alloc (aw _) _)) (show Bx a (t.heap.size+1) 93 #[J E ay,J E aV,J E b0,ao b1,ao b2,ao b3] by rw[b4];exact(Bx.D _ _ _ _ dS).alloc _) (show Bx a (t.heap.size+1+1) 121 #[J E 0,af S 0 0] by rw[b4];exact Bx.D _ _ _ _ dS) (show bj t.heap.size t a by rw[b4];exact(((aM _ _).alloc (aw _) _).alloc dS _).alloc eB _) (show a.heap.size=t.heap.size+3 by rw[b4];simp);clear h a2 U W a0 a6 a7 i g l ar b f c d e;go_enter func251,ntmps251;go_upto_region 1 with fail;rw[<-b4];obtain⟨b,c⟩:=aX t.heap.size;rw[<-c] at b5 b6 b7 b9 ax b8 ⊢;have d:=aH c;clear b4 c;have c:=b6.o.cell 0 rfl;have e:=b6.o.cell 1 rfl;have f:=b6.o.cell 2 rfl;have g:=b6.o.cell 3 rfl;have h:=b6.o.cell 4 rfl;have i:=b6.o.cell 5 rfl;go_wp2_with ((with_reducible refine oe dW (aI 6) rfl rfl b5.o ?_));refine(x.o _).mono ?_;rintro l U ⟨rfl,W⟩;obtain⟨a0,a2,a6⟩:=gO W b6 b5 b7;have a7:=aH (b8.o.trans (W.mono (dU b9.o)));clear c e f g h i W;have c:=a0.o.cell 0 rfl;have e:=a0.o.cell 1 rfl;have f:=a0.o.cell 2 rfl;have g:=a0.o.cell 3 rfl;have h:=a0.o.cell 4 rfl;have i:=a0.o.cell 5 rfl;go_wp2_with ((with_reducible refine oe dW (aI 6) rfl rfl a2.o ?_));refine(y.o _).mono ?_;rintro W ar ⟨rfl,b4⟩;have ba:=a6.o.lt;obtain⟨bb,bc,bd⟩:=gO b4 a0 a2 a6;have be:=aH (a7.o.trans (b4.mono O));clear c e f g h i b4 ba;have c:=bc.o.all.1.1;go_wp2_with fail;refine(z.o _).mono ?_;rintro e f ⟨rfl,g⟩;subst g;obtain⟨g,h⟩:=aX ar.heap.size;have i:=be.o.size;have b4:=Wr.new ar b (eZ d.o i);rw[<-h] at b4 ⊢;have ba:bj ar.heap.size ar (ar.alloc (az #[af S 0 0,J E 0] 301)):=(aM _ _).alloc (aw _) _;obtain⟨bf,bi,bk⟩:=gO ba bb bc bd;have bl:b+1+1<g:=by rw[h];exact bd.o.lt
 obtain⟨bn,br⟩:=aQ (be.o.trans (ba.mono (eZ d.o i))) b4;clear b4 ba h i c;generalize ar.alloc (az #[af S 0 0,J E 0] 301)=c at*
 go_wp2_with fail;have a:b<=c.heap.size:=by rw[d.o];exact bn.o.size
 refine(fS b g S [] u 5 u 5 rfl rfl c br.o O (dU a5.o) dS (dU d.o)).mono ?_;rintro c e ⟨f,rfl,h,i,l⟩;obtain⟨c,n,o,x,y,z⟩:=ej h (bf.o.G i O dS) (show rH e b p from⟨bi.o.j.G i O dS,bi.o.ok⟩) (bk.o.G i O dS) (bn.o.trans (i.below br.o a)) (show f≠M (b+1+1) from l _ bk.o.lt dS);clear h i l a;have a:=n.o.cell 0 rfl;have e:=n.o.cell 1 rfl;have h:=n.o.cell 2 rfl;have i:=n.o.cell 3 rfl;have l:=n.o.cell 4 rfl;have U:=n.o.cell 5 rfl;go_wp2_with ((with_reducible refine oe dW (aI 6) rfl rfl o.o ?_));refine(H.o _).mono ?_;rintro n o ⟨rfl,H⟩;obtain⟨n,o⟩:=di H c x;have c:=aH (y.o.trans (H.mono (eZ d.o y.o.size)));clear a e h i l U H;go_wp2_with fail;refine(V.o _).mono ?_;rintro a e ⟨rfl,h⟩;obtain⟨a,i⟩:=di h n o;have l:=aH (c.o.trans (h.mono (eZ d.o c.o.size)));clear h;rw[a4.o];unfold je.v;go_upto_region 8 with fail;obtain⟨c,h⟩:=aX e.heap.size;obtain⟨n,o⟩:=aX (e.heap.size+1);obtain⟨x,y⟩:=aX ((e.alloc (az #[J E ay,J E aV,ao p.B,ao q] 283)).alloc (az #[J E u,J E 0,J E 0,J E 0,J E 0,J E 0,J E 0,J E 0] 324));have p:bj e.heap.size e x:=by rw[y];exact((aM _ _).alloc (aw _) _).alloc dS _
 have q:b<=e.heap.size:=by rw[d.o];exact l.o.size
 have e:=aH (show PsW t b g (b+1+1) c n w v u 0 x f from by
  refine⟨by simpa[IF] using a.o.ext p,i.o.ext p,?_,?_,l.o.trans (p.mono q),z.o,(Rn.new a.o (k:=c) O).2,(Rn.new a.o (k:=n) O).2⟩
  ·rw[y,a4.o];exact(Bx.D _ _ _ _ h).alloc _
  ·rw[y];exact Bx.D _ _ _ _ (by simp[o]))
 have l:=aH (show g≠c/\g≠n/\g≠b+1+1/\c≠n/\b+1+1≠c/\b+1+1≠n/\b<=c/\b<=n by
  have:=a.o.lt;have:=i.o.lt;omega)
 rw[<-y,<-o,<-h];clear y h o p q;go_upto_region 9 with fail
 go_loopw [71] (fun a wr=>mD v.length (fun h wr=>PsR t b g (b+1+1) c n w v u h wr) a wr) (fun i _=>v.length-(intOf i).toNat)
 case atStart=>exact⟨0,by omega,rfl,f,e.o⟩
 case round=>
  obtain⟨a,e,rfl,f,h⟩:=hrel;have e:=aH h;clear h
  by_cases h:a<v.length
  ·obtain⟨i,o⟩:∃p,v[a]?=M p:=⟨_,aA h⟩
   obtain⟨h,p⟩:=aQ o (al.o i (bg o));clear o;obtain⟨o,q⟩:=aX (MO v (bH u) a);have x:o.A:=by rw[q];exact ai.o a O
   obtain⟨y,z⟩:=aQ x q;obtain⟨H,U,V,W,Y,a0,a1,a2,_⟩:=St.ex x;obtain⟨a4,a5⟩:=aX o.q;rw[<-a5] at a2;obtain⟨a6,a7⟩:=aQ (show o.val=aG #[J E a4,J E H,J E U,J E V,J E W,J E Y,J E a0,J E a1] by rw[a2];rfl) (show aS E o.l=#[J E a4,J E H,J E U,J E V,J E W,J E Y,J E a0,J E a1] by rw[a2];rfl);clear q x a2 a5;obtain⟨q,x⟩:=aQ (am.o.below e.o.F ax.o) (show s+a*408=s+408*a by omega);go_upto_region 11 with(first|(with_reducible refine Mv dW (aI 73) rfl r s (s+a*408) a x.o rfl q.o h.o ?_)|(with_reducible refine r6 rfl (aI 19) (aI 74) rfl wr.heap.size rfl O2 p.o.ok rfl rfl ?_));obtain⟨q,r⟩:=aX wr.heap.size;obtain⟨s,x⟩:=aX (wr.alloc (az i.cells 280));have H:bj wr.heap.size wr s:=by rw[x];exact(aM _ _).alloc (aw _) _
   have U:b<=wr.heap.size:=by have:=e.o.F.size;have:=d.o;omega
   obtain⟨V,W⟩:=aQ (show PsW t b g (b+1+1) c n w v u a s f from⟨e.o.ww.ext H,e.o.zE.ext H,e.o.b16.ext H,e.o.b17.ext H,e.o.F.trans (H.mono U),e.o.Pm,e.o.r16,e.o.r17⟩) (show Mx s q i from by rw[x];exact Mx.new _ _ p.o.ok _ r);rw[<-x,<-r];have q:=aH (show b<=s.heap.size from aY U H.size);clear x r H U;have r:=V.o.b16.cell 0 rfl;have t:=V.o.b16.cell 1 rfl;have x:=V.o.b16.cell 2 rfl;have H:=V.o.b16.cell 3 rfl;have U:=V.o.b17;rw[<-z.o,a7.o] at U;have Y:=U.cell 0 rfl;have a0:=U.cell 1 rfl;have a1:=U.cell 2 rfl;have a2:=U.cell 3 rfl;have a4:=U.cell 4 rfl;have a5:=U.cell 5 rfl;have a7:=U.cell 6 rfl;have a8:=U.cell 7 rfl;have a9:=aH U;clear U;have U:=Tf b g f (jC 5 u++IF w v (bH u) a) w ap.o o y.o i p.o.ok p.o.fm p.o.vc p.o.I p.o.dl s V.o.ww q.o (by have:=aj.o a O;rw[aJ,fX];omega);rw[a6.o] at U;have s:=aH U;clear U;go_wp2_with ((with_reducible refine fM dW (aI 19) rfl rfl W.o ?_));refine s.o.mono ?_;rintro s U ⟨W,rfl,a6,aa,ab⟩;have s:=aH a6;obtain⟨U,ac⟩:=aX (mS i o);have ad:U.A:=by rw[ac];exact pC p.o.ok p.o.vc p.o.I y.o
   obtain⟨p,y,ae,ag,ah,ai,al,am,_⟩:=St.ex ad;obtain⟨ap,ar⟩:=aX U.q;rw[<-ar] at am;have ax:U.val=aG #[J E ap,J E p,J E y,J E ae,J E ag,J E ah,J E ai,J E al]:=by rw[am];rfl
   have ay:=aH (show aS E U.l=#[J E ap,J E p,J E y,J E ae,J E ag,J E ah,J E ai,J E al] by rw[am];rfl);rw[<-ac,ax];obtain⟨p,y,ae,ag,ah,ai⟩:=ej ac (V.o.zE.G aa (Ne.symm l.o.2.2.1) V.o.Pm) (V.o.b16.G aa (Ne.symm l.o.1) V.o.r16) (a9.o.G aa (Ne.symm l.o.2.1) V.o.r17) (V.o.F.trans (aa.below V.o.ww q.o)) (show W≠M (b+1+1)/\W≠M c/\W≠M n from⟨ab _ V.o.zE.lt V.o.Pm,ab _ V.o.b16.lt V.o.r16,ab _ V.o.b17.lt V.o.r17⟩);clear r t x H Y a0 a1 a2 a4 a5 a7 a8 a6 aa ab am ar ac ad ax;go_wp2_with ((with_reducible refine vK rfl (aI 17) (aI 81) rfl n rfl rfl ag.o ?_));have c:v.getD a iA=i:=by rw[jr,h.o];rfl
   have h:MO v (bH u) (a+1)=U:=by show mS _ _=_;rw[c,<-z.o,p.o]
   have n:jC 5 u++IF w v (bH u) (a+1)=jC 5 u++IF w v (bH u) a++mbB w i o:=by show _++(_++mbB _ _ _)=_;rw[c,<-z.o,aW]
   refine⟨⟨a+1,by omega,rfl,W,?_,?_,?_,?_,?_,ai.o.1,ai.o.2.1,ai.o.2.2⟩,by simp[intOf];omega⟩
   ·rw[n];exact s.o.JQ (Ne.symm l.o.2.1) ai.o.2.2 _
   ·exact y.o.K (iD _ _ _ _ l.o.2.2.2.2.2.1)
   ·exact ae.o.K (iD _ _ _ _ l.o.2.2.2.1)
   ·rw[h,ay.o];exact ag.o.row _
   ·exact ah.o.trans (aO (aM _ _) l.o.2.2.2.2.2.2.2)
  ·obtain rfl:a=v.length:=O
   have a:=aj.o v.length (aw _);go_wp2_with fail;refine(sB b g f (jC 5 u++IF w v (bH u) v.length) wr e.o.ww (by rw[aJ,fX];omega)).mono ?_;rintro c f ⟨g,h,i,rfl,l,n,o⟩;rw[<-a3.o] at l;have c:b<=wr.heap.size:=by have:=e.o.F.size;have:=d.o;omega
   have f:=aH l;obtain⟨p,q,r⟩:=bh (e.o.zE.ext n) (e.o.F.trans (n.mono c)) (show b+1+1<wr.heap.size from e.o.zE.lt);clear l n c a;go_wp2_with ((with_reducible refine mH rfl (aI 12) (aI 92) rfl (b+1+1) rfl rfl p.o ?_));refine dY (dT results251 _ _ (b+1+1) _ _ _ rfl rfl (p.o.row _) rfl Acw nK) rfl ?_;have a:=d.o;have b:=r.o;have b:=q.o;refine⟨g,h,i,rfl,(f.o.row (fun c d=>by omega) _).NN (fun e l=>by omega),?_,o⟩;rw[<-a];exact b.trans (aO (aM _ _) O)
def Ku(a b:T):Prop:=∀(c d:Nat)(e:Int),a.cell? ⟨c,d,S⟩=M (J .u8 e)->b.cell? ⟨c,d,S⟩=M (J .u8 e)
def Ku.refl(a):Ku a a:=fun _ _ _ b=>b
def Ku.trans{a b c}(d:Ku a b)(e:Ku b c):Ku a c:=fun f g h i=>e f g h (d f g h i)
def Ku.ext{b a}(c:bD b a):Ku b a:=fun d e f g=>by
 have a:d<b.heap.size:=World.block_lt_of_cell? b ⟨d,e,S⟩ g;unfold World.cell? at g ⊢;rw[c.block d a];exact g
def du.N{a b c d e f}(g:du a b d e f)(h:Ku b c):du a c d e f:=by
 let ⟨a,b,c⟩:=g;refine⟨a,b,fun d=>?_⟩;let ⟨a,b,e,f,g⟩:=c d;exact⟨a,b,e,f,fun c d i=>h _ _ _ (g c d i)⟩
def Fv.N{a b c d}(e:Fv a c d)(f:Ku a b):Fv b c d:=by
 let ⟨⟨a,b,c,d,g,h,i,l,n,o,p,q,r⟩,s⟩:=e;exact⟨⟨a,b,c,d,g,h,i,l,n,o,p.N f,q.N f,r.N f⟩,s⟩
def zx.N{a b c}(d:zx a c)(e:Ku a b):zx b c:=by
 let ⟨a,b,c,f,g⟩:=d;exact⟨a,b,c,f,g.N e⟩
def GQ.N{a b c}(d:GQ a c)(e:Ku a b):GQ b c:=⟨fun f=>(d.wh f).N e,fun g=>⟨(d.fl g).1.N e,(d.fl g).2.N e⟩⟩
def dM.re(a:dM)(b:FV):dM:={a with res:=b}
def dM.Rv(a:dM):List aq:=a.pre++([J E a.h.ty,J E a.h.st,J E a.h.ord,ao a.h.top,ao a.h.M3,ao a.h.alt,J E a.q]++FV.l a.src++FV.l a.rx++FV.l a.ry++FV.l a.rz++FV.l a.w0++FV.l a.w1++FV.l a.JR++FV.l a.Ie++FV.l a.f10++FV.l a.f11)
def dM.zy(a:dM):a.cells=(a.Rv++FV.l a.res).toArray:=by
 unfold dM.cells dM.Rv dM.tail;simp only[aW]
def dM.G8{k:dM}(a:jV k.s):k.Rv.length=196:=by
 unfold dM.Rv;rw[aJ,dM.jQ a];rfl
def dM.V4{a:dM}(b:jV a.s)(c):jH a.cells 196 (au c)=(a.re c).cells:=by
 rw[dM.zy,dM.zy];have:=Af a.Rv (FV.l a.res) [] 196 0 (au c) (dM.G8 b) (show 0+5<=5 by decide);rw[kg,kg] at this;rw[show(196:Nat)=196+0 from rfl,this];rfl
def Kb.JN{a b c}(d:Kb a b c)(e):Kb (a.setRow b (c.re e).cells) b (c.re e):=⟨d.j.row _,d.ok⟩
def Kb.N{d e a}(b:Kb d e a)(c):Ku d (d.setRow e (a.re c).cells):=by
 intro f g h i
 by_cases h:f=e
 ·subst h
  have l:=b.j.row (a.re c).cells;rw[Bf d f g _ _ (0,0) b.j] at i;rw[Bf _ f g _ _ (0,0) l];rw[dM.zy,bw] at i ⊢;have l:=dM.G8 b.ok;have l:(a.re c).Rv.length=196:=dM.G8 (k:=a.re c) b.ok
  by_cases a:g<196
  ·rw[bo O] at i ⊢
   exact i
  ·exfalso
   rw[aU O] at i;have:=bg i;simp[FV.l] at this
 ·rw[Afh d e _ ⟨f,g,S⟩ h]
  exact i
structure Kr(a:Nat)(b c:T):Prop where
 up:fO b c a S
 N:Ku b c
def Kr.refl(a b):Kr a b b:=⟨fO.refl _ _ _,Ku.refl _⟩
def Kr.trans{a b c d}(e:Kr a b c)(f:Kr a c d):Kr a b d:=⟨e.up.trans f.up (fun _ _ _=>by simp),e.N.trans f.N⟩
def Kr.ext{a b c}(d:bD b c):Kr a b c:=⟨fO.bS _ _ d,Ku.ext d⟩
def Kr.JN{a b c}(d:Kb a b c)(e):Kr b a (a.setRow b (c.re e).cells):=⟨fO.ofRow (aM _ _) _,d.N e⟩
def fD.kr{a b c d}(e:fD a)(f:Kr c a b)(g:Kb a c d):fD b:=⟨e.a.K (f.up.block _ e.a.lt (e.a.diff g.j (yD (dM.size g.ok))) dS),e.i.K (f.up.block _ e.i.lt (e.i.diff g.j (yD (dM.size g.ok))) dS)⟩
def Fm.base{i l a n b c d e}(p:Fm i a b l)(f:n<a)(g:Bx i n c d)(h:Bx l n c e)(o):Fm (i.setRow n o) a b (l.setRow n o):=by
 refine⟨fun a b c=>(p.j a b c).m O,⟨p.F.os,p.F.tape,p.F.output,by rw[kB,kB];exact p.F.size,fun d e=>?_⟩,by rw[kB];exact p.k⟩
 by_cases a:d=n
 ·subst a
  exact(h.row o).trans (g.row o).symm
 ·rw[iD l n d o a,iD i n d o a]
  exact p.F.block d e
def xD:(aE.info? 121).map (·.size)=M 2:=dK
def unV(a:Int)(b:Option Addr)(c d:Nat):aq:=aG #[J E a,af b c d]
def Qz(a:Int)(b:Option Addr)(c d:Nat)(e:T):aT aE 250 #[unV a b c d,J E 0] e fun f g=>f=aK (unV a b c d)/\bD e g:=by
 unfold unV;go_enter func250,ntmps250;go_wp2_with fail;exact dY (po results250 _ _ (e.heap.size+1) _ _ rfl (Bx.D _ _ _ _ dS) rfl Acw xD) rfl ⟨rfl,(jd).alloc dS _⟩
structure Dm(a b:Nat)(c:Fr):Prop where
 W:c.W=((16*a:Nat):Int)
 H:c.H=((16*b:Nat):Int)
 Y:c.Y.length=(16*b)*(16*a)
 U:c.U.length=(8*b)*(8*a)
 V:c.V.length=(8*b)*(8*a)
def Dm.formed{g h a}(f:Dm g h a)(b:1<=g)(c:g<=4)(d:1<=h)(e:h<=4):jl a=aB:=by
 let ⟨a,b,c,d,e⟩:=f;have f:g=1\/g=2\/g=3\/g=4:=O;have g:h=1\/h=2\/h=3\/h=4:=O;unfold jl bQ ng;rw[a,b,c,d,e];rcases f with rfl|rfl|rfl|rfl<;> rcases g with rfl|rfl|rfl|rfl<;> decide
def Dm.has{a b c}(h:Dm a b c)(i:a<=4)(l:b<=4){d e}(f:d<a)(g:e<b):oP c d e=aB:=by
 unfold oP;rw[h.formed O i O l,h.W,h.H];simp only[Bool.true_and,bT,decide_eq_true_eq];omega
def Dm.set{a b i c}(h:Dm a b i)(d:a<=4)(e:b<=4){f g}(l:f<a)(n:g<b):Dm a b (Zl i c f g):=by
 let ⟨b,c,d,e,f⟩:=h;have g:i.W.toNat=16*a:=O;let ⟨h,i⟩:=N7 l n;have l:=i;rw[<-d] at h;rw[<-e] at i;rw[<-f] at l;unfold Zl;rw[g];exact⟨b,c,(gX _ h).trans d,(gX _ i).trans e,(gX _ l).trans f⟩
def ox.formed{a}(b:ox a):bQ a=aB:=by
 unfold bQ ng;rw[b.W,b.H,b.Y,b.U,b.V]
 decide
def unL:List (aR×Array aq):=[(121,#[J E 0,af S 0 0])]
def zM.re{a b c}(d:zM (a.re b) c):zM a c:=⟨d.ex⟩
def JL.re{a b c d}(e:JL a b c d)(f):JL a (b.re f) c d:=fun g h=>e g h.re
def GQ.re{a b}(c:GQ a b)(d):GQ a (b.re d):=⟨c.wh,c.fl⟩
def LX(a:Nat)(b:T)(c:FV)(d:Fr)(e:aq):Prop:=dF (fun f=>e.ownBlock≠M f/\a<=f) b c.val d/\eH c.val
def Mi(a:Nat)(b:T)(c:FV)(d:Fr):Prop:=dF (a<=·) b c.val d/\eH c.val
def Mi.ext{a b c d e}(f:Mi a b d e)(g:bD b c):Mi a c d e:=⟨f.1.ext g,f.2⟩
instance {w w' x0 x2 x3}:Tr w w' (Mi x0 w x2 x3) (Mi x0 w' x2 x3):=⟨fun hb h=>Mi.ext h hb⟩
def Mi.fv{a b c d}(e:Mi a b c d):Fv b c d:=⟨e.1.mono fun _ _ _=>trivial,e.2⟩
def Mi.row{a b c d e f g}(h:Mi a b c d)(i:Bx b e f g)(l:g.all oV=aB)(n):Mi a (b.setRow e n) c d:=by
 let ⟨⟨a,b,c,d,e,f,g,o,p,q,r,s,t⟩,u⟩:=h;exact⟨⟨a,b,c,d,e,f,g,o,p,q,r.G4 i l n,s.G4 i l n,t.G4 i l n⟩,u⟩
def Zz(c:T)(d:Nat)(e:dM)(f g h a:Nat)(i:Fr)(b:Ending)(l:T):Prop:=
 ∃(n:List Mb)(o:Option Addr)(p q:Nat)(r:FV)(s:Fr),b=aK (unV (1+h) o p q)/\n.length=f/\(∀t∈n,K7 e.c t)/\du (c.heap.size<=·) l o p (kX (jC 5 a++IF e.c n (bH a) n.length++[aB]))/\p<=q/\
  Kr d c l/\Kb l d (e.re r)/\Mi c.heap.size l r s/\Dm f g s/\(e.h.ty=1->n=(dI f).map fun a=>zK e (vu i a h))
def RoW(a:T)(b:Nat)(g:dM)(c h d e l f:Nat)(n:Fr)(i o:aq)(wr:T):Prop:=
 ∃(p:Nat)(q:List Mb)(r:FV)(s:Fr)(t:T),p<=d/\i=J E (p:Int)/\q.length=p/\Kr b a t/\t.heap.size=c/\Kb t b (g.re r)/\Fm t c unL wr/\Bx wr h 324 (aS E (MO q (bH f) q.length).l)/\LX (if p=0 then 0 else c) wr r s o/\Dm d e s/\(∀u∈q,K7 g.c u)/\
  jW wr (h+1) 280 408 o (q.map qE)/\(g.h.ty=1->q=(dI p).map fun a=>zK g (vu n a l))
def jW.gQ{a b c d e f}(h:jW a b c d e f){g}(i:e.ownBlock=M g):b<=g/\g<a.heap.size:=by
 rcases h.own.2 with⟨rfl,_⟩|⟨a,b,c,rfl,d,e,_⟩
 ·simp[kC] at i
 ·simp only[kC,bq] at i
  subst i;exact⟨d,(eJ.1 e).1⟩
def jW.rowB{h a b c d e}(i:jW h a b c d e){g}(f:g<a)(l):jW (h.setRow g l) a b c d e:=
 ⟨ko i.own (fun a b _=>iD h g a l (dU (i.gQ b))),i.k⟩
def LX.fb{a b c d e}(f:LX a b c d e):Mi a b c d:=⟨f.1.mono fun _ _ g=>g.2,f.2⟩
def LX.fv{a b c d e}(f:LX a b c d e):Fv b c d:=⟨f.1.mono fun _ _ _=>trivial,f.2⟩
def LX.ext{a b c d e f}(g:LX a b d e f)(h:bD b c):LX a c d e f:=⟨g.1.ext h,g.2⟩
instance {w w' x0 x2 x3 x4}:Tr w w' (LX x0 w x2 x3 x4) (LX x0 w' x2 x3 x4):=⟨fun hb h=>LX.ext h hb⟩
def LX.grown{d w w' a b e}(c:LX d w a b e)(f:w.grownBy w' e.ownBlock):Fv w' a b:=by
 let ⟨⟨a,b,g,h,i,l,n,o,p,q,r,s,t⟩,u⟩:=c;have c:∀v,(e.ownBlock≠M v/\d<=v)->v<w.heap.size->M v≠e.ownBlock:=fun x y _ z=>y.1 z.symm
 exact⟨⟨a,b,g,h,i,l,n,o,p,q,(r.grown f c).mono fun _ _ _=>trivial,(s.grown f c).mono fun _ _ _=>trivial,(t.grown f c).mono fun _ _ _=>trivial⟩,u⟩
def LX.N{a b c d e f}(g:LX a b d e f)(h:Ku b c):LX a c d e f:=by
 let ⟨⟨a,b,c,d,e,f,i,l,n,o,p,q,r⟩,s⟩:=g;exact⟨⟨a,b,c,d,e,f,i,l,n,o,p.N h,q.N h,r.N h⟩,s⟩
def Fm.Ga{a b c d e f}(h:Fm a d f b)(i:bj e b c)(g:d+f.length<=e):Fm a d f c:=
 ⟨fun a b c=>(h.j a b c).below i (by have:=(aP.1 c).1;omega),h.F.trans (i.mono O),aY h.k i.size⟩
def Zq{a}(b:a.A)(c d):(kq a c d).extract 0 (0+408)=a.cells:=by
 have e:=jv [] a.cells.toList (J E c::(aS E d.l).toList) 0 408 rfl (jP (da b));rw[js,oT] at e;unfold kq;rw[aW];exact e
def Aea{a}(b:a.A)(c){d}(e:d.A):(kq a c d).extract 409 (409+8)=aS E d.l:=by
 have f:=jv (a.cells.toList++[J E c]) (aS E d.l).toList [] 409 8 (by simp[da b]) (by rw[cj,bE];exact kj e);rw[kg,oT] at f;exact f
def ja:(aE.info? 93).map (·.size)=M 6:=dK
def Vv.Aik{a b c d}(e:mE a b c 408 (d.map qE)):Vv a b c d:=by
 let ⟨a,b,c,d⟩:=e;refine⟨a,b,c,fun e f g=>?_⟩;have:=d e f.cells (by rw[bN,g];rfl);exact⟨this.2.1,this.2.2⟩
def Vv.lt{a b c d}(e:Vv a b c d):b<a.heap.size:=by
 let ⟨a,b,c,_⟩:=e;exact c.lt
def Qh(a):(aS E a).all oV=aB:=by
 rw[bG];intro a b;simp only[aS,List.mem_toArray,iy] at b;obtain⟨a,_,rfl⟩:=b;rfl
def Wl(a b c):MO (a++[b]) c (a++[b]).length=mS b (MO a c a.length):=by
 have d:∀e,e<=a.length->MO (a++[b]) c e=MO a c e:=by
  intro f g
  induction f with
  |zero=>rfl
  |succ h i=>
   show mS ((a++[b]).getD h iA) (MO (a++[b]) c h)=mS (a.getD h iA) (MO a c h);rw[i O,jr,jr,bo O]
 rw[aJ,cW];show mS ((a++[b]).getD a.length iA) (MO (a++[b]) c a.length)=_;rw[d _ (aw _)];simp[jr]
def Abj(U:Nat)(V:dM)(a:Cj V)(H z Y W:Nat)(b:1<=H)(c:H<=4)(v:z<=4)(d:Y<z)(e:V.h.ty=1\/V.h.ty=2)(f:V.q=(W:Int))(w x:Fr)(g:Dm H z w)(h:Dm H z x)(y:T)(i:Kb y U V)(l:Fv y V.src w)(n:Fv y V.res x)
  (o:RE V.s V.h V.c.sec)(p:V.c=⟨V.h.ty,V.h.st,V.s.B,V.c.sec⟩)(q:V.s.w=((16*H:Nat):Int))(r:Dr V.s V.h=((16*z:Nat):Int))(s:V.h.ty=2->GQ y V)(t:V.h.ty=2->∀a0,Kr U y a0->∀a1,a1<H->JL a0 V a1 Y)(u:fD y):
  aT aE 212 #[aD (M ⟨U,0,S⟩),J E Y] y (Zz y U V H z Y W w):=by
 have a0:=aH (show∀(a1:Nat),a1<H->∀(a2:FV)(a3:St),a3.A->∀a4 a5,Kr U y a4->Kb a4 U (V.re a2)->bD a4 a5->aT aE 248 #[aD (M ⟨U,0,S⟩),J E a1,J E Y,a3.val] a5 (fun a6 a7=>∃(a8:Mb)(a9:Int)(aa:Fr),a6=aK (aG (kq a8 a9 (mS a8 a3)))/\K7 V.c a8/\ox aa/\AX a4 (V.re a2) a8 a1 Y aa/\(V.h.ty=1->a8=zK V (vu w a1 Y))/\bD a5 a7) by
  intro a6 a7 a8 a9 aa ab ac ad ae ag;have ah:Cj (V.re a8):=⟨a.ok,a.ty,a.st,a.B,a.q1,a.q2⟩;have ai:Fv ac V.src w:=(l.N ad.N).ext ag;have aj:fD ac:=(u.kr ad i).ext ag;rcases e with al|am
  ·refine(Ns U (V.re a8) ah al w a6 Y a9 aa ac (ae.ext ag) ai (g.has c v a7 d) aj).mono ?_
   rintro al ap ⟨ar,ax,ay,aV,b0,b1,b2⟩;let ⟨al,ap,b3⟩:=b0 ab (u.kr ad i) (fun b4=>by have:V.h.ty=2:=b4;omega);exact⟨ar,ax,al,ay,aV,ap,b3,fun _=>b1,b2⟩
  ·refine(Nr U (V.re a8) ah am w a6 Y O O a9 aa ac (ae.ext ag) ai (g.has c v a7 d) ((((s am).N ad.N).ext ag).re a8) (((t am ab ad a6 a7).ext ag).re a8) aj).mono ?_
   rintro a9 aa ⟨ac,ae,ag,ah,ai,aj,al⟩;let ⟨a9,aa,aj⟩:=ai ab (u.kr ad i) (fun _=>(t am ab ad a6 a7).re a8);exact⟨ac,ae,a9,ag,ah,aa,aj,fun a6=>by omega,al⟩)
 obtain⟨a6,a7,a8,a9,aa,ab⟩:=ej a i n h (show 1<=H/\H<=4/\z<=4/\Y<z from⟨b,c,v,d⟩) f;have ac:=aH (show(bH (W:Int)).A from St.tT (D8 f a.q1) (D8 f a.q2));have ad:=aH l.wh.1;obtain⟨ae,ag,ah,ai⟩:=dq g (bZ o p) (bZ q r) u;clear i n h a b c d f l g o p q r s t u e;let ⟨a,b⟩:=aX y.heap.size;have c:=aH b;let ⟨d,e⟩:=aX (y.alloc (az #[J E 0,af S 0 0] 121));obtain⟨f,g⟩:=aQ (show Fm y a [(121,#[J E 0,af S 0 0])] d by rw[e];exact(Fm.start y b).push (oz b) _ _) (show d.heap.size=a+1 by rw[e,dA,b]);have h:=GL e;go_enter func212,ntmps212;go_upto_region 2 with fail;refine mr e ?_
 try simp only[dA]
 try rw[<-b]
 clear e b;have b:=(a7.o.ext h.o).t 6 (v:=J E V.q) rfl;have e:=(a7.o.ext h.o).j.lt;rw[ab.o] at b;go_wp2_with fail;refine mR (Ep W d) fun i l=>?_
 let ⟨n,o⟩:=di l f h;clear b e;rw[show(bH (W:Int)).val=aG (aS E (bH W).l) from rfl];obtain⟨b,e⟩:=aQ (show(aE.info? 324).map (·.size)=M (aS E (bH W).l).size by rw[bE];exact kt) (show(#[J E 0,J E 0,J E 0,J E 0,J E 0,J E 0,J E 0,J E 0]:Array aq).size=(aS E (bH W).l).size by rw[bE];rfl);go_upto_region 3 with refine dd rfl 324 (aI 6) (aI 13) rfl _ rfl (vs:=aS E (bH W).l) b.o e.o (pT _ _) rfl rfl ?_
 try simp only[ak]
 let ⟨p,q,r,s,t,u⟩:=mY i (aS E (bH W).l) 324;have aj:=mX t n;have al:=aH (show a+1<=p by rw[r];exact n.o.k);have am:=mX t o;rw[<-s,<-r];clear s r t n o;have n:=(a7.o.ext am.o).t 7 (v:=J E V.src.W) rfl;have o:=(a7.o.ext am.o).j.lt;rw[ad.o,ae.o.W] at n;have r:((16*H:Nat):Int).tdiv 16=(H:Int):=by rw[bB O];omega
 have s:E.wrap (H:Int)=(H:Int):=an _ (dU aa.o);go_wp2_with fail
 try rw[show RI ((H:Nat):Int)=(H:Int) from s]
 clear n o r s
 go_loopw [5,20] (fun n o wr=>RoW y U V a p H z Y W w o n wr) (fun _ r _=>H-(intOf r).toNat)
 case atStart=>exact⟨0,[],V.res,x,y,Nat.zero_le _,rfl,rfl,Kr.refl _ _,c.o.symm,a7.o,aj.o,u.o,⟨(a8.o.ext am.o).1.mono (fun _ _ _=>by simp[kC]),(a8.o).2⟩,a9.o,by simp,jW.nil _ _ _ _,fun _=>rfl⟩
 case round=>
  obtain⟨n,o,r,s,t,ap,rfl,ar,ax,ay,aV,b0,b1,b2,b3,b4,b5,b6⟩:=hrel;let ⟨b7,b8,b9,ba,bb,bc⟩:=ej ar ax ay aV b0 b1;obtain⟨bd,be,bf,bi,bk,bl⟩:=ej b2 b3 b4 b5 b6 (ID (c:=V.c) b4 ac.o o.length (aw _));have bn:=aH (show bD t wr by have:=b0.F;rw[<-ay] at this;exact this);let ⟨br,bs⟩:=aX (MO o (bH W) o.length);have bt:=aH bs;rw[<-bs] at bc bl;clear ar ax ay aV b0 b1 b2 b3 b4 b5 b6 bs
  by_cases ar:n<H
  ·have ax:=aH ar
   have ay:decide ((n:Int)<(H:Int))=aB:=decide_eq_true O;clear ar ap;have aV:=aH (show(aS E br.l).size=8 by rw[bE,kj bl.o]);go_wp2_with refine lA 324 6 p bc.o aV.o ?_;refine(a0.o n ax.o r br bl.o t wr b8.o ba.o bn.o).mono ?_;rintro b0 b1 ⟨b2,b3,b4,rfl,b5,b6,bs,bu,bv⟩;let ⟨bx,bz,bC,bK⟩:=dq b5 b6 bs bu;let ⟨bL,bR,bU,bV⟩:=nj bv bb bc bd bi;clear b5 b6 bs bu bv;have b5:=aH (pC bx.o.ok bx.o.vc bx.o.I bl.o);obtain⟨b6,bs⟩:=aQ (nJ (n:=b3) bx.o.ok b5.o) (show(kq iA 0 Ma).size=(kq b2 b3 (mS b2 br)).size by rw[gD bx.o.ok (kj b5.o),gD fG rfl]);go_upto_region 7 with(first|(refine kG rfl (M 8) rfl rfl ?_)|(refine dd rfl 376 (aI 8) (aI 27) rfl _ rfl (vs:=kq b2 b3 (mS b2 br)) b6.o bs.o (xM _ _ _) rfl rfl ?_))
   try simp only[ak]
   let ⟨bu,bv,bY,c0,c1,c2⟩:=mY b1 (kq b2 b3 (mS b2 br)) 376;let ⟨c3,c4,c5,c6⟩:=nj c1 bL bR bU bV;have c7:=aH (show p<bu/\M bu≠u5.ownBlock from⟨by rw[bY];exact bR.o.lt,fun c8=>by have:=(bV.o.gQ c8.symm).2;omega⟩);rw[<-c0,<-bY];clear c0 bY c1 bL bR bU bV b6 bs;obtain⟨b6,bs,bL⟩:=bh (show(o.map qE).length<=100000 by rw[cX];have:=b7.o;have:=ax.o;have:=aa.o;omega) (show∀bR:Obj,p+1<=(bv.alloc bR).heap.size from fun bU=>by rw[dA];have:=c4.o.lt;omega) (show 0+408<=(kq b2 b3 (mS b2 br)).size by rw[gD bx.o.ok (kj b5.o)];decide);go_upto_region 8 with(first|(refine lS 280 29 bu 0 c2.o (Zq bx.o.ok b3 (mS b2 br)) bL.o ?_)|(refine jE rfl 267 (aI 30) rfl 280 b2.cells 408 (aG iA.cells) tk Cg zMb (da bx.o.ok) dD dD _ rfl rfl ?_)|(at_builtin;go_must (refine mN (base:=p+1) rfl (aI 28) (aI 31) 267 rfl 280 (aG iA.cells) 408 3200 tk Cf zMb dD dD rfl (c6.o.alloc _) b6.o (bs.o _) _ b2.cells rfl (jR _ _ _) (da bx.o.ok) (Mb.one b2) ?_;intro v9 w9 ho9 hb9 hg9)));have bR:bD bv (bv.alloc (az b2.cells 280)):=jd;obtain⟨bU,bV,bY,c0,c1⟩:=dZ ((c3.o.ext bR).Ga hb9 (show a+1<=p+1 by have:=al.o;omega)) ((c4.o.ext bR).below hb9 (Io _)) ((c5.o.ext bR).grown hg9) (show Bx w9 bu 376 (kq b2 b3 (mS b2 br)) from(c2.o.ext bR).K (hg9.block bu (c2.o.ext bR).lt c7.o.2)) ho9;clear bR hg9 ho9;have bR:=aH (show 409+8<=(kq b2 b3 (mS b2 br)).size by rw[gD bx.o.ok (kj b5.o)];decide);go_upto_region 9 with(first|(refine lS 324 33 bu 409 c0.o (Aea bx.o.ok b3 b5.o) bR.o ?_)|(refine vJ rfl (aI 6) (aI 34) rfl p (mS b2 br).l (kj b5.o) rfl rfl bV.o aV.o ?_))
   try simp only[ak]
   obtain⟨c8,c9,ca,cb,cc⟩:=dZ (bU.o.C (k:=p) (show a+1<=p from al.o) (aS E (mS b2 br).l)) (bV.o.row (aS E (mS b2 br).l)) (bY.o.row bV.o (Qh _) (aS E (mS b2 br).l)) (c0.o.m (g':=p) (cs':=aS E (mS b2 br).l) (dU c7.o.1)) (c1.o.rowB (Io p) (aS E (mS b2 br).l));clear bU bV bY c0 c1;generalize w9.setRow p (aS E (mS b2 br).l)=bU at*
   have b:=aH (show bD t bU by have:=c8.o.F;rw[<-b9.o] at this;exact this);have d:=aH (ba.o.ext b.o);have e:=d.o.j.lt;refine aL 19 (fun f=>Kb f U (V.re r)/\Bx f bu 376 (kq b2 b3 (mS b2 br))) rfl (fun g h=>?_);obtain⟨f,g⟩:=aQ (show Kb bU U (V.re r)/\Bx bU bu 376 (kq b2 b3 (mS b2 br)) from⟨d.o,cb.o⟩) h;clear e;refine gN 0 12 8 ?_;simp only[sZ,ak];iterate 4 (go_big_quiet_step (fail))
   refine lR f 63 38 U 196 5 (au r) (fun _ e=>e.1.te 57 5 (au r) rfl dD) db bM ?_;simp only[sZ,ak];iterate 4 (go_big_quiet_step (fail))
   refine lR f 280 43 bu 0 408 b2.cells (fun _ e=>⟨_,_,e.2,Zq bx.o.ok b3 (mS b2 br),by rw[gD bx.o.ok (kj b5.o)];decide⟩) mG jL ?_;simp only[sZ,ak];iterate 2 (go_big_quiet_step (fail))
   refine aN (oL 12 7 (fun e h=>⟨(d.o.ext g.o).ext h,(cb.o.ext g.o).ext h⟩) fun i l=>?_);simp only[sZ,ak];have e:=mX l g;clear l g;go_wp2_with fail;refine(rm U (V.re r) b2 bx.o.ok n Y b4 i (d.o.ext e.o) (bC.o.ext (b.o.trans e.o))).mono ?_;rintro b g ⟨h,rfl,i,l⟩;have b:=aH i;have g:=mX l e;clear i;go_wp2_with fail;refine oL 13 6 (fun e i=>⟨(d.o.ext g.o).ext i,(cb.o.ext g.o).ext i⟩) fun l p=>?_
   simp only[sZ,ak];let ⟨e,i⟩:=di p g b;clear p g b;go_wp2_with fail;refine(oq r.val h.val s b4 n Y H z l (ca.o.ext e.o).1 i.o.1 i.o.2 (be.o.has aa.o.2.1 aa.o.2.2.1 ax.o aa.o.2.2.2) bz.o.formed bz.o.W bz.o.H be.o.W aa.o.2.1 ax.o aa.o.2.2.1 aa.o.2.2.2 be.o.Y be.o.U be.o.V).mono ?_;rintro b g h;obtain⟨b,rfl,i,l,p⟩:=h.parts;have q:=aH (cc.o.ext e.o);have u:=aH (show LX a g b (Zl s b4 n Y) v9 from⟨l.mono (fun v _ w=>⟨fun x=>by have:=(q.o.gQ x).2;omega,by have:=c8.o.k;have:=e.o.size;omega⟩),i⟩);have g:=mX p e;clear i l h;go_wp2_with fail;refine gT 14 2 4 ?_;refine oL 16 3 (fun e h=>⟨(d.o.ext g.o).ext h,(cb.o.ext g.o).ext h⟩) fun i l=>?_
   simp only[sZ,ak];let ⟨e,h⟩:=di l g u;clear l g u;go_wp2_with fail;refine mR (iR b i) fun g l=>?_
   let ⟨g,i⟩:=di l h e;clear l e h;go_wp2_with fail;refine gT 17 2 1 ?_;refine oL 19 0 (fun e h=>⟨(d.o.ext i.o).ext h,(cb.o.ext i.o).ext h⟩) fun l p=>?_
   simp only[sZ,ak];let ⟨e,h⟩:=di p i g;have l:=aH (d.o.ext e.o);clear p i g;refine cD rfl 63 (aI 53) (aI 51) rfl U 196 (au b) rfl rfl _ _ (V.re b).cells l.o.j (dM.V4 l.o.ok b) bM (by rw[dM.size l.o.ok,fA];decide) (FV.one b) ?_;obtain⟨d,g⟩:=aQ (l.o.JN b) (l.o.N b);obtain⟨d,i⟩:=aQ (h.o.N g.o) (show U<a by have:=ba.o.j.lt;rw[b9.o] at this;exact this);obtain⟨g,p,q⟩:=bh ((c8.o.ext e.o).base i.o ba.o.j l.o.j (V.re b).cells) ((c9.o.ext e.o).m (g':=U) (cs':=(V.re b).cells) (gC i.o al.o)) ((cc.o.ext e.o).rowB (g:=U) (gC i.o al.o) (V.re b).cells);refine mn ⟨rfl,pX fun i l=>?_⟩;obtain⟨i,u,v,w⟩:=dq (g.o.ext l) (p.o.ext l) (q.o.ext l) (d.o.ext l);clear l g p q d f e c8 c9 cc h
   try simp only[ak]
   have d:=aH (show∀e∈o++[b2],K7 V.c e by
    intro e f;rcases dG.1 f with g|g
    ·exact bf.o e g
    ·rw[dJ.1 g]
     exact bx.o)
   have e:E.wrap ((n:Int)+1)=((n+1:Nat):Int):=by rw[show((n+1:Nat):Int)=(n:Int)+1 by omega];exact an _ (by have:=ax.o;have:=aa.o;omega)
   go_wp2_with fail
   exact⟨⟨n+1,o++[b2],b,Zl s b4 n Y,t.setRow U (V.re b).cells,ax.o,by go_num,by rw[aJ,cW,b7.o],b8.o.trans (Kr.JN ba.o b),by rw[kB];exact b9.o,ba.o.JN b,i.o,by rw[Wl,<-bt.o];exact u.o,by rw[if_neg (Nat.succ_ne_zero n)];exact w.o,
    be.o.set aa.o.2.1 aa.o.2.2.1 ax.o aa.o.2.2.2,d.o,by rw[fY];exact v.o,fun b=>by rw[Cn,fY,<-bk.o b,bK.o b];rfl⟩,by simp[intOf];have:=ax.o;omega⟩
  ·obtain rfl:n=H:=O
   clear ap ar a0;let ⟨b,d,e,f,g,h⟩:=bi.o.rows (by intro i;have:=congrArg mZ i;rw[cX,eK,b7.o] at this;have:=aa.o;omega);subst e;rw[cX] at g ⊢;have e:=aH (Vv.Aik h);clear f h;go_upto_region 11 with fail;have f:=aH (ba.o.ext bn.o);have g:=f.o.j.lt;obtain⟨h,i⟩:=aQ (show∀l,Kb l U (V.re r)->l.cell? ⟨U,3,S⟩=M (ao V.c.sec) from fun n p=>p.j.cell 3 (by rw[dM.cells,bw];rfl)) (show∀q,Kb q U (V.re r)->q.cell? ⟨U,145,S⟩=M (J E (W:Int)) from fun u v=>by have:=v.t 6 (v:=J E V.q) rfl;rw[ab.o] at this;exact this);refine aL 23 (fun l=>Kb l U (V.re r)) rfl (fun n p=>?_);have l:=f;have n:=aH p;clear g;refine gN 0 19 5 ?_;simp only[sZ,ak];iterate 3 (go_big_quiet_step (fail))
   refine lR l 26 57 U 4 135 V.s.cells (fun _ g=>g.seq) ik ew ?_;simp only[sZ,ak];iterate 3 (go_big_quiet_step (fail))
   refine lR l 93 61 U 139 6 #[J E V.h.ty,J E V.h.st,J E V.h.ord,ao V.h.top,ao V.h.M3,ao V.h.alt] (fun _ g=>g.te 0 6 #[J E V.h.ty,J E V.h.st,J E V.h.ord,ao V.h.top,ao V.h.M3,ao V.h.alt] rfl dD) zV ja ?_;simp only[sZ,ak];iterate 4 (go_big_quiet_step (fail))
   refine lC l 4 66 U 3 (ao V.c.sec) (fun _ g=>h.o _ g) jD ?_;simp only[sZ,ak];iterate 4 (go_big_quiet_step (fail))
   refine lC l 3 71 U 145 (J E (W:Int)) (fun _ g=>i.o _ g) bJ ?_;simp only[sZ,ak];go_big_quiet_step (fail);refine aN (oL 19 4 (fun g h=>(f.o.ext n.o).ext h) fun i p=>?_);simp only[sZ,ak];have g:=mX p n;clear p n;go_wp2_with fail;refine(IZ V.s V.h V.c.sec ag.o.1 Y (by rw[ah.o.2];have:=aa.o;omega) W (by have:=a6.o.q1;rw[ab.o] at this;omega) (by have:=a6.o.q2;rw[ab.o] at this;omega) b 0 d o (by rw[ah.o.1,b7.o];omega) i (e.o.below g.o e.o.lt) V.c ag.o.2 a6.o.ok bf.o).mono ?_;rintro b d ⟨e,h,n,rfl,p,q,u⟩;obtain⟨b,v⟩:=aQ (show du (a<·) d e h _ from p.mono (fun w _ x=>by have:=(bb.o.ext g.o).k;have:a+1<=i.heap.size:=this;omega)) u;have d:=mX q g;clear u;go_wp2_with fail;refine gT 20 2 2 ?_;refine oL 22 1 (fun g i=>(f.o.ext d.o).ext i) fun p q=>?_
   simp only[sZ,ak];let ⟨g,i⟩:=di q d b;clear q d b;go_wp2_with fail;refine mR (Qz (1+Y) e h n p) fun w9 hb9=>?_
   let ⟨b,d⟩:=di hb9 i g;clear hb9 g i;go_wp2_with fail;refine oL 23 0 (fun g i=>(f.o.ext d.o).ext i) fun p q=>?_
   simp only[sZ,ak];let ⟨f,g⟩:=di q d b;obtain⟨i,u⟩:=aQ (bb.o.ext f.o) (show Mi a p r s from by have w:=bd.o;rw[if_neg (dU aa.o)] at w;exact w.fb.ext f.o);clear q d b;have b:=aH (show Bx p a 121 #[J E 0,af S 0 0] from i.o.at 0 rfl);refine bm rfl 121 (aI 4) (aI 77) rfl a #[J E (1+Y),af e h n] rfl rfl b.o xD rfl (by simp[cJ]) ?_;obtain⟨d,i,q,w⟩:=dq (b.o.row #[J E (1+Y),af e h n]) (u.o.row b.o (by simp[oV]) #[J E (1+Y),af e h n]) (g.o.m (cs:=#[J E (1+Y),af e h n]) (g:=a) O) (show bD t (p.setRow a #[J E (1+Y),af e h n]) from aO (bn.o.trans f.o) (iJ b9.o));refine mn ⟨rfl,pX fun a b=>?_⟩;let ⟨a,f,g,p⟩:=nj b d i q w;clear b d i q w l
   try simp only[ak]
   go_wp2;exact rR results212 a.o Acw xD ⟨o,e,h,n,r,s,rfl,b7.o,bf.o,g.o.mono (fun b _ d=>by rw[<-c.o];omega),v.o,b8.o.trans (Kr.ext p.o),ba.o.ext p.o,by rw[<-c.o];exact f.o,be.o,bk.o⟩
def iB{A Z v off}(a:A.length=off):fu (A++Z) off v=(A++v)++Z.drop v.length:=by
 subst a;unfold fu;rw[Zj,List.drop_append,fU O];simp
def CO{a b c d off}(e:a.length+b.length=off):fu (a++(b++c)) off d=(a++b++d)++c.drop d.length:=by
 rw[<-aW];exact iB (eZ aJ e)
def gJ(a:Pc):Array aq:=#[J E a.ty,J E a.st,J E a.ord,ao a.top,ao a.M3,ao a.alt]
def GI(a:Sq)(b:Pc)(c:Bool)(d:Int)(e f g h i:FV):dM:=⟨⟨b.ty,b.st,a.B,c⟩,a,b,d,e,f,g,h,aC,aC,aC,aC,aC,aC,i⟩
def XF:(aE.info? 343).bind (·.zero)=M (aG eP):=dK
def Ul:(eP).toList.drop 166=(FV.l aC++FV.l aC++FV.l aC++FV.l aC++FV.l aC++FV.l aC)++FV.l aC:=dK
def QS:(eP).size=201:=dK
def T5(b)(a:jV b)(d c e f g h i o l)(n:l.drop 166=(FV.l aC++FV.l aC++FV.l aC++FV.l aC++FV.l aC++FV.l aC)++FV.l aC):
  fu (fu (fu (fu (fu (fu (fu l 0 [J E d.ty,J E d.st,ao b.B,ao c]) 4 b.cells.toList) 139 (gJ d).toList) 145 [J E e]) 146 (FV.l f)) 151 (FV.l g++FV.l h++FV.l i)) 196 (FV.l o)=(GI b d c e f g h i o).pre++(GI b d c e f g h i o).tail:=by
 have p:b.cells.toList.length=135:=by rw[cj];exact Sq.size a
 have a:fu l 0 [J E d.ty,J E d.st,ao b.B,ao c]=[J E d.ty,J E d.st,ao b.B,ao c]++l.drop 4:=rfl;rw[a,iB (off:=4) rfl];rw[iB (off:=139) (by rw[aJ,p];rfl)];rw[iB (off:=145) (by rw[aJ,aJ,p];rfl)];rw[iB (off:=146) (by rw[aJ,aJ,aJ,p];rfl)];rw[iB (off:=151) (by rw[aJ,aJ,aJ,aJ,p];rfl)];simp only[List.drop_drop,p];rw[show zF (4+135+(gJ d).toList.length+[J E e].length+(FV.l f).length+(FV.l g++FV.l h++FV.l i).length) l=_ from n];rw[CO (off:=196) (by simp only[aJ,p];rfl)];rw[show zF (FV.l o).length (FV.l aC)=[] from rfl,kg];simp only[GI,dM.pre,dM.ctx,dM.tail,gJ,aW,List.cons_append,js]
def Aai(b:Sq)(a:jV b)(c:Pc)(d:Bool)(e:Int)(f g h i l:FV)(n:T):
  (fk 343 #[(0,aG #[J E c.ty,J E c.st,ao b.B,ao d]),(1,aG b.cells),(2,aG (gJ c)),(3,J E e),(4,aG (au f)),(5,aG (cq g h i)),(8,aG (au l))]).run aE n=.ok (aG (GI b c d e f g h i l).cells) n:=by
 have o:=QS
 have p:=JE (P:=aE) (t:=343) (pl:=[(0,4),(4,135),(139,6),(145,1),(146,5),(151,15),(166,10),(176,20),(196,5)]) underlying343 XF dK #[(0,aG #[J E c.ty,J E c.st,ao b.B,ao d]),(1,aG b.cells),(2,aG (gJ c)),(3,J E e),(4,aG (au f)),(5,aG (cq g h i)),(8,aG (au l))]
  (by
   have q:=Sq.size a;intro r s;simp only[oU,sW,or_false] at s;rcases s with rfl|rfl|rfl|rfl|rfl|rfl|rfl
   ·exact⟨_,rfl,rfl,by rw[show(aG (eP)).cells=eP from rfl,o];decide⟩
   ·exact⟨_,rfl,q,by rw[show(aG (eP)).cells=eP from rfl,o];decide⟩
   ·exact⟨_,rfl,rfl,by rw[show(aG (eP)).cells=eP from rfl,o];decide⟩
   ·exact⟨_,rfl,rfl,by rw[show(aG (eP)).cells=eP from rfl,o];decide⟩
   ·exact⟨_,rfl,rfl,by rw[show(aG (eP)).cells=eP from rfl,o];decide⟩
   ·exact⟨_,rfl,rfl,by rw[show(aG (eP)).cells=eP from rfl,o];decide⟩
   ·exact⟨_,rfl,rfl,by rw[show(aG (eP)).cells=eP from rfl,o];decide⟩) n
 have o:=T5 b a c d e f g h i l (eP).toList Ul;refine p.trans ?_;show vF (aG (sK (rj _ _ _))) n=vF (aG (sK ((GI b c d e f g h i l).pre++(GI b c d e f g h i l).tail))) n;rw[<-o];rfl
def tD(c:Sq)(a:jV c)(d:Pc)(b:ng c.w (Dr c d)=aB)(e:T):
  aT aE 157 #[aG c.cells,d.v,aC.val] e (kM e (jJ c.w (Dr c d) 128 128 128)):=by
 obtain⟨f,g,h,i⟩:=dq a b (Sq.size a) (show∀l,Bx l e.heap.size 26 c.cells->l.cell? ⟨e.heap.size,0,S⟩=M (J E c.w) from fun n o=>o.cell 0 (by unfold Sq.cells;rw[bw];rfl));rw[show d.v=aG (gJ d) from rfl,show aC.val=aG (au aC) from rfl];let ⟨a,b,l,n,o,p,q,r,s,t,u,v,w⟩:=Dt e c.cells 26 (gJ d) 93 (au aC) 63 (au aC) 63;rw[<-n] at i;go_enter func157,ntmps157;go_upto_region 1 with fail
 try simp only[sZ,ak]
 refine mr o ?_
 try simp only[dA]
 rw[<-n];clear o n;have l:=(v.o _ r.o).cell 0 (v:=J E 0) rfl;go_upto_region 2 with fail;refine aL 8 (fun l=>Fm e a b l) rfl (fun n o=>?_);have b:=r;have l:=mX o r;refine gN 0 4 6 ?_;simp only[sZ,ak];go_big_quiet_step (fail);refine lC b 3 12 a 0 (J E c.w) (fun _ n=>i.o _ (t.o _ n)) bJ ?_;refine lR b 26 3 a 0 135 c.cells (fun _ i=>qg (t.o _ i) h.o) ik ew ?_;refine lR b 93 4 (a+1) 0 6 (gJ d) (fun _ h=>qg (u.o _ h) rfl) zV ja ?_;refine aN (fK 4 5 l fun b h=>?_);simp only[sZ,ak];have i:=mX h l;go_wp2_with fail;refine mR (ES c f.o d b) fun h l=>?_
 have b:=mX l i;go_wp2_with fail;refine fK 5 4 b fun f h=>?_
 simp only[sZ,ak];have i:=mX h b;go_wp2_with fail;refine(se c.w (Dr c d) 128 128 128 f O O O g.o).mono ?_;rintro b c d;obtain⟨b,rfl,c,f⟩:=d.fx;have d:=mX f i;have f:=aH c;go_wp2_with fail;refine gT 6 2 2 ?_;refine fK 8 1 d fun c g=>?_
 simp only[sZ,ak];let ⟨h,i⟩:=di g d f;refine bI rfl (aI 6) (aI 18) rfl (a+1+1+1) b rfl rfl (w.o _ h.o) (fA _) ?_;obtain⟨d,f,g⟩:=bh ((w.o _ h.o).row (au b)) (i.o.row (w.o _ h.o) (iq _) (au b)) (show bD e (c.setRow (a+1+1+1) (au b)) from aO (s.o _ h.o) (iJ p.o));refine mn ⟨rfl,gT 9 1 0 ?_⟩;refine pX fun a c=>?_
 let ⟨a,e,h⟩:=gO c d f g
 try simp only[ak]
 go_wp2;exact rT results157 a.o db bM ⟨b,rfl,e.o,h.o⟩
def IP(a b:Int):Int:=if b=0 then a+1 else 0
def Jv(a:List Int×Int)(b:Int):List Int×Int:=if a.2=2/\b<4 then(a.1++[3]++[b],IP 0 b) else(a.1++[b],IP a.2 b)
def rN(a:List Int)(b:Nat):List Int×Int:=(a.take b).foldl Jv ([],0)
def No(a:List Int):List Int:=(rN a a.length).1
def BV{a b c}(d:a[b]?=M c):rN a (b+1)=Jv (rN a b) c:=by
 unfold rN;rw[List.take_add_one,d,List.foldl_append];rfl
def U5(a b):a.1.length+1<=(Jv a b).1.length/\(Jv a b).1.length<=a.1.length+2:=by
 unfold Jv;split<;> simp
def Fy(a):∀b,b<=a.length->b<=(rN a b).1.length/\(rN a b).1.length<=2*b
 |0,_=>by simp[rN]
 |b+1,c=>by
  have c:=Fy a b O;have c:a[b]?=M a[b]:=aA O;rw[BV c];have:=U5 (rN a b) a[b];omega
def oQ(a):a.length<=(No a).length/\(No a).length<=2*a.length:=Fy a _ (aw _)
def Fx{b}(a:∀c∈b,0<=c/\c<=255):∀d,d<=b.length->(∀e∈(rN b d).1,0<=e/\e<=255)/\0<=(rN b d).2/\(rN b d).2<=2
 |0,_=>by simp[rN]
 |c+1,d=>by
  let ⟨e,f,g⟩:=Fx a c O;have h:b[c]?=M b[c]:=aA O;have i:=a _ (bg h);rw[BV h];generalize b[c]=l at*
  unfold Jv IP;split
  ·refine⟨fun a d=>?_,?_⟩
   ·simp only[dG,dJ] at d
    rcases d with(f|rfl)|rfl
    ·exact e a f
    ·omega
    ·exact i
   ·dsimp only;split<;> omega
  ·rename_i a
   refine⟨fun d f=>?_,?_⟩
   ·simp only[dG,dJ] at f
    rcases f with g|rfl
    ·exact e d g
    ·exact i
   ·dsimp only;split
    ·refine⟨by omega,?_⟩
     by_cases d:(rN b c).2=2
     ·exact absurd ⟨d,by omega⟩ a
     ·omega
    ·omega
def UX(a:T)(b:Nat)(c:aR)(d:aq)(e:List Int):Prop:=jX a b c d e\/(e=[]/\∃f,d=af f 0 0)
def UX.ext{a b c d e f}(g:UX a c d e f)(h:bj a.heap.size a b):UX b c d e f:=by
 rcases g with a|a
 ·exact .inl (a.ext h)
 ·exact .inr a
instance {w w' x1 x2 x3 x4}:Tr w w' (UX w x1 x2 x3 x4) (UX w' x1 x2 x3 x4):=⟨fun hb h=>UX.ext h hb⟩
def nL:(aE.info? 5).map (fun i=>(i.zero,i.size,i.bytes))=M (M (J .u8 0),1,1):=dK
def ui{b c d e f g h}(l:f.guard=S)(n o p)
  (q:f.op=.call {callee:=.builtin .append,args:=#[n,o],argTypes:=#[p,p]})(r)
  (s:b.underlying p=M (.slice r))(t:(b.info? r).map (fun i=>(i.zero,i.size,i.bytes))=M (M (J .u8 0),1,1))
  {u v w}(x:g.eval n=v)(a:UX c u r v w)(y z)(H:g.eval o=af (M ⟨y,0,S⟩) 1 1)(U:Bx c y r #[J .u8 z])(V:0<=z/\z<=255)
  (W:w.length<=10000000)(Y:u<=c.heap.size)
  (a0:∀a1 a2,UX a2 u r a1 (w++[z])->bj u c a2->cG b d h e (g.put f.dst a1) a2):cG b d h (f::e) g c:=by
 have a1:du (fun _=>True) c (M ⟨y,0,S⟩) 1 [z]:=⟨rfl,by intro a2 a3;simp at a3;subst a3;exact V,fun _=>⟨y,0,rfl,trivial,fun a4 a5 a6=>by
  have a2:a4<1:=(aP.1 a6).1;have:a4=0:=O;subst this;simp at a6;subst a6;exact U.cell 0 rfl⟩⟩
 rcases a with a2|⟨rfl,a3,rfl⟩
 ·refine jw c l n o p q r s t u v w x a2 _ 1 1 [z] H a1 O Y ?_
  intro a a4 a5 a6 _;refine a0 a a4 (.inl a5) (yM (aM _ _) a6 Y fun a7 a8=>(a2.lt a7 a8).1)
 ·cases a3 with
  |none=>
   refine jw c l n o p q r s t u _ [] x jX.nil _ 1 1 [z] H a1 dS Y ?_;intro a a3 a4 a5 _;refine a0 a a3 (.inl a4) (yM (aM _ _) a5 Y fun a6 a7=>by simp[kC] at a7)
  |some a=>
   refine wpList_plain l fun a3 a4=>?_
   let ⟨a5,a6,a7,a8,a9⟩:=info_parts t
   obtain⟨aa,ab,ac,ad,ae⟩:=run_append_arg_grows (P:=b) c p f.type r a5 (J .u8 0) 1 1 s a6 a7 a8 a9 rfl O a 0 0 [] dS (by intro _ _ ag;simp at ag) ⟨y,0,S⟩ 1 1 [J .u8 z] rfl (by
    intro b ag ah;have ai:b<1:=(aP.1 ah).1;have:b=0:=O;subst this;simp at ah;subst ah;exact U.cell 0 rfl) O dD O
   unfold Bg VI;simp only[q,resolve,invoke,builtin,fT,iT,dv,qR,sH,Bh,x,H,ac];refine a4 _ _ (a0 aa ab (.inl ?_) (yM (aM _ _) ae Y dS));unfold jX;let ⟨b,ag⟩:=ad;refine⟨b,?_⟩;rcases ag with ah|⟨ai,aj,al,rfl,am,ap⟩
   ·exact .inl ah
   ·exact .inr ⟨ai,aj,al,rfl,aY Y am,ap⟩
def Lt(a:List Int):Prop:=∀b,a.getLast?=M b->b≠0
def Wo(a b c g d e)(f:du a b c g e)(h:Lt e)(i:g<=1000000):aT aE 135 #[af c g d] b fun l n=>l=aK (ao av)/\n=b:=by
 let ⟨l,n,o⟩:=f
 by_cases p:g=0
 ·subst p
  go_enter func135,ntmps135;go_wp2;go_ret;exact⟨rfl,rfl⟩
 ·obtain⟨q,r,rfl,_,s⟩:=o O
  have t:e[g-1]?=M (e[g-1]'O):=aA _;generalize e[g-1]'O=u at*
  have a:u≠0:=h u (by rw[List.getLast?_eq_getElem?,l];exact t);have b:=s (g-1) u t;obtain⟨c,rfl⟩:∃d,g=d+1:=⟨g-1,by omega⟩;rw[Nat.add_sub_cancel] at b;have b:E.wrap (c:Int)=(c:Int):=an _ O;have b:decide (0<((c+1:Nat):Int))=aB:=decide_eq_true O;have b:(u==0)=av:=by simpa using a
  have b:c<c+1:=O;clear l n o s t a h p i;go_enter func135,ntmps135;go_wp2;go_ret;exact⟨rfl,rfl⟩
def Aag(d e)(a:0<=d)(b:d<=2)(c):aT aE 136 #[J E d,J .u8 e] c fun f g=>f=aK (J E (IP d e))/\g=c:=by
 have a:E.wrap (d+1)=d+1:=an _ O
 by_cases a:e=0
 ·subst a
  go_enter func136,ntmps136;go_wp2;go_ret;exact⟨rfl,rfl⟩
 ·have b:(e==0)=av:=by simpa using a
  have b:=aH (show IP d e=0 by unfold IP;rw[if_neg a]);rw[b.o];go_enter func136,ntmps136;go_wp2;go_ret;exact⟨rfl,rfl⟩
def EsW(a:List Int)(b:Nat)(c:T)(d e f:aq)(wr:T):Prop:=
 ∃g:Nat,g<=a.length/\f=J E g/\e=J E (rN a g).2/\UX wr b 5 d (rN a g).1/\bj b c wr
def Aev(a:T)(b:List Int)(c:Ending)(d:T):Prop:=∃e f g,c=aK (fE #[af e f g,J E 0])/\du (a.heap.size<=·) d e f b/\f<=g/\bD a d
def UX.ret{a f b c d}(e:UX a f b c d)(g:∀h∈d,0<=h/\h<=255):∃i l n,c=af i l n/\du (f<=·) a i l d/\l<=n:=by
 rcases e with a|⟨rfl,b,rfl⟩
 ·obtain⟨c,d,rfl,e⟩:=a.ret (p:=(f<=·)) (fun _ h=>h) g
  refine⟨c,_,d,rfl,e,?_⟩;rcases a.2 with⟨c,d⟩|⟨e,f,g,c,_,_,d,_⟩
  ·omega
  ·simp only[dt] at c
   omega
 ·exact⟨b,0,0,rfl,⟨rfl,by simp,fun a=>by omega⟩,aw _⟩
def Qc(d:Nat->Prop)(e:T)(f:Option Addr)(g h:Nat)(i:List Int)(a:du d e f g i)(b:Lt i)(c:g<=1000000):aT aE 134 #[af f g h] e (Aev e (No i)):=by
 obtain⟨l,n⟩:=aQ (Wo d e f g h i a b c) (fun o p q r s=>Aag o p q r s);have o:=a.1;subst o;obtain⟨o,p,q,r⟩:=dq a c (fun s t=>Fx a.2.1 s t) (fun u v=>Fy i u v);clear a b c;go_enter func134,ntmps134;go_wp2_with fail;refine l.o.mono ?_;rintro a b ⟨rfl,rfl⟩;go_wp2_with fail
 go_loopw [4,5,14] (fun c s t wr=>EsW i b.heap.size b c s t wr) (fun _ _ u _=>i.length-(intOf u).toNat)
 case atStart=>exact⟨0,by omega,rfl,rfl,.inr ⟨rfl,f,rfl⟩,aM _ _⟩
 case round=>
  obtain⟨c,s,rfl,rfl,t,u⟩:=hrel;let ⟨v,w,x⟩:=q.o c s;let ⟨y,z⟩:=aQ t u
  by_cases H:c<i.length
  ·obtain⟨U,V,rfl,W,Y⟩:=(o.o.ext u).2.2 O
   have a0:i[c]?=M i[c]:=aA H;have a1:=o.o.2.1 _ (bg a0);have a2:=Y c _ a0;have a3:=aH (BV a0);generalize i[c]=a4 at*
   let ⟨a,d⟩:=aX ((rN i c).2);rw[<-d] at w x ⊢;obtain⟨e,f,g⟩:=bh d (show 0<=a/\a<=2 from⟨w,x⟩) a1;have h:E.wrap ((c:Int)+1)=((c+1:Nat):Int):=by rw[show((c+1:Nat):Int)=(c:Int)+1 by omega];exact an _ (dU p.o)
   clear a0 Y t u d w x v a1 W
   by_cases d:a=2
   ·by_cases h:a4<4
    ·have l:(a==2)=aB:=by simpa using d
     have l:decide (a4<4)=aB:=decide_eq_true h;have l:=aH (show rN i (c+1)=((rN i c).1++[3]++[a4],IP 0 a4) by rw[a3.o];unfold Jv;rw[if_pos ⟨by rw[<-e.o];exact d,h⟩]);clear d h;go_upto_region 10 with(first|(at_builtin;go_must (refine ui rfl (aI 24) (aI 25) 54 rfl 5 dw nL rfl (y.o.ext (jd)) _ 3 rfl (jR _ _ _) O (by have:=(r.o c O).2;have:=p.o;simp;omega) (by have:=z.o.size;simp;omega) ?_;intro o w4 ho4 hb4)));obtain⟨o,s⟩:=aQ ho4 (show bj b.heap.size b w4 from(z.o.alloc z.o.size _).trans hb4);clear ho4;go_wp2_with (first|(at_builtin;go_must (refine ui rfl (aI 27) (aI 29) 54 rfl 5 dw nL rfl (o.o.ext (jd)) _ a4 rfl (jR _ _ _) g.o (by have:=(r.o c O).2;have:=p.o;simp;omega) (by have:=s.o.size;simp;omega) ?_;intro v w5 ho5 hb5)));obtain⟨o,v⟩:=aQ ho5 (show bj b.heap.size b w5 from(s.o.alloc s.o.size _).trans hb5);clear ho5;go_wp2_with fail;refine sQ (n.o 0 a4 O O _) ?_;go_wp2;exact⟨⟨c+1,by omega,by go_num,by rw[l.o],by rw[l.o];exact o.o,v.o⟩,by simp[intOf];omega⟩
    ·have l:(a==2)=aB:=by simpa using d
     have l:decide (a4<4)=av:=decide_eq_false h;have l:=aH (show rN i (c+1)=((rN i c).1++[a4],IP a a4) by rw[a3.o];unfold Jv;rw[if_neg (fun o=>h o.2),<-e.o]);clear d h;go_wp2_with (first|(at_builtin;go_must (refine ui rfl (aI 27) (aI 29) 54 rfl 5 dw nL rfl (y.o.ext (jd)) _ a4 rfl (jR _ _ _) g.o (by have:=(r.o c O).2;have:=p.o;simp;omega) (by have:=z.o.size;simp;omega) ?_;intro h w5 ho5 hb5)));obtain⟨h,o⟩:=aQ ho5 (show bj b.heap.size b w5 from(z.o.alloc z.o.size _).trans hb5);clear ho5;go_wp2_with fail;refine sQ (n.o a a4 f.o.1 f.o.2 _) ?_;go_wp2;exact⟨⟨c+1,by omega,by go_num,by rw[l.o],by rw[l.o];exact h.o,o.o⟩,by simp[intOf];omega⟩
   ·have h:(a==2)=av:=by simpa using d
    have h:=aH (show rN i (c+1)=((rN i c).1++[a4],IP a a4) by rw[a3.o];unfold Jv;rw[if_neg (fun l=>d (eZ e.o l.1)),<-e.o]);clear d;go_wp2_with (first|(at_builtin;go_must (refine ui rfl (aI 27) (aI 29) 54 rfl 5 dw nL rfl (y.o.ext (jd)) _ a4 rfl (jR _ _ _) g.o (by have:=(r.o c O).2;have:=p.o;simp;omega) (by have:=z.o.size;simp;omega) ?_;intro d w5 ho5 hb5)));obtain⟨d,e⟩:=aQ ho5 (show bj b.heap.size b w5 from(z.o.alloc z.o.size _).trans hb5);clear ho5;go_wp2_with fail;refine sQ (n.o a a4 f.o.1 f.o.2 _) ?_;go_wp2;exact⟨⟨c+1,by omega,by go_num,by rw[h.o],by rw[h.o];exact d.o,e.o⟩,by simp[intOf];omega⟩
  ·have a:c=i.length:=O
   subst a;have a:=aH (q.o i.length (aw _)).1;clear t u;go_wp2;go_ret2;obtain⟨b,c,d,rfl,e,f⟩:=y.o.ret a.o;exact⟨b,c,d,rfl,e,f,z.o⟩
def jX.Af9{a b d c l}(e:Bx a d c (l.map (J .u8)).toArray)(f:b<=d)(g:l.length<=maxLen):jX a b c (af (M ⟨d,0,S⟩) l.length l.length) l:=by
 refine⟨by simp,.inr ⟨d,l.length,_,rfl,f,e,aw _,g,by simp,?_⟩⟩;rw[kN dS]
def Fj(a:Int)(b:List Int):List Int:=[0,0,1,a]++No b
def q8(a b):(Fj a b).length=4+(No b).length:=by simp[Fj];omega
def LS(a:T)(b:List Int)(c:Ending)(d:T):Prop:=∃e,c=aK (fE #[e,J E 0])/\jX d a.heap.size 5 e b/\bD a d
def jX.mono{a b c d e f}(g:jX a b d e f)(h:c<=b):jX a c d e f:=iX g h
def U6{a}(b:∀c∈a,0<=c/\c<=255):∀d∈No a,0<=d/\d<=255:=(Fx b _ (aw _)).1
def wW{a b}(c:1<=a)(d:a<=255)(e:∀f∈b,0<=f/\f<=255):∀g∈Fj a b,0<=g/\g<=255:=by
 intro a b;unfold Fj at b;rw[dG] at b;rcases b with c|c
 ·simp only[oU,sW,or_false] at c
  rcases c with rfl|rfl|rfl|rfl<;> omega
 ·exact U6 e a c
def xu(c:Nat->Prop)(o:T)(l:Int)(e:Option Addr)(f g:Nat)(n:List Int)(a:1<=l)(b:l<=255)(h:du c o e f n)(d:Lt n)(i:f<=1000000):aT aE 88 #[aG #[J E l,af e f g]] o (LS o (Fj l n)):=by
 let ⟨a,b⟩:=aX o.heap.size;let ⟨p,q⟩:=aX (o.alloc (az #[J E l,af e f g] 121));have r:=GL q;have s:=aH (Qc c p e f g n (h.ext r.o) d i);have c:Bx p a 121 #[J E l,af e f g]:=by rw[q];exact Bx.D _ _ _ _ b
 have a:=aH c;have d:=c.cell 0 rfl;have d:=c.cell 1 rfl;have c:decide (l<1)=av:=decide_eq_false O;have c:decide (255<l)=av:=decide_eq_false O;have c:IntKind.u8.wrap l=l:=by rw[IntKind.wrap_u8];omega
 have c:=aH (show n.length<=1000000 by rw[h.1];exact i);go_enter func88,ntmps88;go_upto_region 1 with fail;rw[<-q,<-b];have d:=aH b;clear q b;go_wp2_with fail;refine s.o.mono ?_;rintro b d ⟨e,f,g,rfl,h,i,p⟩;have b:=aH h;have h:=aH p;have i:=a.o.ext p;have a:=i.cell 0 rfl;go_wp2_with (first|(at_builtin;go_must (refine jw _ rfl (aI 26) (aI 27) 54 rfl 5 dw nL d.heap.size _ [0,0,1,l] rfl (jX.Af9 (jR _ _ _) (aw _) (show 4<=maxLen by decide)) e f g (No n) rfl (b.o.ext (jd)) (by have:=b.o.1;have:=(oQ n).2;have:=c.o;simp;omega) dS ?_;intro a w2 ho2 hg2 _)));obtain⟨a,b,c⟩:=bh ho2 (show bD o w2 from bD.trans r.o (h.o.trans (show bD d w2 from yM (jd) hg2 dS (fun e f=>by cases f;exact aw _)))) (show o.heap.size<=d.heap.size from aY r.o.size h.o.size);go_wp2;go_ret2;exact⟨_,rfl,jX.mono a.o c.o,b.o⟩
def Aek(a:T)(b:List Int)(c:Ending)(d:T):Prop:=∃e f g,c=aK (af e f g)/\du (fun _=>True) d e f b/\f<=g/\bD a d
def Fv.K9{a d b}(c:Fv a d b):du (fun _=>True) a d.ya d.yn b.Y/\du (fun _=>True) a d.ua d.un b.U/\du (fun _=>True) a d.va d.vn b.V:=by
 let ⟨⟨a,b,e,f,g,h,i,l,n,o,p,q,r⟩,_⟩:=c;let ⟨a,b,c,e,f,g,h,i,l,n,s⟩:=d;simp only[FV.val,qB,sX,oY,dt,sI] at o;obtain⟨_,_,⟨rfl,rfl,rfl⟩,⟨rfl,rfl,rfl⟩,⟨rfl,rfl,rfl⟩,_⟩:=o;exact⟨p,q,r⟩
def WD(a c)(d:c.op=.buildSlice 54 0 #[])(b):(VI a c).run aE b=.ok (.value (af (M ⟨b.heap.size,0,S⟩) 0 0)) (b.alloc (az #[] 5)):=by
 obtain⟨a,b,e,f,g,guard⟩:=c;dsimp only at d;subst d
 kernel_rfl
def My{a b c d e f}(h:c.guard=S)(g)(i:c.dst=g)(l:c.op=.buildSlice 54 0 #[])
  (n:cG aE a f b (d.put g (af (M ⟨e.heap.size,0,S⟩) 0 0)) (e.alloc (az #[] 5))):cG aE a f (c::b) d e:=
 wpList_plain h fun _ a=>by
  subst i;unfold Bg;rw[WD _ _ l];exact a _ _ n
def tu{p:Nat->Prop}(a:Option Addr)(e f:Nat)(h:List Int)(g:T)(d:du p g a e h)(c:0<e)(b:e<=100000):aT aE 197 #[af a e f] g (Aek g h):=by
 have a:=aH d.yH;obtain⟨b,i,rfl,-⟩:=d.2.2 c;obtain⟨c,l,n,o⟩:=dq d (show jX (g.alloc (az #[] 5)) g.heap.size 5 (af (M ⟨g.heap.size,0,S⟩) 0 0) [] from jX.Af9 (l:=[]) (jR _ _ _) (aw _) dD) (show([]:List Int).length+e<=100000000 by simp;omega) (show g.heap.size<=(g.alloc (az #[] 5)).heap.size by simp);have c:∀q,(binOp .eql 54 (af (M ⟨b,i,S⟩) e f) (af S 0 0)).run aE q=.ok (ao av) q:=fun r=>by kernel_rfl
 have c:=aH (show du p (g.alloc (az #[] 5)) (M ⟨b,i,S⟩) e h from d.alloc _);go_enter func197,ntmps197;go_wp2_with (first|(refine My rfl (M 5) rfl rfl ?_)|(at_builtin;go_must (refine jw (P:=aE) (p:=p) _ rfl (aI 5) (aI 6) 54 rfl 5 dw iY g.heap.size _ [] rfl l.o (M ⟨b,i,S⟩) e f h rfl c.o n.o o.o ?_;intro d w1 ho1 hg1 q)));obtain⟨b,c⟩:=aQ ho1 (show bD g w1 from(jd).grown hg1 dS (fun d e=>by cases e;exact aw _));go_ret;rw[js] at b;obtain⟨d,e,rfl,f⟩:=b.o.slice;exact⟨d,h.length,e,rfl,b.o.zA (fun _ _=>trivial) a.o,f,c.o⟩
def J5(e:je)(f g h:FV)(i:Int)(l:Fr)(n:T)(a:tS n e f g h i l)(b:0<l.Y.length/\l.Y.length<=100000)(c:0<l.U.length/\l.U.length<=100000)(d:0<l.V.length/\l.V.length<=100000):
  aT aE 247 #[e.v,aG (cq f g h),J E 0,J E i] n (kM n l):=by
 let ⟨o,p,q,r⟩:=dq a b c d;rw[show e.v=aG #[J E e.ty,J E e.st,ao e.B,ao e.sec] from rfl];let ⟨a,b,c,d,s,t,u,v,w,x,y,z⟩:=Nk n (#[J E e.ty,J E e.st,ao e.B,ao e.sec]) 283 (cq f g h) 158 (au aC) 63;obtain⟨c,u,H⟩:=bh (fun(U:T)(V:Fm n a b U)=>show aT aE 238 #[aG #[J E e.ty,J E e.st,ao e.B,ao e.sec],aG (cq f g h),J E 0,J E i] U (kM U l) from o.o U (w.o U V)) (show(#[J E e.ty,J E e.st,ao e.B,ao e.sec]:Array aq).extract 0 (0+4)=#[J E e.ty,J E e.st,ao e.B,ao e.sec]/\0+4<=(#[J E e.ty,J E e.st,ao e.B,ao e.sec]:Array aq).size from⟨rfl,aw 4⟩) (show(cq f g h).extract 0 (0+15)=cq f g h/\0+15<=(cq f g h).size from⟨rfl,aw 15⟩);go_enter func247,ntmps247;go_upto_region 1 with fail
 try simp only[sZ,ak]
 refine mr s ?_
 try simp only[dA]
 rw[<-d];clear s d;go_wp2_with (first|(refine bA dW 283 (aI 4) rfl a 0 4 rfl _ _ _ _ (x.o _ v.o) u.o.1 u.o.2 rfl Bi mU ?_)|(refine lS 158 5 (a+1) 0 (y.o _ v.o) H.o.1 H.o.2 ?_));refine(c.o _ v.o).mono ?_;rintro c d ⟨e,rfl,f,g⟩;have c:=mX g v;have g:=aH f;go_upto_region 2 with refine ix rfl (aI 10) (aI 18) rfl _ rfl dS e rfl rfl ?_
 try simp only[ak]
 let ⟨f,h,i,o,s,u⟩:=mY d (au e) 63;let ⟨d,v⟩:=di s c g;rw[<-o,<-i];clear o i;go_upto_region 4 with fail
 try simp only[sZ,ak]
 refine aL 14 (fun c=>Fm n a b c/\Bx c f 63 (au e)) rfl (fun g i=>?_);have c:=aH (show Fm n a b h/\Bx h f 63 (au e) from⟨d.o,u.o⟩);let ⟨b,g,h⟩:=gO i d v u;refine gN 0 6 10 ?_;simp only[sZ,ak];go_big_quiet_step (fail);refine lC c 3 24 f 0 (J E e.W) (fun _ d=>d.2.cell 0 rfl) bJ ?_;simp only[sZ,ak];go_big_quiet_step (fail);refine lC c 3 26 f 1 (J E e.H) (fun _ d=>d.2.cell 1 rfl) bJ ?_;simp only[sZ,ak];go_big_quiet_step (fail);refine lC c 54 28 f 2 (af e.ya e.yn e.yc) (fun _ d=>d.2.cell 2 rfl) dw ?_;refine aN (gN 7 2 8 ?_);simp only[sZ,ak];go_big_quiet_step (fail);refine lC c 54 31 f 3 (af e.ua e.un e.uc) (fun _ d=>d.2.cell 3 rfl) dw ?_;refine aN (gN 10 2 6 ?_);simp only[sZ,ak];go_big_quiet_step (fail);refine lC c 54 34 f 4 (af e.va e.vn e.vc) (fun _ d=>d.2.cell 4 rfl) dw ?_;refine aN (oL 6 5 (fun c d=>⟨b.o.ext d,h.o.ext d⟩) fun f i=>?_);simp only[sZ,ak];let ⟨c,d,o⟩:=gO i b g h;go_wp2_with fail;refine(tu (p:=fun _=>True) _ _ _ l.Y f d.o.K9.1 (gC p.o d.o.K9.1.1) (gC p.o d.o.K9.1.1)).mono ?_;rintro b f ⟨g,h,i,rfl,p,s,u⟩;let ⟨b,f,v⟩:=gO u c d o;let ⟨c,d⟩:=aQ p s;go_wp2_with fail;refine oL 9 4 (fun o p=>⟨b.o.ext p,v.o.ext p⟩) fun s u=>?_
 simp only[sZ,ak];let ⟨o,p,x,y⟩:=nj u b f v c;go_wp2_with fail;refine(tu (p:=fun _=>True) _ _ _ l.U s p.o.K9.2.1 (gC q.o p.o.K9.2.1.1) (gC q.o p.o.K9.2.1.1)).mono ?_;rintro b c ⟨f,q,s,rfl,u,v,H⟩;let ⟨b,c,U,V⟩:=nj H o p x y;let ⟨o,p⟩:=aQ u v;go_wp2_with fail;refine oL 12 3 (fun u v=>⟨b.o.ext v,U.o.ext v⟩) fun x y=>?_
 simp only[sZ,ak];let ⟨u,v,H,W,Y⟩:=tN y b c U V o;go_wp2_with fail;refine(tu (p:=fun _=>True) _ _ _ l.V x v.o.K9.2.2 (gC r.o v.o.K9.2.2.1) (gC r.o v.o.K9.2.2.1)).mono ?_;rintro b c ⟨o,r,x,rfl,y,U,V⟩;let ⟨b,c,a0,a1,a2⟩:=tN V u v H W Y;let ⟨u,v⟩:=aQ y U;go_wp2_with fail;let ⟨y,H⟩:∃U:FV,U=⟨e.W,e.H,g,h,i,f,q,s,o,r,x⟩:=⟨_,rfl⟩;have U:=aH H;refine T9 13 1 2 ?_;simp only[sZ,ak];refine ei rfl y.val (fun V=>iW (qs:=#[(0,J E e.W),(1,J E e.H),(2,af g h i),(3,af f q s),(4,af o r x)]) rfl dK (by rw[H];kernel_rfl)) ?_;refine aN (oL 14 1 (fun e H=>⟨b.o.ext H,a0.o.ext H⟩) fun V W=>?_);simp only[sZ,ak];let ⟨e,H,Y,a3,a4,a5⟩:=rM W b c a0 a1 a2 u;refine bI rfl (aI 8) (aI 37) rfl (a+1+1) y rfl rfl (z.o _ e.o) (fA _) ?_
 have b:=aH (show Fv V y l from by
  rw[U.o];have c:=H.o.wh;exact⟨⟨g,h,i,f,q,s,o,r,x,by rw[FV.val,c.1,c.2],a3.o,a4.o,a5.o⟩,by exact⟨_,_,_,_,_,_,_,_,_,_,_,rfl,d.o,p.o,v.o⟩⟩)
 obtain⟨c,d,f⟩:=bh ((z.o _ e.o).row (au y)) (b.o.row (z.o _ e.o) (iq _) (au y)) (show bD n (V.setRow (a+1+1) (au y)) from aO (w.o _ e.o) (iJ t.o));refine mn ⟨rfl,gT 15 1 0 ?_⟩;refine pX fun a b=>?_
 let ⟨a,e,g⟩:=gO b c d f
 try simp only[ak]
 go_wp2;exact rT results247 a.o db bM ⟨y,rfl,e.o,g.o⟩
def dM.wf(a:dM)(b c d:FV):dM:={a with w0:=b,JR:=c,Ie:=d}
def dM.qz(a:dM)(b:Nat)(c:FV):dM:=if b=0 then {a with JR:=c} else {a with Ie:=c}
def dM.uQ(a:dM)(b:FV):dM:={a with w0:=b}
def dM.mid(a:dM):List aq:=[J E a.h.ty,J E a.h.st,J E a.h.ord,ao a.h.top,ao a.h.M3,ao a.h.alt,J E a.q]++FV.l a.src++FV.l a.rx++FV.l a.ry++FV.l a.rz
def dM.Eb(a:dM):a.cells=((a.pre++a.mid)++FV.l a.w0++(FV.l a.w1++FV.l a.JR++FV.l a.Ie++FV.l a.f10++FV.l a.f11++FV.l a.res)).toArray:=by
 unfold dM.cells dM.tail dM.mid;simp only[aW]
def dM.Po(a:dM):a.cells=((a.pre++a.mid++FV.l a.w0++FV.l a.w1)++FV.l a.JR++(FV.l a.Ie++FV.l a.f10++FV.l a.f11++FV.l a.res)).toArray:=by
 rw[dM.Eb];simp only[aW]
def dM.Pn(a:dM):a.cells=((a.pre++a.mid++FV.l a.w0++FV.l a.w1++FV.l a.JR)++FV.l a.Ie++(FV.l a.f10++FV.l a.f11++FV.l a.res)).toArray:=by
 rw[dM.Eb];simp only[aW]
def Aab(a b c d f)(e:a.length=f):jH (a++FV.l c++b).toArray f (au d)=(a++FV.l d++b).toArray:=by
 have:=Af a (FV.l c) b f 0 (au d) e (show 0+5<=5 by decide);rw[show f=f+0 from rfl,this];rfl
def dM.FX{a:dM}(c:jV a.s)(b):jH a.cells 166 (au b)=(a.uQ b).cells:=by
 rw[dM.Eb,dM.Eb];exact Aab _ _ _ _ 166 (by rw[aJ,dM.jQ c];rfl)
def dM.G1{a:dM}(e:jV a.s){d}(b:d<2)(c):jH a.cells (176+d*5) (au c)=(a.qz d c).cells:=by
 obtain rfl|rfl:d=0\/d=1:=O
 ·rw[dM.Po,dM.Po]
  exact Aab _ _ _ _ 176 (by simp only[aJ,dM.jQ e];rfl)
 ·rw[dM.Pn,dM.Pn]
  exact Aab _ _ _ _ 181 (by simp only[aJ,dM.jQ e];rfl)
def dM.Ba(a:dM)(b c):(a.qz b c).pre=a.pre:=by unfold dM.qz;split<;> rfl
def dM.V3(a:dM)(b c):(a.qz b c).s=a.s:=by unfold dM.qz;split<;> rfl
def dM.Pk(a:dM)(b c d e f):(a.wf b c d).qz f e=a.wf b (if f=0 then e else c) (if f=0 then d else e):=by
 unfold dM.qz;split<;> rfl
def Kb.kuG{e f a}(c:Kb e f a)(b:dM)(d:b.pre=a.pre):Ku e (e.setRow f b.cells):=by
 intro a g h i
 by_cases h:a=f
 ·subst h
  have l:=c.j.row b.cells;rw[Bf e a g _ _ (0,0) c.j] at i;rw[Bf _ a g _ _ (0,0) l];have b:=dM.jQ c.ok;unfold dM.cells at i ⊢;rw[bw] at i ⊢;rw[d]
  by_cases b:g<139
  ·rw[bo O] at i ⊢
   exact i
  ·exfalso
   rw[aU O] at i;have:=bg i;simp[dM.tail,FV.l] at this
 ·rw[Afh e f _ ⟨a,g,S⟩ h]
  exact i
def Kr.E9{a b c}(d:Kb a b c)(e:dM)(f:e.pre=c.pre):Kr b a (a.setRow b e.cells):=⟨fO.ofRow (aM _ _) _,d.kuG e f⟩
def ZA(a:T)(b:Sq)(c:Pc)(d:Bool)(e:Int)(f g h i:FV)(l:Ending)(n:T):Prop:=
 ∃(o:Nat)(p q r s:FV),l=aK (aD (M ⟨o,0,S⟩))/\a.heap.size<=o/\Kb n o ((GI b c d e f g h i p).wf q r s)/\Fv n p (jJ f.W f.H 0 0 0)/\(c.ty=2->GQ n ((GI b c d e f g h i p).wf q r s))/\bD a n
def NcW(a:T)(b:Nat)(c:List (aR×Array aq))(d:Nat)(e:dM)(f:T)(i:aq)(wr:T):Prop:=
 ∃(g:Nat)(h l n:FV),g<=2/\i=J E (g:Int)/\Kb wr d (e.wf h l n)/\Kr d f wr/\Fm a b c wr/\(1<=g->e.h.st=3->zx wr h)/\(e.h.st≠3\/e.s.B=aB->(1<=g->zx wr l)/\(2<=g->zx wr n))
def Lv(r:Sq)(a:jV r)(s:Pc)(b:s.ty=1\/s.ty=2)(l:Bool)(h:Int)(i n o p:FV)(c:ng i.W i.H=aB)(t:T)(q:Nat->Fr)
  (d:s.ty=2->∀u:Nat,u<2->∀v,Ku t v->tS v ⟨s.ty,s.st,r.B,l⟩ n o p (u:Int) (q u))(e:s.ty=2->∀w:Nat,w<2->(0<(q w).Y.length/\(q w).Y.length<=100000)/\(0<(q w).U.length/\(q w).U.length<=100000)/\(0<(q w).V.length/\(q w).V.length<=100000))
  (f:s.ty=2->∀u:Nat,u<2->∃v w,SrF (q u) v w)(g:s.ty=2->s.st=3->r.B=aB->∀x:Nat,x<2->pH (q x) (x:Int)/\∃y z,SrF (fw (q x) x) y z):
  aT aE 211 #[aG r.cells,s.v,ao l,i.val,aG (cq n o p),J E h] t (ZA t r s l h i n o p):=by
 let ⟨u,v,w,x,y,z⟩:=ej a b c d e f;obtain⟨H,U,V⟩:=bh g (show∀W,Bx W t.heap.size 26 r.cells->W.cell? ⟨t.heap.size,4,S⟩=M (ao r.B) from fun Y a0=>a0.cell 4 (by unfold Sq.cells;rw[bw];rfl)) (Sq.size a);rw[show s.v=aG (gJ s) from rfl,show i.val=aG (au i) from rfl];let ⟨W,Y,a0,a1,a2,a3,a4,a5,a6,a7,a8,a9,aa⟩:=Dt t r.cells 26 (gJ s) 93 (au i) 63 (cq n o p) 158;rw[<-a1] at U;clear a b c d e f g;go_enter func211,ntmps211;go_upto_region 1 with fail
 try simp only[sZ,ak]
 refine mr a2 ?_
 try simp only[dA]
 rw[<-a1];clear a2 a1;refine aL 99 (fun a=>Fm t W Y a) rfl (fun b c=>?_);have a:=a5;have b:=mX c a5;clear c;refine gN 0 17 7 ?_;simp only[sZ,ak];go_big_quiet_step (fail);refine lC a 3 17 (W+1) 0 (J E s.ty) (fun _ c=>(a8.o _ c).cell 0 rfl) bJ ?_;simp only[sZ,ak];go_big_quiet_step (fail);refine lC a 3 19 (W+1) 1 (J E s.st) (fun _ c=>(a8.o _ c).cell 1 rfl) bJ ?_;simp only[sZ,ak];go_big_quiet_step (fail);refine lC a 4 21 W 4 (ao r.B) (fun _ c=>U.o _ (a7.o _ c)) jD ?_;simp only[sZ,ak];go_big_quiet_step (fail);refine ei rfl (aG #[J E s.ty,J E s.st,ao r.B,ao l]) (fun c=>iW (qs:=#[(0,J E s.ty),(1,J E s.st),(2,ao r.B),(3,ao l)]) rfl dK dK) ?_;simp only[sZ,ak];refine lR a 26 6 W 0 135 r.cells (fun _ c=>qg (a7.o _ c) V.o) ik ew ?_;refine lR a 93 7 (W+1) 0 6 (gJ s) (fun _ c=>qg (a8.o _ c) rfl) zV ja ?_;simp only[sZ,ak];go_big_quiet_step (fail);refine lF a 9 (W+1+1) i (fun _ c=>(a9.o _ c)) ?_;refine lR a 158 10 (W+1+1+1) 0 15 (cq n o p) (fun _ c=>qg (aa.o _ c) rfl) Kg kK ?_;simp only[sZ,ak];go_big_quiet_step (fail);refine lC a 3 30 (W+1+1) 0 (J E i.W) (fun _ c=>(a9.o _ c).cell 0 rfl) bJ ?_;simp only[sZ,ak];go_big_quiet_step (fail);refine lC a 3 32 (W+1+1) 1 (J E i.H) (fun _ c=>(a9.o _ c).cell 1 rfl) bJ ?_;refine aN (fK 17 6 b fun c d=>?_);simp only[sZ,ak];have e:=mX d b;clear d b;go_wp2_with fail;refine(se i.W i.H 0 0 0 c O O O w.o).mono ?_;rintro b c d;obtain⟨b,rfl,c,f⟩:=d.fx;have g:=mX f e;have e:=aH c;clear c d;go_wp2_with fail;refine gT 18 2 4 ?_;refine fK 20 3 g fun c d=>?_
 simp only[sZ,ak];let ⟨f,w⟩:=di d g e;clear d g e;go_wp2_with fail;refine mR (iR b c) fun d e=>?_
 let ⟨c,d⟩:=di e f w;clear e f w;go_wp2_with fail;refine T9 21 1 2 ?_;simp only[sZ,ak];refine ei rfl (aG (GI r s l h i n o p b).cells) (fun e=>iW (qs:=#[(0,aG #[J E s.ty,J E s.st,ao r.B,ao l]),(1,aG r.cells),(2,aG (gJ s)),(3,J E h),(4,aG (au i)),(5,aG (cq n o p)),(8,aG (au b))]) rfl dK (Aai r u.o s l h i n o p b e)) ?_;refine aN (fK 22 1 c fun e f=>?_);simp only[sZ,ak];let ⟨g,w⟩:=di f c d;clear f c d;let ⟨c,d⟩:=aX (GI r s l h i n o p b);obtain⟨f,h⟩:=aQ d (show c.h.ty=1\/c.h.ty=2 by rw[d];exact v.o);rw[<-d];refine Cx rfl 343 (aI 38) rfl (M 39) rfl _ rfl c.cells rfl ?_;let ⟨i,V⟩:=aX e.heap.size;let ⟨a0,a1⟩:=aX (e.alloc (az c.cells 343));have e:=Gl a1;let ⟨a2,a4⟩:=di e g w;obtain⟨a5,a9,ab,ac⟩:=dq (show Kb a0 i c from⟨by rw[a1];exact Bx.D _ _ _ _ V,by rw[d];exact u.o⟩) (show W+Y.length<=i by rw[V];exact g.o.k) (show bD t a0 from a6.o _ a2.o) (show t.heap.size<=i by rw[V,<-a3.o];have:=g.o.k;omega);rw[<-a1,<-V];clear a1 V e g w d;refine mn ⟨rfl,gT 23 1 0 ?_⟩;refine zI a2 fun d e=>?_
 let ⟨g,u,w⟩:=gO e a2 a4 a5;clear e a2 a4 a5 a
 try simp only[ak]
 obtain⟨a,e,V⟩:=bh (kJ i c h.o d w.o) (show c.h=s by rw[f.o];rfl) (show c.s=r/\c.c=⟨s.ty,s.st,r.B,l⟩ by rw[f.o];exact⟨rfl,rfl⟩);let ⟨h,a0⟩:=aX (JA c.h.ty);rw[<-a0] at a;have a1:=aH (show(h=0/\s.ty=1)\/(h=1/\s.ty=2) by rw[a0,e.o];rcases v.o with a2|a2<;> rw[a2]<;> simp[JA]);clear a0;have h:=aH (a6.o _ g.o);go_wp2_with fail;refine a.o.mono ?_;rintro v a0 ⟨rfl,rfl⟩;clear a;go_wp2_with fail
 go_loopw [42] (fun a wr=>(a=J E 0/\wr=d)\/(a=J E 1/\s.ty=2/\NcW t W Y i c d (J E 2) wr)) (fun v _=>1-(intOf v).toNat)
 case atStart=>exact .inl ⟨rfl,rfl⟩
 case round=>
  rcases hrel with⟨rfl,a⟩|⟨rfl,v,a0⟩
  ·have v:=a.symm
   clear a;subst v;rcases a1.o with⟨a,v⟩|⟨a,v⟩
   ·subst a
    clear a1;go_wp2_with fail;go_ret;exact⟨i,b,aC,aC,aC,rfl,ac.o,by rw[<-f.o,show c.wf aC aC aC=c by rw[f.o];rfl];exact w.o,u.o,fun a2=>by omega,h.o⟩
   ·subst a
    clear a1;have a:=aH v;clear v;go_wp2_with fail
    go_loopw [45] (fun v wr=>NcW t W Y i c d v wr) (fun a2 _=>2-(intOf a2).toNat)
    case atStart=>exact⟨0,aC,aC,aC,by omega,rfl,by rw[show c.wf aC aC aC=c by rw[f.o];rfl];exact w.o,Kr.refl _ _,g.o,fun d=>by omega,fun _=>⟨fun v=>by omega,fun a2=>by omega⟩⟩
    case round=>
     obtain⟨d,g,v,w,a2,rfl,a3,a4,a5,ab,ad⟩:=hrel;let ⟨ae,ag,ah,ai⟩:=dq a4 a5 ab ad;let ⟨aj,al⟩:=aX (c.wf g v w);rw[<-al] at a3;let ⟨am,ap⟩:=aQ al a3;clear a3 a4 a5 ab ad
     by_cases a3:d<2
     ·have a4:=aH a3
      have a3:decide ((d:Int)<2)=aB:=decide_eq_true O
      have a3:=aH (show∀a5,bD wr a5->aT aE 247 #[aG #[J E aj.c.ty,J E aj.c.st,ao aj.c.B,ao aj.c.sec],aG (cq n o p),J E 0,J E (d:Int)] a5 (kM a5 (q d)) from by
       intro a5 ab;have ad:=y.o a.o d a4.o;have y:=x.o a.o d a4.o a5 (((Ku.ext h.o).trans ae.o.N).trans (Ku.ext ab));have h:aj.c=⟨s.ty,s.st,r.B,l⟩:=by rw[al];exact V.o.2
       rw[h];exact J5 ⟨s.ty,s.st,r.B,l⟩ n o p (d:Int) (q d) a5 y ad.1 ad.2.1 ad.2.2)
      clear al a2;go_upto_region 8 with fail;apply Bv (A:=fun h kf l=>Fm t W Y h/\Kb h i aj/\Fv h l (q d)/\Bx h kf 63 (au l)/\(i<kf/\wr.heap.size<=kf)/\bD wr h)
      ·rintro(h:fj _)
       refine aL 99 (fun l=>Fm t W Y l/\Kb l i aj) rfl (fun x y=>?_);have l:=aH (show Fm t W Y wr/\Kb wr i aj from⟨ag.o,ap.o⟩);have x:=l;have a2:=aH y;have a5:=mX y x;clear y x;refine gN 0 7 6 ?_;simp only[sZ,ak];iterate 3 (go_big_quiet_step (fail))
       refine lR l 283 50 i 0 4 #[J E aj.c.ty,J E aj.c.st,ao aj.c.B,ao aj.c.sec] (fun _ x=>x.2.ctx) Bi mU ?_;refine lR l 158 10 (W+1+1+1) 0 15 (cq n o p) (fun _ x=>qg (aa.o _ x.1) rfl) Kg kK ?_;simp only[sZ,ak];iterate 2 (go_big_quiet_step (fail))
       refine aN (Md 7 11 5 a5 (fun n o=>?_) fun n o=>?_)
       · simp only[sZ,ak]
         let ⟨p,x⟩:=di o a5 a2;clear o a5 a2;go_wp2_with fail;refine(a3.o n x.o).mono ?_;rintro y aa ⟨ab,rfl,ad,al⟩;let ⟨y,aa⟩:=di al p x;clear al p x;have p:=aH ad;clear ad;go_wp2_with fail;refine gT 8 2 3 ?_;refine Md 10 11 2 y (fun wc x=> ?Xq11) fun wc x=> ?Xq12
         case' Xq11=>
          simp only[sZ,ak];let ⟨ad,al,ar⟩:=gO x y aa p;clear x y aa p;go_wp2_with fail;refine mR (iR ab wc) fun ax ay=>?_
          let ⟨ax,aV,b0⟩:=gO ay ad al ar;clear ay ad al ar;go_wp2_with fail;refine fK 11 1 ax fun ad al=>?_
          simp only[sZ,ak];let ⟨ar,ay,b1⟩:=gO al ax aV b0;clear al ax aV b0;go_wp2_with fail;let ⟨kf,al,ax,aV,b0,HBf⟩:=mY ad aC.cells 63;have HKF:=aH (show i<kf/\wr.heap.size<=kf by rw[ax];exact⟨ar.o.2.j.lt,ay.o.size⟩);let ⟨HSf,HEf,HUf⟩:=gO b0 ar ay b1;clear b0;refine tf aV ?_;rw[<-ax];clear aV ax
         case' Xq12=>
          simp only[sZ,ak];let ⟨ad,al,ar⟩:=gO x y aa p;clear x y aa p;go_wp2_with fail;let ⟨kf,p,x,y,aa,ax⟩:=mY wc aC.cells 63;have HKF:=aH (show i<kf/\wr.heap.size<=kf by rw[x];exact⟨ad.o.2.j.lt,al.o.size⟩);let ⟨p,ay,aV⟩:=gO aa ad al ar;clear aa;refine tf y ?_;rw[<-x];clear y x;refine fK 10 1 p fun x y=>?_
          simp only[sZ,ak];let ⟨aa,ad,al,ar⟩:=nj y p ay aV ax;clear y p ay aV ax;go_wp2_with fail;refine mR (iR ab x) fun p y=>?_
          let ⟨HSf,HEf,HUf,HBf⟩:=nj y aa ad al ar;clear y aa ad al ar;go_wp2_with fail
         all_goals
          refine fK 12 0 HSf fun p x=>?_
          simp only[sZ,ak];let ⟨y,aa,ad,al⟩:=nj x HSf HEf HUf HBf;clear x HSf HEf HUf HBf;refine bI rfl (aI 16) (aI 58) rfl kf ab rfl rfl al.o rfl ?_;obtain⟨x,ar,ax,ay⟩:=dq (show Fm t W Y (p.setRow kf (au ab))/\Kb (p.setRow kf (au ab)) i aj from⟨y.o.1.C (k:=kf) (gC HKF.o a9.o) _,⟨y.o.2.j.m (dU HKF.o),y.o.2.ok⟩⟩) (ad.o.row al.o (iq _) (au ab)) (al.o.row (au ab)) (show bD wr (p.setRow kf (au ab)) from aO aa.o HKF.o.2);clear y ad al aa l;refine mn ⟨rfl,zI x fun p y=>?_⟩;have aa:=h.o p kf ab ⟨x.o.1.ext y,x.o.2.ext y,ar.o.ext y,ax.o.ext y,HKF.o,ay.o.trans y⟩;clear x ar ax ay y;exact aa
       · simp only[sZ,ak]
         let ⟨p,x⟩:=di o a5 a2;clear o a5 a2;go_wp2_with fail;let ⟨kf,o,y,a2,a5,aa⟩:=mY n aC.cells 63;have HKF:=aH (show i<kf/\wr.heap.size<=kf by rw[y];exact⟨p.o.2.j.lt,x.o.size⟩);let ⟨n,o⟩:=di a5 p x;clear a5;refine tf a2 ?_;rw[<-y];clear a2 y;refine fK 7 4 n fun wc p=>?_
         simp only[sZ,ak];let ⟨x,y,a2⟩:=gO p n o aa;clear p n o aa;go_wp2_with fail;refine(a3.o wc y.o).mono ?_;rintro n o ⟨p,rfl,a3,a5⟩;let ⟨n,o,aa⟩:=gO a5 x y a2;clear a5 x y a2;have x:=aH a3;clear a3;go_wp2_with fail;refine gT 8 2 2 ?_;refine fK 10 1 n fun y a2=>?_
         simp only[sZ,ak];let ⟨a3,a5,ab,ad⟩:=nj a2 n o x aa;clear a2 n o x aa;go_wp2_with fail;refine mR (iR p y) fun n o=>?_
         let ⟨HSf,HEf,HUf,HBf⟩:=nj o a3 a5 ab ad;clear o a3 a5 ab ad;go_wp2_with fail;refine fK 12 0 HSf fun n o=>?_
         simp only[sZ,ak];let ⟨x,y,a2,a3⟩:=nj o HSf HEf HUf HBf;clear o HSf HEf HUf HBf;refine bI rfl (aI 16) (aI 58) rfl kf p rfl rfl a3.o rfl ?_;obtain⟨o,a5,aa,ab⟩:=dq (show Fm t W Y (n.setRow kf (au p))/\Kb (n.setRow kf (au p)) i aj from⟨x.o.1.C (k:=kf) (gC HKF.o a9.o) _,⟨x.o.2.j.m (dU HKF.o),x.o.2.ok⟩⟩) (a2.o.row a3.o (iq _) (au p)) (a3.o.row (au p)) (show bD wr (n.setRow kf (au p)) from aO y.o HKF.o.2);clear x a2 a3 y l;refine mn ⟨rfl,zI o fun l n=>?_⟩;have x:=h.o l kf p ⟨o.o.1.ext n,o.o.2.ext n,a5.o.ext n,aa.o.ext n,HKF.o,ab.o.trans n⟩;clear o a5 aa ab n;exact x
      intro h kf l ⟨n,o,p,x,y,a2⟩
      try dsimp only
      obtain⟨a3,a5,HKF,aa⟩:=dq (show Fm t W Y h/\Kb h i aj/\Bx h kf 63 (au l) from⟨n,o,x⟩) p y (show Kr i wr h from Kr.ext a2);clear n o p x y a2;have h:=(a8.o _ a3.o.1).cell 1 (v:=J E s.st) rfl
      by_cases n:s.st=3
      ·have o:=aH n
       rw[n] at h;clear n;have p:=U.o _ (a7.o _ a3.o.1)
       by_cases x:r.B=aB
       ·
         have y:=aH x;rw[x] at p;clear x;go_upto_region 13 with fail;clear h p;refine aL 13 (fun U=>Fm t W Y U/\Kb U i aj/\Bx U kf 63 (au l)) rfl (fun a2 a7=>?_);have U:=a3;have a2:=mX a7 a3;have a8:=aH (aa.o.trans (Kr.ext a7));have ab:=mX a7 a5;clear a7 aa a5;refine gN 0 5 9 ?_;simp only[sZ,ak];iterate 3 (go_big_quiet_step (fail))
         refine lF U 16 kf l (fun _ a7=>a7.2.2) ?_;simp only[sZ,ak];go_big_quiet_step (fail);refine aN (gT 9 3 6 ?_);refine fK 5 5 a2 fun a7 ad=>?_
         simp only[sZ,ak];have al:=mX ad a2;have ar:=aH (a8.o.trans (Kr.ext ad));have ax:=mX ad ab;clear ad a2 a8 ab;go_wp2_with fail;have a2:=H.o a.o o.o y.o d a4.o;have y:=mP l.val (q d) (d:Int) a7 ax.o.1 ax.o.2;rw[show pE (q d) (d:Int)=(fw (q d) d,0) by unfold pE;rw[if_pos a2.1];rfl] at y;have q:=aH a2.2;clear a2;refine y.mono ?_;clear y;rintro y H a2;obtain⟨y,rfl,H,a7⟩:=a2.fx;have a8:=aH H;have ab:=mX a7 al;have ad:=aH (ar.o.trans (Kr.ext a7));have al:=mX a7 ax;clear H a2;go_wp2_with fail;refine gT 6 2 3 ?_;refine fK 8 2 ab fun H a2=>?_
         simp only[sZ,ak];have a7:=mX a2 ab;have ar:=aH (ad.o.trans (Kr.ext a2));let ⟨ax,ay⟩:=di a2 al a8;clear a2 ab ad al a8;go_wp2_with fail;refine mR (iR y H) fun a2 a8=>?_
         have H:=mX a8 a7;have a2:=aH (ar.o.trans (Kr.ext a8));let ⟨ab,ad⟩:=di a8 ax ay;clear a8 a7 ar ax ay;go_wp2_with fail;refine gT 12 1 1 ?_;refine fK 13 0 H fun a7 a8=>?_
         simp only[sZ,ak];have al:=mX a8 H;have ar:=aH (a2.o.trans (Kr.ext a8));let ⟨ax,ay⟩:=di a8 ab ad;clear a8 H a2 ab ad;have H:=aH al.o.2.2;have a2:=aH (show Fm t W Y a7/\Kb a7 i aj from⟨al.o.1,al.o.2.1⟩);clear al;have a8:=a2;clear a2;refine cD rfl 63 (aI 92) (aI 88) rfl i (176+d*5) (au y) rfl rfl _ _ (aj.qz d y).cells a8.o.2.j (dM.G1 a8.o.2.ok a4.o y) bM (by rw[dM.size a8.o.2.ok,fA];have:=a4.o;omega) (FV.one y) ?_;obtain⟨a2,ab,ad,al⟩:=dq (a8.o.2.kuG (aj.qz d y) (dM.Ba _ _ _)) (show Kb (a7.setRow i (aj.qz d y).cells) i (aj.qz d y) from⟨a8.o.2.j.row _,by rw[dM.V3];exact a8.o.2.ok⟩) (show Kr i wr (a7.setRow i (aj.qz d y).cells) from ar.o.trans (Kr.E9 a8.o.2 (aj.qz d y) (dM.Ba _ _ _))) (a8.o.1.C (k:=i) a9.o (aj.qz d y).cells);obtain⟨a7,aV,b0⟩:=bh (ax.o.N a2.o) (ay.o.N a2.o) (H.o.m (g':=i) (cs':=(aj.qz d y).cells) (dU HKF.o));refine mn ⟨rfl,pX fun b1 b2=>?_⟩;have b3:=mX b2 ab;have b4:=aH (ad.o.trans (Kr.ext b2));let ⟨b5,b6,b7,b8⟩:=nj b2 al a7 aV b0;clear b2 ab ad al a7 b0 a2 U a8 ar ax H ay aV
         try simp only[ak]
         let ⟨H,U⟩:=aX (aj.qz d y);have a2:=aH U;rw[<-U] at b3;have a7:=aH (show Fm t W Y b1/\Kb b1 i H/\Bx b1 kf 63 (au l) from⟨b5.o,b3.o,b8.o⟩);clear U b3 b5 b8;go_upto_region 14 with fail;refine aL 6 (fun U=>Fm t W Y U/\Kb U i H/\Bx U kf 63 (au l)) rfl (fun wc a8=>?_);have U:=a7;have ab:=mX a8 a7;have a7:=aH (b4.o.trans (Kr.ext a8));let ⟨ad,al⟩:=di a8 b6 b7;clear a8 b4 b6 b7;refine gN 0 3 4 ?_;simp only[sZ,ak];iterate 2 (go_big_quiet_step (fail))
         refine lF U 16 kf l (fun _ a8=>a8.2.2) ?_;refine aN (gT 3 3 1 ?_);refine fK 6 0 ab fun a8 ar=>?_
         simp only[sZ,ak];have ax:=mX ar ab;have ay:=aH (a7.o.trans (Kr.ext ar));let ⟨aV,b0⟩:=di ar ad al;clear ar ab a7 ad al;have a7:=aH ax.o.2.2;have ab:=aH (show Fm t W Y a8/\Kb a8 i H from⟨ax.o.1,ax.o.2.1⟩);clear ax;have ad:=ab;clear ab;refine cD rfl 63 (aI 98) (aI 95) rfl i 166 (au l) rfl rfl _ _ (H.uQ l).cells ad.o.2.j (dM.FX ad.o.2.ok l) bM (by rw[dM.size ad.o.2.ok,fA];decide) (FV.one l) ?_;obtain⟨ab,al,ar,ax⟩:=dq (ad.o.2.kuG (H.uQ l) rfl) (show Kb (a8.setRow i (H.uQ l).cells) i (H.uQ l) from⟨ad.o.2.j.row _,ad.o.2.ok⟩) (show Kr i wr (a8.setRow i (H.uQ l).cells) from ay.o.trans (Kr.E9 ad.o.2 (H.uQ l) rfl)) (ad.o.1.C (k:=i) a9.o (H.uQ l).cells);obtain⟨a8,b1,b2⟩:=bh (b0.o.N ab.o) (aV.o.N ab.o) (a7.o.m (g':=i) (cs':=(H.uQ l).cells) (dU HKF.o));refine mn ⟨rfl,pX fun b0 b3=>?_⟩;have b4:=mX b3 al;have b5:=aH (ar.o.trans (Kr.ext b3));let ⟨b6,b7,HUf,HBf⟩:=nj b3 ax a8 b1 b2;clear b3 al ar ax b1 b2 ab U ad ay aV a7
         try simp only[ak]
         obtain⟨U,a7,a8⟩:=bh (show zx b0 l from by obtain⟨ab,ad,al⟩:=z.o a.o d a4.o;exact⟨_,ab,ad,al,HUf.o⟩) (show zx b0 y from by obtain⟨ar,ax,ay⟩:=q.o;exact⟨_,ar,ax,ay,b7.o⟩) (show H.uQ l=c.wf l (if d=0 then y else v) (if d=0 then w else y) by rw[a2.o,am.o,dM.Pk];rfl);go_wp2_with fail
         exact⟨⟨d+1,l,(if d=0 then y else v),(if d=0 then w else y),by omega,by go_num,by rw[<-a8.o];exact b4.o,ae.o.trans b5.o,b6.o,fun _ _=>U.o,fun q=>⟨fun _=>by
          by_cases y:d=0
          ·rw[if_pos y];exact a7.o
          ·rw[if_neg y];exact((ai.o q).1 O).N b5.o.N,fun _=>by
          rw[if_neg O];exact a7.o⟩⟩,by simp[intOf];omega⟩
       · have q:r.B=av:=by simpa using x
         clear x;have r:=aH q;rw[q] at p;clear q;go_upto_region 9 with fail;clear h p;refine aL 6 (fun p=>Fm t W Y p/\Kb p i aj/\Bx p kf 63 (au l)) rfl (fun wc q=>?_);have p:=a3;have x:=mX q a3;have y:=aH (aa.o.trans (Kr.ext q));have H:=mX q a5;clear q aa a5;refine gN 0 3 4 ?_;simp only[sZ,ak];iterate 2 (go_big_quiet_step (fail))
         refine lF p 16 kf l (fun _ q=>q.2.2) ?_;refine aN (gT 3 3 1 ?_);refine fK 6 0 x fun q U=>?_
         simp only[sZ,ak];have a2:=mX U x;have a7:=aH (y.o.trans (Kr.ext U));have a8:=mX U H;clear U x y H;have x:=aH a2.o.2.2;have y:=aH (show Fm t W Y q/\Kb q i aj from⟨a2.o.1,a2.o.2.1⟩);clear a2;have H:=y;clear y;refine cD rfl 63 (aI 64) (aI 61) rfl i 166 (au l) rfl rfl _ _ (aj.uQ l).cells H.o.2.j (dM.FX H.o.2.ok l) bM (by rw[dM.size H.o.2.ok,fA];decide) (FV.one l) ?_;obtain⟨y,U,a2,ab⟩:=dq (H.o.2.kuG (aj.uQ l) rfl) (show Kb (q.setRow i (aj.uQ l).cells) i (aj.uQ l) from⟨H.o.2.j.row _,H.o.2.ok⟩) (show Kr i wr (q.setRow i (aj.uQ l).cells) from a7.o.trans (Kr.E9 H.o.2 (aj.uQ l) rfl)) (H.o.1.C (k:=i) a9.o (aj.uQ l).cells);obtain⟨q,ad⟩:=aQ (a8.o.N y.o) (x.o.m (g':=i) (cs':=(aj.uQ l).cells) (dU HKF.o));refine mn ⟨rfl,pX fun al ar=>?_⟩;have ax:=mX ar U;have ay:=aH (a2.o.trans (Kr.ext ar));let ⟨aV,HUf,HBf⟩:=gO ar ab q ad;clear ar U a2 ab q ad y p H a7 a8 x
         try simp only[ak]
         obtain⟨p,q⟩:=aQ (show zx al l from by obtain⟨x,y,H⟩:=z.o a.o d a4.o;exact⟨_,x,y,H,HUf.o⟩) (show aj.uQ l=c.wf l v w by rw[am.o];rfl);go_wp2_with fail
         exact⟨⟨d+1,l,v,w,by omega,by go_num,by rw[<-q.o];exact ax.o,ae.o.trans ay.o,aV.o,fun _ _=>p.o,fun x=>by
          exfalso;rw[e.o,V.o.1,r.o] at x;rcases x with p|p
          ·exact p o.o
          ·cases p⟩,by simp[intOf];omega⟩
      ·have o:=aH n
       have p:(s.st==3)=av:=by simpa using n
       clear n;go_upto_region 11 with fail;clear h p;refine aL 8 (fun h=>Fm t W Y h/\Kb h i aj/\Bx h kf 63 (au l)) rfl (fun n p=>?_);have h:=a3;have n:=mX p a3;have q:=aH (aa.o.trans (Kr.ext p));have r:=mX p a5;clear p aa a5;refine gN 0 4 5 ?_;simp only[sZ,ak];iterate 3 (go_big_quiet_step (fail))
       refine lF h 16 kf l (fun _ p=>p.2.2) ?_;refine aN (gT 4 4 1 ?_);refine fK 8 0 n fun p s=>?_
       simp only[sZ,ak];have x:=mX s n;have y:=aH (q.o.trans (Kr.ext s));have H:=mX s r;clear s n q r;have n:=aH x.o.2.2;have q:=aH (show Fm t W Y p/\Kb p i aj from⟨x.o.1,x.o.2.1⟩);clear x;have r:=q;clear q;refine cD rfl 63 (aI 76) (aI 72) rfl i (176+d*5) (au l) rfl rfl _ _ (aj.qz d l).cells r.o.2.j (dM.G1 r.o.2.ok a4.o l) bM (by rw[dM.size r.o.2.ok,fA];have:=a4.o;omega) (FV.one l) ?_;obtain⟨q,s,t,x⟩:=dq (r.o.2.kuG (aj.qz d l) (dM.Ba _ _ _)) (show Kb (p.setRow i (aj.qz d l).cells) i (aj.qz d l) from⟨r.o.2.j.row _,by rw[dM.V3];exact r.o.2.ok⟩) (show Kr i wr (p.setRow i (aj.qz d l).cells) from y.o.trans (Kr.E9 r.o.2 (aj.qz d l) (dM.Ba _ _ _))) (r.o.1.C (k:=i) a9.o (aj.qz d l).cells);obtain⟨p,U⟩:=aQ (H.o.N q.o) (n.o.m (g':=i) (cs':=(aj.qz d l).cells) (dU HKF.o));refine mn ⟨rfl,pX fun V W=>?_⟩;have Y:=mX W s;have a2:=aH (t.o.trans (Kr.ext W));let ⟨a3,HUf,HBf⟩:=gO W x p U;clear W s t x p U q h r y H n
       try simp only[ak]
       obtain⟨h,n⟩:=aQ (show zx V l from by obtain⟨p,q,r⟩:=z.o a.o d a4.o;exact⟨_,p,q,r,HUf.o⟩) (show aj.qz d l=c.wf g (if d=0 then l else v) (if d=0 then w else l) by rw[am.o,dM.Pk]);go_wp2_with fail
       exact⟨⟨d+1,g,(if d=0 then l else v),(if d=0 then w else l),by omega,by go_num,by rw[<-n.o];exact Y.o,ae.o.trans a2.o,a3.o,fun _ p=>absurd (D8 e.o p) o.o,fun q=>⟨fun _=>by
         by_cases e:d=0
         ·rw[if_pos e];exact h.o
         ·rw[if_neg e];exact((ai.o q).1 O).N a2.o.N,fun _=>by
         rw[if_neg O];exact h.o⟩⟩,by simp[intOf];omega⟩
     ·obtain rfl:d=2:=O
      go_wp2_with fail;exact⟨.inr ⟨by go_num,a.o,2,g,v,w,by omega,rfl,by rw[<-am.o];exact ap.o,ae.o,ag.o,ah.o,ai.o⟩,by simp[intOf]⟩
  ·rcases a1.o with⟨a,d⟩|⟨a,d⟩
   ·omega
   ·subst a
    let ⟨a,d,e,g,_,h,l,n,o,p,q⟩:=a0;have r:a=2:=by injection h with _ s;omega
    subst r;let ⟨a,r⟩:=aQ l o;have s:=aH n.N;have t:=aH (show GQ wr (c.wf d e g) from⟨fun v=>p O v,fun w=>⟨(q w).1 O,(q w).2 O⟩⟩);clear h l n o p q;go_wp2_with fail;go_ret;exact⟨i,b,d,e,g,rfl,ac.o,by rw[<-f.o];exact a.o,u.o.N s.o,fun _=>by rw[<-f.o];exact t.o,a6.o _ r.o⟩
end Go.Proofs.YtbdhieahnneebaaGreatDoor
