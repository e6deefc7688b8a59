/- Laws that TopChains leans on. -/
import Derived.ArgAppend
import Derived.BigFrame
import Derived.BigGuardPart
import Derived.BigQuiet
import Derived.Calls
import Derived.Deep.AppendLies
import Derived.Deep.DeepCutAuto
import Derived.Deep.DeepMust
import Derived.Deep.Quiet
import Derived.Deep.QuietTactic
import Derived.Deep.RegionHeld3
import Derived.Great.Walk
import Derived.IntWalk
import Derived.KernelRfl
import Derived.Laws.BitsAllLaws
import Derived.Laws.CopyOwn
import Derived.Laws.MakeOwn
import Derived.Laws.Rows
import Derived.Laws.ShiftsVarLaws
import Derived.Lib.Hide
import Derived.Lib.SliceRun
import Derived.Maps.AppendAt
import Derived.Outline
import Derived.Recover
import Derived.RowKit
import Derived.Shelf.Small.Bits
import Derived.StillTail
import Derived.StillTailTactics
import Derived.Test.YtbdhieahnneebaaGreatDoorProg
import Derived.WalkKit
import Derived.WalkLawsBesides
import Derived.WalkSpells
set_option maxRecDepth 100000
set_option maxHeartbeats 32000000
set_option linter.all false
open Go.Proofs.Tryz
open Array renaming getElem?_eq_none->pN,getElem?_modify->qF,replicate->JT
open BitVec renaming ofInt->sT
open Bool renaming and_eq_true->bT,eq_iff_iff->iF,false->av,false_eq_true->yP,not_eq_true'->RQ,true->aB
open Go renaming Calls->aT,FuncId->Py,IntKind->yf,Oper->cQ,Operand->Gc,Program->nt,TypeId->aR,Value->aq,World->T,bodyPost_ret->dY,execOp->VI,getD_set_ne->Dy,heap_alloc2_old->Amu,loadCells->O1,loadCellsFrom->yO,loadVar->oA,mem_ready->Mj,ready_mono->PA,results->Ih,results_cell_row->Ke,run_underlying->fI,runtimePanic->Zg,setRow_other->iD,sizeOf->K3,size_setRow->kB,storeCells->Vn,strOfNums->Kd,strOfNums_data->V8,typeInfo->vo,undef->sJ,wpList->cG,wpList_store_row->vA,wpOp->GW,wpQuiet->kL,wpQuiet_nil->aN,yielded->xZ
open Go.Act renaming eval->Afl,put->ak,put_comm->Vg
open Go.Builtin renaming append_->fW,firstCells->j9,lenOf->mC,max_->Ry
open Go.Code renaming region->Afw,wp->yN
open Go.Ending renaming returned->aK
open Go.Instr renaming index->eT,makeSlice->Be
open Go.IntKind renaming bits->ig,i64->E,signed->fQ,wrap->jc
open Go.IntWalk renaming i64_in->an,wrap64_in->kE
open Go.Lib renaming trailingZeros8->uS
open Go.Obj renaming cells->az
open Go.Oper renaming apart_spec->Mm,quietAt->nQ,quietUpon->yJ,upon->tj,wp->Bg
open Go.Operand renaming tmp->aI
open Go.Proofs.Tryz renaming ntmps233->Z8,ntmps269->Z6,ntmps270->Z5,prog->aE,results233->PD,results270->PC,results72->yI,underlying277->ji,underlying3->bJ,underlying5->pM,underlying54->dw,underlying9->Px,zeroValue3->Ij
open Go.Region renaming Mode->xo,binds->od,free_spec->rJ,noSelect->gA,noSelect_spec->oE,ready->eO,wanted->bP
open Go.Result renaming andThen->qp,andThen_ok->dv
open Go.RowKit renaming Below->bj,wrap64->RI
open Go.RowKit.Below renaming alloc->qk,drew->rS,heap_alloc->qd,heap_setCell->eF,refl->aM,setCell->iu
open Go.Sem renaming run_bind->fT,run_pure->iT
open Go.Value renaming agg->aG,bool->ao,int->J,pointer->aD,slice->af,tuple->fE
open Go.World renaming cell?->mV,cell?_of_block->xn,frozen?->RK,setCell->gS
open Go.World.ownsRow renaming alloc->VG,cells->Ii,kept->YT,lt->Gh
open Int renaming eq_ofNat_of_zero_le->sF,le_refl->qZ,lt_or_le->RA,mul_comm->uT,mul_le_mul->xm,mul_le_mul_of_nonneg_left->jf,mul_le_mul_of_nonneg_right->qj,mul_neg->VL,mul_nonneg->nA,natCast_mul->cm,ofNat_lt->Ve,one_mul->Agn,tdiv_eq_ediv_of_nonneg->bB,toNat_natCast->jn
open List renaming all_eq_true->GZ,append_assoc->aW,drop_append->GY,drop_drop->gK,drop_left'->Acz,drop_of_length_le->RR,drop_succ_cons->eN,drop_zero->eo,eq_nil_of_length_eq_zero->dR,ext_getElem?->oB,getD->jr,getD_eq_getElem?_getD->jS,getElem?_append_left->bo,getElem?_append_right->aU,getElem?_drop->iZ,getElem?_eq_getElem->aA,getElem?_eq_none->de,getElem?_eq_some_iff->aP,getElem?_map->bN,getElem?_set->uf,getElem?_take->gH,getElem_mem->qG,length->mZ,length_append->aJ,length_cons->eu,length_drop->jO,length_map->cX,length_replicate->bp,length_set->ee,length_take->dE,map_append->fY,map_cons->sH,map_nil->Bh,map_toArray->qR,mem_append->dG,mem_cons_of_mem->yd,mem_cons_self->DD,mem_map->iy,mem_of_getElem?->bg,mem_of_mem_drop->iw,mem_of_mem_take->jb,mem_range->Da,nil_append->js,range->dI,range_succ->Cn,replicate->aF,replicate_append_replicate->ma,replicate_succ->lo,set_append_right->jT,take_of_length_le->kN,take_succ_cons->cZ,take_zero->dP
open Nat renaming add_assoc->qX,add_comm->Vd,add_mul->mj,add_zero->Ck,and_one_is_mod->V6,div_eq_of_lt->YV,div_le_self->Afr,eq_zero_or_pos->ns,le_refl->aw,le_trans->aY,log2->Aff,lt_or_ge->Pv,mod_eq_of_lt->RJ,mod_lt->rZ,mul_add->zS,mul_add_div->Afq,mul_add_mod->Afp,mul_assoc->nB,mul_comm->dh,mul_le_mul->fo,mul_le_mul_right->fH,mul_one->Mn,pow_le_pow_right->yK,pow_pos->RO,pow_succ->vz,succ_mul->kW,two_pow_add_eq_or_of_lt->NY,zero_add->oD,zero_le->qo
open Ne renaming symm->xW
open Option renaming map_some->bX,none->S,some->M
namespace Go.Proofs.YtbdhieahnneebaaGreatDoor
open Go.RowKit
universe u v
def fj(a:Prop):Prop:=a
def fj.o{a:Prop}(b:fj a):a:=b
def aH{a:Prop}(b:a):fj a:=b
def dK{a:Prop}(b:a:=by kernel_rfl):a:=b
def O{a:Prop}(b:a:=by omega):a:=b
def dS{a:Prop}(b:a:=by simp):a:=b
def eB{a:Prop}(b:a:=by simp;omega):a:=b
def dD{a:Prop}(b:a:=by decide):a:=b
def dU{a b:Prop}(c:b)(d:b->a:=by intro _;omega):a:=d c
def gC{a b c:Prop}(d:b)(e:c)(f:b->c->a:=by intro _ _;omega):a:=f d e
def uL{a b c d:Prop}(e:b)(f:c)(g:d)(h:b->c->d->a:=by intro _ _ _;omega):a:=h e f g
def dU4{a b c d e:Prop}(f:b)(g:c)(h:d)(i:e)(l:b->c->d->e->a:=by intro _ _ _ _;omega):a:=l f g h i
def oz{a b:Prop}(c:b)(d:b->a:=by intro e;rw[e];rfl):a:=d c
def uM{a b:Prop}(c:b)(d:b->a:=by intro e;rw[e];simp):a:=d c
def iJ{a b:Prop}(c:b)(d:b->a:=by intro e;rw[e];omega):a:=d c
def yD{a b:Prop}(c:b)(d:b->a:=by intro e;rw[e];decide):a:=d c
def eZ{a b c:Prop}(d:b)(e:c)(f:b->c->a:=by intro g h;rw[g];exact h):a:=f d e
def D8{a b c:Prop}(d:b)(e:c)(f:b->c->a:=by intro g h;rw[<-g];exact h):a:=f d e
def jP{a b:Prop}(c:b)(d:b->a:=by intro e;simpa using e):a:=d c
def aX{a}(b:a):∃c,c=b:=⟨_,rfl⟩
def aQ{a b}(c:a)(d:b):fj a/\fj b:=⟨c,d⟩
def bh{a b c}(d:a)(e:b)(f:c):fj a/\fj b/\fj c:=⟨d,e,f⟩
def dq{a b c d}(e:a)(f:b)(g:c)(h:d):fj a/\fj b/\fj c/\fj d:=⟨e,f,g,h⟩
def dZ{a b c d e}(f:a)(g:b)(h:c)(i:d)(l:e):fj a/\fj b/\fj c/\fj d/\fj e:=⟨f,g,h,i,l⟩
def ej{a b c d e f}(g:a)(h:b)(i:c)(l:d)(n:e)(o:f):fj a/\fj b/\fj c/\fj d/\fj e/\fj f:=⟨g,h,i,l,n,o⟩
def sZ:(∀{a:Type u}(b:List a),b.toArray.toList=b)/\(∀{c:Type u}{d:c}{e:List c}{i:Nat},(d::e).drop (i+1)=e.drop i)/\(∀{f:Type u}{g:List f},g.drop 0=g)/\(∀{h:Type u}{l:h}{n:List h}{i:Nat},(l::n).take (i+1)=l::n.take i)/\(∀{o:Type u}{p:List o},p.take 0=[])/\(∀{q:Type u}(r:List q)(i:Nat)(s:q),r.toArray.setIfInBounds i s=(r.set i s).toArray)/\(∀{t:Type u}{v:t}{w:List t}{x:Nat}{y:t},(v::w).set (x+1) y=v::w.set x y)/\(∀{z:Type u}{H:z}{U:List z}{V:z},(H::U).set 0 V=V::U)/\(∀(W:Act)(Y:Option Tmp)(a0:aq),W.put Y a0=match Y with|some a1=>{W with tmps:=W.tmps.setIfInBounds a1 a0}|none=>W):=
 ⟨fun _=>rfl,eN,rfl,cZ,dP,fun a b c=>by simp,List.set_cons_succ,List.set_cons_zero,fun _ _ _=>rfl⟩
section
def du(p:Nat->Prop)(w:T)(A:Option Addr)(n:Nat)(l:List Int):Prop:=
 l.length=n/\(∀a∈l,0<=a/\a<=255)/\
  (0<n->∃a b,A=M ⟨a,b,S⟩/\p a/\∀c d,l[c]?=M d->w.cell? ⟨a,b+c,S⟩=M (J .u8 d))
def Uv{w:T}{a b:Nat}{v:aq}(c:w.cell? ⟨a,b,S⟩=M v):a<w.heap.size:=World.block_lt_of_cell? w ⟨a,b,S⟩ c
section
variable {p q:Nat->Prop} {w w':T} {A:Option Addr} {n:Nat} {l:List Int}
def du.len(a:du p w A n l):l.length=n:=a.1
def du.yH(a:du p w A n l):∀b∈l,0<=b/\b<=255:=a.2.1
def du.nil:du p w A 0 []:=⟨rfl,by simp,fun a=>absurd a O⟩
def du.at_{k:Nat}(b:du p w A n l)(a:k<n):
  ∃c off d,A=M ⟨c,off,S⟩/\p c/\c<w.heap.size/\l[k]?=M d/\0<=d/\d<=255/\w.cell? ⟨c,off+k,S⟩=M (J .u8 d):=by
 obtain⟨c,d,e,f,g⟩:=b.2.2 O;have h:k<l.length:=by rw[b.1];exact a
 have a:l[k]?=M l[k]:=aA h;have i:=g k _ a;have g:=b.2.1 l[k] (qG h);exact⟨c,d,l[k],e,f,Uv i,a,g.1,g.2,i⟩
def du.addr(a:du p w A n l)(b:0<n):
  ∃c off,A=M ⟨c,off,S⟩/\p c/\c<w.heap.size/\∀d e,l[d]?=M e->w.cell? ⟨c,off+d,S⟩=M (J .u8 e):=by
 obtain⟨c,d,e,f,g,h,_⟩:=a.at_ b;obtain⟨e,i,o,q,r⟩:=a.2.2 b;rw[f] at o;injection o with a;injection a with b e;subst b;subst e;exact⟨c,d,f,g,h,r⟩
def du.K(a:du p w A n l)(b:∀c,p c->c<w.heap.size->w'.heap[c]?=w.heap[c]?):du p w' A n l:=by
 refine⟨a.1,a.2.1,fun c=>?_⟩;obtain⟨d,e,f,g,h,i⟩:=a.addr c;exact⟨d,e,f,g,fun a c o=>(xn (b d g h)).trans (i a c o)⟩
def du.mono(a:du p w A n l)(b:∀c,c<w.heap.size->p c->q c):du q w A n l:=by
 refine⟨a.1,a.2.1,fun c=>?_⟩;obtain⟨d,e,f,g,h,i⟩:=a.addr c;exact⟨d,e,f,b d h g,i⟩
def du.ext(a:du p w A n l)(b:bj w.heap.size w w'):du p w' A n l:=a.K fun c _ d=>b.block c d
def du.below{B:Nat}(a:du p w A n l)(b:bj B w w')(c:∀d,d<w.heap.size->p d->d<B):du p w' A n l:=a.K fun e f g=>b.block e (c e g f)
def du.drew(a:du p w A n l):du p w.drew A n l:=a
def du.drewN(a:du p w A n l)(b:Nat):du p (w.drewN b) A n l:=a
def du.alloc(a:du p w A n l)(o:Obj):du p (w.alloc o) A n l:=a.K fun b _ c=>qd w o b c
def du.setCell(a:du p w A n l){b:Addr}(c:¬p b.block)(d:aq):du p (w.setCell b d) A n l:=
 a.K fun f g _=>eF w b d f (fun e=>c (e▸g))
end
def Bk(w:T)(e:aR)(g:Nat)(l:List Int):Prop:=w.heap[g]?=M (az (l.map (J .u8)).toArray e (0,0))
section
variable {w w':T} {g:Nat} {e:aR} {l:List Int}
def Bk.lt(a:Bk w e g l):g<w.heap.size:=by
 rcases Pv g w.heap.size with b|c
 ·exact b
 ·unfold Bk at a;rw[pN c] at a;cases a
def Bk.cell(a:Bk w e g l)(i:Nat):w.cell? ⟨g,i,S⟩=(l[i]?).map (J .u8):=by
 unfold Bk at a;simp[mV,a]
def Bk.gZ(a:Bk w e g l){i:Nat}(b:i<l.length):∃c,l[i]?=M c/\w.cell? ⟨g,i,S⟩=M (J .u8 c):=
 ⟨l[i],aA b,by rw[a.cell,aA b];rfl⟩
def Bk.frozen(a:Bk w e g l)(i:Nat):w.frozen? ⟨g,i,S⟩=av:=by
 unfold Bk at a;simp[RK,a]
def Bk.K(a:Bk w e g l)(b:w'.heap[g]?=w.heap[g]?):Bk w' e g l:=b.trans a
def Bk.drew(a:Bk w e g l):Bk w.drew e g l:=a
def Bk.alloc(a:Bk w e g l)(o:Obj):Bk (w.alloc o) e g l:=a.K (qd w o g a.lt)
def Bk.L(b:Bk w e g l)(i:Nat)(a:Int):Bk (w.setCell ⟨g,i,S⟩ (J .u8 a)) e g (l.set i a):=by
 unfold Bk at b ⊢;simp[gS,qF,b]
def Bk.C(b:Bk w e g l){a:Addr}(c:g≠a.block)(d:aq):Bk (w.setCell a d) e g l:=b.K (eF w a d g c)
def Bk.below{B:Nat}(a:Bk w e g l)(b:bj B w w')(c:g<B):Bk w' e g l:=a.K (b.block g c)
def Bk.ext(a:Bk w e g l)(b:bj w.heap.size w w'):Bk w' e g l:=a.K (b.block g a.lt)
def Bk.zA{p:Nat->Prop}(a:Bk w e g l)(b:p g)(c:∀d∈l,0<=d/\d<=255):du p w (M ⟨g,0,S⟩) l.length l:=
 ⟨rfl,c,fun _=>⟨g,0,rfl,b,fun d f h=>by rw[a.cell,oD,h];rfl⟩⟩
end
def vR{n f h:Nat}{l a:List Int}{b:Int}(c:l.length=n)(d:f<n)(i:∀o,o<f->l[o]?=a[o]?)(g:a[f]?=M b)(e:h<f+1):(l.set f b)[h]?=a[h]?:=by
 rw[uf]
 by_cases a:f=h
 ·subst a;rw[if_pos rfl,if_pos O,g]
 ·rw[if_neg a];exact i h O
def rC{n:Nat}{l a:List Int}(b:l.length=n)(c:a.length=n)(d:∀e,e<n->l[e]?=a[e]?):l=a:=by
 apply oB;intro a
 by_cases b:a<n
 ·exact d a b
 ·rw[de O,de O]
def um{a:Type}{l:List a}{b:Nat}{c:a}(d:l[b]?=M c):l.take (b+1)=l.take b++[c]:=by
 obtain⟨a,rfl⟩:=aP.1 d;rw[List.take_succ_eq_append_getElem a]
def Adq{a:Int}(b:0<=a)(c:a<=255):IntKind.u8.wrap a=a:=by
 simp[jc,fQ,ig];omega
def r5(e:aR)(n:Nat):Obj:=az ((aF n (0:Int)).map (J .u8)).toArray e (0,0)
def Bk.made(w:T)(e:aR)(n:Nat):Bk (w.alloc (r5 e n)) e w.heap.size (aF n 0):=heap_alloc_new w _
def Bk.G6(w:T)(e:aR)(n g:Nat)(a:g=w.heap.size):Bk (w.alloc (r5 e n)) e g (aF n 0):=by subst a;exact Bk.made w e n
section
variable {P:nt} {t e:aR}
def DJ(c:P.underlying t=M (.slice e))(b:(P.info? e).map (fun i=>(i.zero,i.size,i.bytes))=M (M (J .u8 0),1,1))
  (d h:Int)(f:0<=d)(g:d<=h)(a:h<=100000000)(w:T):
  (Be t (J E d) (J E h)).run P w=.ok (af (M ⟨w.heap.size,0,S⟩) d.toNat h.toNat) (w.alloc (r5 e h.toNat)):=by
 obtain⟨a,l,n,o,p⟩:=info_parts b;have b:=run_make (P:=P) w t e a (J .u8 0) c l n E E d h f g (iJ p) O;rw[b,o]
 have:madeCells (Value.cells (J .u8 0)) (h.toNat*1)=((aF h.toNat (0:Int)).map (J .u8)).toArray:=by
  apply Array.ext';show(madeCells #[J .u8 0] (h.toNat*1)).toList=_;rw[toList_madeCells_one];simp
 rw[this];rfl
def pS(c:P.underlying t=M (.slice e))(d:(P.info? e).map (fun i=>(i.zero,i.size,i.bytes))=M (M (J .u8 0),1,1))
  (n f:Nat)(a:n<=f)(b:f<=100000000)(w:T):
  (Be t (J E (n:Int)) (J E (f:Int))).run P w=.ok (af (M ⟨w.heap.size,0,S⟩) n f) (w.alloc (r5 e f)):=by
 have a:=DJ (P:=P) c d (n:Int) (f:Int) O O O w;simpa using a
end
def jX(w:T)(base:Nat)(e:aR)(v:aq)(l:List Int):Prop:=w.ownsRow base e 1 v l.length (l.map (J .u8))
section
variable {w w':T} {base:Nat} {e:aR} {v:aq} {l:List Int}
def jX.nil:jX w base e (af S 0 0) []:=World.ownsRow_nil w base e 1
def jX.alloc(a:jX w base e v l)(o:Obj):jX (w.alloc o) base e v l:=VG a o
def jX.drew(a:jX w base e v l):jX w.drew base e v l:=a
def jX.grown{row:Option Nat}(a:jX w base e v l)(b:w.grownBy w' row)(c:v.ownBlock=S\/v.ownBlock≠row):jX w' base e v l:=YT a b c
def jX.ext(a:jX w base e v l)(b:bj w.heap.size w w'):jX w' base e v l:=
 a.grown (row:=S) ⟨b.os,b.tape,b.output,b.size,fun c d _=>b.block c d⟩ (by cases v.ownBlock<;> simp)
def jX.lt(a:jX w base e v l):∀b,v.ownBlock=M b->base<=b/\b<w.heap.size:=Gh a
def jX.ret{p:Nat->Prop}(a:jX w base e v l)(b:∀d,base<=d->p d)(c:∀f∈l,0<=f/\f<=255):∃A h,v=af A l.length h/\du p w A l.length l:=by
 rcases Gh a with d;have d:=a;rcases a.2 with⟨rfl,f⟩|⟨g,h,i,rfl,n,o,q,_,r,s⟩
 ·have:l=[]:=dR f
  subst this;exact⟨S,0,rfl,du.nil⟩
 ·refine⟨M ⟨g,0,S⟩,h,rfl,rfl,c,fun _=>⟨g,0,rfl,b g n,fun a f i=>?_⟩⟩
  have:=Ii d (g:=g) rfl a (J .u8 f) (by rw[bN,i];rfl);have b:(⟨g,0,S⟩:Addr).add a=⟨g,0+a,S⟩:=by unfold Addr.add;split<;> simp_all
  rwa [b] at this
end
section
variable {P:nt} (w:T)
def SG{p:Nat->Prop}(t c e:aR)(d:P.underlying t=M (.slice e))(b:(P.info? e).map (fun i=>(i.zero,i.size,i.bytes))=M (M (J .u8 0),1,1))
  (base:Nat)(v:aq)(l:List Int)(f:jX w base e v l)(A:Option Addr)(h n:Nat)(o:List Int)(r:du p w A h o)
  (a:l.length+h<=100000000)(q:base<=w.heap.size):
  ∃s w',(fW #[t,t] c #[v,af A h n]).run P w=.ok s w'/\jX w' base e s (l++o)/\w.grownBy w' v.ownBlock/\(s.ownBlock=v.ownBlock\/s.ownBlock=M w.heap.size):=by
 obtain⟨a,s,u,x,y⟩:=info_parts b;rcases ns h with b|b
 ·subst b
  have z:o=[]:=dR r.1;subst z;refine⟨v,w,?_,by simpa using f,World.grownBy.refl w _,.inl rfl⟩;rcases A with _|z
  ·rcases f.2 with⟨rfl,_⟩|⟨g,z,H,rfl,_,_,U,_⟩
   ·simp[fW,fI d,K3,vo,s,mC,j9]
   ·simp[fW,fI d,K3,vo,s,mC,j9,U,Vn]
  ·rcases f.2 with⟨rfl,_⟩|⟨g,z,H,rfl,_,_,U,_⟩
   ·simp[fW,fI d,K3,vo,s,mC,j9,O1,yO]
   ·simp[fW,fI d,K3,vo,s,mC,j9,U,Vn,O1,yO]
 ·obtain⟨z,H,rfl,_,_,U⟩:=r.addr b
  have b:∀V W,(o.map (J .u8))[V]?=M W->w.cell? ((⟨z,H,S⟩:Addr).add V)=M W:=by
   intro V W Y;rw[bN] at Y;rcases hx:o[V]? with _|W<;> simp[hx] at Y
   subst Y;have Y:(⟨z,H,S⟩:Addr).add V=⟨z,H+V,S⟩:=by unfold Addr.add;split<;> simp_all
   rw[Y];exact U V W hx
  obtain⟨U,w',V,W,Y,_,a0⟩:=run_append_own_at (P:=P) w base t c e a (J .u8 0) 1 1 d s u x y rfl O v l.length (l.map (J .u8)) f ⟨z,H,S⟩ h n
   (o.map (J .u8)) (by rw[cX,r.1];omega) b (by intro a c;obtain⟨d,_,rfl⟩:=iy.1 c;rfl) (by simp only[maxLen];omega) O q
  refine⟨U,w',V,?_,Y,a0⟩;unfold jX;rw[fY,aJ,r.1];exact W
def VO{p:Nat->Prop}{g:cQ}{c:Act}{d:Act->T->Prop}{f:Exit->Act->T->Prop}(a b:Gc)(t:aR)
  (z:g.op=.call {callee:=.builtin .append,args:=#[a,b],argTypes:=#[t,t]})(e:aR)
  (h:P.underlying t=M (.slice e))(n:(P.info? e).map (fun i=>(i.zero,i.size,i.bytes))=M (M (J .u8 0),1,1))
  (base:Nat)(v:aq)(l:List Int)(H:c.eval a=v)(o:jX w base e v l)(A:Option Addr)(q r:Nat)(s:List Int)(U:c.eval b=af A q r)(u:du p w A q s)
  (x:l.length+q<=100000000)(y:base<=w.heap.size)
  (V:∀W w',jX w' base e W (l++s)->w.grownBy w' v.ownBlock->(W.ownBlock=v.ownBlock\/W.ownBlock=M w.heap.size)->d (c.put g.dst W) w'):g.wp P c w d f:=by
 obtain⟨a,w',b,c,d,f⟩:=SG (P:=P) w t g.type e h n base v l o A q r s u x y;unfold Bg VI;simp only[z,resolve,invoke,builtin,fT,iT,dv,qR,sH,Bh,H,U,b];exact V a w' c d f
def jw{p:Nat->Prop}{a:Array cQ}{b:List cQ}{c:cQ}{d:Act}{f:Exit->Act->T->Prop}(g:c.guard=S)(h n:Gc)(t:aR)
  (o:c.op=.call {callee:=.builtin .append,args:=#[h,n],argTypes:=#[t,t]})(e:aR)
  (q:P.underlying t=M (.slice e))(r:(P.info? e).map (fun i=>(i.zero,i.size,i.bytes))=M (M (J .u8 0),1,1))
  (base:Nat)(v:aq)(l:List Int)(s:d.eval h=v)(u:jX w base e v l)(A:Option Addr)(x y:Nat)(z:List Int)(H:d.eval n=af A x y)(U:du p w A x z)
  (V:l.length+x<=100000000)(W:base<=w.heap.size)
  (Y:∀a0 w',jX w' base e a0 (l++z)->w.grownBy w' v.ownBlock->(a0.ownBlock=v.ownBlock\/a0.ownBlock=M w.heap.size)->cG P a f b (d.put c.dst a0) w'):cG P a f (c::b) d w:=
 wpList_plain g fun _ a=>VO w h n t o e q r base v l s u A x y z H U V W fun b w' c d f=>a _ _ (Y b w' c d f)
end
def du.one(w:T)(e:aR)(c:Int)(a:0<=c)(b:c<=255):du (fun _=>True) (w.alloc (az #[J .u8 c] e)) (M ⟨w.heap.size,0,S⟩) 1 [c]:=
 ⟨rfl,by simp[a,b],fun _=>⟨_,_,rfl,trivial,fun d f g=>by
  rcases d with _|a<;> simp at g
  subst g;exact cell_one_new w (J .u8 c) e 0 _ rfl⟩⟩
def Hj{P:nt}{p:Nat->Prop}{w:T}{A:Option Addr}{n:Nat}{l:List Int}(h:du p w A n l)(a e b:aR)(c:Nat)
  (d:P.underlying a=M (.slice e))(f:P.underlying e=M (.int .u8))(g:P.underlying b=M .string):
  (convert a b (af A n c)).run P w=.ok (.string (Kd l)) w:=by
 rcases ns n with i|i
 ·subst i
  have:l=[]:=dR h.1;subst this;rcases A with _|o
  ·rw[run_convert_bytes_nil w a e d f 0 c b g];rfl
  ·rw[run_convert_bytes_string w a b e _ 0 c d f g]
   simp[Conv.bytesToString,O1,yO,Kd];rfl
 ·obtain⟨o,q,rfl,_,_,r⟩:=h.addr i
  refine run_convert_bytes_arg w a e d f o q n c l h.1 (fun i s=>?_) b g;have a:i<l.length:=by rw[h.1];exact s
  rw[r i _ (aA a)];simp[jr,aA a]
def Gy{l a:List Int}(b:∀e∈l,0<=e/\e<=255)(c:∀f∈a,0<=f/\f<=255)(d:(Kd l).data.toList=(Kd a).data.toList):l=a:=by
 rw[V8,V8] at d
 have e:∀l:List Int,(∀f∈l,0<=f/\f<=255)->(l.map fun n=>UInt8.ofNat n.toNat).map (fun g=>(g.toNat:Int))=l:=by
  intro l f;rw[List.map_map]
  conv=>rhs;rw[<-List.map_id l]
  apply List.map_congr_left;intro g h;have:=f g h;simp;omega
 rw[<-e l b,<-e a c,d]
def ml{w w':T}(a:bj w.drew.heap.size w.drew w'):bj w.heap.size w w':=⟨a.os,a.tape,a.output,a.size,a.block⟩
def gU{a b:T}(c:bj a.heap.size a b):
  (∀d e,d<a.heap.size->b.cell? ⟨d,e,S⟩=a.cell? ⟨d,e,S⟩)/\(∀f g,f<a.heap.size->b.frozen? ⟨f,g,S⟩=a.frozen? ⟨f,g,S⟩):=
 ⟨fun a b d=>c.cell (p:=⟨a,b,S⟩) d,fun e f g=>c.frozen (p:=⟨e,f,S⟩) g⟩
def Aic(w:T)(l:List Int)(e:Ending)(w':T):Prop:=
 ∃A n a,e=aK (af A n a)/\du (w.heap.size<=·) w' A n l/\bj w.heap.size w w'
end
section
def Bx(w:T)(g:Nat)(t:aR)(cs:Array aq):Prop:=w.heap[g]?=M (az cs t (0,0))
section
variable {w w':T} {g:Nat} {t:aR} {cs:Array aq}
def Bx.lt(a:Bx w g t cs):g<w.heap.size:=by
 rcases Pv g w.heap.size with b|c
 ·exact b
 ·unfold Bx at a;rw[pN c] at a;cases a
def Bx.cell(a:Bx w g t cs)(i){v}(b:cs[i]?=M v):w.cell? ⟨g,i,S⟩=M v:=by
 unfold Bx at a;simp[mV,a,b]
def Bx.frozen(a:Bx w g t cs)(i):w.frozen? ⟨g,i,S⟩=av:=by
 unfold Bx at a;simp[RK,a]
def Bx.new(w:T)(t cs):Bx (w.alloc (az cs t)) w.heap.size t cs:=heap_alloc_new w _
def Bx.D(w:T)(t cs a)(b:a=w.heap.size):Bx (w.alloc (az cs t)) a t cs:=by subst b;exact heap_alloc_new w _
def Bx.K(a:Bx w g t cs)(b:w'.heap[g]?=w.heap[g]?):Bx w' g t cs:=b.trans a
def Bx.drew(a:Bx w g t cs):Bx w.drew g t cs:=a
def Bx.alloc(a:Bx w g t cs)(o):Bx (w.alloc o) g t cs:=a.K (qd w o g a.lt)
def Bx.C(b:Bx w g t cs){a}(c:g≠a.block)(d):Bx (w.setCell a d) g t cs:=b.K (eF w a d g c)
def Bx.L(b:Bx w g t cs)(i a):Bx (w.setCell ⟨g,i,S⟩ a) g t (cs.setIfInBounds i a):=by
 unfold Bx at b ⊢;simp[gS,qF,b]
def Bx.ext(a:Bx w g t cs)(b:bj w.heap.size w w'):Bx w' g t cs:=a.K (b.block g a.lt)
def Bx.below{B}(a:Bx w g t cs)(b:bj B w w')(c:g<B):Bx w' g t cs:=a.K (b.block g c)
def Bx.grown{row}(a:Bx w g t cs)(b:w.grownBy w' row)(c:M g≠row):Bx w' g t cs:=a.K (b.block g a.lt c)
def Bx.dz{a b c d e}(f:Bx w g t #[a,b,c,d,e]):
  w.cell? ⟨g,0,S⟩=M a/\w.cell? ⟨g,1,S⟩=M b/\w.cell? ⟨g,2,S⟩=M c/\w.cell? ⟨g,3,S⟩=M d/\w.cell? ⟨g,4,S⟩=M e:=
 ⟨f.cell 0 rfl,f.cell 1 rfl,f.cell 2 rfl,f.cell 3 rfl,f.cell 4 rfl⟩
end
def kH{a w}(b t c d e f):(Builtin.min_ b t #[J c e,J d f]).run a w=.ok (J c (min e f)) w:=by
 rw[run_min_int2,show(if f<e then f else e)=min e f by split<;> omega]
def kI{a w}(b t c d e f):(Ry b t #[J c e,J d f]).run a w=.ok (J c (max e f)) w:=by
 rw[run_max_int2,show(if f>e then f else e)=max e f by split<;> omega]
def vT{a w}(b t c d e f g h):(Ry b t #[J c f,J d g,J e h]).run a w=.ok (J c (max (max f g) h)) w:=by
 rw[run_max_int3];congr 2;split<;> split<;> omega
def wS(a):bits .and E a 1=a%2:=by
 show E.wrap ((sT 64 a&&& sT 64 1).toNat:Int)=_
 have b:(sT 64 a&&& sT 64 1).toNat=(a%2).toNat:=by
  rw[BitVec.toNat_and,show(sT 64 1).toNat=1 from rfl,V6,BitVec.toNat_ofInt];omega
 rw[b,IntKind.wrap_i64];omega
def Bk.ne{w a g b c d}(e:Bk w a g c)(f:Bk w a b d)(h:c.length≠d.length):g≠b:=by
 rintro rfl;unfold Bk at e f;rw[e] at f;injection f with a;injection a with b;apply h;have:=congrArg Array.size b;simpa using this
end
section
def CH(a:List Int)(b:Nat)(c:List Int):List Int:=a.take b++c++a.drop (b+c.length)
def Ag{a b c}(d:b+c.length<=a.length):(CH a b c).length=a.length:=by
 simp[CH];omega
def uq{b c d}(a:c+d.length<=b.length)(e):
  (CH b c d)[e]?=if e<c then b[e]? else if e<c+d.length then d[e-c]? else b[e]?:=by
 unfold CH
 by_cases a:e<c
 ·rw[if_pos a,aW,bo eB,gH,if_pos a]
 ·rw[if_neg a,aW,aU eB]
  have a:(List.take c b).length=c:=by simp;omega
  rw[a]
  by_cases a:e<c+d.length
  ·rw[if_pos a,bo O]
  ·rw[if_neg a,aU O,iZ]
   congr 1;omega
def Wh{a b c}(e:∀f∈a,0<=f/\f<=255)(d:∀g∈c,0<=g/\g<=255):∀h∈CH a b c,0<=h/\h<=255:=by
 intro a b;simp only[CH,dG] at b;rcases b with(c|c)|c
 ·exact e a (jb c)
 ·exact d a c
 ·exact e a (iw c)
def Of{a b}:CH a b []=a:=by simp[CH]
section
variable {P:nt} (w:T)
def Qg{a}(h l r)(n:P.underlying h=M (.slice r))(c:(P.info? r).map (fun i=>(i.zero,i.size,i.bytes))=M (M (J .u8 0),1,1))
  (d s o e p q x off t)(u:Bk w r x t)(v)(g:du a w e p v)
  (f:0<s->d=M ⟨x,off,S⟩)(b:off+s<=t.length):
  ∃y,(Builtin.copy_ #[h,h] l #[af d s o,af e p q]).run P w=.ok (J E ((min p s:Nat):Int)) y/\Bk y r x (CH t off (v.take s))/\w.grownBy y (M x):=by
 obtain⟨a,b,y,z,H⟩:=info_parts c;have a:(P.info? r).map (·.size)=M 1:=by rw[b];simp[z]
 by_cases b:Nat.min p s=0
 ·have c:=run_copy_none (P:=P) w h h l r d e s o p q n a b
  refine⟨w,?_,?_,World.grownBy.refl w _⟩
  ·rw[c]
   have:min p s=0:=b;rw[this];rfl
  ·have:v.take s=[]:=by
    apply dR;have c:min p s=0:=b;rw[dE,g.1];omega
   rw[this,Of];exact u
 ·have c:¬min p s=0:=b
  obtain rfl:=f O;obtain⟨b,c,rfl,_,_,d⟩:=g.addr O;have e:(v.take s).length=min p s:=by rw[dE,g.1];omega
  have f:∀g y,((v.take s).map (J .u8))[g]?=M y->w.cell? ((⟨b,c,S⟩:Addr).add g)=M y:=by
   intro g y z;rw[bN] at z;rcases hx:(v.take s)[g]? with _|y<;> simp[hx] at z
   subst z;have z:(⟨b,c,S⟩:Addr).add g=⟨b,c+g,S⟩:=by unfold Addr.add;split<;> simp_all
   rw[z];rw[gH] at hx;split at hx
   ·exact d g y hx
   ·cases hx
  have d:=run_copy_row (P:=P) w h h l r x off s o ⟨b,c,S⟩ p q (t.map (J .u8)).toArray r ((v.take s).map (J .u8)) n a u (by rw[cX,e]) f eB
   (by intro a b;obtain⟨c,_,rfl⟩:=iy.1 b;rfl)
  refine⟨w.setRow x ((t.map (J .u8)).toArray.toList.take off++(v.take s).map (J .u8)++(t.map (J .u8)).toArray.toList.drop (off+((v.take s).map (J .u8)).length)).toArray,?_,?_,?_⟩
  ·rw[d,cX,e]
   rfl
  ·have:=setRow_heap w x _ ((t.map (J .u8)).toArray.toList.take off++(v.take s).map (J .u8)++(t.map (J .u8)).toArray.toList.drop (off+((v.take s).map (J .u8)).length)).toArray r _ u
   unfold Bk;rw[this];simp[CH]
  ·exact⟨rfl,rfl,rfl,by simp,fun a _ b=>iD w x a _ (fun c=>b (by rw[c]))⟩
def Kj{a}{g:cQ}{d e f}(b c h)
  (W:g.op=.call {callee:=.builtin .copy,args:=#[b,c],argTypes:=#[h,h]})(l)(n:P.underlying h=M (.slice l))(o:(P.info? l).map (fun i=>(i.zero,i.size,i.bytes))=M (M (J .u8 0),1,1))
  (p q r s t u)(Y:d.eval b=af p q r)(a0:d.eval c=af s t u)(v off x)(y:Bk w l v x)(z)(H:du a w s t z)
  (U:0<q->p=M ⟨v,off,S⟩)(V:off+q<=x.length)
  (a1:∀a2,Bk a2 l v (CH x off (z.take q))->w.grownBy a2 (M v)->e (d.put g.dst (J E ((min t q:Nat):Int))) a2):g.wp P d w e f:=by
 obtain⟨a,b,c,d⟩:=Qg (P:=P) w h g.type l n o p q r s t u v off x y z H U V;unfold Bg VI;simp only[W,resolve,invoke,builtin,fT,iT,dv,qR,sH,Bh,Y,a0,b];exact a1 a c d
def qL{p a b c d e}(f:c.guard=S)(g h l)
  (n:c.op=.call {callee:=.builtin .copy,args:=#[g,h],argTypes:=#[l,l]})(o)(q:P.underlying l=M (.slice o))(r:(P.info? o).map (fun i=>(i.zero,i.size,i.bytes))=M (M (J .u8 0),1,1))
  (s t u v x y)(z:d.eval g=af s t u)(H:d.eval h=af v x y)(U off V)(W:Bk w o U V)(Y)(a0:du p w v x Y)
  (a1:0<t->s=M ⟨U,off,S⟩)(a2:off+t<=V.length)
  (a3:∀a4,Bk a4 o U (CH V off (Y.take t))->w.grownBy a4 (M U)->cG P a e b (d.put c.dst (J E ((min x t:Nat):Int))) a4):cG P a e (c::b) d w:=
 wpList_plain f fun _ a=>Kj w g h l n o q r s t u v x y z H U off V W Y a0 a1 a2 fun b c d=>a _ _ (a3 b c d)
def yW{p d e f a b c}(g:e.guard=S)(h l n)
  (o:e.op=.call {callee:=.builtin .copy,args:=#[h,l],argTypes:=#[n,n]})(q)(r:P.underlying n=M (.slice q))(s:(P.info? q).map (fun i=>(i.zero,i.size,i.bytes))=M (M (J .u8 0),1,1))
  (t u v x y z)(H:f.eval h=af t u v)(U:f.eval l=af x y z)(V off W)(Y:Bk w q V W)(a0)(a1:du p w x y a0)
  (a2:0<u->t=M ⟨V,off,S⟩)(a3:off+u<=W.length)
  (a4:∀a5,Bk a5 q V (CH W off (a0.take u))->w.grownBy a5 (M V)->a (f.put e.dst (J E ((min y u:Nat):Int))) a5):
  if bP e (xZ d f.tmps)=aB then Bg P e f w a b else c:=by
 have a:bP e (xZ d f.tmps)=aB:=by simp[bP,g]
 rw[if_pos a];exact Kj w h l n o q r s t u v x y z H U V off W Y a0 a1 a2 a3 a4
end
def du.grown{a w w' b c d row}(e:du a w b c d)(f:w.grownBy w' row)(g:∀h,a h->h<w.heap.size->M h≠row):du a w' b c d:=
 e.K fun a b c=>f.block a c (g a b c)
def Bk.grown{w w' a b c row}(d:Bk w a b c)(e:w.grownBy w' row)(f:M b≠row):Bk w' a b c:=d.K (e.block b d.lt f)
def du.Abu(w:T)(b c a)(d:a=w.heap.size)(e:0<=c)(f:c<=255):du (fun _=>True) (w.alloc (az #[J .u8 c] b)) (M ⟨a,0,S⟩) 1 [c]:=by
 subst d;exact du.one w b c e f
def Bk.sub{a w b f g c d}(l:Bk w b f d)(h:a f)(e:g+c<=d.length)(i:∀n∈d,0<=n/\n<=255):du a w (M ⟨f,g,S⟩) c ((d.drop g).take c):=by
 refine⟨by simp;omega,fun a b=>i a (iw (jb b)),fun _=>⟨f,g,rfl,h,fun c a b=>?_⟩⟩;rw[gH] at b;split at b
 ·rw[iZ] at b
  rw[l.cell,b];rfl
 ·cases b
def du.sub{a w f g k b m c}(e:du a w (M ⟨f,g,S⟩) b c)(d:k+m<=b):du a w (M ⟨f,g+k,S⟩) m ((c.drop k).take m):=by
 have a:=e.1;refine⟨by simp;omega,fun a b=>e.2.1 a (iw (jb b)),fun c=>?_⟩;obtain⟨a,b,c,d,h⟩:=e.2.2 O;cases c;refine⟨f,g+k,rfl,d,fun a b c=>?_⟩;rw[gH] at c;split at c
 ·rw[iZ] at c
  have:=h (k+a) b c;rwa [<-qX] at this
 ·cases c
end
def gB{a b}(c:a=b):aK (ao a)=aK (ao b):=by rw[c]
def Gz{p p':Nat->Prop}(a b:Option Addr)(c d h i:Nat)(e f:List Int)(g:T)(l:du p g a c e)(n:du p' g b d f):
  aT aE 52 #[af a c h,af b d i] g fun o q=>o=aK (ao (decide (e=f)))/\g=q:=by
 have a:=Hj (P:=aE) l 54 5 9 h dw pM Px;have a:=Hj (P:=aE) n 54 5 9 i dw pM Px;go_enter func52,ntmps52;go_wp2;go_ret;refine⟨gB ?_,rfl⟩;rw[iF];simp only[beq_iff_eq,decide_eq_true_eq];constructor
 ·intro a
  exact Gy l.yH n.yH (by rw[<-ByteArray.toList_eq,<-ByteArray.toList_eq];exact a)
 ·rintro rfl;rfl
section
def Rw(p:Nat->Prop)(w:T)(A:Option Addr)(n size:Nat)(xs:List aq):Prop:=
 xs.length=n*size/\(0<n->∃a b,A=M ⟨a,b,S⟩/\p a/\a<w.heap.size/\∀c d,xs[c]?=M d->w.cell? ⟨a,b+c,S⟩=M d)
section
variable {p q:Nat->Prop} {w w':T} {A:Option Addr} {n size:Nat} {xs:List aq}
def Rw.len(a:Rw p w A n size xs):xs.length=n*size:=a.1
def Rw.nil:Rw p w A 0 size []:=⟨by simp,fun a=>absurd a O⟩
def Rw.addr(a:Rw p w A n size xs)(b:0<n):∃c off,A=M ⟨c,off,S⟩/\p c/\c<w.heap.size/\∀d e,xs[d]?=M e->w.cell? ⟨c,off+d,S⟩=M e:=a.2 b
def Rw.K(b:Rw p w A n size xs)(a:w.heap.size<=w'.heap.size)(c:∀d,p d->d<w.heap.size->w'.heap[d]?=w.heap[d]?):Rw p w' A n size xs:=by
 refine⟨b.1,fun a=>?_⟩;obtain⟨d,e,f,g,h,i⟩:=b.2 a;exact⟨d,e,f,g,by omega,fun a b l=>(xn (c d g h)).trans (i a b l)⟩
def Rw.mono(a:Rw p w A n size xs)(b:∀c,c<w.heap.size->p c->q c):Rw q w A n size xs:=by
 refine⟨a.1,fun c=>?_⟩;obtain⟨d,e,f,g,h,i⟩:=a.2 c;exact⟨d,e,f,b d h g,h,i⟩
def Rw.ext(a:Rw p w A n size xs)(b:bj w.heap.size w w'):Rw p w' A n size xs:=a.K b.size fun c _ d=>b.block c d
def Rw.below{B}(a:Rw p w A n size xs)(b:bj B w w')(c:∀d,d<w.heap.size->p d->d<B):Rw p w' A n size xs:=a.K b.size fun e f g=>b.block e (c e g f)
def Rw.grown{row}(a:Rw p w A n size xs)(b:w.grownBy w' row)(c:∀d,p d->M d≠row):Rw p w' A n size xs:=a.K b.size fun e f g=>b.block e g (c e f)
def Rw.drew(a:Rw p w A n size xs):Rw p w.drew A n size xs:=a
def Rw.drewN(a:Rw p w A n size xs)(b):Rw p (w.drewN b) A n size xs:=a
def Rw.alloc(a:Rw p w A n size xs)(o):Rw p (w.alloc o) A n size xs:=a.K dS fun b _ c=>qd w o b c
def Rw.setCell(a:Rw p w A n size xs){b}(c:¬p b.block)(d):Rw p (w.setCell b d) A n size xs:=
 a.K (by simp[gS]) fun f g _=>eF w b d f (fun e=>c (e▸g))
def Rw.zA{a}(c:Rw p w A n 1 (a.map (J .u8)))(b:∀d∈a,0<=d/\d<=255):du p w A n a:=by
 refine⟨by simpa using c.1,b,fun a=>?_⟩;obtain⟨b,d,e,f,g,h⟩:=c.2 a;exact⟨b,d,e,f,fun a c g=>h a _ (by rw[bN,g];rfl)⟩
end
section
variable {w w':T} {base:Nat} {e:aR} {size n:Nat} {v:aq} {xs:List aq}
def Rw.lit{p}(w:T)(e xs){a}(c:a=xs.toArray)(n size)(f:xs.length=n*size){b}(d:b=w.heap.size)(g:p b):
  Rw p (w.alloc (az a e)) (M ⟨b,0,S⟩) n size xs:=by
 subst c d;have a:Bx (w.alloc (az xs.toArray e)) w.heap.size e xs.toArray:=Bx.new w e _;exact⟨f,fun _=>⟨w.heap.size,0,rfl,g,a.lt,fun b c d=>a.cell _ (jP d)⟩⟩
end
section
variable {P:nt} (w:T)
end
end
def iY:(aE.info? 5).map (fun i=>(i.zero,i.size,i.bytes))=M (M (J .u8 0),1,1):=dK
def du.lit(c:T)(d e)(f:∀g∈e,0<=g/\g<=255){a}(b:a=(e.map (J .u8)).toArray):
  du (fun _=>True) (c.alloc (az a d)) (M ⟨c.heap.size,0,S⟩) e.length e:=by
 subst b;exact Bk.zA (heap_alloc_new c _:Bk _ d _ e) trivial f
def Hd(i a b c)(g:c=((2^i:Nat):Int))(e:0<=a)(f:0<=b)(l:b<c)(h:a*c<256)(d:c<=256):bits .or .u8 (a*c) b=a*c+b:=by
 obtain⟨a,rfl⟩:=sF e;obtain⟨b,rfl⟩:=sF f;subst g;have c:((a*2^i:Nat):Int)<256:=by rw[cm];exact h
 have d:b<2^i:=Ve.1 l;have e:a*2^i|||b=a*2^i+b:=by rw[dh,<-NY d]
 rw[<-cm,u8_or_nat _ _ (Ve.1 c) O,e,Int.natCast_add]
def Bx.iE{b c a d e f g}(h:Bx b c a #[d,e,f,g]):
  b.cell? ⟨c,0,S⟩=M d/\b.cell? ⟨c,1,S⟩=M e/\b.cell? ⟨c,2,S⟩=M f/\b.cell? ⟨c,3,S⟩=M g:=
 ⟨h.cell 0 rfl,h.cell 1 rfl,h.cell 2 rfl,h.cell 3 rfl⟩
def jX.lit(l:T)(b c n d)(g:n.length=d){e}(h:e=(n.map (J .u8)).toArray){f}(i:f=l.heap.size)(o:b<=f)(a:d<=100000000):
  jX (l.alloc (az e c)) b c (af (M ⟨f,0,S⟩) d d) n:=by
 subst h i g;refine⟨by simp,.inr ⟨l.heap.size,n.length,_,rfl,o,heap_alloc_new l _,aw _,by simp only[maxLen];omega,by simp,?_⟩⟩;simp only[Mn];exact kN dS
def jX.zA{a b c d e f g p}(h:jX a b c (af d e f) g)(i:∀n,b<=n->p n)(l:∀o∈g,0<=o/\o<=255):du p a d e g:=by
 obtain⟨a,b,c,d⟩:=h.ret i l;injection c with a b e;subst a b;exact d
def jX.slice{a b c d e}(f:jX a b c d e):∃g h,d=af g e.length h/\e.length<=h:=by
 rcases f.2 with⟨rfl,a⟩|⟨b,c,d,rfl,_,_,e,_⟩
 ·exact⟨S,0,by rw[a],by omega⟩
 ·exact⟨_,_,rfl,e⟩
def LU(a:T)(b:List Int)(c:Ending)(d:T):Prop:=
 ∃e f g,c=aK (af e f g)/\du (a.heap.size<=·) d e f b/\bj a.heap.size a d/\f<=g
def LU.b{a b c d}(e:LU a b c d):Aic a b c d:=by
 obtain⟨a,b,c,d,f,g,_⟩:=e;exact⟨a,b,c,d,f,g⟩
def Bx.drewN{a b c d}(e:Bx a b c d)(f):Bx (a.drewN f) b c d:=e
def FJ{a b c}(d:bj a b c)(e):bj a b (c.drewN e):=⟨d.os,d.tape,d.output,d.size,d.block⟩
def FD{a b c}(d:bj a b c)(e)(f:a<=e.block)(g):bj a b (c.setCell e g):=d.setCell f g
def du.cast{a b c d e f g}(h:du a b c e g)(i:d=c)(l:f=e):du a b d f g:=by subst i l;exact h
section
structure Fr where
 W:Int
 H:Int
 Y:List Int
 U:List Int
 V:List Int
def dF(p:Nat->Prop)(w:T)(v:aq)(f:Fr):Prop:=
 ∃a b c d e g h i l,v=aG #[J E f.W,J E f.H,af a b c,af d e g,af h i l]/\
  du p w a b f.Y/\du p w d e f.U/\du p w h i f.V
section
variable {p q:Nat->Prop} {w w':T} {v:aq} {f:Fr}
def dF.K(a:dF p w v f)(b:∀c,p c->c<w.heap.size->w'.heap[c]?=w.heap[c]?):dF p w' v f:=by
 obtain⟨c,d,e,g,h,i,l,n,o,rfl,q,r,s⟩:=a;exact⟨c,d,e,g,h,i,l,n,o,rfl,q.K b,r.K b,s.K b⟩
def dF.mono(a:dF p w v f)(b:∀c,c<w.heap.size->p c->q c):dF q w v f:=by
 obtain⟨c,d,e,g,h,i,l,n,o,rfl,r,s,t⟩:=a;exact⟨c,d,e,g,h,i,l,n,o,rfl,r.mono b,s.mono b,t.mono b⟩
def dF.ext(a:dF p w v f)(b:bj w.heap.size w w'):dF p w' v f:=a.K fun c _ d=>b.block c d
def dF.below{B}(a:dF p w v f)(b:bj B w w')(c:∀d,d<w.heap.size->p d->d<B):dF p w' v f:=a.K fun e g h=>b.block e (c e h g)
def dF.alloc(a:dF p w v f)(o):dF p (w.alloc o) v f:=a.K fun b _ c=>qd w o b c
def dF.drew(a:dF p w v f):dF p w.drew v f:=a
def dF.setCell(a:dF p w v f){b}(c:¬p b.block)(d):dF p (w.setCell b d) v f:=
 a.K fun e g _=>eF w b d e (fun h=>c (h▸g))
end
def ng(w a:Int):Bool:=decide (2<=w/\w<=64/\w%2=0/\2<=a/\a<=64/\a%2=0)
def bQ(f:Fr):Bool:=ng f.W f.H&&decide ((f.Y.length:Int)=f.W*f.H)&&decide ((f.U.length:Int)=f.W/2*(f.H/2))&&decide ((f.V.length:Int)=f.W/2*(f.H/2))
def pA(a b:Int)(w:T):
  aT aE 176 #[J E a,J E b] w fun c w'=>c=aK (ao (ng a b))/\w=w':=by
 go_enter func176,ntmps176;go_wp2
 all_goals
  go_ret;refine⟨gB ?_,rfl⟩;unfold ng
  first|(simp;omega)|(rw[iF];simp;omega)
def jI{a b}(c:ng a b=aB):2<=a/\a<=64/\a%2=0/\2<=b/\b<=64/\b%2=0:=by simpa[ng] using c
def nm{x y}{m:Int}(a:0<=x)(b:x<=m)(c:0<=y)(d:y<=m):0<=x*y/\x*y<=m*m:=
 ⟨nA a c,xm b d c O⟩
def dB{p:Nat->Prop}(v:aq)(f:Fr)(w:T)(a:dF p w v f):
  aT aE 122 #[v] w fun b w'=>b=aK (ao (bQ f))/\bj w.heap.size w w':=by
 obtain⟨b,c,d,e,g,h,i,l,n,rfl,o,q,r⟩:=a;obtain⟨a,s,t,u,x⟩:=f;dsimp only at*;have b:=o.len;have c:=q.len;have d:=r.len;subst b c d;clear o q r
 by_cases b:ng a s=aB
 ·obtain⟨c,d,e,g,h,i⟩:=jI b
  have c:=nm (x:=a) (y:=s) (m:=64) O d O h;have c:=nm (x:=a/2) (y:=s/2) (m:=64) O O O O;go_enter func122,ntmps122;go_wp2_with (go_at_call 176;refine(pA _ _ _).mono ?_;rintro c w' ⟨rfl,rfl⟩)
  all_goals
   go_ret;refine⟨gB ?_,(aM _ _).alloc (aw _) _⟩;rw[iF];simp[bQ, *]
 ·have c:ng a s=av:=by simpa using b
  go_enter func122,ntmps122;go_wp2_with (go_at_call 176;refine(pA _ _ _).mono ?_;rintro a w' ⟨rfl,rfl⟩);go_ret;refine⟨gB ?_,(aM _ _).alloc (aw _) _⟩;simp[bQ,c]
def Ez{p:Nat->Prop}(v:aq)(f:Fr)(w:T)(a:dF p w v f):
  aT aE 106 #[v] w fun b w'=>b=aK (ao (bQ f))/\bj w.heap.size w w':=by
 obtain⟨b,c,d,e,g,h,i,l,n,rfl,o,q,r⟩:=a;obtain⟨a,s,t,u,x⟩:=f;dsimp only at*;have y:=o.len;have z:=q.len;have H:=r.len;subst y z H;clear o q r
 by_cases o:ng a s=aB
 ·obtain⟨q,r,y,z,H,U⟩:=jI o
  have q:=nm (x:=a) (y:=s) (m:=64) O r O H;have q:=nm (x:=a/2) (y:=s/2) (m:=64) O O O O;go_enter func106,ntmps106;go_wp2
  all_goals
   go_ret;refine⟨gB ?_,(aM _ _).alloc (aw _) _⟩;rw[iF]
   first|(exfalso;omega)|(simp[bQ, *];done)
 ·have q:ng a s=av:=by simpa using o
  go_enter func106,ntmps106;go_wp2
  all_goals
   go_ret;refine⟨gB ?_,(aM _ _).alloc (aw _) _⟩
   first|(simp[bQ,q];done)|(exfalso;apply o;simp only[bne_eq_false_iff_eq] at*;simp[ng];omega)
end
section
attribute [local go_sem ↓] kH kI wS
def fZ(i a:Int):Int:=max 0 (min i (a-1))
def xL{i a}(b:1<=a):0<=fZ i a/\fZ i a<=a-1:=by
 unfold fZ;omega
def KP(a:List Int)(b c d e:Int):Int:=a.getD (fZ e c*b+fZ d b).toNat 0
def Ff(a:List Int)(b c d e:Int):Int:=
 (KP a b c (d/2) (e/2)+KP a b c (d/2+d%2) (e/2)+KP a b c (d/2) (e/2+e%2)+KP a b c (d/2+d%2) (e/2+e%2)+2)/4
def WM{a b c}(d:b=c):aK (J a b)=aK (J a c):=by rw[d]
def yz(i e:Int)(a:-100000<=i)(b:i<=100000)(c:1<=e)(d:e<=100000)(f:T):
  aT aE 289 #[J E i,J E e] f fun g h=>g=aK (J E (fZ i e))/\f=h:=by
 go_enter func289,ntmps289;go_wp2;go_ret;exact⟨WM (by unfold fZ;omega),rfl⟩
def IY{a b c d e f}(g:a[(fZ e c*b+fZ d b).toNat]?=M f):KP a b c d e=f:=by
 unfold KP;rw[jS,g];rfl
def Ar{c d x y}(a:1<=c)(b:1<=d):0<=fZ y d*c+fZ x c/\fZ y d*c+fZ x c<c*d/\0<=fZ y d*c/\fZ y d*c<c*d:=by
 have e:=xL (i:=x) a;have a:=xL (i:=y) b;have b:0<=fZ y d*c:=nA a.1 O;have b:fZ y d*c<=(d-1)*c:=qj a.2 O;have a:(d-1)*c=c*d-c:=by rw[Int.sub_mul,Agn,uT]
 omega
def GJ{c:Nat->Prop}(d e f g h i:Int)(l n o p q:Nat)(r:Option Addr)(s t:Nat)(u:List Int)(v:T)(a:du c v r s u)(b:(s:Int)=f*g)
  (w:1<=f)(x:f<=64)(y:1<=g)(z:g<=64)(H:-1000<=d)(U:d<=1000)(V:-1000<=e)(W:e<=1000)(Y:0<=h)(a0:h<=1)(a1:0<=i)(a2:i<=1)
  (a3:v.cell? ⟨l,0,S⟩=M (J E f))(a4:v.cell? ⟨n,0,S⟩=M (J E h))(a5:v.cell? ⟨o,0,S⟩=M (J E g))(a6:v.cell? ⟨p,0,S⟩=M (J E i))(a7:v.cell? ⟨q,0,S⟩=M (.slice r s t)):
  aT aE 288 #[J E d,J E e,aD (M ⟨l,0,S⟩),aD (M ⟨n,0,S⟩),aD (M ⟨o,0,S⟩),aD (M ⟨p,0,S⟩),aD (M ⟨q,0,S⟩)] v
    fun a8 a9=>a8=aK (J .u8 ((KP u f g d e+KP u f g (d+h) e+KP u f g d (e+i)+KP u f g (d+h) (e+i)+2)/4))/\v.drew.drew.drew=a9:=by
 have a8:=Ar (x:=d) (y:=e) w y;have a9:=Ar (x:=d+h) (y:=e) w y;have aa:=Ar (x:=d) (y:=e+i) w y;have ab:=Ar (x:=d+h) (y:=e+i) w y;obtain⟨ac,ad,ae,rfl,_,ag,ah,ai,aj,al⟩:=a.at_ (k:=(fZ e g*f+fZ d f).toNat) O;obtain⟨_,_,am,ap,_,_,ar,ax,ay,aV⟩:=a.at_ (k:=(fZ e g*f+fZ (d+h) f).toNat) O;obtain⟨_,_,b0,b1,_,_,b2,b3,b4,b5⟩:=a.at_ (k:=(fZ (e+i) g*f+fZ d f).toNat) O;obtain⟨_,_,b6,b7,_,_,b8,b9,ba,bb⟩:=a.at_ (k:=(fZ (e+i) g*f+fZ (d+h) f).toNat) O;cases ap;cases b1;cases b7;rw[IY ah,IY ar,IY b2,IY b8];clear ah ar b2 b8;have a:=xL (i:=d) w;have ah:=xL (i:=d+h) w;have ap:f*g<=64*64:=(nm O x O z).2;have ar:=aH b;have b1:(s:Int)<=f*g:=O;have b2:f*g<=(s:Int):=O;clear b;have b:E.wrap (d+h)=d+h:=an _ O;have b7:E.wrap (e+i)=e+i:=an _ O;go_enter func288,ntmps288;go_wp2
 go_region_held3 (fun b8=>b8.cell? ⟨l,0,S⟩=M (J E f)/\b8.cell? ⟨n,0,S⟩=M (J E h)) (go_keep)
  (first
   |(go_at_call 289;((with_reducible refine(yz _ _ ?_ ?_ ?_ ?_ _).mono ?_);(omega);(omega);(omega);(omega);rintro b8 bc ⟨rfl,rfl⟩)))
 generalize b8:fZ d f=bc at*
 generalize bd:fZ (d+h) f=be at*
 clear b8 bd;have b8:E.wrap (fZ e g*f)=fZ e g*f:=an _ O;have bd:E.wrap (fZ (e+i) g*f)=fZ (e+i) g*f:=an _ O;go_wp2
 go_region_held3 (fun bf=>bf.cell? ⟨l,0,S⟩=M (J E f)/\bf.cell? ⟨o,0,S⟩=M (J E g)/\bf.cell? ⟨p,0,S⟩=M (J E i)) (go_keep)
  (first
   |(go_at_call 289;((with_reducible refine(yz _ _ ?_ ?_ ?_ ?_ _).mono ?_);(omega);(omega);(omega);(omega);rintro bf bi ⟨rfl,rfl⟩)))
 clear b b7 b8 bd;generalize b:fZ e g*f=b7 at*
 generalize b8:fZ (e+i) g*f=bd at*
 clear b b8;have b:E.wrap (b7+bc)=b7+bc:=an _ O;have b8:E.wrap (b7+be)=b7+be:=an _ O;have bf:E.wrap (bd+bc)=bd+bc:=an _ O;have bi:E.wrap (bd+be)=bd+be:=an _ O;have bk:b7+bc<(s:Int):=O;have bl:b7+be<(s:Int):=O;have bn:bd+bc<(s:Int):=O;have br:bd+be<(s:Int):=O;have bs:0<=b7+bc:=O;have bt:0<=b7+be:=O;have bu:0<=bd+bc:=O;have bv:0<=bd+be:=O;have bx:E.wrap ae=ae:=an _ O;have bz:E.wrap am=am:=an _ O;have bC:E.wrap b0=b0:=an _ O;have bK:E.wrap b6=b6:=an _ O;have bL:E.wrap (ae+am)=ae+am:=an _ O;have bR:E.wrap (ae+am+b0)=ae+am+b0:=an _ O;have bU:E.wrap (ae+am+b0+b6)=ae+am+b0+b6:=an _ O;go_wp2
 go_region_held3 (fun bV=>bV.cell? ⟨q,0,S⟩=M (af (M ⟨ac,ad,S⟩) s t)/\bV.cell? ⟨ac,ad+(b7+bc).toNat,S⟩=M (J .u8 ae)/\bV.cell? ⟨ac,ad+(b7+be).toNat,S⟩=M (J .u8 am)/\bV.cell? ⟨ac,ad+(bd+bc).toNat,S⟩=M (J .u8 b0)/\bV.cell? ⟨ac,ad+(bd+be).toNat,S⟩=M (J .u8 b6)) (go_keep) (fail)
 clear b b8 bf bi bx bz bC bK bL bR bU;go_wp2;go_ret;exact⟨rfl,rfl⟩
def IX{a}(f:∀g∈a,0<=g/\g<=255)(b c d e):0<=KP a b c d e/\KP a b c d e<=255:=by
 unfold KP;rw[jS];rcases hv:a[(fZ e c*b+fZ d b).toNat]? with _|g
 ·simp
 ·exact f g (bg hv)
def Lg{a}(b:∀g∈a,0<=g/\g<=255)(c d e f):0<=Ff a c d e f/\Ff a c d e f<=255:=by
 unfold Ff;have a:=IX b c d (e/2) (f/2);have a:=IX b c d (e/2+e%2) (f/2);have a:=IX b c d (e/2) (f/2+f%2);have a:=IX b c d (e/2+e%2) (f/2+f%2);omega
end
section
attribute [local go_sem ↓] wS
def EH(a:List Int)(b c d e:Int)(f:Nat)(g h:Int)(i:Nat):Int:=Ff a b c (2*(d+((i%f:Nat):Int))+g) (2*(e+((i/f:Nat):Int))+h)
def qC(a:List Int)(b c d e:Int)(f g:Nat)(h i:Int):List Int:=(dI (g*f)).map (EH a b c d e f h i)
def Qw{a b c d e h f g i l}(n:i<h):
  EH a b c d e h f g (l*h+i)=Ff a b c (2*(d+(i:Int))+f) (2*(e+(l:Int))+g):=by
 unfold EH;have a:(l*h+i)%h=i:=by rw[dh,Afp];exact RJ n
 have b:(l*h+i)/h=l:=by rw[dh,Afq O,YV n,Ck]
 rw[a,b]
def Qu(a:Nat->Int)(b):(dI (b+1)).map a=(dI b).map a++[a b]:=by rw[Cn,fY];rfl
def Qv{a}(l:∀n∈a,0<=n/\n<=255)(b c d e f g h i):∀o∈qC a b c d e f g h i,0<=o/\o<=255:=by
 intro a b;obtain⟨a,_,rfl⟩:=iy.1 b;exact Lg l _ _ _ _
def jX.made{d:T}{a b e}(f:a<=d.heap.size)(c:e<=100000000):jX (d.alloc (r5 b e)) a b (af (M ⟨d.heap.size,0,S⟩) 0 e) []:=
 World.ownsRow_made d _ e f (by simp only[maxLen];omega) dS
def TS{a b c d e f g}:
  (KP a b c (d+f/2) (e+g/2)+KP a b c (d+f/2+f%2) (e+g/2)+KP a b c (d+f/2) (e+g/2+g%2)+KP a b c (d+f/2+f%2) (e+g/2+g%2)+2)/4=Ff a b c (2*d+f) (2*e+g):=by
 unfold Ff;rw[show(2*d+f)/2=d+f/2 by omega,show(2*d+f)%2=f%2 by omega,show(2*e+g)/2=e+g/2 by omega,show(2*e+g)%2=g%2 by omega]
end
def eqB(a b:Fr):Bool:=decide (a.W=b.W)&&decide (a.H=b.H)&&decide (a.Y=b.Y)&&decide (a.U=b.U)&&decide (a.V=b.V)
def U7(a):eqB a a=aB:=by simp[eqB]
def Qj{h i:Nat->Prop}(e f:aq)(c d:Fr)(g:T)(a:dF h g e c)(b:dF i g f d):
  aT aE 17 #[e,f] g fun l n=>l=aK (ao (eqB c d))/\bj g.heap.size g n:=by
 obtain⟨l,n,o,p,q,r,s,t,u,rfl,v,w,x⟩:=a;obtain⟨a,y,z,H,U,V,W,Y,a0,rfl,a1,a2,a3⟩:=b;obtain⟨b,a4,a5,a6,a7⟩:=c;obtain⟨c,a8,a9,aa,ab⟩:=d;dsimp only at*;go_enter func17,ntmps17;go_wp2_with (go_at_call 52;refine(Gz (p:=h) (p':=i) _ _ _ _ _ _ _ _ _ (by(repeat with_reducible apply du.alloc);assumption) (by(repeat with_reducible apply du.alloc);assumption)).mono ?_;rintro a b ⟨rfl,rfl⟩)
 all_goals
  go_ret;refine⟨gB ?_,((aM _ _).alloc dS _).alloc dS _⟩;simp[eqB, *]
def vI:Fr:=⟨0,0,[],[],[]⟩
def Qe{i l a b c d e f}(g:bQ ⟨i,l,a,b,c⟩=aB)(h:bQ ⟨i,l,d,e,f⟩=aB):
  a.length<=d.length/\b.length<=e.length/\c.length<=f.length/\a.length<=100000/\b.length<=100000/\c.length<=100000/\2<=i/\2<=l:=by
 simp only[bQ,bT,decide_eq_true_eq] at g h;obtain⟨⟨⟨a,b⟩,c⟩,d⟩:=g;obtain⟨⟨⟨_,b⟩,c⟩,d⟩:=h;obtain⟨b,c,d,e,f,g⟩:=jI a;have a:=nm (x:=i) (y:=l) (m:=64) O c O f;have a:=nm (x:=i/2) (y:=l/2) (m:=64) O O O O;omega
def wM(a b:Int):Bool:=decide (-63<=a/\a<=63/\-63<=b/\b<=63)
def wH(a b:Int)(c:T):
  aT aE 272 #[aG #[J E a,J E b]] c fun d e=>d=aK (ao (wM a b))/\bj c.heap.size c e:=by
 go_enter func272,ntmps272;go_wp2
 all_goals
  go_ret;refine⟨gB ?_,(aM _ _).alloc (aw _) _⟩;rw[iF];simp[wM];omega
def pt(a:Fr)(b c d e f:Int):Fr:=
 ⟨16,d,qC a.Y a.W a.H b c 16 d.toNat e f,qC a.U (a.W/2) (a.H/2) (b/2) (c/2) 8 (d.toNat/2) (e.tdiv 2) (f.tdiv 2),qC a.V (a.W/2) (a.H/2) (b/2) (c/2) 8 (d.toNat/2) (e.tdiv 2) (f.tdiv 2)⟩
def Ae{c}(a:-63<=c)(b:c<=63):-63<=c.tdiv 2/\c.tdiv 2<=63:=by
 rcases Int.le_total 0 c with a|a
 ·rw[bB a];omega
 ·obtain⟨a,rfl⟩:∃b,c=-b:=⟨-c,by omega⟩
  rw[Int.neg_tdiv,bB O];omega
def uE{a b c d e}(f:bQ ⟨a,b,c,d,e⟩=aB):
  2<=a/\a<=64/\a%2=0/\2<=b/\b<=64/\b%2=0/\(c.length:Int)=a*b/\(d.length:Int)=a/2*(b/2)/\(e.length:Int)=a/2*(b/2):=by
 simp only[bQ,bT,decide_eq_true_eq] at f;obtain⟨⟨⟨a,b⟩,c⟩,d⟩:=f;obtain⟨e,f,g,h,i,l⟩:=jI a;exact⟨e,f,g,h,i,l,b,c,d⟩
def Rq(d:T)(e:Nat)(a:aq)(b c:Int)(f g h:List Int):Prop:=
 ∃i l n:Nat,a=aG #[J E b,J E c,af (M ⟨i,0,S⟩) f.length f.length,af (M ⟨l,0,S⟩) g.length g.length,af (M ⟨n,0,S⟩) h.length h.length]/\
  Bk d 5 i f/\Bk d 5 l g/\Bk d 5 n h/\e<=i/\e<=l/\e<=n/\i≠l/\i≠n/\l≠n
def Qk(e f:Int)(c:0<=e)(a:e<=64)(d:0<=f)(b:f<=64)(g:T):
  aT aE 72 #[J E e,J E f] g fun h i=>
    ∃l,h=aK l/\Rq i g.heap.size l e f (aF (e*f).toNat 0) (aF (e/2*(f/2)).toNat 0) (aF (e/2*(f/2)).toNat 0)/\bj g.heap.size g i:=by
 have h:=nm (x:=e) (y:=f) (m:=64) c a d b;have a:=nm (x:=e/2) (y:=f/2) (m:=64) O O O O;have b:=DJ (P:=aE) (t:=54) dw iY (e*f) (e*f) h.1 (qZ _) O;have h:=DJ (P:=aE) (t:=54) dw iY (e/2*(f/2)) (e/2*(f/2)) a.1 (qZ _) O;have a:E.wrap (e*f)=e*f:=an _ O;have i:E.wrap (e/2)=e/2:=an _ O;have l:E.wrap (f/2)=f/2:=an _ O;have n:E.wrap (e/2*(f/2))=e/2*(f/2):=an _ O;have o:e.tdiv 2=e/2:=bB c;have c:f.tdiv 2=f/2:=bB d;go_enter func72,ntmps72;go_wp2
 go_region
 all_goals clear a i l n o c b h
 all_goals go_wp2
 all_goals
  (first
   |(refine dY (v:=aG #[J E e,J E f,af (M ⟨g.heap.size+1,0,S⟩) (e*f).toNat (e*f).toNat,af (M ⟨g.heap.size+1+1,0,S⟩) (e/2*(f/2)).toNat (e/2*(f/2)).toNat,af (M ⟨g.heap.size+1+1+1,0,S⟩) (e/2*(f/2)).toNat (e/2*(f/2)).toNat]) ?_ rfl ?_
     ·((simp only[Ih,yI]);go_simp;done)
     refine⟨_,rfl,⟨g.heap.size+1,g.heap.size+1+1,g.heap.size+1+1+1,by simp,?_,?_,?_,by omega,by omega,by omega,by omega,by omega,by omega⟩,?_⟩)
   |(refine dY (v:=aG #[J E e,J E f,af (M ⟨g.heap.size+1,0,S⟩) (e*f).toNat (e*f).toNat,af (M ⟨g.heap.size+1+1+1,0,S⟩) (e/2*(f/2)).toNat (e/2*(f/2)).toNat,af (M ⟨g.heap.size+1+1,0,S⟩) (e/2*(f/2)).toNat (e/2*(f/2)).toNat]) ?_ rfl ?_
     ·((simp only[Ih,yI]);go_simp;done)
     refine⟨_,rfl,⟨g.heap.size+1,g.heap.size+1+1+1,g.heap.size+1+1,by simp,?_,?_,?_,by omega,by omega,by omega,by omega,by omega,by omega⟩,?_⟩)
   |(refine dY (v:=aG #[J E e,J E f,af (M ⟨g.heap.size+1+1,0,S⟩) (e*f).toNat (e*f).toNat,af (M ⟨g.heap.size+1,0,S⟩) (e/2*(f/2)).toNat (e/2*(f/2)).toNat,af (M ⟨g.heap.size+1+1+1,0,S⟩) (e/2*(f/2)).toNat (e/2*(f/2)).toNat]) ?_ rfl ?_
     ·((simp only[Ih,yI]);go_simp;done)
     refine⟨_,rfl,⟨g.heap.size+1+1,g.heap.size+1,g.heap.size+1+1+1,by simp,?_,?_,?_,by omega,by omega,by omega,by omega,by omega,by omega⟩,?_⟩)
   |(refine dY (v:=aG #[J E e,J E f,af (M ⟨g.heap.size+1+1,0,S⟩) (e*f).toNat (e*f).toNat,af (M ⟨g.heap.size+1+1+1,0,S⟩) (e/2*(f/2)).toNat (e/2*(f/2)).toNat,af (M ⟨g.heap.size+1,0,S⟩) (e/2*(f/2)).toNat (e/2*(f/2)).toNat]) ?_ rfl ?_
     ·((simp only[Ih,yI]);go_simp;done)
     refine⟨_,rfl,⟨g.heap.size+1+1,g.heap.size+1+1+1,g.heap.size+1,by simp,?_,?_,?_,by omega,by omega,by omega,by omega,by omega,by omega⟩,?_⟩)
   |(refine dY (v:=aG #[J E e,J E f,af (M ⟨g.heap.size+1+1+1,0,S⟩) (e*f).toNat (e*f).toNat,af (M ⟨g.heap.size+1,0,S⟩) (e/2*(f/2)).toNat (e/2*(f/2)).toNat,af (M ⟨g.heap.size+1+1,0,S⟩) (e/2*(f/2)).toNat (e/2*(f/2)).toNat]) ?_ rfl ?_
     ·((simp only[Ih,yI]);go_simp;done)
     refine⟨_,rfl,⟨g.heap.size+1+1+1,g.heap.size+1,g.heap.size+1+1,by simp,?_,?_,?_,by omega,by omega,by omega,by omega,by omega,by omega⟩,?_⟩)
   |(refine dY (v:=aG #[J E e,J E f,af (M ⟨g.heap.size+1+1+1,0,S⟩) (e*f).toNat (e*f).toNat,af (M ⟨g.heap.size+1+1,0,S⟩) (e/2*(f/2)).toNat (e/2*(f/2)).toNat,af (M ⟨g.heap.size+1,0,S⟩) (e/2*(f/2)).toNat (e/2*(f/2)).toNat]) ?_ rfl ?_
     ·((simp only[Ih,yI]);go_simp;done)
     refine⟨_,rfl,⟨g.heap.size+1+1+1,g.heap.size+1+1,g.heap.size+1,by simp,?_,?_,?_,by omega,by omega,by omega,by omega,by omega,by omega⟩,?_⟩))
 all_goals
  (first
   |(refine Bk.drew (Bk.G6 _ _ _ _ ?_);simp;done)
   |(refine Bk.drew ((Bk.G6 _ _ _ _ ?_).alloc _);simp;done)
   |(refine Bk.drew (((Bk.G6 _ _ _ _ ?_).alloc _).alloc _);simp;done)
   |exact(((((aM _ _).alloc dS _).alloc dS _).alloc eB _).alloc eB _).drew)
def SI(a b c d e:Int)(f:0<=a)(g:a<=64)(h:0<=b)(i:b<=64)(l:T):
  aT aE 30 #[J E a,J E b,J .u8 c,J .u8 d,J .u8 e] l fun n o=>
   ∃p,n=aK p/\Rq o l.heap.size p a b (aF (a*b).toNat c) (aF (a/2*(b/2)).toNat d) (aF (a/2*(b/2)).toNat e)/\bj l.heap.size l o:=by
 go_enter func30,ntmps30;go_wp2_with fail;refine(Qk a b f g h i _).mono ?_;rintro n o ⟨p,rfl,⟨q,r,s,rfl,t,u,v,w,x,y,z,H,U⟩,V⟩;have W:=nm (x:=a) (y:=b) (m:=64) f g h i;have Y:=nm (x:=a/2) (y:=b/2) (m:=64) O O O O;simp only[bp];simp at w x y;generalize a0:(a*b).toNat=a1 at*
 generalize a2:(a/2*(b/2)).toNat=a3 at*
 have a4:a1<=4096:=O;have a5:a3<=4096:=O;obtain⟨a6,a7⟩:=aQ a0 a2;clear W Y a0 a2;have W:Bx o l.heap.size 63 #[J E 0,J E 0,af S 0 0,af S 0 0,af S 0 0]:=(Bx.new l _ _).ext V;have Y:bj l.heap.size l o:=((aM _ l).alloc dS _).trans (V.mono dS);have a0:=t.lt;have a2:=u.lt;have a8:=v.lt;have a9:=W.lt;go_wp2_with fail
 go_loopw [12] (fun aa wr=>∃(ab:Nat)(ac:List Int),ab<=a1/\aa=J E ab/\bj l.heap.size l wr/\Bx wr o.heap.size 63 #[J E a,J E b,af (M ⟨q,0,S⟩) a1 a1,af (M ⟨r,0,S⟩) a3 a3,af (M ⟨s,0,S⟩) a3 a3]/\
   Bx wr l.heap.size 63 #[J E 0,J E 0,af S 0 0,af S 0 0,af S 0 0]/\Bk wr 5 q ac/\ac.length=a1/\(∀ad,ad<ab->ac[ad]?=(aF a1 c)[ad]?)/\Bk wr 5 r (aF a3 0)/\Bk wr 5 s (aF a3 0)) (fun aa _=>a1-(intOf aa).toNat)
 case atStart=>exact⟨0,_,qo _,rfl,Y.alloc Y.size _,Bx.new _ _ _,W.alloc _,t.alloc _,by simp,fun aa ab=>absurd ab O,u.alloc _,v.alloc _⟩
 case round=>
  obtain⟨aa,ab,ac,rfl,ad,ae,ag,ah,ai,aj,al,am⟩:=hrel;obtain⟨ap,ar,ax,ay,aV⟩:=ae.dz
  by_cases b0:aa<a1
  ·obtain⟨b1,b2,b3⟩:=ah.gZ (i:=aa) O
   have b4:=ah.frozen aa;obtain⟨b5,b6⟩:=aQ ai b2;clear ai b2;go_wp2
   go_roundw
   case rel=>
    refine⟨aa+1,_,by omega,by go_num,ad.setCell eB _,ae.C eB _,ag.C eB _,ah.L aa _,by rw[ee];exact b5.o,fun b2 b7=>?_,al.C (xW z) _,am.C (xW H) _⟩;exact vR b5.o b0 aj (by simp[b0]) b7
   case measure=>simp[intOf];omega
  ·obtain rfl:aa=a1:=O
   obtain rfl:ab=aF aa c:=rC ai dS aj;clear aj ai b0 ac;obtain⟨ac,rfl⟩:∃ai:T,ai=wr:=⟨_,rfl⟩;go_wp2;clear ap ar ax ay aV
   go_loopw [13] (fun ai wr=>∃(aj:Nat)(ap ar:List Int),aj<=a3/\ai=J E aj/\bj l.heap.size l wr/\Bx wr o.heap.size 63 #[J E a,J E b,af (M ⟨q,0,S⟩) aa aa,af (M ⟨r,0,S⟩) a3 a3,af (M ⟨s,0,S⟩) a3 a3]/\
    Bx wr l.heap.size 63 #[J E 0,J E 0,af S 0 0,af S 0 0,af S 0 0]/\Bk wr 5 q (aF aa c)/\Bk wr 5 r ap/\ap.length=a3/\(∀ax,ax<aj->ap[ax]?=(aF a3 d)[ax]?)/\Bk wr 5 s ar/\ar.length=a3/\(∀ay,ay<aj->ar[ay]?=(aF a3 e)[ay]?)) (fun ai _=>a3-(intOf ai).toNat)
   case atStart=>exact⟨0,_,_,qo _,rfl,ad,ae,ag,ah,al,by simp,fun ai aj=>absurd aj O,am,by simp,fun ap ar=>absurd ar O⟩
   case round=>
    clear ad ae ag ah al am;obtain⟨ad,ae,ag,ah,rfl,ai,aj,al,am,ap,ar,ax,ay,aV,b0⟩:=hrel;obtain⟨b1,b2,b3,b4,b5⟩:=aj.dz
    by_cases b6:ad<a3
    ·obtain⟨b7,b8,b9⟩:=ap.gZ (i:=ad) O
     obtain⟨ba,bb,bc⟩:=ay.gZ (i:=ad) O;have bd:=ap.frozen ad;have be:=ay.frozen ad;obtain⟨bf,bi⟩:=aQ ar aV;have bk:(0:Int)<=(ad:Int):=O;have bl:(ad:Int)<(a3:Int):=O;clear ar aV b8 bb;go_wp2
     go_region
     go_wp2
     go_roundw
     case rel=>
      refine⟨ad+1,ae.set ad d,ag.set ad e,by omega,by go_num,((ai.setCell eB _).setCell eB _).drew,((aj.C eB _).C eB _).drew,((al.C eB _).C eB _).drew,
       ((am.C z _).C H _).drew,((ap.L ad _).C U _).drew,by rw[ee];exact bf.o,fun b8 bb=>vR bf.o b6 ax (by simp[b6]) bb,((ay.C (xW U) _).L ad _).drew,by rw[ee];exact bi.o,fun bn br=>vR bi.o b6 b0 (by simp[b6]) br⟩
     case measure=>simp[intOf];omega
    ·obtain rfl:ad=a3:=O
     obtain rfl:ae=aF ad d:=rC ar dS ax;obtain rfl:ag=aF ad e:=rC aV dS b0;have b7:=al.frozen 0;have b8:=al.frozen 1;have b9:=al.frozen 2;have ba:=al.frozen 3;have bb:=al.frozen 4;obtain⟨bc,bd,be,bf,bi⟩:=al.dz;clear ar aV ax b0;go_wp2;refine dY (v:=aG #[J E a,J E b,af (M ⟨q,0,S⟩) aa aa,af (M ⟨r,0,S⟩) ad ad,af (M ⟨s,0,S⟩) ad ad]) (by simp only[Ih,results30];go_simp) rfl ⟨_,rfl,?_,?_⟩
     ·rw[a6.o,a7.o]
      refine⟨q,r,s,by simp,?_,?_,?_,by omega,by omega,by omega,z,H,U⟩
      ·repeat refine Bk.C ?_ eB _
       exact am
      ·repeat refine Bk.C ?_ eB _
       exact ap
      ·repeat refine Bk.C ?_ eB _
       exact ay
     ·repeat refine iu ?_ dS _
      exact ai
def Rq.Ail{b c a d e f g h i}(l:Rq c a d e f g h i)(n:∀r,a<=r->b r)
  (o:∀r∈g,0<=r/\r<=255)(p:∀s∈h,0<=s/\s<=255)(q:∀t∈i,0<=t/\t<=255):dF b c d ⟨e,f,g,h,i⟩:=by
 obtain⟨a,b,c,rfl,d,e,f,g,h,i,_⟩:=l;exact⟨_,_,_,_,_,_,_,_,_,rfl,d.zA (n _ g) o,e.zA (n _ h) p,f.zA (n _ i) q⟩
def IQ{a}{b:Int}(c:0<=b/\b<=255):∀d∈aF a b,0<=d/\d<=255:=by
 intro a b;obtain rfl:=List.eq_of_mem_replicate b;exact c
def jJ(a b:Int)(c d e:Int):Fr:=⟨a,b,aF (a*b).toNat c,aF (a/2*(b/2)).toNat d,aF (a/2*(b/2)).toNat e⟩
def jl(a:Fr):Bool:=bQ a&&decide (a.W%16=0)&&decide (a.H%16=0)
def om{p:Nat->Prop}(a:aq)(c:Fr)(d:T)(b:dF p d a c):
  aT aE 243 #[a] d fun e f=>e=aK (ao (jl c))/\bj d.heap.size d f:=by
 have a:=b;obtain⟨e,f,g,h,i,l,n,o,q,rfl,r,s,t⟩:=b;clear r s t
 by_cases b:bQ c=aB
 ·have e:2<=c.W/\c.W<=64/\2<=c.H/\c.H<=64:=by
   simp only[bQ,bT] at b;have:=jI b.1.1.1;omega
  go_enter func243,ntmps243;go_wp2_with fail;refine(dB (p:=p) _ c _ (by(repeat with_reducible apply dF.alloc);exact a)).mono ?_;rintro e f ⟨rfl,g⟩;obtain⟨e,h⟩:=gU g;have i:=g.size
  try simp at i
  try simp at e
  try simp at h
  have e:d.heap.size<f.heap.size:=O;go_wp2_with fail
  all_goals
   go_ret;refine⟨gB ?_,((aM _ d).alloc dS _).trans (g.mono dS)⟩;rw[iF];simp[jl, *]
 ·have e:bQ c=av:=by simpa using b
  go_enter func243,ntmps243;go_wp2_with fail;refine(dB (p:=p) _ c _ (by(repeat with_reducible apply dF.alloc);exact a)).mono ?_;rintro a b ⟨rfl,c⟩;go_wp2_with fail;go_ret;exact⟨gB (by simp[jl,e]),((aM _ d).alloc dS _).trans (c.mono dS)⟩
def LA(a:List Int)(b c d e:Nat):Int:=a.getD (b+e/d*c+e%d) 0
def mT(a:List Int)(b c d e:Nat):List Int:=(dI (e*d)).map (LA a b c d)
def q9(a b c d e):(mT a b c d e).length=e*d:=by simp[mT]
def P0{a b c d e f}(g:f<e*d):(mT a b c d e)[f]?=M (LA a b c d f):=by simp[mT,g]
def TU{a:List Int}(c:∀d∈a,0<=d/\d<=255)(b):0<=a.getD b 0/\a.getD b 0<=255:=by
 rw[jS];rcases hv:a[b]? with _|d
 ·simp
 ·exact c d (bg hv)
def Uj{a}(f:∀g∈a,0<=g/\g<=255)(b c d e):∀h∈mT a b c d e,0<=h/\h<=255:=by
 intro a b;obtain⟨a,_,rfl⟩:=iy.1 b;exact TU f _
def QQ{a b c d e f}(g:f<d):LA a b c d (e*d+f)=a.getD (b+e*c+f) 0:=by
 unfold LA;have a:(e*d+f)%d=f:=by rw[dh,Afp];exact RJ g
 have b:(e*d+f)/d=e:=by rw[dh,Afq O,YV g,Ck]
 rw[a,b]
def Yg{f d g h l e n}(a:n<e)(b:d.length=e*l)(c:g+n*h+l<=f.length)(i:∀o,o<n*l->d[o]?=(mT f g h l e)[o]?):
  ∀o,o<(n+1)*l->(CH d (n*l) ((f.drop (g+n*h)).take l))[o]?=(mT f g h l e)[o]?:=by
 intro a b;have b:(n+1)*l=n*l+l:=by rw[kW]
 have b:(n+1)*l<=e*l:=fH _ O;have b:((f.drop (g+n*h)).take l).length=l:=by simp;omega
 rw[uq (iJ b)]
 by_cases c:a<n*l
 ·rw[if_pos c];exact i a c
 ·rw[if_neg c,if_pos (iJ b),P0 O,gH,if_pos O,iZ]
  have b:a=n*l+(a-n*l):=O
  conv=>rhs;rw[b,QQ O]
  rw[jS,aA O];rfl
def Rm(a:T)(b:List Int)(c:Ending)(d:T):Prop:=
 ∃e f g,c=aK (af e f g)/\f<=g/\du (a.heap.size<=·) d e f b/\bj a.heap.size a d
def eH(a:aq):Prop:=∃b c d e f g h i l n o,a=aG #[b,c,af d e f,af g h i,af l n o]/\e<=f/\h<=i/\n<=o
def eH.o{a b:aq}{c d e:Option Addr}{f g h i l n:Nat}(o:eH (aG #[a,b,af c f g,af d h i,af e l n])):f<=g/\h<=i/\l<=n:=by
 obtain⟨_,_,_,_,_,_,_,_,_,_,_,a,b,c,d⟩:=o;simp only[Value.agg.injEq,Array.mk.injEq,List.cons.injEq,Value.slice.injEq,and_true] at a;omega
def eH.mk{a b c d e f g h i l n}(o:f<=g)(p:h<=i)(q:l<=n):eH (aG #[a,b,af c f g,af d h i,af e l n]):=
 ⟨_,_,_,_,_,_,_,_,_,_,_,rfl,o,p,q⟩
def nk(a:T)(b:Fr×Int)(c:Ending)(d:T):Prop:=
 ∃e,c=aK (fE #[e,J E b.2])/\eH e/\dF (a.heap.size<=·) d e b.1/\bj a.heap.size a d
def uz{a b c}{B:Nat}(d:bj b.heap.size b c)(e:a=aK (fE #[aG #[J E 0,J E 0,af S 0 0,af S 0 0,af S 0 0],J E B])):nk b (vI,(B:Int)) a c:=
 ⟨_,e,eH.mk (aw _) (aw _) (aw _),⟨_,_,_,_,_,_,_,_,_,rfl,du.nil,du.nil,du.nil⟩,d⟩
def qV{p:Nat->Prop}(b:Option Addr)(c d e f g h:Nat)(i:List Int)(l:T)(n:du p l b c i)(o:c<=d)(q:0<g)(r:g<=64)(s:h<=64)(t:e<=100000)(u:f<=1000)
  (a:∀v,v<h->e+v*f+g<=c):
  aT aE 173 #[af b c d,aG #[J E e,J E f,J E g,J E h]] l (Rm l (mT i e f g h)):=by
 obtain⟨v,w⟩:=aX (h*g);have x:v<=4096:=by rw[w];exact aY (fo s r) O
 have y:(g:Int)*(h:Int)=(v:Int):=by rw[w,cm,uT]
 have z:=pS (P:=aE) (t:=54) dw iY v v (aw _) O;have H:=aH w;clear w;have w:=aH a;clear a;go_enter func173,ntmps173;go_wp2;clear z y;have a:Bx ((l.alloc (az #[J E e,J E f,J E g,J E h] 288)).alloc (r5 5 v)) l.heap.size 288 #[J E e,J E f,J E g,J E h]:=(Bx.new l _ _).alloc _;have y:=Bk.G6 (l.alloc (az #[J E e,J E f,J E g,J E h] 288)) 5 v (l.heap.size+1) dS;have z:bj l.heap.size l ((l.alloc (az #[J E e,J E f,J E g,J E h] 288)).alloc (r5 5 v)):=((aM _ l).alloc dS _).alloc dS _;generalize U:(l.alloc (az #[J E e,J E f,J E g,J E h] 288)).alloc (r5 5 v)=V at*
 clear U
 go_loopw [15] (fun U wr=>∃(W:Nat)(Y:List Int),W<=h/\U=J E W/\bj l.heap.size l wr/\Bx wr l.heap.size 288 #[J E e,J E f,J E g,J E h]/\Bk wr 5 (l.heap.size+1) Y/\Y.length=v/\∀a0,a0<W*g->Y[a0]?=(mT i e f g h)[a0]?) (fun a1 _=>h-(intOf a1).toNat)
 case atStart=>exact⟨0,_,qo _,rfl,z,a,y,by simp,fun U W=>absurd W O⟩
 case round=>
  clear a y z;obtain⟨a,y,z,rfl,U,W,Y,a0,a1⟩:=hrel;have a2:=aH a0;clear a0;have a0:=W.lt;have a3:=W.cell 0 rfl;have a4:=W.cell 1 rfl;have a5:=W.cell 2 rfl
  by_cases a6:a<h
  ·have a7:=w.o a a6
   obtain⟨a8,a9⟩:=aX (a*g);obtain⟨aa,ab⟩:=aX ((a+1)*g);obtain⟨ac,ad⟩:=aX (a*f);obtain⟨ae,ag⟩:=aX (e+ac);have ah:aa=a8+g:=by rw[ab,a9,kW]
   have ai:aa<=v:=by rw[ab,H.o];exact fH _ O
   have aj:ac<=64*1000:=by rw[ad];exact fo O u
   have al:ae+g<=c:=by rw[ag,ad];exact a7
   have am:E.wrap ((a:Int)*(g:Int))=(a8:Int):=by rw[<-cm,<-a9];exact an _ O
   have ap:E.wrap ((a:Int)+1)=(a:Int)+1:=an _ O;have ar:E.wrap (((a:Int)+1)*(g:Int))=(aa:Int):=by rw[show((a:Int)+1)*(g:Int)=((aa:Nat):Int) by rw[ab,cm];rfl];exact an _ O
   have ax:E.wrap ((a:Int)*(f:Int))=(ac:Int):=by rw[<-cm,<-ad];exact an _ O
   have ay:E.wrap ((e:Int)+(ac:Int))=(ae:Int):=by rw[show((e:Int)+(ac:Int))=((ae:Nat):Int) by omega];exact an _ O
   obtain⟨aV,b0⟩:=aQ a9 ab;have b1:=aH ad;obtain⟨b2,b3⟩:=aQ ag ah;have b4:a8<aa:=O;have b5:(0:Int)<=(a8:Int):=O;have b6:(a8:Int)<=(aa:Int):=O;have b7:(aa:Int)<=(v:Int):=O;have b8:(0:Int)<=(ae:Int):=O;have b9:(ae:Int)<=(c:Int):=O;have ba:(c:Int)<=(d:Int):=O;have bb:aa-a8=g:=O;have bc:=aH bb;clear a9 ab ad ag ah a7 bb;obtain⟨a7,a9,rfl,_,ab,_⟩:=n.addr O;have ad:=((n.ext U).sub (k:=ae) (m:=c-ae) O).drew;rw[kN (by simp[n.len])] at ad;go_wp2
   go_region_held3 (fun ag=>ag.cell? ⟨l.heap.size,0,S⟩=M (J E e)/\ag.cell? ⟨l.heap.size,1,S⟩=M (J E f)/\ag.cell? ⟨l.heap.size,2,S⟩=M (J E g))
    (first|go_keep|(go_split_ands;refine⟨?_,?_,?_⟩<;> (rw[hg2.cell_far _ eB dS];assumption)))
    (first|(refine yW (p:=p) _ (by rfl) _ _ _ (by rfl) _ dw iY _ _ _ _ _ _ (by rfl) (by rfl) (l.heap.size+1) a8 _ Y.drew (i.drop ae) (du.cast ad (by first|rfl|(simp;omega)) (by first|rfl|(simp;done))) (fun _=>(by first|rfl|(simp;omega))) (by rw[a2.o];first|omega|(simp;omega)) ?_;intro ag kb2 hg2))
   clear am ap ar ax ay;go_wp2
   go_roundw
   case rel=>
    rw[bc.o,aV.o,b2.o,b1.o] at kb2;refine⟨a+1,_,by omega,by go_num,U.drew.grown hg2 (jP U.size) (fun ag ah=>by cases ah;omega),W.drew.grown hg2 dS,kb2,?_,Yg a6 (by rw[a2.o,H.o]) (by have:=w.o a a6;rw[n.len];exact this) a1⟩;rw[Ag (by simp only[dE,jO,n.len];have ag:=b3.o;have ah:=aV.o;have am:=a2.o;omega)];exact a2.o
   case measure=>simp[intOf];omega
  ·obtain rfl:a=h:=O
   go_wp2;go_ret;refine⟨_,_,_,rfl,aw _,?_,U⟩;obtain rfl:y=mT i e f g a:=rC a2.o (by rw[q9,H.o]) (fun a7 a8=>a1 a7 (D8 H.o a8));have:=Y.zA (p:=(l.heap.size<=·)) O (Uj n.yH e f g a);rwa [a2.o] at this
def jX.Aij{a b c d e p}(h:jX a b c d e)(f:∀i,b<=i->p i)(g:∀l∈e,0<=l/\l<=255):∃n o,d=af n e.length o/\e.length<=o/\du p a n e.length e:=by
 obtain⟨a,b,rfl,c⟩:=h.ret f g;refine⟨a,b,rfl,?_,c⟩;rcases h.2 with⟨a,b⟩|⟨c,d,e,a,_,_,f,_⟩
 ·rw[b];exact qo _
 ·injection a with b c d
  omega
def pH(a:Fr)(b:Int):Prop:=bQ a=aB/\a.H%4=0/\(b=0\/b=1)
instance (f:Fr)(par:Int):Decidable (pH f par):=by unfold pH;infer_instance
def fw(a:Fr)(b:Nat):Fr:=
 ⟨a.W,a.H/2,mT a.Y (b*a.W.toNat) (2*a.W.toNat) a.W.toNat (a.H/2).toNat,mT a.U (b*(a.W/2).toNat) (2*(a.W/2).toNat) (a.W/2).toNat (a.H/4).toNat,mT a.V (b*(a.W/2).toNat) (2*(a.W/2).toNat) (a.W/2).toNat (a.H/4).toNat⟩
def pE(a:Fr)(b:Int):Fr×Int:=if pH a b then(fw a b.toNat,0) else(vI,1)
def Fs{a g h f b}(c:a<=g)(d:b=f*(2*g))(e:h<f):a+h*(2*g)+g<=b:=by
 have:(h+1)*(2*g)<=f*(2*g):=fH _ O;have a:(h+1)*(2*g)=h*(2*g)+2*g:=kW _ _;omega
def Lq{b c:Int}{d e f:List Int}(a:bQ ⟨b,c,d,e,f⟩=aB)(g:c%4=0):
  ∃h i:Nat,b=((2*h:Nat):Int)/\c=((4*i:Nat):Int)/\1<=h/\h<=32/\1<=i/\i<=16/\d.length=(2*i)*(2*(2*h))/\e.length=i*(2*h)/\f.length=i*(2*h):=by
 simp only[bQ,bT,decide_eq_true_eq] at a;obtain⟨⟨⟨h,i⟩,l⟩,n⟩:=a;obtain⟨a,o,p,q,r,s⟩:=jI h;refine⟨(b/2).toNat,(c/4).toNat,by omega,by omega,by omega,by omega,by omega,by omega,?_,?_,?_⟩
 ·obtain⟨t,rfl⟩:∃u:Nat,b=((2*u:Nat):Int):=⟨(b/2).toNat,by omega⟩
  obtain⟨u,rfl⟩:∃v:Nat,c=((4*v:Nat):Int):=⟨(c/4).toNat,by omega⟩;have v:(((2*t:Nat):Int)/2).toNat=t:=O;have w:(((4*u:Nat):Int)/4).toNat=u:=O;rw[v,w];rw[<-cm] at i;have x:d.length=2*t*(4*u):=by exact_mod_cast i
  rw[x,show 4*u=2*(2*u) by omega,dh (2*t),nB 2,dh 2,nB];congr 1;omega
 ·obtain⟨t,rfl⟩:∃u:Nat,b=((2*u:Nat):Int):=⟨(b/2).toNat,by omega⟩
  obtain⟨u,rfl⟩:∃v:Nat,c=((4*v:Nat):Int):=⟨(c/4).toNat,by omega⟩;have v:(((2*t:Nat):Int)/2)=t:=O;have w:(((4*u:Nat):Int)/4).toNat=u:=O;have x:(((4*u:Nat):Int)/2)=((2*u:Nat):Int):=O;rw[v,x,<-cm] at l;have y:e.length=t*(2*u):=by exact_mod_cast l
  rw[y,v,w];simp only[jn];rw[dh t,dh 2 u,nB]
 ·obtain⟨t,rfl⟩:∃u:Nat,b=((2*u:Nat):Int):=⟨(b/2).toNat,by omega⟩
  obtain⟨u,rfl⟩:∃v:Nat,c=((4*v:Nat):Int):=⟨(c/4).toNat,by omega⟩;have v:(((2*t:Nat):Int)/2)=t:=O;have w:(((4*u:Nat):Int)/4).toNat=u:=O;have x:(((4*u:Nat):Int)/2)=((2*u:Nat):Int):=O;rw[v,x,<-cm] at n;have y:f.length=t*(2*u):=by exact_mod_cast n
  rw[y,v,w];simp only[jn];rw[dh t,dh 2 u,nB]
def Nn{e f a b c d}:fw ⟨((2*e:Nat):Int),((4*f:Nat):Int),b,c,d⟩ a=
  ⟨((2*e:Nat):Int),((2*f:Nat):Int),mT b (a*(2*e)) (2*(2*e)) (2*e) (2*f),mT c (a*e) (2*e) e f,mT d (a*e) (2*e) e f⟩:=by
 unfold fw;have a:(((2*e:Nat):Int)/2).toNat=e:=O;have b:(((4*f:Nat):Int)/4).toNat=f:=O;have c:(((4*f:Nat):Int)/2)=((2*f:Nat):Int):=O;simp only[a,b,c,jn]
def fN(a b:List Int)(c d e:Nat):Nat->List Int
 |0=>a
 |f+1=>CH (fN a b c d e f) (c+f*d) ((b.drop (f*e)).take e)
def gX{m l a b wd}:∀(c:Nat),(∀d,d<c->a+d*b+wd<=m.length)->(fN m l a b wd c).length=m.length
 |0,_=>rfl
 |a+1,b=>by
  have c:=gX (l:=l) a (fun d e=>b d O);have d:=b a O;unfold fN;rw[Ag,c];rw[c];have:((l.drop (a*wd)).take wd).length<=wd:=by rw[dE];omega
  omega
def ri{a b fr st wd}(c:∀e∈a,0<=e/\e<=255)(d:∀f∈b,0<=f/\f<=255):∀(g:Nat),∀h∈fN a b fr st wd g,0<=h/\h<=255
 |0=>c
 |a+1=>by
  unfold fN;exact Wh (ri c d a) (fun b e=>d b (iw (jb e)))
def km{p:Nat->Prop}(e f g h i l n:Nat)(o:Option Addr)(q r:Nat)(s t:List Int)(u:T)(v:Bk u 5 e s)(a:s.length=f)(w:f<=g)(d:du p u o q t)(x:¬p e)(y:q<=r)(z:0<l)(H:l<=64)(U:n<=64)(V:h<=100000)(W:i<=1000)(Y:f<=100000)
  (b:q=n*l)(c:∀a0,a0<n->h+a0*i+l<=f):
  aT aE 165 #[af (M ⟨e,0,S⟩) f g,aG #[J E h,J E i,J E l,J E n],af o q r] u (fun a0 a1=>a0=aK (fE #[])/\Bk a1 5 e (fN s t h i l n)/\u.grownBy a1 (M e)):=by
 obtain⟨a0,a1,a2⟩:=bh b a c;have a3:q<=4096:=by rw[b];exact aY (fo U H) O
 clear b c a;have a:=v.lt;go_enter func165,ntmps165;go_wp2;have b:Bx (u.alloc (az #[J E h,J E i,J E l,J E n] 288)) u.heap.size 288 #[J E h,J E i,J E l,J E n]:=Bx.new u _ _;have c:=v.alloc (az #[J E h,J E i,J E l,J E n] 288);have a4:u.grownBy (u.alloc (az #[J E h,J E i,J E l,J E n] 288)) (M e):=World.grownBy_alloc u _ _;generalize a5:u.alloc (az #[J E h,J E i,J E l,J E n] 288)=a6 at*
 clear a5
 go_loopw [9] (fun a5 wr=>∃a7:Nat,a7<=n/\a5=J E a7/\u.grownBy wr (M e)/\Bx wr u.heap.size 288 #[J E h,J E i,J E l,J E n]/\Bk wr 5 e (fN s t h i l a7)) (fun a8 _=>n-(intOf a8).toNat)
 case atStart=>exact⟨0,qo _,rfl,a4,b,c⟩
 case round=>
  clear b c a4;obtain⟨b,c,rfl,a4,a5,a7⟩:=hrel;have a8:=a5.lt;have a9:=a5.cell 0 rfl;have aa:=a5.cell 1 rfl;have ab:=a5.cell 2 rfl
  by_cases ac:b<n
  ·have ad:=a2.o b ac
   obtain⟨ae,ag⟩:=aX (b*l);obtain⟨ah,ai⟩:=aX ((b+1)*l);obtain⟨aj,al⟩:=aX (b*i);obtain⟨am,ap⟩:=aX (h+aj);have ar:ah=ae+l:=by rw[ai,ag,kW]
   have ax:ah<=q:=by rw[ai,a0.o];exact fH _ O
   have ay:aj<=64*1000:=by rw[al];exact fo O W
   have aV:am+l<=f:=by rw[ap,al];exact ad
   have b0:(fN s t h i l b).length=f:=by rw[gX b (fun b1 b2=>by rw[a1.o];exact a2.o b1 O)];exact a1.o
   have b1:=aH b0;clear b0;have b0:E.wrap ((b:Int)*(l:Int))=(ae:Int):=by rw[<-cm,<-ag];exact an _ O
   have b2:E.wrap ((b:Int)+1)=(b:Int)+1:=an _ O;have b3:E.wrap (((b:Int)+1)*(l:Int))=(ah:Int):=by rw[show((b:Int)+1)*(l:Int)=((ah:Nat):Int) by rw[ai,cm];rfl];exact an _ O
   have b4:E.wrap ((b:Int)*(i:Int))=(aj:Int):=by rw[<-cm,<-al];exact an _ O
   have b5:E.wrap ((h:Int)+(aj:Int))=(am:Int):=by rw[show((h:Int)+(aj:Int))=((am:Nat):Int) by omega];exact an _ O
   obtain⟨b6,b7⟩:=aQ ag ai;have b8:=aH al;obtain⟨b9,ba⟩:=aQ ap ar;have bb:ae<ah:=O;have bc:(0:Int)<=(ae:Int):=O;have bd:(ae:Int)<=(ah:Int):=O;have be:(ah:Int)<=(r:Int):=O;have bf:(0:Int)<=(am:Int):=O;have bi:(am:Int)<=(f:Int):=O;have bk:(f:Int)<=(g:Int):=O;have bl:am<f:=O;have bn:ah-ae=l:=O;have br:=aH bn;clear ag ai al ap ar ad bn;have ad:=d.grown a4 (fun ag ai _ al=>by cases al;exact x ai);obtain⟨ag,ai,rfl,_,al,_⟩:=d.addr O;have d:=(ad.sub (k:=ae) (m:=ah-ae) O).drew;go_wp2
   go_region_held3 (fun ap=>ap.cell? ⟨u.heap.size,0,S⟩=M (J E h)/\ap.cell? ⟨u.heap.size,1,S⟩=M (J E i)/\ap.cell? ⟨u.heap.size,2,S⟩=M (J E l))
    (first|go_keep|(go_split_ands;refine⟨?_,?_,?_⟩<;> (rw[hg2.cell_far _ eB eB];assumption)))
    (first|(refine yW (p:=p) _ (by rfl) _ _ _ (by rfl) _ dw iY _ _ _ _ _ _ (by rfl) (by rfl) e am _ a7.drew ((t.drop ae).take (ah-ae)) (du.cast d (by first|rfl|(simp;done)|(simp;omega)) (by first|rfl|(simp;done)|(simp;omega))) (fun _=>(by first|rfl|(simp;done)|(simp;omega))) (by rw[b1.o];first|omega|(simp;omega)) ?_;intro ap kb2 hg2))
   clear b0 b2 b3 b4 b5;go_wp2
   go_roundw
   case rel=>
    refine⟨b+1,by omega,by go_num,a4.trans ?_,a5.drew.grown hg2 eB,?_⟩
    ·exact⟨hg2.os,hg2.tape,hg2.output,hg2.size,hg2.block⟩
    ·unfold fN
     rw[br.o,b6.o,b9.o,b8.o] at kb2;rw[kN (by rw[dE];have ap:=b9.o;have ar:=b8.o;rw[ar] at ap;omega)] at kb2;exact kb2
   case measure=>simp[intOf];omega
  ·obtain rfl:b=n:=O
   go_wp2;exact Great.bodyPost_end0 rfl rfl ⟨rfl,a7,a4⟩
def gW(a b:List Int)(c:Nat):Nat->List Int
 |0=>[]
 |d+1=>gW a b c d++(a.drop (d*c)).take c++(b.drop (d*c)).take c
def uj{a b c}(d:∀f∈a,0<=f/\f<=255)(e:∀g∈b,0<=g/\g<=255):∀(h:Nat),∀i∈gW a b c h,0<=i/\i<=255
 |0=>by intro a b;cases b
 |a+1=>by
  intro b c;simp only[gW,dG] at c;rcases c with(f|f)|f
  ·exact uj d e a b f
  ·exact d b (iw (jb f))
  ·exact e b (iw (jb f))
def nZ{a b e h}(c:a.length=h*e)(d:b.length=h*e):∀(f:Nat),f<=h->(gW a b e f).length=f*(2*e)
 |0,_=>by simp[gW]
 |a+1,b=>by
  have f:=nZ c d a O;have c:(a+1)*e<=h*e:=fH _ b;rw[kW] at c;simp only[gW,aJ,f,dE,jO,kW];omega
def sO{q r st j:Nat}(b:q<r)(a:j<st):q*st+j<r*st:=by
 have:(q+1)*st<=r*st:=fH _ b;rw[kW] at this;omega
def Aan{k a}(b:0<a):k=k/a*a+k%a/\k%a<a:=⟨by rw[dh];exact(Nat.div_add_mod k a).symm,rZ _ b⟩
def BI{m l fr st wd}(a:wd<=st):∀(b:Nat),(∀i,i<b->fr+i*st+wd<=m.length)->b*wd<=l.length->∀c d,c<b->d<wd->(fN m l fr st wd b)[fr+c*st+d]?=l[c*wd+d]?
 |0,_,_=>fun _ _ b _=>absurd b O
 |b+1,c,d=>by
  intro e f g h;have g:=c b O;rw[kW] at d;have d:=gX (l:=l) b (fun n o=>c n O);have n:((l.drop (b*wd)).take wd).length=wd:=by rw[dE,jO];omega
  unfold fN;rw[uq (by rw[d,n];exact g),n]
  by_cases d:e=b
  ·subst d
   rw[if_neg O,if_pos O,gH,if_pos O,iZ];congr 1;omega
  ·have d:=sO (q:=e) (r:=b) (st:=st) (j:=f) O O
   rw[if_pos O];exact BI a b (fun d g=>c d O) O e f O h
def EV{a l c d b}:∀(e:Nat),(∀i,i<e->c+i*d+b<=a.length)->e*b<=l.length->∀f,(∀g,g<e->f<c+g*d\/c+g*d+b<=f)->(fN a l c d b e)[f]?=a[f]?
 |0,_,_=>fun _ _=>rfl
 |a+1,e,f=>by
  intro g h;have n:=e a O;rw[kW] at f;have f:=gX (l:=l) a (fun o p=>e o O);have o:((l.drop (a*b)).take b).length=b:=by rw[dE,jO];omega
  have b:=EV (l:=l) a (fun p q=>e p O) O g (fun r s=>h r O);unfold fN;rw[uq (by rw[f,o];exact n),o]
  by_cases e:g<c+a*d
  ·rw[if_pos e];exact b
  ·rw[if_neg e,if_neg (dU (h a O))];exact b
def H9{c a d b}(e:c.length=b*d)(f:a.length=b*d):∀(g:Nat),g<=b->∀h i,h<g->i<2*d->(gW c a d g)[h*(2*d)+i]?=if i<d then c[h*d+i]? else a[h*d+(i-d)]?
 |0,_=>fun _ _ a _=>absurd a O
 |a+1,g=>by
  intro h i l n;have l:=nZ e f a O;have o:(a+1)*d<=b*d:=fH _ g;rw[kW] at o;have b:((c.drop (a*d)).take d).length=d:=by rw[dE,jO];omega
  unfold gW
  by_cases c:h=a
  ·subst c
   rw[aW,aU O,l];rw[show h*(2*d)+i-h*(2*d)=i by omega]
   by_cases c:i<d
   ·rw[if_pos c,bo O,gH,if_pos c,iZ]
   ·rw[if_neg c,aU O,b,gH,if_pos O,iZ]
  ·have b:=sO (q:=h) (r:=a) (st:=2*d) (j:=i) O n
   rw[aW,bo O];exact H9 e f a O h i O n
def U4{a b:List Int}{h st}(f:0<st)(c:a.length=h*st)(d:b.length=h*st)(e:∀g i,g<h->i<st->a[g*st+i]?=b[g*st+i]?):a=b:=by
 apply oB;intro a
 by_cases b:a<h*st
 ·obtain⟨c,d⟩:=Aan (k:=a) f
  rw[c];refine e _ _ ?_ d;rw[Nat.div_lt_iff_lt_mul f];exact b
 ·rw[de O,de O]
def wE{e f g h i}(a:0<h)(b:e.length=i*(2*h))(c:f.length=i*h)(d:g.length=i*h):fN (fN e f 0 (2*h) h i) g h (2*h) h i=gW f g h i:=by
 have a:∀b,b<i->0+b*(2*h)+h<=e.length:=fun l n=>by have:=sO (q:=l) (r:=i) (st:=2*h) (j:=h) n O;omega
 have b:=gX (l:=f) i a;have b:∀l,l<i->h+l*(2*h)+h<=(fN e f 0 (2*h) h i).length:=fun n o=>by have:=sO (q:=n) (r:=i) (st:=2*h) (j:=2*h-1) o O;omega
 have l:=gX (l:=g) i b;refine U4 (h:=i) (st:=2*h) O O (nZ c d i (aw _)) ?_;intro l n o p;rw[H9 c d i (aw _) l n o p]
 by_cases c:n<h
 ·rw[if_pos c,EV i b O,<-BI (m:=e) (l:=f) (fr:=0) (st:=2*h) (wd:=h) O i a O l n o c]
  ·congr 1;omega
  ·intro a _
   by_cases d:a=l
   ·subst d;omega
   ·by_cases d:a<l
    ·have:=sO (q:=a) (r:=l) (st:=2*h) (j:=2*h-1) d O;omega
    ·have:=sO (q:=l) (r:=a) (st:=2*h) (j:=n) O p;omega
 ·rw[if_neg c,<-BI (m:=fN e f 0 (2*h) h i) (l:=g) (fr:=h) (st:=2*h) (wd:=h) O i b O l (n-h) o O]
  congr 1;omega
def s9(a b:Fr):Fr:=
 ⟨a.W,2*a.H,gW a.Y b.Y a.W.toNat a.H.toNat,gW a.U b.U (a.W/2).toNat (a.H/2).toNat,gW a.V b.V (a.W/2).toNat (a.H/2).toNat⟩
def Jm{b c:Int}{d e f:List Int}(a:bQ ⟨b,c,d,e,f⟩=aB):
  ∃g h:Nat,b=((2*g:Nat):Int)/\c=((2*h:Nat):Int)/\1<=g/\g<=32/\1<=h/\h<=32/\d.length=(2*h)*(2*g)/\e.length=h*g/\f.length=h*g:=by
 simp only[bQ,bT,decide_eq_true_eq] at a;obtain⟨⟨⟨g,h⟩,i⟩,l⟩:=a;obtain⟨a,n,o,p,q,r⟩:=jI g;obtain⟨s,rfl⟩:∃t:Nat,b=((2*t:Nat):Int):=⟨(b/2).toNat,by omega⟩;obtain⟨t,rfl⟩:∃u:Nat,c=((2*u:Nat):Int):=⟨(c/2).toNat,by omega⟩;have u:(((2*s:Nat):Int)/2)=s:=O;have v:(((2*t:Nat):Int)/2)=t:=O;rw[u,v,<-cm] at i l;rw[<-cm] at h;refine⟨s,t,rfl,rfl,by omega,by omega,by omega,by omega,?_,?_,?_⟩
 ·rw[dh];exact_mod_cast h
 ·rw[dh];exact_mod_cast i
 ·rw[dh];exact_mod_cast l
def MA{a q b c d e}:s9 ⟨((2*a:Nat):Int),((2*q:Nat):Int),b,c,d⟩ e=⟨((2*a:Nat):Int),((4*q:Nat):Int),gW b e.Y (2*a) (2*q),gW c e.U a q,gW d e.V a q⟩:=by
 unfold s9;have b:(((2*a:Nat):Int)/2).toNat=a:=O;have c:(((2*q:Nat):Int)/2).toNat=q:=O;have d:2*((2*q:Nat):Int)=((4*q:Nat):Int):=O;simp only[b,c,d,jn]
def oP(a:Fr)(b c:Int):Bool:=jl a&&decide (0<=b)&&decide (b<a.W/16)&&decide (0<=c)&&decide (c<a.H/16)
def fromN(a b c d:Nat)(e:Bool):Nat:=
 if 4<=d then 8*c*(a/2)+8*b else if e then 16*c*a+16*b+d%2*8+d/2*a else 16*c*a+16*b+d%2*8+d/2*8*a
def stepN(a b:Nat)(c:Bool):Nat:=if 4<=b then a/2 else if c then 2*a else a
def zg(b c d e:Nat)(a:Bool)(f:Nat):Nat:=
 if 4<=e then(8*d+f/8)*(b/2)+8*c+f%8
 else if a then(16*d+(2*(f/8)+e/2))*b+16*c+8*(e%2)+f%8
 else(16*d+(8*(e/2)+f/8))*b+16*c+8*(e%2)+f%8
def EN(e a b d c f):fromN e a b d c+f/8*stepN e d c+f%8=zg e a b d c f:=by
 unfold fromN stepN zg
 by_cases a:4<=d
 ·rw[if_pos a,if_pos a,if_pos a,mj];omega
 ·rw[if_neg a,if_neg a,if_neg a]
  cases c
  ·rw[if_neg dD,if_neg dD,if_neg dD,mj,mj,dh (d/2) 8];omega
  ·rw[if_pos rfl,if_pos rfl,if_pos rfl,mj,mj,<-nB (f/8) 2 e,dh (f/8) 2];omega
def jq(a:Fr)(b:Nat):List Int:=if b=4 then a.U else if b=5 then a.V else a.Y
def kT(a:Fr)(b c d:Nat)(e:Bool):List Int:=mT (jq a d) (fromN a.W.toNat b c d e) (stepN a.W.toNat d e) 8 8
def rB(a b c d e):(kT a b c d e).length=64:=by unfold kT;rw[q9]
def QX{a b c d e f}(g:f<64):(kT a b c d e)[f]?=M ((jq a d).getD (zg a.W.toNat b c d e f) 0):=by
 unfold kT;rw[P0 O];unfold LA;rw[EN]
def vO{a:Fr}(b:jl a=aB):∃c d:Nat,a.W=((16*c:Nat):Int)/\a.H=((16*d:Nat):Int)/\1<=c/\c<=4/\1<=d/\d<=4/\a.Y.length=(16*d)*(16*c)/\a.U.length=(8*d)*(8*c)/\a.V.length=(8*d)*(8*c):=by
 obtain⟨c,d,e,f,g⟩:=a;simp only[jl,bT,decide_eq_true_eq] at b;obtain⟨⟨a,h⟩,i⟩:=b;obtain⟨b,l,rfl,rfl,n,o,p,q,r,s,t⟩:=Jm a;dsimp only at*;obtain⟨u,rfl⟩:∃v,b=8*v:=⟨b/8,by omega⟩;obtain⟨v,rfl⟩:∃w,l=8*w:=⟨l/8,by omega⟩;refine⟨u,v,by omega,by omega,by omega,by omega,by omega,by omega,?_,s,t⟩;rw[r,show 2*(8*v)=16*v by omega,show 2*(8*u)=16*u by omega]
def Le{a c d}(b:oP a c d=aB):jl a=aB/\∃e f:Nat,c=(e:Int)/\d=(f:Int)/\e<(a.W/16).toNat/\f<(a.H/16).toNat:=by
 simp only[oP,bT,decide_eq_true_eq] at b;obtain⟨⟨⟨⟨a,e⟩,f⟩,g⟩,h⟩:=b;exact⟨a,c.toNat,d.toNat,by omega,by omega,by omega,by omega⟩
def Fa{r R w c:Nat}(b:r<R)(a:c<w):r*w+c<R*w:=by
 have:(r+1)*w<=R*w:=fH _ b;rw[mj] at this;omega
def SR{l n o p q k fd f}(a:f.W=((16*l:Nat):Int))(b:o<l)(c:p<n)(d:q<=5)(e:k<64)
  (i:f.Y.length=(16*n)*(16*l))(g:f.U.length=(8*n)*(8*l))(h:f.V.length=(8*n)*(8*l)):zg f.W.toNat o p q fd k<(jq f q).length:=by
 have a:f.W.toNat=16*l:=O;rw[a];unfold zg jq
 by_cases a:4<=q
 ·rw[if_pos a]
  have b:(8*p+k/8)*(16*l/2)+8*o+k%8<(8*n)*(8*l):=by
   rw[show 16*l/2=8*l by omega,qX];exact Fa O O
  rcases(show q=4\/q=5 by omega) with rfl|rfl
  ·rw[if_pos rfl,g];exact b
  ·rw[if_neg O,if_pos rfl,h];exact b
 ·rw[if_neg a,if_neg (show¬q=4 by omega),if_neg (show¬q=5 by omega),i]
  cases fd
  ·rw[if_neg dD]
   have:=Fa (r:=16*p+(8*(q/2)+k/8)) (R:=16*n) (w:=16*l) (c:=16*o+8*(q%2)+k%8) O O;omega
  ·rw[if_pos rfl]
   have:=Fa (r:=16*p+(2*(k/8)+q/2)) (R:=16*n) (w:=16*l) (c:=16*o+8*(q%2)+k%8) O O;omega
def Cb{a b c d e fd f}(g:f.W=((16*a:Nat):Int))(h:c<a)(i:d<b)(l:e<=5)
  (n:f.Y.length=(16*b)*(16*a))(o:f.U.length=(8*b)*(8*a))(p:f.V.length=(8*b)*(8*a)):∀q,q<8->fromN f.W.toNat c d e fd+q*stepN f.W.toNat e fd+8<=(jq f e).length:=by
 intro a b;have b:=SR (fd:=fd) (k:=8*a+7) g h i l O n o p;rw[<-EN,show(8*a+7)/8=a by omega,show(8*a+7)%8=7 by omega] at b;omega
def OL{g a f n fd}(b:a<g)(c:g<=4)(d:f<4)(e:n<=5):fromN (16*g) a f n fd<=10000/\stepN (16*g) n fd<=128:=by
 have a:16*f*(16*g)<=48*64:=fo O O;have a:8*f*(16*g/2)<=24*32:=fo O O;have a:n/2*(16*g)<=2*64:=fo O O;have a:n/2*8*(16*g)<=16*64:=fo O O;unfold fromN stepN;constructor<;> (repeat' split)<;> omega
section
attribute [local go_sem ↓] wS
def Dj{b:Nat->Prop}(c d e f g h:Int)(i l:Nat)(n:Option Addr)(o p:Nat)(q:List Int)(r:T)(s:du b r n o q)(a:(o:Int)=e*f)
  (t:1<=e)(u:e<=64)(v:1<=f)(w:f<=64)(x:0<=c)(y:c<=64)(z:0<=d)(H:d<=64)(U:-63<=g)(V:g<=63)(W:-63<=h)(Y:h<=63)(a0:i<=16)(a1:l<=16):
  aT aE 273 #[af n o p,J E e,J E f,aG #[J E c,J E d,J E i,J E l],aG #[J E g,J E h]] r (Rm r (qC q e f c d i l g h)):=by
 have a2:=aH a;clear a;have a:(i:Int)*(l:Int)<=16*16:=(nm O O O O).2;have a3:0<=(i:Int)*(l:Int):=nA O O;have a4:=DJ (P:=aE) (t:=54) dw iY 0 ((i:Int)*(l:Int)) O a3 O;go_enter func273,ntmps273;go_upto_region 1 with fail
 go_cut [11,12] (fun a5 a6 a7=>∃a8 a9:Nat,a5=aD (M ⟨a8,0,S⟩)/\a6=aD (M ⟨a9,0,S⟩)/\Bx a7 r.heap.size 54 #[af n o p]/\Bx a7 (r.heap.size+1) 3 #[J E e]/\Bx a7 (r.heap.size+1+1) 3 #[J E f]/\
  Bx a7 (r.heap.size+1+1+1) 398 #[J E c,J E d,J E i,J E l]/\Bx a7 (r.heap.size+1+1+1+1) 272 #[J E g,J E h]/\Bx a7 a8 3 #[J E (g%2)]/\Bx a7 a9 3 #[J E (h%2)]/\bj r.heap.size r a7)
 case first=>
  go_region
  ·go_wp2_with fail
   go_meet;refine⟨r.heap.size+1+1+1+1+1,r.heap.size+1+1+1+1+1+1,rfl,rfl,?_,?_,?_,?_,?_,?_,?_,?_⟩
   all_goals
    (first
     |(refine Bx.drew ?_;(repeat(first|(refine Bx.D _ _ _ _ ?_;simp;done)|refine Bx.alloc ?_ _));done)
     |(refine rS ?_;(repeat(first|exact aM _ _|refine qk ?_ (by first|(simp;done)|(simp;omega)) _));done))
  ·go_wp2_with fail
   go_meet;refine⟨r.heap.size+1+1+1+1+1+1,r.heap.size+1+1+1+1+1,rfl,rfl,?_,?_,?_,?_,?_,?_,?_,?_⟩
   all_goals
    (first
     |(refine Bx.drew ?_;(repeat(first|(refine Bx.D _ _ _ _ ?_;simp;done)|refine Bx.alloc ?_ _));done)
     |(refine rS ?_;(repeat(first|exact aM _ _|refine qk ?_ (by first|(simp;done)|(simp;omega)) _));done))
 case rest=>
  obtain⟨a5,a6,rfl,rfl,a7,a8,a9,aa,ab,ac,ad,ae⟩:=hcut;have ag:=a7.cell 0 rfl;have ah:=a8.cell 0 rfl;have ai:=a9.cell 0 rfl;have aj:=aa.cell 0 rfl;have al:=aa.cell 1 rfl;have am:=aa.cell 2 rfl;have ap:=aa.cell 3 rfl;have ar:=ab.cell 0 rfl;have ax:=ab.cell 1 rfl;have ay:=ac.cell 0 rfl;have aV:=ad.cell 0 rfl;have b0:=a7.lt;have b1:=a8.lt;have b2:=a9.lt;have b3:=aa.lt;have b4:=ab.lt;have b5:=ac.lt;have b6:=ad.lt;go_wp2;clear a4 ag ah ai aj al am ap ar ax ay aV
  go_loopw [14,32] (fun a4 ag wr=>∃ah:Nat,ah<=l/\ag=J E ah/\bj wc.heap.size wc wr/\jX wr wc.heap.size 5 a4 ((dI (ah*i)).map (EH q e f c d i g h))) (fun _ ai _=>l-(intOf ai).toNat)
  case atStart=>exact⟨0,qo _,rfl,(aM _ _).alloc (aw _) _,by simpa using jX.made (aw _) O⟩
  case round=>
   obtain⟨a4,ag,rfl,ah,ai⟩:=hrel
   by_cases aj:a4<l
   ·have al:=(aa.ext ah).cell 2 rfl
    go_wp2;clear al;obtain⟨al,rfl⟩:∃am:T,am=wr:=⟨_,rfl⟩
    go_loopw [14,37] (fun am ap wr=>∃ar:Nat,ar<=i/\ap=J E ar/\bj wc.heap.size wc wr/\jX wr wc.heap.size 5 am ((dI (a4*i+ar)).map (EH q e f c d i g h))) (fun _ ax _=>i-(intOf ax).toNat)
    case atStart=>exact⟨0,qo _,rfl,ah,by simpa using ai⟩
    case round=>
      clear ah ai;obtain⟨am,ap,rfl,ar,ax⟩:=hrel
      by_cases ay:am<i
      ·have aV:wc.heap.size<=wr.heap.size:=ar.size
       have b7:du b wr n o q:=(s.ext ae).ext ar;have b8:a4*i<=256:=aY (fo (show a4<=16 by omega) a0) O;have b9:=Lg s.yH e f (2*(c+(am:Int))+g) (2*(d+(a4:Int))+h);have ba:=(a7.ext ar).cell 0 rfl;have bb:=(a8.ext ar).cell 0 rfl;have bc:=(a9.ext ar).cell 0 rfl;have bd:=(aa.ext ar).cell 0 rfl;have be:=(aa.ext ar).cell 1 rfl;have bf:=(ab.ext ar).cell 0 rfl;have bi:=(ab.ext ar).cell 1 rfl;have bk:=(ac.ext ar).cell 0 rfl;have bl:=(ad.ext ar).cell 0 rfl
       go_wp2_with (first
        |(go_at_call 288;((with_reducible refine(GJ _ _ e f (g%2) (h%2) _ _ _ _ _ _ _ _ q _ b7 a2.o t u v w O O O O O O O O bb bk bc bl ba).mono ?_);rintro bn br ⟨rfl,rfl⟩;rw[TS]))
        |(at_builtin;refine jw _ rfl _ _ _ rfl _ dw iY wc.heap.size _ _ rfl (ax.drew.drew.drew.alloc _) _ _ _ _ rfl (du.one _ _ _ b9.1 b9.2) eB eB ?_;intro bn br hown' hg bs))
       go_roundw
       case rel=>
        refine⟨am+1,by omega,by go_num,(ar.drew.drew.drew.alloc (jP aV) _).grown hg eB (fun bn br=>(ax.lt bn br).1),?_⟩;rw[<-qX,Qu,Qw ay];exact hown'
       case measure=>simp[intOf];omega
      ·obtain rfl:am=i:=O
       go_wp2
       go_roundw
       case rel=>exact⟨a4+1,by omega,by go_num,ar,by rw[kW];exact ax⟩
       case measure=>simp[intOf];omega
   ·obtain rfl:a4=l:=O
    go_wp2;go_ret;obtain⟨al,am,rfl,ap,ar⟩:=ai.Aij (p:=(r.heap.size<=·)) (fun _ ax=>by omega) (Qv s.yH e f c d i a4 g h);exact⟨_,_,_,rfl,ap,ar,ae.trans (ah.mono O)⟩
def jy{p}(e f g h i l a b:Int)(n o:Nat)(q r s t u)(v:du p u q r t)(c:a=n)(d:b=o)(w:(r:Int)=g*h)
  (x:1<=g)(y:g<=64)(z:1<=h)(H:h<=64)(U:0<=e)(V:e<=64)(W:0<=f)(Y:f<=64)(a0:-63<=i)(a1:i<=63)(a2:-63<=l)(a3:l<=63)(a4:n<=16)(a5:o<=16):
  aT aE 273 #[af q r s,J E g,J E h,aG #[J E e,J E f,J E a,J E b],aG #[J E i,J E l]] u (Rm u (qC t g h e f n o i l)):=by
 subst c d;exact Dj e f g h i l n o q r s t u v w x y z H U V W Y a0 a1 a2 a3 a4 a5
end
def yB(a:Fr)(b c d e:Int):Prop:=oP a b c=aB/\a.H%32=0/\(d=0\/d=1)/\(e=0\/e=1)
instance (f:Fr)(mx my a b:Int):Decidable (yB f mx my a b):=by unfold yB;infer_instance
def Lk(a:Fr)(b c d e f:Int):Fr:=pt (fw a f.toNat) (16*b) (8*c) 8 d e
def OQ(a:Fr)(b c d e f g h i:Int):Fr×Int:=
 if yB a b c h i then(if wM d e=aB then(if wM f g=aB then(s9 (Lk a b c d e h) (Lk a b c f g i),0) else(vI,2)) else(vI,2)) else(vI,1)
def OP{a b c d e f g h i}(l:yB a b c h i)(n:wM d e=aB)(o:wM f g=aB):OQ a b c d e f g h i=(s9 (Lk a b c d e h) (Lk a b c f g i),0):=by unfold OQ;rw[if_pos l,if_pos n,if_pos o]
def xI{a b c d e}(f:yB a b c d e):bQ a=aB/\a.H%4=0/\2<=a.W/\a.W<=64/\2<=a.H/\a.H<=64/\a.W%16=0/\0<=b/\b<a.W/16/\0<=c/\c<a.H/16/\a.H%32=0:=by
 obtain⟨a,b,_,_⟩:=f;simp only[oP,jl,bT,decide_eq_true_eq] at a;obtain⟨⟨⟨⟨⟨⟨c,d⟩,_⟩,e⟩,f⟩,g⟩,h⟩:=a;have a:=c;simp only[bQ,bT] at a;have:=jI a.1.1.1;exact⟨c,by omega,by omega,by omega,by omega,by omega,d,e,f,g,h,b⟩
def Lz(a b c d e):(mT a b c d e).length=e*d:=by simp[mT]
def Js{g a b c d}(f:yB g a b c d)(e):bQ (fw g e)=aB:=by
 obtain⟨_,_,a,b,c,d,e,_,_,_,_,h⟩:=xI f;unfold bQ fw ng;simp only[Lz,bT,decide_eq_true_eq];obtain⟨a,b⟩:∃c:Nat,g.W=((16*c:Nat):Int):=⟨(g.W/16).toNat,by omega⟩;obtain⟨c,d⟩:∃e:Nat,g.H=((32*e:Nat):Int):=⟨(g.H/32).toNat,by omega⟩;have d:g.W.toNat=16*a:=O;have e:(g.H/2).toNat=16*c:=O;have f:(g.W/2).toNat=8*a:=O;have h:(g.H/4).toNat=8*c:=O;have i:g.H/2=((16*c:Nat):Int):=O;have l:g.W/2=((8*a:Nat):Int):=O;have a:g.H/2/2=((8*c:Nat):Int):=O;rw[d,e,f,h,a,i,l,b,<-cm,<-cm];refine⟨⟨⟨⟨by omega,by omega,by omega,by omega,by omega,by omega⟩,?_⟩,?_⟩,?_⟩
 ·rw[dh (16*c)]
 ·rw[dh (8*c)]
 ·rw[dh (8*c)]
def qM(a b c d e):bQ (pt a b c 8 d e)=aB/\(pt a b c 8 d e).W=((2*8:Nat):Int)/\(pt a b c 8 d e).H=((2*4:Nat):Int)/\(pt a b c 8 d e).Y.length=(2*4)*(2*8)/\(pt a b c 8 d e).U.length=4*8/\(pt a b c 8 d e).V.length=4*8:=by
 have a:∀(b:List Int)(c d e f:Int)(g h:Nat)(i l:Int),(qC b c d e f g h i l).length=h*g:=fun n o p q r s t u v=>by simp[qC]
 refine⟨?_,rfl,rfl,?_,?_,?_⟩
 ·unfold bQ pt ng
  simp only[a];rfl
 ·show(qC _ _ _ _ _ _ _ _ _).length=_
  rw[a];rfl
 ·show(qC _ _ _ _ _ _ _ _ _).length=_
  rw[a];rfl
 ·show(qC _ _ _ _ _ _ _ _ _).length=_
  rw[a];rfl
section
structure FV where
 W:Int
 H:Int
 ya:Option Addr
 yn:Nat
 yc:Nat
 ua:Option Addr
 un:Nat
 uc:Nat
 va:Option Addr
 vn:Nat
 vc:Nat
def FV.val(a:FV):aq:=aG #[J E a.W,J E a.H,af a.ya a.yn a.yc,af a.ua a.un a.uc,af a.va a.vn a.vc]
def FV.cells(a:FV):Array aq:=#[J E a.W,J E a.H,af a.ya a.yn a.yc,af a.ua a.un a.uc,af a.va a.vn a.vc]
def FV.zero:FV:=⟨0,0,S,0,0,S,0,0,S,0,0⟩
def dF.fv{a w b c}(d:dF a w b c):∃e:FV,b=e.val:=by
 obtain⟨a,b,c,e,f,g,h,i,vc,rfl,_⟩:=d;exact⟨⟨_,_,a,b,c,e,f,g,h,i,vc⟩,rfl⟩
def nk.parts{w a b c}(d:nk w a b c):∃e:FV,b=aK (fE #[e.val,J E a.2])/\eH e.val/\dF (w.heap.size<=·) c e.val a.1/\bj w.heap.size w c:=by
 obtain⟨a,b,c,e,f⟩:=d;obtain⟨a,rfl⟩:=e.fv;exact⟨a,b,c,e,f⟩
structure FB(w:T)(fc vc sc rc:Array aq)(W:T):Prop where
 b5:Bx W w.heap.size 63 fc
 b8:Bx W (w.heap.size+1) 273 vc
 b9:Bx W (w.heap.size+1+1) 217 sc
 GV:Bx W (w.heap.size+1+1+1) 63 rc
 F:bj w.heap.size w W
section
variable {w W W':T} {fc vc sc rc:Array aq}
def FB.ext(a:FB w fc vc sc rc W)(b:bj W.heap.size W W'):FB w fc vc sc rc W':=⟨a.b5.ext b,a.b8.ext b,a.b9.ext b,a.GV.ext b,a.F.trans (b.mono a.F.size)⟩
def FB.alloc(a:FB w fc vc sc rc W)(o):FB w fc vc sc rc (W.alloc o):=a.ext ((aM _ _).alloc (aw _) _)
def FB.drew(a:FB w fc vc sc rc W):FB w fc vc sc rc W.drew:=⟨a.b5.drew,a.b8.drew,a.b9.drew,a.GV.drew,a.F.drew⟩
def FB.start(w fc vc sc rc):FB w fc vc sc rc ((((w.alloc (az fc 63)).alloc (az vc 273)).alloc (az sc 217)).alloc (az rc 63)):=
 ⟨(((Bx.new _ _ _).alloc _).alloc _).alloc _,((Bx.D _ _ _ _ dS).alloc _).alloc _,(Bx.D _ _ _ _ dS).alloc _,Bx.D _ _ _ _ dS,((((aM _ _).alloc (aw _) _).alloc dS _).alloc eB _).alloc eB _⟩
def FB.res{a b c d e}(f:FB w fc vc sc #[a,b,c,d,e] W):
  (W.cell? ⟨w.heap.size+1+1+1,0,S⟩=M a/\W.cell? ⟨w.heap.size+1+1+1,1,S⟩=M b/\W.cell? ⟨w.heap.size+1+1+1,2,S⟩=M c/\W.cell? ⟨w.heap.size+1+1+1,3,S⟩=M d/\W.cell? ⟨w.heap.size+1+1+1,4,S⟩=M e)/\
  (W.frozen? ⟨w.heap.size+1+1+1,0,S⟩=av/\W.frozen? ⟨w.heap.size+1+1+1,1,S⟩=av/\W.frozen? ⟨w.heap.size+1+1+1,2,S⟩=av/\W.frozen? ⟨w.heap.size+1+1+1,3,S⟩=av/\W.frozen? ⟨w.heap.size+1+1+1,4,S⟩=av)/\
  w.heap.size+1+1+1<W.heap.size:=
 ⟨⟨f.GV.cell 0 rfl,f.GV.cell 1 rfl,f.GV.cell 2 rfl,f.GV.cell 3 rfl,f.GV.cell 4 rfl⟩,⟨f.GV.frozen 0,f.GV.frozen 1,f.GV.frozen 2,f.GV.frozen 3,f.GV.frozen 4⟩,f.GV.lt⟩
end
def Bx.rQ{W g a b c d e f}(h:Bx W g a #[b,c,d,e,f]):
  (W.cell? ⟨g,0,S⟩=M b/\W.cell? ⟨g,1,S⟩=M c/\W.cell? ⟨g,2,S⟩=M d/\W.cell? ⟨g,3,S⟩=M e/\W.cell? ⟨g,4,S⟩=M f)/\
  (W.frozen? ⟨g,0,S⟩=av/\W.frozen? ⟨g,1,S⟩=av/\W.frozen? ⟨g,2,S⟩=av/\W.frozen? ⟨g,3,S⟩=av/\W.frozen? ⟨g,4,S⟩=av)/\g<W.heap.size:=
 ⟨⟨h.cell 0 rfl,h.cell 1 rfl,h.cell 2 rfl,h.cell 3 rfl,h.cell 4 rfl⟩,⟨h.frozen 0,h.frozen 1,h.frozen 2,h.frozen 3,h.frozen 4⟩,h.lt⟩
end
section
section
variable {P:nt} {ops:Array cQ} {md:xo} {C:T->Prop} {kw:Nat}
def QF:Exit->Act->T->Prop:=fun _ _ _=>False
def Sc{c:cQ}{e:Option Tmp}{f:aq}{a:Act}{b:Act->T->Prop}(d:∀g,e=M g->c.dst≠M g):∀(h:Result Next),c.upon P (a.put e f) b QF h->c.upon P a (fun i l=>b (i.put e f) l) QF h:=by
 have b:∀(g:Act) h,(g.put e f).put c.dst h=(g.put c.dst h).put e f:=fun i l=>Vg i f l d
 intro c d;cases c with
 |ok c g=>
  cases c<;> simp only[tj] at d ⊢
  case value c=>rw[<-b];exact d
  case skip=>rw[<-b];exact d
  case defer c=>
   have g:({(a.put e f) with defers:=c::(a.put e f).defers}:Act)=({a with defers:=c::a.defers}:Act).put e f:=by cases e<;> rfl
   rw[g] at d;rw[<-b];exact d
  case enter c e=>
   refine d.mono fun c e f=>?_
   cases c with
   |returned c=>dsimp only at f ⊢;rw[<-b];exact f
   |panicked c=>exact f
   |outgrown=>exact f
  case row c e=>exact d.mono fun f g h=>by rw[<-b];exact h
 |halt b c=>cases b<;> simp only[tj] at d ⊢<;> exact d
def PT{b:cQ}{a:Act}{Q c:Exit->Act->T->Prop}{d e:Act->T->Prop}(f:∀a w,d a w->e a w)(g:∀h a w,h≠.normal->Q h a w->c h a w):∀(i:Result Next),b.upon P a d Q i->b.upon P a e c i:=by
 intro b c;cases b with
 |ok b d=>
  cases b<;> simp only[tj] at c ⊢
  case value b=>exact f _ _ c
  case skip=>exact f _ _ c
  case defer b=>exact f _ _ c
  case enter b d=>
   refine c.mono fun b d e=>?_
   cases b with
   |returned b=>exact f _ _ e
   |panicked b=>exact g _ _ _ dS e
   |outgrown=>obtain⟨a,w,b⟩:=e;exact⟨a,w,g _ _ _ dS b⟩
  case row b d=>exact c.mono fun e h i=>f _ _ i
 |halt b d=>cases b<;> simp only[tj] at c ⊢;exact g _ _ _ dS c
def Eh{i:Nat}{a:Act}{w:T}{Q b:Exit->Act->T->Prop}{K c:Act->T->Prop}(e:∀a w,K a w->c a w)(d:∀g a w,g≠.normal->Q g a w->b g a w)(f:GW P ops Q i K a w):GW P ops b i c a w:=by
 unfold GW at*;split
 ·rename_i b;simp only[b] at f;exact e _ _ f
 ·rename_i b c
  simp only[c] at f;split
  ·rename_i b
   simp only[b,if_true] at f;rcases f with b|⟨c,g,h,l⟩
   ·exact .inl (PT e d _ b)
   ·exact .inr ⟨c,g,h,d _ _ _ dS l⟩
  ·rename_i b;simp only[b] at f;exact e _ _ f
def bD(w a:T):Prop:=bj w.heap.size w a
def bD.refl(w:T):bD w w:=aM _ _
def bD.trans{w a b:T}(c:bD w a)(d:bD a b):bD w b:=Below.trans c (Below.mono d (Below.size c))
def pg(P:nt)(md:xo)(ops:Array cQ)(kw:Nat)(C:T->Prop)(Q:Act->T->Prop):Nat->Array Bool->Act->T->Prop
 |0,listed,a,w=>∀b,bD w b->(listed.getD kw av=av->C b)/\eO md ops listed=[]/\Q a b
 |b+1,listed,a,w=>∀c,bD w c->(listed.getD kw av=av->C c)/\(eO md ops listed=[]->Q a c)/\∀d∈eO md ops listed,GW P ops QF d (pg P md ops kw C Q b (listed.setIfInBounds d aB)) a c
def pg.ext{Q:Act->T->Prop}:∀{b:Nat}{listed:Array Bool}{a:Act}{w c:T},pg P md ops kw C Q b listed a w->bD w c->pg P md ops kw C Q b listed a c
 |0,_,_,_,_,b,c=>fun d e=>b d (c.trans e)
 |_+1,_,_,_,_,b,c=>fun d e=>b d (c.trans e)
def vM{Q:Exit->Act->T->Prop}:∀(b:Nat)(listed:Array Bool)(a:Act)(w:T),pg P md ops kw C (fun a w=>Q .normal a w) b listed a w->wpAny P md ops Q b listed a w
 |0,_,_,w,b=>(b w (bD.refl w)).2
 |b+1,_,_,w,c=>⟨(c w (bD.refl w)).2.1,fun d e=>Eh (fun f g h=>vM b _ f g h) (fun _ _ _ _ i=>i.elim) ((c w (bD.refl w)).2.2 d e)⟩
def lP(P:nt)(ops:Array cQ)(C:T->Prop)(b:cQ)(c:aq)(a:Act):Prop:=
 (bP b (xZ ops a.tmps)=aB/\∀w,C w->b.quietAt P a (bD w) w c)\/(bP b (xZ ops a.tmps)=av/\c=sJ)
def lP.wpOp{i:Nat}{c:cQ}{d:aq}{a:Act}{w:T}{Q:Exit->Act->T->Prop}(e:ops[i]?=M c)(b:lP P ops C c d a)(f:C w){g:Act->T->Prop}(h:∀l,bD w l->g (a.put c.dst d) l):GW P ops Q i g a w:=by
 unfold GW;simp only[e];rcases b with⟨l,n⟩|⟨l,rfl⟩
 ·simp only[l,if_true]
  refine .inl ?_;have b:=n w f;unfold nQ at b;unfold Bg;generalize (VI a.eval c).run P w=o at*
  cases o with
  |ok c d=>
   cases c<;> simp only[yJ] at b<;> simp only[tj]
   case value c=>obtain⟨rfl,rfl⟩:=b;exact h _ (bD.refl _)
   case skip=>obtain⟨rfl,rfl⟩:=b;exact h _ (bD.refl _)
   case enter c d=>
    obtain⟨rfl,c⟩:=b;exact c.mono fun d e ⟨f,g⟩=>by subst f;exact h _ g
  |halt c d=>simp only[yJ] at b
 ·simp only[l,yP,if_false];exact h _ (bD.refl _)
def lP.of_same{b:cQ}{c:aq}{a d:Act}(g:lP P ops C b c a)(e:VI d.eval b=VI a.eval b)
  (f:bP b (xZ ops d.tmps)=bP b (xZ ops a.tmps)):lP P ops C b c d:=by
 unfold lP nQ at*;rw[e,f];exact g
def S1{b:Nat}{g h:cQ}{l:aq}(c:ops[b]?=M h)(d:g.apart ops h=aB)(e:∀o p,g.op≠.select o p)(i:∀q r,h.op≠.select q r){f:Act->T->Prop}{a:Act}{w:T}
  (n:GW P ops QF b f (a.put g.dst l) w):GW P ops QF b (fun o p=>f (o.put g.dst l) p) a w:=by
 obtain⟨o,p,q⟩:=Mm d;unfold GW at*;simp only[c] at*;rw[wanted_put h a g.dst l o] at n;split
 ·rename_i r
  simp only[r,if_true] at n;rcases n with s|⟨_,_,_,s⟩
  ·refine .inl ?_
   unfold Bg at*;rw[execOp_put h i a g.dst l o] at s;exact Sc p _ s
  ·exact s.elim
 ·rename_i b
  simp only[b] at n;rw[<-Vg a l sJ p];exact n
def lP.K{d e:cQ}{b:aq}(c:d.apart ops e=aB)(f:∀i l,d.op≠.select i l){a:Act}(g:lP P ops C d b a)(h:aq):lP P ops C d b (a.put e.dst h):=by
 obtain⟨b,i,l⟩:=Mm c;exact g.of_same (execOp_put d f a e.dst h l) (wanted_put d a e.dst h l)
def lP.defer{b:cQ}{c:aq}{a:Act}(d:lP P ops C b c a)(e:List Deferred):lP P ops C b c {a with defers:=e}:=d
def PZ{b:cQ}{a:Act}{c:Act->T->Prop}{d:Act->Prop}(f:∀(h:Act),d h->∀i,d (h.put b.dst i))(e:∀l n,d l->d {l with defers:=n})(g:d a):∀(o:Result Next),b.upon P a c QF o->b.upon P a (fun p q=>d p/\c p q) QF o:=by
 intro b c;cases b with
 |ok b d=>
  cases b<;> simp only[tj] at c ⊢
  case value b=>exact⟨f _ g _,c⟩
  case skip=>exact⟨f _ g _,c⟩
  case defer b=>exact⟨f _ (e _ _ g) _,c⟩
  case enter b d=>
   refine c.mono fun b d e=>?_
   cases b with
   |returned b=>exact⟨f _ g _,e⟩
   |panicked b=>exact e
   |outgrown=>exact e
  case row b d=>exact c.mono fun e h i=>⟨f _ g _,i⟩
 |halt b d=>cases b<;> simp only[tj] at c ⊢<;> exact c
def PJ{b:Nat}{c:cQ}(d:ops[b]?=M c){e:Act->T->Prop}{I:Act->Prop}{a:Act}{w:T}(g:∀(l:Act),I l->∀n,I (l.put c.dst n))(f:∀o p,I o->I {o with defers:=p})(h:I a)(i:GW P ops QF b e a w):
  GW P ops QF b (fun l n=>I l/\e l n) a w:=by
 unfold GW at*;simp only[d] at*;split
 ·rename_i b
  simp only[b,if_true] at i;rcases i with b|⟨_,_,_,b⟩
  ·exact .inl (PZ g f h _ b)
  ·exact b.elim
 ·rename_i b
  simp only[b] at i;exact⟨g _ h _,i⟩
def sg{Q:Act->T->Prop}{C1:T->Prop}{i:Nat}{g:cQ}{f:aq}(d:ops[i]?=M g)(e:∀(h:Nat)(l:cQ) n o,ops[h]?=M l->l.op≠.select n o)(b:i≠kw)
  (c:(∀w,C1 w)\/((∀w,C w->C1 w)/\∀h,ops[kw]?=M h->∃l∈h.after,od md l=aB/\l.on=i)):
  ∀(h:Nat)(listed:Array Bool)(a:Act)(w:T),((∀w,C1 w)\/listed.getD kw av=av)->
   (∀l n,ops[l]?=M n->l≠i->listed.getD l aB=av->(∀o∈n.after,od md o=aB->o.on≠i)->g.apart ops n=aB)->
   i∈eO md ops listed->lP P ops C1 g f a->
   pg P md ops kw C Q h (listed.setIfInBounds i aB) (a.put g.dst f) w->pg P md ops kw C Q (h+1) listed a w:=by
 have h:∀{listed:Array Bool}{l:T},((listed.setIfInBounds i aB).getD kw av=av->C l)->listed.getD kw av=av->C l:=fun n o=>n (eZ (Dy av b) o)
 have b:∀{listed:Array Bool}{l:T},((∀w,C1 w)\/listed.getD kw av=av)->((listed.setIfInBounds i aB).getD kw av=av->C l)->C1 l:=by
  intro listed l n o;rcases c with l|⟨p,_⟩
  ·exact l _
  ·rcases n with l|l
   ·exact l _
   ·exact p _ (h o l)
 intro l
 induction l with
 |zero=>
  intro listed a w l _ n o p;intro q r;refine⟨h (p q r).1,fun s=>(by rw[s] at n;cases n),fun t u=>?_⟩
  by_cases n:t=i
  ·subst n;exact o.wpOp d (b l (p q r).1) (fun s t=>pg.ext p (r.trans t))
  ·have:=PA u n
   rw[(p q r).2.1] at this;cases this
 |succ l n=>
  intro listed a w l o p q r;intro s t;refine⟨h (r s t).1,fun u=>(by rw[u] at p;cases p),fun v x=>?_⟩
  by_cases h:v=i
  ·subst h;exact q.wpOp d (b l (r s t).1) (fun u y=>pg.ext r (t.trans y))
  ·have b:=(r s t).2.2 v (PA x h)
   obtain⟨r,s,t,u⟩:=Mj.1 x
   have x:∀y∈s.after,od md y=aB->y.on≠i:=fun z H U V=>by
    have y:=u z H U;have u:=(Mj.1 p).1;rw[V] at y;rcases Pv i listed.size with z|z
    ·simp[z] at u y;rw[u] at y;cases y
    ·simp[pN z] at y
   have u:(∀w,C1 w)\/(listed.setIfInBounds v aB).getD kw av=av:=by
    rcases c with y|⟨_,z⟩
    ·exact .inl y
    ·rcases l with c|c
     ·exact .inl c
     ·refine .inr ?_
      have l:v≠kw:=fun y=>by
       subst y;obtain⟨y,H,U,V⟩:=z s t;exact x y H U V
      rw[Dy av l];exact c
   have c:=o v s t h r x;have l:=fun x y=>e i g x y d
   have d:=S1 t c l (fun x y=>e v s x y t) b;have b:=PJ (I:=lP P ops C1 g f) t (fun e s x=>s.K c l x) (fun y z H=>H.defer z) q d
   have c:∀d e,ops[d]?=M e->d≠i->(listed.setIfInBounds v aB).getD d aB=av->
     (∀d∈e.after,od md d=aB->d.on≠i)->g.apart ops e=aB:=fun f l q s t x=>by
    refine o f l q s ?_ x
    by_cases d:v=f
    ·subst d;exact r
    ·rw[Dy aB d] at t;exact t
   refine wpOp_mono (fun d e f=>n (listed.setIfInBounds v aB) d e u c (PA p (xW h)) f.1 ?_) b;rw[Array.setIfInBounds_comm _ _ h];exact f.2
def Hc(md:xo)(ops:Array cQ)(kw:Nat)(a b:Nat)(listed:Array Bool):Bool:=
 !listed.getD kw av&&(dI a).all fun c=>b+c !=kw&&match ops[kw]? with
  |some a=>a.after.any fun d=>od md d&&d.on==b+c
  |none=>aB
def Ek{a b:Nat}{listed:Array Bool}(c:Hc md ops kw a b listed=aB):listed.getD kw av=av/\∀d,d<a->b+d≠kw/\∀e,ops[kw]?=M e->∃f∈e.after,od md f=aB/\f.on=b+d:=by
 simp only[Hc,bT,RQ,GZ,Da] at c;refine⟨c.1,fun a b=>⟨by simpa using(c.2 a b).1,fun d e=>?_⟩⟩;have:=(c.2 a b).2;rw[e] at this;obtain⟨a,b,c⟩:=Array.any_eq_true'.1 this;simp only[bT,beq_iff_eq] at c;exact⟨a,b,c.1,c.2⟩
def qN(a:cQ):Bool:=match a.op with
 | .move _| .assign _| .pick ..| .build ..| .load ..| .binOp ..| .unOp ..| .convert ..| .fieldAddr ..| .field ..| .indexAddr ..| .index ..| .extract ..| .slice ..=>aB
 | .nilCheck _=>aB
 |_=>av
def Eu{d:Sem aq}{w a:T}{b:Py}{c:Array aq}(e:(do let f<-d;pure (Next.value f):Sem Next).run P w=.ok (.enter b c) a):False:=by
 rw[fT] at e;cases hs:d.run P w with
 |ok a b=>rw[hs] at e;simp[qp,iT] at e
 |halt a b=>rw[hs] at e;simp[qp] at e
def NE(a:Sem Next):Prop:=∀(P:nt)(w b:T)(c:Py)(d:Array aq),a.run P w≠.ok (.enter c d) b
def NE.bind{a:Type}{c:Sem a}{b:a->Sem Next}(d:∀e,NE (b e)):NE (do let f<-c;b f):=fun P w g h i l=>by
 rw[fT] at l;cases hs:c.run P w with
 |ok a b=>rw[hs] at l;exact d a P b g h i l
 |halt a b=>rw[hs] at l;simp[qp] at l
def NE.val(a:aq):NE (pure (.value a)):=fun P w b c d e=>by simp[iT] at e
def NE.rt:NE (Zg .nilDeref):=by
 unfold Zg;exact NE.bind fun a=>fun P w b c d=>by simp[goPanic,Sem.run]
def KZ{a:Gc}(b:Gc->aq)(w e:T)(f:Py)(g:Array aq){c:cQ}(d:c.op=.nilCheck a):(VI b c).run P w≠.ok (.enter f g) e:=by
 have:NE (VI b c):=by
  unfold VI;simp only[d];split
  any_goals first|exact NE.rt|exact NE.val _
  split
  any_goals first|exact NE.rt|exact NE.val _
  refine NE.bind fun a=>NE.bind fun b=>?_
  split
  ·exact NE.bind fun _=>NE.val _
  ·exact NE.val _
 exact this P w e f g
def J2{e:cQ}(f:qN e=aB)(g:Gc->aq)(w b:T)(c:Py)(d:Array aq):(VI g e).run P w≠.ok (.enter c d) b:=by
 by_cases h:∃i,e.op=.nilCheck i
 ·obtain⟨i,l⟩:=h
  exact KZ g w b c d l
 intro b;unfold qN at f;unfold VI at b;cases ho:e.op<;> rw[ho] at f b<;> first|(cases f;done)|(simp[iT] at b;done)|(exact Eu b)|skip
 ·rename_i c a d
  rw[fT] at b;cases hs:(asBool (g c)).run P w with
  |ok c d=>rw[hs] at b;simp[qp,iT] at b
  |halt c d=>rw[hs] at b;simp[qp] at b
 ·exact h ⟨_,ho⟩
def KJ{b:cQ}{a:Act}{c:aq}{w:T}(d:qN b=aB)(e:b.quietAt P a C w c):b.quietAt P a (bD w) w c:=by
 have f:=J2 (P:=P) d a.eval w;unfold nQ at*;generalize (VI a.eval b).run P w=g at*
 cases g with
 |ok b c=>
  cases b<;> simp only[yJ] at e ⊢
  case value b=>exact e
  case skip=>exact e
  case enter b d=>exact(f c b d rfl).elim
 |halt b c=>exact e
def vS(md:xo)(ops:Array cQ):Nat->Nat->Array Bool->Bool
 |0,_,_=>aB
 |a+1,b,listed=>(eO md ops listed).contains b&&Region.free md ops listed b&&vS md ops a (b+1) (listed.setIfInBounds b aB)
def Jw:Nat->Nat->Array Bool->Array Bool
 |_,0,listed=>listed
 |a,b+1,listed=>Jw (a+1) b (listed.setIfInBounds a aB)
def wK{Q:Act->T->Prop}{C1:T->Prop}(b:gA ops=aB){w:T}{f:Nat}(c:Array Bool):∀(d:List cQ)(e:Nat)(listed:Array Bool)(a:Act),(∀g,g<d.length->d[g]?=ops[e+g]?)->
  (∀g,g<d.length->e+g≠kw/\((∀w,C1 w)\/((∀w,C w->C1 w)/\∀h,ops[kw]?=M h->∃i∈h.after,od md i=aB/\i.on=e+g)))->((∀w,C1 w)\/listed.getD kw av=av)->
  vS md ops d.length e listed=aB->Jw e d.length listed=c->(d.all qN)=aB->kL P ops C1 (fun g=>pg P md ops kw C Q f c g w) d a->pg P md ops kw C Q (f+d.length) listed a w
 |[],d,listed,a,_,_,_,_,e,_,g=>by subst e;exact g
 |d::e,g,listed,a,h,i,l,n,o,p,q=>by
  have r:ops[g]?=M d:=by simpa using(h 0 dS).symm
  simp only[eu,vS,bT] at n;obtain⟨⟨s,t⟩,u⟩:=n;simp only[List.all_cons,bT] at p;have n:qOp P ops C1 g (kL P ops C1 (fun v=>pg P md ops kw C Q f c v w) e) a:=by unfold qOp;simp only[r];exact q
  obtain⟨q,v,x⟩:=yieldsIn_of_qOp r n
  have n:lP P ops C1 d q a:=by
   rcases v with⟨d,q⟩|d
   ·exact .inl ⟨d,fun w v=>KJ p.1 (q w v)⟩
   ·exact .inr d
  have d:=i 0 dS
  exact sg r (oE b) d.1 d.2 (f+e.length) listed a w l (rJ r t) (jP s) n
   (wK b c e (g+1) _ _ (fun n q=>by have:=h (n+1) (jP q);simpa[qX,Vd 1 n] using this)
    (fun b c=>by have:=i (b+1) (jP c);rw[qX,Vd 1 b];exact this) (by rw[Dy av (i:=g) (jP d.1)];exact l) u o p.2 x)
def tI{i:Nat}{b:cQ}{a:Act}{w:T}{c:Act->T->Prop}(d:ops[i]?=M b)(e:cG P ops (fun f g h=>f=.normal/\c g h) [b] a w):GW P ops QF i c a w:=by
 refine Eh (K:=fun b f=>Exit.normal=.normal/\c b f) (fun _ _ g=>g.2) (fun h _ _ l n=>l n.1) (Q:=fun o p q=>o=.normal/\c p q) ?_;unfold GW;simp only[d];unfold cG at e;split
 ·rename_i b
  simp only[b,if_true] at e;rcases e with b|b
  ·exact .inl (Oper.wp_mono (fun c d (f:_/\_)=>⟨trivial,f.2⟩) b)
  ·exact .inr b
 ·rename_i b
  simp only[b] at e;exact⟨trivial,e.2⟩
noncomputable def pW(C:T->Prop)(w0 a:T):T:=by classical exact if C a then a else w0
def iQ{C:T->Prop}{w0:T}(a:C w0)(b:T):C (pW C w0 b):=by
 unfold pW;split<;> assumption
def As{C:T->Prop}{w0 w:T}(a:C w):∃b:T,w=pW C w0 b:=⟨w,by unfold pW;rw[if_pos a]⟩
def bD.drewN{w a:T}(b:bD w a)(c:Nat):bD w (a.drewN c):=⟨b.os,b.tape,b.output,b.size,b.block⟩
def Aa(P:nt)(ops:Array cQ)(D:T->Prop)(b:Act->Prop):List cQ->Act->Prop
 |[c],a=>bP c (xZ ops a.tmps)=aB/\∃(d:Py)(e:Array aq)(f:aq),(∀w,(VI a.eval c).run P w=.ok (.enter d e) w)/\(∀w,D w->aT P d e w (fun g h=>g=aK f/\bD w h))/\b (a.put c.dst f)
 |_,_=>False
def bO{a:Act}{D:T->Prop}{b:Act->Prop}{c:cQ}(d:bP c (xZ ops a.tmps)=aB)(e:Py)(f:Array aq)(g:aq)(h:∀w,(VI a.eval c).run P w=.ok (.enter e f) w)(i:∀w,D w->aT P e f w (fun n o=>n=aK g/\bD w o))(l:b (a.put c.dst g)):Aa P ops D b [c] a:=
 ⟨d,e,f,g,h,i,l⟩
section
variable {Q:Act->T->Prop} {w w0:T} {a:Act} {listed:Array Bool} {F:Nat} {D:T->Prop}
abbrev gi(P:nt)(ops:Array cQ)(kw:Nat)(D:T->Prop)(w0:T)(Q:Act->T->Prop):=pg P .any ops kw (fun a=>∃b:T,a=pW D w0 b) Q
def SA(a b:Nat)(c:Nat)(d:((ops.toList.drop a).take b).length=b)(e:c<((ops.toList.drop a).take b).length):((ops.toList.drop a).take b)[c]?=ops[a+c]?:=by
 rw[d] at e;rw[gH,if_pos e,iZ];simp
def mq(b c d:Nat)(hF:F=d+c)(e:gA ops=aB)(i:((ops.toList.drop b).take c).length=c)
  (f:(vS .any ops c b listed&&Hc .any ops kw c b listed)=aB)(g:(((ops.toList.drop b).take c).all qN)=aB)(h:kL P ops (fun l=>∃n:T,l=pW D w0 n) (fun o=>gi P ops kw D w0 Q d (Jw b c listed) o w) ((ops.toList.drop b).take c) a):gi P ops kw D w0 Q F listed a w:=by
 subst hF;simp only[bT] at f;obtain⟨l,n⟩:=Ek f.2
 have:=wK (P:=P) (md:=.any) (kw:=kw) (C:=fun o=>∃p:T,o=pW D w0 p) (C1:=fun q=>∃r:T,q=pW D w0 r) (Q:=Q) (w:=w) (f:=d) e (Jw b c listed) ((ops.toList.drop b).take c) b listed a (fun s t=>SA b c s i t)
  (fun b c=>⟨(n b O).1,.inr ⟨fun _ d=>d,(n b O).2⟩⟩) (.inr l) (eZ i f.1) (by rw[i]) g h
 rwa [i] at this
def mp(b c d:Nat)(hF:F=d+c)(e:gA ops=aB)(i:((ops.toList.drop b).take c).length=c)
  (f:(vS .any ops c b listed&&(dI c).all fun l=>b+l !=kw)=aB)(g:(((ops.toList.drop b).take c).all qN)=aB)(h:kL P ops (fun n=>∃o:T,n=o) (fun p=>gi P ops kw D w0 Q d (Jw b c listed) p w) ((ops.toList.drop b).take c) a):gi P ops kw D w0 Q F listed a w:=by
 subst hF;simp only[bT,GZ,Da] at f
 have:=wK (P:=P) (md:=.any) (kw:=kw) (C:=fun l=>∃n:T,l=pW D w0 n) (C1:=fun o=>∃p:T,o=p) (Q:=Q) (w:=w) (f:=d) e (Jw b c listed) ((ops.toList.drop b).take c) b listed a (fun q r=>SA b c q i r)
  (fun b c=>⟨by simpa using f.2 b O,.inl fun w=>⟨w,rfl⟩⟩) (.inl fun w=>⟨w,rfl⟩) (eZ i f.1) (by rw[i]) g h
 rwa [i] at this
def mc(b e:Nat)(hF:F=e+1)(c:(ops.toList.drop b).take 1=(ops[b]?).toList)(f:gA ops=aB)(g:(vS .any ops 1 b listed&&Hc .any ops kw 1 b listed)=aB)(h:D w0)
  (d:Aa P ops D (fun i=>gi P ops kw D w0 Q e (listed.setIfInBounds b aB) i w) ((ops.toList.drop b).take 1) a):gi P ops kw D w0 Q F listed a w:=by
 subst hF;cases hk:ops[b]? with
 |none=>rw[c,hk] at d;exact d.elim
 |some b=>
  rw[c,hk] at d;obtain⟨b,c,i,l,n,o,p⟩:=d;simp only[bT,vS] at g;obtain⟨c,d⟩:=Ek g.2;have i:=d 0 O;refine sg (C1:=fun d=>∃l:T,d=pW D w0 l) hk (oE f) (jP i.1) (.inr ⟨fun _ q=>q,by simpa using i.2⟩) e listed a w (.inr c) (rJ hk g.1.1.2) (jP g.1.1.1) (.inl ⟨b,fun w r=>?_⟩) p;obtain⟨b,rfl⟩:=r;unfold nQ;rw[n];exact⟨rfl,o _ (iQ h b)⟩
def mcp(b e:Nat)(hF:F=e+1)(c:(ops.toList.drop b).take 1=(ops[b]?).toList)(f:gA ops=aB)(g:(vS .any ops 1 b listed&&b !=kw)=aB)
  (d:Aa P ops (fun _=>True) (fun h=>gi P ops kw D w0 Q e (listed.setIfInBounds b aB) h w) ((ops.toList.drop b).take 1) a):gi P ops kw D w0 Q F listed a w:=by
 subst hF;cases hk:ops[b]? with
 |none=>rw[c,hk] at d;exact d.elim
 |some b=>
  rw[c,hk] at d;obtain⟨b,c,h,i,l,n,o⟩:=d;simp only[bT,vS] at g;refine sg (C1:=fun _=>True) hk (oE f) (jP g.2) (.inl fun _=>trivial) e listed a w (.inl fun _=>trivial) (rJ hk g.1.1.2) (jP g.1.1.1) (.inl ⟨b,fun w c=>?_⟩) o;unfold nQ;rw[l];exact⟨rfl,n _ trivial⟩
def O4(ops:Array cQ)(b:Act->Prop):List cQ->Act->Prop
 |[c],a=>bP c (xZ ops a.tmps)=av/\b (a.put c.dst sJ)
 |_,_=>False
def mk(b e:Nat)(hF:F=e+1)(c:(ops.toList.drop b).take 1=(ops[b]?).toList)(f:gA ops=aB)(g:(vS .any ops 1 b listed&&b !=kw)=aB)
  (d:O4 ops (fun h=>gi P ops kw D w0 Q e (listed.setIfInBounds b aB) h w) ((ops.toList.drop b).take 1) a):gi P ops kw D w0 Q F listed a w:=by
 subst hF;cases hk:ops[b]? with
 |none=>rw[c,hk] at d;exact d.elim
 |some b=>
  rw[c,hk] at d;obtain⟨b,c⟩:=d;simp only[bT,vS] at g;exact sg (C1:=fun _=>True) hk (oE f) (jP g.2) (.inl fun _=>trivial) e listed a w (.inl fun _=>trivial) (rJ hk g.1.1.2) (jP g.1.1.1) (.inr ⟨b,rfl⟩) c
def ms(b c:Nat)(hF:F=c+1)(g:(ops.toList.drop b).take 1=(ops[b]?).toList)(f:eO .any ops listed=[b])(e:listed.getD kw av=av->∀h,bD w h->D h)
  (d:∀h,bD w h->cG P ops (fun i l n=>i=.normal/\gi P ops kw D w0 Q c (listed.setIfInBounds b aB) l n) ((ops.toList.drop b).take 1) a h):gi P ops kw D w0 Q F listed a w:=by
 subst hF;intro b c;replace h:=d b c;refine⟨fun d=>As (e d b c),fun i=>(by rw[f] at i;cases i),fun l n=>?_⟩;rw[f,List.mem_singleton] at n;subst n;cases hk:ops[l]? with
 |none=>
  have:l∈eO .any ops listed:=by rw[f];simp
  obtain⟨_,b,c,_⟩:=Mj.1 this;rw[hk] at c;cases c
 |some b=>
  rw[g,hk] at h;exact tI hk h
def mb(b c d:Nat)(hF:F=d+1)(e:(ops.toList.drop b).take 1=(ops[b]?).toList)(f:(ops.toList.drop c).take 1=(ops[c]?).toList)(g:eO .any ops listed=[b,c])(h:listed.getD kw av=av->∀n,bD w n->D n)
  (i:∀n,bD w n->cG P ops (fun o p q=>o=.normal/\gi P ops kw D w0 Q d (listed.setIfInBounds b aB) p q) ((ops.toList.drop b).take 1) a n)
  (l:∀n,bD w n->cG P ops (fun o p q=>o=.normal/\gi P ops kw D w0 Q d (listed.setIfInBounds c aB) p q) ((ops.toList.drop c).take 1) a n):gi P ops kw D w0 Q F listed a w:=by
 subst hF;intro n o;replace p:=i n o;replace q:=l n o;refine⟨fun r=>As (h r n o),fun s=>(by rw[g] at s;cases s),fun t u=>?_⟩;have s:t∈eO .any ops listed:=u;obtain⟨_,v,x,_⟩:=Mj.1 s;rw[g] at u;simp only[List.mem_cons,List.mem_nil_iff,or_false] at u;rcases u with rfl|rfl
 ·rw[e,x] at p;exact tI x p
 ·rw[f,x] at q;exact tI x q
def me(b:eO .any ops listed=[])(c:listed.getD kw av=av->∀e,bD w e->D e)(d:∀f,bD w f->Q a f):gi P ops kw D w0 Q 0 listed a w:=fun g h=>⟨fun i=>As (c i g h),b,d g h⟩
def Zo{a:Prop}(b:listed.getD kw av=aB):listed.getD kw av=av->a:=fun c=>by rw[b] at c;cases c
end
def mn{ops:Array cQ}{Q:Exit->Act->T->Prop}{a:Act}{w:T}(b:Q .normal a w):cG P ops Q [] a w:=b
def aL{b:Nat}{Q:Exit->Act->T->Prop}{a:Act}{w:T}(kw:Nat)(D:T->Prop)(c:P.follows .mixedOrders=aB)
  (d:∀e,bD w e->gi P ops kw D w (fun f g=>Q .normal f g) ops.size (JT ops.size av) a e):(Afw b ops aB).wp P Q a w:=
 wp_region_any c (vM _ _ _ _ (d _ ((bD.refl w).drewN 1)))
end
end
end Go.Proofs.YtbdhieahnneebaaGreatDoor
namespace Go.Top
def b2(a:Bool):Int:=if a then 1 else 0
def Cd(a):0<=b2 a/\b2 a<=1:=by cases a<;> simp[b2]
def bt(a:List Bool)(i:Nat):Bool:=a.getD i av
def Nx{l i}(a:l.length<=i):bt l i=av:=by simp[bt,jr,a]
def Ny(a b i):bt (a++b) i=if i<a.length then bt a i else bt b (i-a.length):=by
 unfold bt jr;split
 ·rw[bo (by assumption)]
 ·rw[aU (by omega)]
def AN(a:List Bool)(b:Nat):Int:=128*b2 (bt a (8*b+0))+64*b2 (bt a (8*b+1))+32*b2 (bt a (8*b+2))+16*b2 (bt a (8*b+3))+8*b2 (bt a (8*b+4))+4*b2 (bt a (8*b+5))+2*b2 (bt a (8*b+6))+b2 (bt a (8*b+7))
def sk(a b):0<=AN a b/\AN a b<=255:=by
 have c:=fun d=>Cd (bt a (8*b+d))
 have a:=c 0;have b:=c 1;have d:=c 2;have e:=c 3;have f:=c 4;have g:=c 5;have h:=c 6;have i:=c 7;unfold AN;omega
def kX(a:List Bool):List Int:=(dI ((a.length+7)/8)).map (AN a)
def lH(a):(kX a).length=(a.length+7)/8:=by simp[kX]
def uC(a):∀b∈kX a,0<=b/\b<=255:=by
 intro b c;simp only[kX,iy] at c;obtain⟨b,_,rfl⟩:=c;exact sk a b
def BH(a b):(kX a)[b]?=if b<(a.length+7)/8 then M (AN a b) else S:=by
 simp only[kX,bN];split
 ·rw[List.getElem?_range (by assumption)];rfl
 ·rw[de (by simp;omega)];rfl
def QU{a b c}(d:∀i,i<8->bt a (8*c+i)=bt b (8*c+i)):AN a c=AN b c:=by
 have a:=d 0 (by omega);have b:=d 1 (by omega);have c:=d 2 (by omega);have e:=d 3 (by omega);have f:=d 4 (by omega);have g:=d 5 (by omega);have h:=d 6 (by omega);have l:=d 7 (by omega);unfold AN;rw[a,b,c,e,f,g,h,l]
def p7(a:Nat):Int:=2^(7-a)
def xg(b a):AN (b++[a]) (b.length/8)=AN b (b.length/8)+b2 a*p7 (b.length%8)/\∃c,AN b (b.length/8)=c*(2*p7 (b.length%8))/\0<=c:=by
 obtain⟨c,d⟩:∃e,e=b.length/8:=⟨_,rfl⟩;have e:b.length%8<8:=rZ _ (by omega);have f:b.length=8*c+b.length%8:=by omega
 rw[<-d]
 have g:∀h,(h<b.length%8/\b2 (bt (b++[a]) (8*c+h))=b2 (bt b (8*c+h)))\/(b.length%8=h/\b2 (bt (b++[a]) (8*c+h))=b2 a/\b2 (bt b (8*c+h))=0)\/(b.length%8<h/\b2 (bt (b++[a]) (8*c+h))=0/\b2 (bt b (8*c+h))=0):=fun i=>by
  rw[Ny]
  by_cases a:i<b.length%8
  ·rw[if_pos (by omega)];exact .inl ⟨a,rfl⟩
  ·rw[if_neg (by omega),Nx (l:=b) (by omega)]
   by_cases a:b.length%8=i
   ·rw[show 8*c+i-b.length=0 by omega];exact .inr (.inl ⟨a,rfl,rfl⟩)
   ·rw[Nx (by simp;omega)];exact .inr (.inr ⟨by omega,rfl,rfl⟩)
 have a:=fun h=>Cd (bt b (8*c+h))
 have h:=a 0;have i:=a 1;have l:=a 2;have n:=a 3;have o:=a 4;have p:=a 5;have q:=a 6;have r:=a 7;have h:=g 0;have i:=g 1;have l:=g 2;have n:=g 3;have o:=g 4;have p:=g 5;have q:=g 6;have r:=g 7;obtain⟨s,t⟩:∃u,u=b.length%8:=⟨_,rfl⟩;rw[<-t] at e h i l n o p q r ⊢;clear g a f t d;unfold AN;rcases(show s=0\/s=1\/s=2\/s=3\/s=4\/s=5\/s=6\/s=7 by omega) with rfl|rfl|rfl|rfl|rfl|rfl|rfl|rfl
 ·rw[show p7 0=128 from rfl];exact⟨by omega,0,by omega,by omega⟩
 ·rw[show p7 1=64 from rfl];exact⟨by omega,b2 (bt b (8*c+0)),by omega,by omega⟩
 ·rw[show p7 2=32 from rfl];exact⟨by omega,2*b2 (bt b (8*c+0))+b2 (bt b (8*c+1)),by omega,by omega⟩
 ·rw[show p7 3=16 from rfl];exact⟨by omega,4*b2 (bt b (8*c+0))+2*b2 (bt b (8*c+1))+b2 (bt b (8*c+2)),by omega,by omega⟩
 ·rw[show p7 4=8 from rfl];exact⟨by omega,8*b2 (bt b (8*c+0))+4*b2 (bt b (8*c+1))+2*b2 (bt b (8*c+2))+b2 (bt b (8*c+3)),by omega,by omega⟩
 ·rw[show p7 5=4 from rfl];exact⟨by omega,16*b2 (bt b (8*c+0))+8*b2 (bt b (8*c+1))+4*b2 (bt b (8*c+2))+2*b2 (bt b (8*c+3))+b2 (bt b (8*c+4)),by omega,by omega⟩
 ·rw[show p7 6=2 from rfl];exact⟨by omega,32*b2 (bt b (8*c+0))+16*b2 (bt b (8*c+1))+8*b2 (bt b (8*c+2))+4*b2 (bt b (8*c+3))+2*b2 (bt b (8*c+4))+b2 (bt b (8*c+5)),by omega,by omega⟩
 ·rw[show p7 7=1 from rfl];exact⟨by omega,64*b2 (bt b (8*c+0))+32*b2 (bt b (8*c+1))+16*b2 (bt b (8*c+2))+8*b2 (bt b (8*c+3))+4*b2 (bt b (8*c+4))+2*b2 (bt b (8*c+5))+b2 (bt b (8*c+6)),by omega,by omega⟩
def EO(b a):kX (b++[a])=(if b.length%8=0 then kX b++[0] else kX b).set (b.length/8) (AN b (b.length/8)+b2 a*p7 (b.length%8)):=by
 apply oB;intro c;rw[uf,BH]
 have d:(if b.length%8=0 then kX b++[0] else kX b).length=(b.length+8)/8:=by
  split<;> simp[lH]<;> omega
 rw[d];simp only[aJ,eu,List.length_nil]
 by_cases e:b.length/8=c
 ·subst e
  rw[if_pos (by omega),if_pos rfl,if_pos (by omega),(xg b a).1]
 ·rw[if_neg e]
  have e:c<b.length/8->AN (b++[a]) c=AN b c:=fun f=>QU fun g h=>by rw[Ny,if_pos (by omega)]
  by_cases a:c<b.length/8
  ·rw[if_pos (by omega),e a]
   split
   ·rw[bo (by rw[lH];omega),BH,if_pos (by omega)]
   ·rw[BH,if_pos (by omega)]
  ·rw[if_neg (by omega),de (by rw[d];omega)]
def Oo(a:List Bool):List Int:=if a.length%8=0 then kX a++[0] else kX a
def On(a):(Oo a).length=(a.length+8)/8:=by unfold Oo;split<;> simp[lH]<;> omega
def SS(a):(Oo a)[a.length/8]?=M (AN a (a.length/8)):=by
 unfold Oo;split
 ·rw[aU (by rw[lH];omega),show a.length/8-(kX a).length=0 by rw[lH];omega]
  have b:∀c,bt a (8*(a.length/8)+c)=av:=fun d=>Nx (by omega)
  unfold AN;rw[b 0,b 1,b 2,b 3,b 4,b 5,b 6,b 7];rfl
 ·rw[BH,if_pos (by omega)]
def Om(a b):kX (a++[b])=(Oo a).set (a.length/8) (AN a (a.length/8)+b2 b*p7 (a.length%8)):=EO a b
def J1{m}(a:m<8):1<=p7 m/\p7 m<=128:=by
 rcases(show m=0\/m=1\/m=2\/m=3\/m=4\/m=5\/m=6\/m=7 by omega) with rfl|rfl|rfl|rfl|rfl|rfl|rfl|rfl<;> decide
def jC:Nat->Nat->List Bool
 |0,_=>[]
 |a+1,b=>(b/2^a%2==1)::jC a b
def fX(a b):(jC a b).length=a:=by induction a with
 |zero=>rfl
 |succ a b=>simp[jC,b]
def valB(a:List Bool):Nat:=a.foldl (fun b c=>2*b+c.toNat) 0
def Fh(a b):a.foldl (fun c d=>2*c+d.toNat) b=2^a.length*b+valB a:=by
 unfold valB
 induction a generalizing b with
 |nil=>simp
 |cons a b c=>simp only[List.foldl_cons,eu];rw[c,c (2*0+a.toNat),vz,zS,zS];simp[nB,qX]
def PQ(a b):valB (a++[b])=2*valB a+b.toNat:=by simp[valB,List.foldl_append]
def O5(a):valB a<2^a.length:=by
 induction a with
 |nil=>simp[valB]
 |cons a b c=>
  have:valB (a::b)=2^b.length*a.toNat+valB b:=by have:=Fh b (2*0+a.toNat);simpa[valB] using this
  rw[this,eu,vz];cases a<;> simp<;> omega
def Sb(a b):valB (jC a b)=b%2^a:=by
 induction a with
 |zero=>simp[jC,valB,Nat.mod_one]
 |succ a c=>
  have d:=Fh (jC a b) ((b/2^a%2==1).toNat)
  have e:valB (jC (a+1) b)=2^a*(b/2^a%2==1).toNat+valB (jC a b):=by
   rw[fX] at d;rw[<-d];simp[valB,jC]
  rw[e,c,vz,Nat.mod_mul]
  have:(b/2^a%2==1).toNat=b/2^a%2:=by
   have:=rZ (b/2^a) (show 0<2 by omega);rcases(show b/2^a%2=0\/b/2^a%2=1 by omega) with c|c<;> rw[c]<;> rfl
  rw[this];omega
def Sf(a b i:Nat)(c:i<a):(jC a b).take (i+1)=(jC a b).take i++[(b/2^(a-1-i)%2==1)]:=by
 induction a generalizing i with
 |zero=>omega
 |succ d e=>
  cases i with
  |zero=>simp[jC]
  |succ f=>
   simp only[jC,cZ,List.cons_append];rw[e f (by omega),show d+1-1-(f+1)=d-1-f by omega]
end Go.Top
namespace Go.Proofs.YtbdhieahnneebaaGreatDoor
open Go.RowKit Go.Top
section
structure Wr(w:T)(B g:Nat)(R:Option Nat)(l:List Bool):Prop where
 ex:∃a,R=a.ownBlock/\Bx w g 301 #[a,J E l.length]/\jX w B 5 a (kX l)
 ne:R≠M g
 ge:B<=g
structure fO(w w':T)(g:Nat)(R:Option Nat):Prop where
 os:w'.os=w.os
 tape:w'.tape=w.tape
 output:w'.output=w.output
 size:w.heap.size<=w'.heap.size
 block:∀a,a<w.heap.size->a≠g->R≠M a->w'.heap[a]?=w.heap[a]?
def Rn(w:T)(R a:Option Nat):Prop:=∀b,b<w.heap.size->R≠M b->a≠M b
def Rn.refl(w R):Rn w R R:=fun _ _ a=>a
def Rn.trans{w w' R a b}(c:Rn w R a)(d:Rn w' a b)(e:w.heap.size<=w'.heap.size):Rn w R b:=fun f g h=>d f O (c f g h)
def fO.refl(w g R):fO w w g R:=⟨rfl,rfl,rfl,aw _,fun _ _ _ _=>rfl⟩
def fO.trans{a b c g R d}(e:fO a b g R)(f:fO b c g d)(h:Rn a R d):fO a c g R:=
 ⟨f.os.trans e.os,f.tape.trans e.tape,f.output.trans e.output,aY e.size f.size,fun a b c d=>(f.block a (dU e.size) c (h a b d)).trans (e.block a b c d)⟩
def fO.below{B w w' g R l}(b:fO w w' g R)(c:Wr w B g R l)(a:B<=w.heap.size):bj B w w':=
 ⟨b.os,b.tape,b.output,b.size,fun a d=>b.block a O (dU c.ge) (fun e=>by
  obtain⟨b,d,_,f⟩:=c.ex;have:=(f.lt a (by rw[<-d,e])).1;omega)⟩
def fO.bS{w w'}(g R)(a:bj w.heap.size w w'):fO w w' g R:=⟨a.os,a.tape,a.output,a.size,fun b c _ _=>a.block b c⟩
def Bx.G{w w' g a R b c}(d:Bx w a b c)(e:fO w w' g R)(f:a≠g)(h:R≠M a):Bx w' a b c:=d.K (e.block a d.lt f h)
def fO.set{w b g R}(c:fO w b g R){a}(d:a.block=g\/R=M a.block)(e):fO w (b.setCell a e) g R:=
 ⟨c.os,c.tape,c.output,by simpa[gS] using c.size,fun f h i l=>(eF b a e f (fun n=>by rcases d with o|o<;> simp_all)).trans (c.block f h i l)⟩
def fO.drewN{w a g R}(b:fO w a g R)(c):fO w (a.drewN c) g R:=⟨b.os,b.tape,b.output,b.size,b.block⟩
section
variable {w w':T} {B g:Nat} {R:Option Nat} {l:List Bool}
def Wr.ext(a:Wr w B g R l)(b:bj w.heap.size w w'):Wr w' B g R l:=by
 obtain⟨⟨c,d,e,f⟩,h,i⟩:=a;exact⟨⟨c,d,e.ext b,f.ext b⟩,h,i⟩
def Wr.lt(a:Wr w B g R l):g<w.heap.size:=by obtain⟨⟨_,_,b,_⟩,_⟩:=a;exact b.lt
def Wr.alloc(a:Wr w B g R l)(o):Wr (w.alloc o) B g R l:=a.ext ((aM _ _).alloc (aw _) _)
def Wr.C(b:Wr w B g R l){a}(c:a.block≠g)(e:R≠M a.block)(d):Wr (w.setCell a d) B g R l:=by
 obtain⟨⟨f,h,i,n⟩,o,p⟩:=b;refine⟨⟨f,h,i.C (xW c) d,n.grown (row:=M a.block) ⟨rfl,rfl,rfl,by simp[gS],fun b _ q=>eF w a d b (fun r=>q (by rw[r]))⟩ ?_⟩,o,p⟩;exact .inr (D8 h e)
end
def Rn.new{w B g R l}(b:Wr w B g R l){k}(a:w.heap.size<=k):k≠g/\R≠M k:=by
 have:=b.lt;obtain⟨a,c,_,d⟩:=b.ex;exact⟨by omega,fun a=>by have:=(d.lt k (by rw[<-c,a])).2;omega⟩
def AQ(w):aT aE 126 #[] w fun a w'=>a=aK (aD (M ⟨w.heap.size,0,S⟩))/\w'=w.alloc (az #[af S 0 0,J E 0] 301):=by
 go_enter func126,ntmps126;go_wp2;go_ret;exact⟨rfl,rfl⟩
def Wr.new(w:T)(B)(a:B<=w.heap.size):Wr (w.alloc (az #[af S 0 0,J E 0] 301)) B w.heap.size S []:=
 ⟨⟨af S 0 0,rfl,Bx.new _ _ _,jX.nil⟩,by simp,a⟩
end
end Go.Proofs.YtbdhieahnneebaaGreatDoor
namespace Go.Proofs.YtbdhieahnneebaaGreatDoor
open Go
section
variable {P:nt} {ops:Array cQ} {Q:Exit->Act->T->Prop} {md:xo}
def Aa2(a:Nat->Bool)(i:Nat):Nat->Bool:=fun b=>if b=i then aB else a b
def uK:List cQ->Nat->List Nat->Bool
 |[],_,_=>aB
 |a::b,c,d=>match a.dst with
  |none=>uK b c d
  |some a=>decide (a<c)&& !d.contains a&&uK b c (a::d)
def si:∀{l:List cQ}{a:Nat}{b:List Nat},uK l a b=aB->
  (∀(c:Nat)(d:cQ)(e:Nat),l[c]?=M d->d.dst=M e->e<a/\e ∉ b)/\∀(i f:Nat)(g h:cQ)(n:Nat),l[i]?=M g->l[f]?=M h->g.dst=M n->h.dst=M n->i=f
 |[],_,_,_=>⟨by simp,by simp⟩
 |a::b,c,d,e=>by
  unfold uK at e;cases hd:a.dst with
  |none=>
   rw[hd] at e;obtain⟨a,c⟩:=si (l:=b) e;refine⟨fun f g h n o=>?_,fun p q r s h t u v w=>?_⟩
   ·cases f with
    |zero=>simp at n;subst n;rw[hd] at o;cases o
    |succ f=>exact a f g h (jP n) o
   ·cases p with
    |zero=>simp at t;subst t;rw[hd] at v;cases v
    |succ a=>
     cases q with
     |zero=>simp at u;subst u;rw[hd] at w;cases w
     |succ f=>rw[c a f r s h (jP t) (jP u) v w]
  |some a=>
   rw[hd] at e;simp only[bT,decide_eq_true_eq,RQ] at e;obtain⟨⟨c,f⟩,g⟩:=e;obtain⟨e,h⟩:=si (l:=b) g;have b:a ∉ d:=by simpa using f
   refine⟨fun d f g n o=>?_,fun p q r s g t u v w=>?_⟩
   ·cases d with
    |zero=>simp at n;subst n;rw[hd] at o;cases o;exact⟨c,b⟩
    |succ b=>
     obtain⟨c,d⟩:=e b f g (jP n) o;exact⟨c,fun b=>d (yd _ b)⟩
   ·cases p with
    |zero=>
     simp at t;subst t;rw[hd] at v;cases v;cases q with
     |zero=>rfl
     |succ b=>exact absurd (DD ..) (e b s a (jP u) w).2
    |succ b=>
     cases q with
     |zero=>
      simp at u;subst u;rw[hd] at w;cases w;exact absurd (DD ..) (e b r a (jP t) v).2
     |succ a=>rw[h b a r s g (jP t) (jP u) v w]
def VU(a:Nat->aq)(i:Nat)(b:aq):Nat->aq:=fun c=>if c=i then b else a c
structure mA(b:List cQ)(a:Act)(c:Nat->Bool)(d:Nat->aq)(e:Act):Prop where
 defers:e.defers=a.defers
 size:e.tmps.size=a.tmps.size
 same:∀f:Nat,(∀(g:Nat)(h:cQ),b[g]?=M h->h.dst≠M f)->e.tmps[f]?=a.tmps[f]?
 YJ:∀(a:Nat)(f:cQ)(g:Nat),c a=aB->b[a]?=M f->f.dst=M g->e.tmps[g]?=M (d a)
def mA.start(a b c):mA a b (fun _=>av) c b:=⟨rfl,rfl,fun _ _=>rfl,fun _ _ _ d=>by cases d⟩
def mA.put{a b c d e i h}(n:mA a b d e c)(g:uK a b.tmps.size []=aB)(l:a[i]?=M h)(f):
  mA a b (Aa2 d i) (VU e i f) (c.put h.dst f):=by
 obtain⟨a,b⟩:=si g;cases hod:h.dst with
 |none=>
  refine⟨n.defers,n.size,n.same,fun c d e f g o=>?_⟩
  by_cases p:c=i
  ·subst p
   have:d=h:=Option.some.inj (g.symm.trans l);subst this;rw[hod] at o;cases o
  ·simp only[Aa2,VU,if_neg p] at f ⊢
   exact n.YJ c d e f g o
 |some c=>
  refine⟨n.defers,by simp[ak,n.size],fun d e=>?_,fun f g o p q r=>?_⟩
  ·have:c≠d:=fun s=>e i h l (by rw[hod,s])
   simp[ak,this,n.same d e]
  ·by_cases d:f=i
   ·subst d
    have:g=h:=Option.some.inj (q.symm.trans l);subst this;rw[hod] at r;cases r;have:=(a f g c l hod).1;simp[ak,VU,n.size,this]
   ·simp only[Aa2,VU,if_neg d] at p ⊢
    have a:c≠o:=fun e=>d (b f i g h o q l r (by rw[hod,e]))
    simp only[ak,Array.getElem?_setIfInBounds,if_neg a];exact n.YJ f g o p q r
def mA.at_{e a b c d}(f:mA e a c d b)(k){g:Nat}(h:c k=aB)(i:(e[k]?).bind (·.dst)=M g):b.eval (aI g)=d k:=by
 cases ho:e[k]? with
 |none=>rw[ho] at i;cases i
 |some a=>
  rw[ho] at i;have:=f.YJ k a g h ho (jP i);simp[Afl,this]
def Ox:List cQ->Nat->Bool
 |[],_=>aB
 |a::b,c=>decide (a.dst≠M c)&&Ox b c
def F0:∀{a:List cQ}{b:Nat},Ox a b=aB->∀(c:Nat)(d:cQ),a[c]?=M d->d.dst≠M b
 |[],_,_,a,b,c=>by simp at c
 |a::b,c,d,e,f,g=>by
  simp only[Ox,bT,decide_eq_true_eq] at d;cases e with
  |zero=>simp at g;subst g;exact d.1
  |succ a=>exact F0 d.2 a f (jP g)
def mA.Ru{a b c d e}(f:mA a b d e c)(g)(h:Ox a g=aB):c.eval (aI g)=b.eval (aI g):=by
 have:=f.same g (F0 h);simp[Afl,this]
def yw(a:Nat->aq):List cQ->Nat->Act->Act
 |[],_,b=>b
 |b::c,d,e=>yw a c (d+1) (e.put b.dst (a d))
def EF(a):∀(b:List cQ)(c:Nat)(d:Act),(yw a b c d).tmps.size=d.tmps.size/\(yw a b c d).defers=d.defers
 |[],_,_=>⟨rfl,rfl⟩
 |b::c,d,e=>by
  have f:=EF a c (d+1) (e.put b.dst (a d));refine⟨f.1.trans ?_,f.2.trans ?_⟩<;> cases b.dst<;> simp[ak]
def vV(a):∀(b:List cQ)(c:Nat)(d:Act)(e:Nat),(∀(f:Nat)(g:cQ),b[f]?=M g->g.dst≠M e)->(yw a b c d).tmps[e]?=d.tmps[e]?
 |[],_,_,_,_=>rfl
 |b::c,d,e,f,g=>by
  rw[yw,vV a c (d+1) _ f (fun e h i=>g (e+1) h (jP i))];have a:=g 0 b dS;cases hd:b.dst with
  |none=>rfl
  |some b=>
   have:b≠f:=fun c=>a (by rw[hd,c])
   simp[ak,this]
def KK(a):∀(b:List cQ)(c:Nat)(d:Act)(e:List Nat),uK b d.tmps.size e=aB->∀(f:Nat)(g:cQ)(h:Nat),b[f]?=M g->g.dst=M h->(yw a b c d).tmps[h]?=M (a (c+f))
 |[],_,_,_,_,b,c,d,e,_=>by simp at e
 |b::c,d,e,f,g,h,i,l,n,o=>by
  have f:=si g;cases h with
  |zero=>
   simp at n;subst n
   rw[yw,vV a c (d+1) _ l (fun h p q r=>by
    have:=f.2 0 (h+1) b p l dS (jP q) o r;omega)]
   have:=(f.1 0 b l dS o).1;simp[ak,o,this]
  |succ f=>
   have h:∃p,uK c e.tmps.size p=aB:=by
    unfold uK at g;cases ho:b.dst with
    |none=>rw[ho] at g;exact⟨_,g⟩
    |some p=>rw[ho] at g;simp only[bT] at g;exact⟨_,g.2⟩
   obtain⟨g,p⟩:=h;have h:(e.put b.dst (a d)).tmps.size=e.tmps.size:=by cases b.dst<;> simp[ak]
   rw[yw,KK a c (d+1) _ g (eZ h p) f i l (jP n) o];congr 2;omega
def mA.all{f g b a h}(e:mA f g a h b)(d:uK f g.tmps.size []=aB)(c:∀i,i<f.length->a i=aB):b=yw h f 0 g:=by
 obtain⟨a,l⟩:=EF h f 0 g;cases b with
 |mk tmps defers=>
 cases hp:yw h f 0 g with
 |mk tmps' defers'=>
 rw[hp] at a l;have a:defers=defers':=e.defers.trans l.symm
 have b:tmps=tmps':=by
  apply Array.ext_getElem?;intro l
  by_cases n:∃(o:Nat)(p:cQ),f[o]?=M p/\p.dst=M l
  ·obtain⟨o,p,q,r⟩:=n
   have s:=e.YJ o p l (c o (aP.1 q).1) q r;have c:=KK h f 0 g [] d o p l q r;rw[hp,oD] at c;exact s.trans c.symm
  ·have c:∀(d:Nat)(o:cQ),f[d]?=M o->o.dst≠M l:=fun p q r s=>n ⟨p,q,r,s⟩
   have d:=e.same l c;have e:=vV h f 0 g l c;rw[hp] at e;exact d.trans e.symm
 rw[a,b]
end
end Go.Proofs.YtbdhieahnneebaaGreatDoor
namespace Go.Proofs.YtbdhieahnneebaaGreatDoor
open Go
section
variable {P:nt} {Q:Exit->Act->T->Prop}
end
end Go.Proofs.YtbdhieahnneebaaGreatDoor
namespace Go.Proofs.YtbdhieahnneebaaGreatDoor
open Go
section
variable {P:nt} {ops:Array cQ} {Q:Exit->Act->T->Prop}
end
end Go.Proofs.YtbdhieahnneebaaGreatDoor
namespace Go.Proofs.YtbdhieahnneebaaGreatDoor
open Go
section
variable {P:nt} {Q:Exit->Act->T->Prop}
end
end Go.Proofs.YtbdhieahnneebaaGreatDoor
namespace Go.Proofs.YtbdhieahnneebaaGreatDoor
open Go
section
variable {P:nt} {Q:Exit->Act->T->Prop}
end
end Go.Proofs.YtbdhieahnneebaaGreatDoor
namespace Go.Proofs.YtbdhieahnneebaaGreatDoor
open Go
section
variable {P:nt} {Q:Exit->Act->T->Prop}
def mA.congr{a b c d e f}(g:mA a b d e c)(h:∀i,i<a.length->d i=aB->f i=e i):mA a b d f c:=
 ⟨g.defers,g.size,g.same,fun a b c d e f=>by rw[h a (aP.1 e).1 d];exact g.YJ a b c d e f⟩
end
end Go.Proofs.YtbdhieahnneebaaGreatDoor
namespace Go.Proofs.YtbdhieahnneebaaGreatDoor
open Go.RowKit
def jX.C{g b c d e a}(f:jX g b c d e)(h:d.ownBlock≠M a.block)(i):jX (g.setCell a i) b c d e:=by
 refine⟨f.1,?_⟩;rcases f.2 with b|⟨c,d,e,rfl,l,n,o⟩
 ·exact .inl b
 ·exact .inr ⟨c,d,e,rfl,l,(eF g a i c (fun b=>h (by rw[<-b];rfl))).trans n,o⟩
def jX.low{a b c d e f}(h:jX a b c d e)(g:f.block<b)(i):jX (a.setCell f i) b c d e:=
 h.C (fun a=>by have:=(h.lt _ a).1;omega) i
def jX.form{c d a e f}(g:jX c d a e f)(b:0<f.length):
  ∃h i,e=af (M ⟨h,0,S⟩) f.length i/\d<=h/\h<c.heap.size/\f.length<=i/\(∀l n,f[l]?=M n->c.cell? ⟨h,l,S⟩=M (J .u8 n))/\(∀o,c.frozen? ⟨h,o,S⟩=av):=by
 have a:=g;rcases g.2 with⟨_,b⟩|⟨c,d,e,rfl,f,h,i,l,n,o⟩
 ·omega
 ·refine⟨c,d,rfl,f,(a.lt c rfl).2,i,fun b e g=>?_,fun l=>by simp[RK,h]⟩
  have:=Ii a (g:=c) rfl b (J .u8 e) (by rw[bN,g];rfl);have a:(⟨c,0,S⟩:Addr).add b=⟨c,b,S⟩:=by unfold Addr.add;split<;> simp_all
  rwa [a] at this
def jX.L{b c d e f g h}(a:jX b c d (af (M ⟨e,0,S⟩) f g) h)(i)(l:i<h.length)(n):
  jX (b.setCell ⟨e,i,S⟩ (J .u8 n)) c d (af (M ⟨e,0,S⟩) f g) (h.set i n):=by
 rcases a.2 with⟨o,_⟩|⟨p,q,r,s,t,u,v,w,x,y⟩
 ·cases o
 ·injection s with a o z
  injection a with s;injection s with a;subst a o z;refine⟨by simp,.inr ⟨e,g,r.setIfInBounds i (J .u8 n),by rw[ee],t,?_,by rw[ee];exact v,w,by simpa using x,?_⟩⟩
  ·simp[gS,qF,u]
  ·rw[ee,Mn] at*
   rw[Array.toList_setIfInBounds,List.take_set,y,List.map_set]
def Ci(a:Nat)(b:Nat)(c:List Int)(d:aq)(e:T):Prop:=∃f g,d=af f b g/\b<=g/\du (a<=·) e f b c/\(0<b->jX e a 5 d c)
def Rk(a b:aq):Prop:=∀c,a.ownBlock=M c->b.ownBlock≠M c
def Ci.ext{a b c d e f}(g:Ci a b c d e)(h:bj e.heap.size e f):Ci a b c d f:=by
 obtain⟨a,b,rfl,c,d,e⟩:=g;exact⟨a,b,rfl,c,d.ext h,fun f=>(e f).ext h⟩
def pe{c a d b}:∀(e:List cQ)(f:Act),kL c a (fun g=>g=d) b e f->wpStill c a d b e f
 |[],a,b=>b
 |a::b,e,f=>by
  unfold kL at f;unfold wpStill;split at f
  ·rw[if_pos (by assumption)]
   obtain⟨g,h,i⟩:=f;have l:=h d rfl;have h:=pe b _ i;unfold nQ at l;unfold Oper.still;generalize (VI e.eval a).run c d=i at l
   unfold yJ at l;unfold Oper.stillUpon;split at l
   ·obtain⟨rfl,rfl⟩:=l;exact⟨rfl,h⟩
   ·obtain⟨rfl,rfl⟩:=l;exact⟨rfl,h⟩
   ·obtain⟨rfl,a⟩:=l;exact⟨rfl,g,a,h⟩
   ·exact l.elim
  ·rw[if_neg (by assumption)]
   exact pe b _ f
def cH{a b c d e}{f:List cQ}(g)(h:a.follows .mixedOrders=aB)(i:Region.lexTailB .any f.toArray g=aB)
  (l:kL a f.toArray (fun n=>n=e.drewN 1) (fun o=>cG a f.toArray c (f.drop g) o (e.drewN 1)) (f.take g) d):(Afw b f.toArray aB).wp a c d e:=
 wp_region_still_tail g h i (pe _ _ l)
open Go.Top
def Rl(a:T)(b c:Nat)(d:Option Nat)(e:List Bool)(f:Ending)(g:T):Prop:=∃h,f=aK (J E 0)/\Wr g b c h e/\fO a g c d/\Rn a d h
def Wm(a b c:Nat)(d:c<b):(a:Int)/2^(b-1-c)%2=b2 (a/2^(b-1-c)%2==1):=by
 have e:(a:Int)/2^(b-1-c)=((a/2^(b-1-c):Nat):Int):=by push_cast;rfl
 rw[e];have:=rZ (a/2^(b-1-c)) (show 0<2 by omega);generalize a/2^(b-1-c)=f at*
 rcases(show f%2=0\/f%2=1 by omega) with g|g<;> simp[b2,g]<;> omega
def Yp(l n:Nat)(f:Option Nat)(h:List Bool)(i o:Nat)(g:T)(c:Wr g l n f h)(d:o<=32)(e:i<2^o)(a:h.length<=90000000)(b:l<=g.heap.size):
  aT aE 127 #[aD (M ⟨n,0,S⟩),J .u32 i,J E o] g (Rl g l n f (h++jC o i)):=by
 have a:=aH c;clear c;have b:fj (i<4294967296):=aH (Nat.lt_of_lt_of_le e (by have:=yK (show 0<2 by omega) d;simpa using this))
 have c:((i:Int)/2^o !=0)=av:=by
  have d:(i:Int)/2^o=((i/2^o:Nat):Int):=by push_cast;rfl
  rw[d,YV e];rfl
 go_enter func127,ntmps127;go_wp2;clear c e
 go_loopw [24] (fun c wr=>∃(d:Nat)(e:Option Nat),d<=o/\c=J E d/\fj (Wr wr l n e (h++(jC o i).take d))/\fO g wr n f/\Rn g f e) (fun p _=>o-(intOf p).toNat)
 case atStart=>exact⟨0,f,by omega,rfl,by simpa using a,fO.refl _ _ _,Rn.refl _ _⟩
 case round=>
  obtain⟨a,c,d,rfl,e,p,q⟩:=hrel
  by_cases d:a<o
  ·obtain⟨r,s⟩:=aX (h++(jC o i).take a)
   have t:r.length=h.length+a:=by rw[s];simp[fX];omega
   rw[<-s] at e;have u:h++(jC o i).take (a+1)=r++[(i/2^(o-1-a)%2==1)]:=by rw[Sf o i a d,<-aW,s]
   have v:=Wm i o a d;obtain⟨d,w⟩:=aX r.length;obtain⟨⟨x,y,z,H⟩,U,V⟩:=e.o;rw[<-w] at z;have W:=z.cell 0 rfl;have W:=z.cell 1 rfl;have W:=z.frozen 0;have W:=z.frozen 1;have W:=z.lt;obtain⟨W,Y,a0,a1⟩:=dq s u w y;have W:d<=90000040:=O;have W:(kX r).length<=20000000:=by rw[lH];omega
   have W:=p.size;clear s u t w y;go_upto_if 32 with fail;go_cut [24] from 32 to 41 (fun s t=>s=J E a/\∃u,Bx t n 301 #[u,J E d]/\jX t l 5 u (Oo r)/\u.ownBlock≠M n/\fO g t n f/\Rn g f u.ownBlock)
   case first=>
    by_cases f:d%8=0
    ·have g:((d:Int)%8==0)=aB:=by simp;omega
     have g:Oo r=kX r++[0]:=by unfold Oo;rw[if_pos (D8 a0.o f)]
     have s:=aH g;clear g;have g:x.ownBlock≠M n:=by rw[<-a1.o];exact U
     go_wp2_with (first|(at_builtin;go_must (refine jw _ rfl (aI 37) (aI 38) 54 rfl 5 dw iY l x (kX r) rfl (H.alloc _) (M ⟨wr.heap.size,0,S⟩) 1 1 [0] rfl (du.one wr 5 0 dD dD) O eB ?_;intro t w1 hown' hgr hrow;obtain⟨A',c',rfl,u⟩:=hown'.slice;have hx1:=(z.alloc (az #[J .u8 0] 5)).grown hgr (xW g);have w:=hx1.cell 0 rfl;have y:=hx1.cell 1 rfl;have W:=hx1.frozen 0;have a2:=hx1.lt)));go_meet;have t:(kX r++[0]).length=(kX r).length+1:=by simp
     rw[t] at hown' hrow;have t:wr.heap.size<=w1.heap.size:=by have:=hgr.size;simp at this;omega
     have u:fO wr (w1.setCell ⟨n,0,S⟩ (af A' ((kX r).length+1) c')) n x.ownBlock:=
      ⟨by rw[gS];exact hgr.os,by rw[gS];exact hgr.tape,by rw[gS];exact hgr.output,by simpa[gS] using t,fun w y W a2=>
       (eF w1 _ _ w W).trans ((hgr.block w eB (fun t=>a2 t.symm)).trans (qd wr _ w y))⟩
     have t:(af A' ((kX r).length+1) c').ownBlock≠M n:=by
      rcases hrow with w|w
      ·rw[w];exact g
      ·rw[w];simp;omega
     refine⟨rfl,af A' ((kX r).length+1) c',hx1.L 0 _,by rw[s.o];exact hown'.C t _,t,p.trans (eZ a1.o u) q,fun g w y=>?_⟩;rcases hrow with s|s
     ·rw[s,<-a1.o];exact q g w y
     ·rw[s];simp;omega
    ·have g:((d:Int)%8==0)=av:=by simp;omega
     have g:Oo r=kX r:=by unfold Oo;rw[if_neg (D8 a0.o f)]
     have f:=aH g;clear g;go_wp2;go_meet;exact⟨rfl,x,z,by rw[f.o];exact H,by rw[<-a1.o];exact U,p,by rw[<-a1.o];exact q⟩
   case rest=>
    obtain⟨rfl,f,g,s,t,u,w⟩:=hcut;have f:((o:Int)-1-a)=((o-1-a:Nat):Int):=O;obtain⟨f,x,rfl,y,z,H,U,W⟩:=s.form (iJ On);have y:=V;have z:(Oo r).length=(d+8)/8:=by rw[On,a0.o]
    rw[z] at s H g;obtain⟨H,V⟩:=aX (AN r (d/8));obtain⟨a1,a2⟩:=aX (b2 (i/2^(o-1-a)%2==1));have a3:=U (d/8) _ (eZ a0.o (SS r));rw[<-a0.o,<-V] at a3;obtain⟨a3,a4,a5,a6⟩:=xg r (i/2^(o-1-a)%2==1);have a4:=sk r (r.length/8);have a7:=Cd (i/2^(o-1-a)%2==1);have a8:=J1 (m:=r.length%8) O;rw[<-a0.o] at a5 a4 a8;rw[<-V] at a5 a4;rw[<-a2] at a7
    have a4:0<=a1*p7 (d%8)/\a1*p7 (d%8)<=p7 (d%8):=by
     rcases(show a1=0\/a1=1 by omega) with a8|a8<;> rw[a8]<;> omega
    have a8:bits .and .u32 ((i:Int)/2^(o-1-a)) 1=a1:=by
     have a8:(i:Int)/2^(o-1-a)=((i/2^(o-1-a):Nat):Int):=by push_cast;rfl
     rw[a2,<-v,a8,show(1:Int)=((1:Nat):Int) from rfl,u32_and_nat _ _ (Nat.lt_of_le_of_lt (Afr _ _) b.o) O,V6]
     push_cast
     rfl
    have b:a1*2^(7-d%8)%256=a1*p7 (d%8):=by
     rw[show(2:Int)^(7-d%8)=p7 (d%8) from rfl];omega
    have b:bits .or .u8 H (a1*p7 (d%8))=H+a1*p7 (d%8):=by
     rw[a5];exact Hd (8-d%8) _ _ _ (by unfold p7;rw[show 8-d%8=(7-d%8)+1 by omega,vz];push_cast;omega) a6 a4.1 O O O
    have b:f≠n:=fun v=>t (oz v)
    have t:=W (d/8);have t:=g.cell 0 rfl;have t:=g.cell 1 rfl;have t:=g.frozen 1;obtain⟨t,v,H,a4,a6⟩:=dZ g s a5 V a2;have H:0<=a1/\a1<=1:=O;clear U W g s a5 V a2 a7 a3;go_upto_region 11 with fail
    try simp only[sZ,ak]
    refine cH 21 dK dK ?_;simp only[cZ,dP,eN,eo]
    repeat(go_big_quiet_step (fail))
    refine aN ?_;go_wp2;have g:r++[(i/2^(o-1-a)%2==1)]=h++(jC o i).take (a+1):=Y.o.symm;have h:(r++[(i/2^(o-1-a)%2==1)]).length=d+1:=by rw[aJ,a0.o];rfl
    refine⟨⟨a+1,M f,by omega,by simp,aH ⟨⟨af (M ⟨f,0,S⟩) ((d+8)/8) x,rfl,?_,?_⟩,by simpa using b,y⟩,u.trans (((fO.refl wc n (M f)).drewN 1).set (.inr rfl) _ |>.set (.inl rfl) _) w,w⟩,by simp[intOf];omega⟩
    ·rw[<-g,h]
     exact((t.o.drewN 1).C (a:=⟨f,d/8,S⟩) (xW b) _).L 1 _
    ·rw[<-g,Om,<-a0.o,<-a4.o,<-a6.o]
     exact jX.C (a:=⟨n,1,S⟩) (jX.L (show jX (wc.drewN 1) l 5 _ _ from v.o) (d/8) (iJ z) _) (fun f=>b (by injection f)) _
  ·obtain rfl:a=o:=O
   rw[kN (eZ fX (aw a))] at e;go_wp2;go_ret;exact⟨c,rfl,e.o,p,q⟩
end Go.Proofs.YtbdhieahnneebaaGreatDoor
namespace Go.Top
def Yl(a i):AN a (i/8)/p7 (i%8)%2=b2 (bt a i):=by
 obtain⟨b,c⟩:∃d,d=i/8:=⟨_,rfl⟩;obtain⟨d,e⟩:∃f,f=i%8:=⟨_,rfl⟩;have f:i=8*b+d:=by omega
 have g:d<8:=by omega
 rw[<-c,<-e,f];clear c e f;have c:=fun e=>Cd (bt a (8*b+e))
 have a:=c 0;have b:=c 1;have e:=c 2;have f:=c 3;have g:=c 4;have h:=c 5;have l:=c 6;have n:=c 7;unfold AN;rcases(show d=0\/d=1\/d=2\/d=3\/d=4\/d=5\/d=6\/d=7 by omega) with rfl|rfl|rfl|rfl|rfl|rfl|rfl|rfl
 ·rw[show p7 0=128 from rfl];omega
 ·rw[show p7 1=64 from rfl];omega
 ·rw[show p7 2=32 from rfl];omega
 ·rw[show p7 3=16 from rfl];omega
 ·rw[show p7 4=8 from rfl];omega
 ·rw[show p7 5=4 from rfl];omega
 ·rw[show p7 6=2 from rfl];omega
 ·rw[show p7 7=1 from rfl];omega
def Se(a):jC a 0=aF a av:=by
 induction a with
 |zero=>rfl
 |succ a b=>simp[jC,b,lo]
def W9(a b c):jC a (b+c*2^a)=jC a b:=by
 induction a generalizing c with
 |zero=>rfl
 |succ a d=>
  simp only[jC];have e:b+c*2^(a+1)=b+c*2*2^a:=by rw[vz,nB,dh 2 (2^a)]
  rw[e,d (c*2),Nat.add_mul_div_right _ _ (RO (by omega))];congr 1;rw[show b/2^a+c*2=b/2^a+2*c by omega,Nat.add_mul_mod_self_left]
def lg(a:Nat):Nat:=Aff (a+1)
def DU(a):2^lg a<=a+1/\a+1<2^(lg a+1):=⟨Nat.log2_self_le (by omega),Nat.lt_log2_self⟩
def Tn{b}(a:b<=65534):lg b<=15:=by
 have:=(DU b).1
 by_cases a:lg b<=15
 ·exact a
 ·have:2^16<=2^lg b:=yK (by omega) (by omega)
  omega
def uv(a:Nat):List Bool:=jC (lg a) 0++jC (lg a+1) (a+1)
def Adp(a):uv a=aF (lg a) av++aB::jC (lg a) (a+1-2^lg a):=by
 obtain⟨b,c⟩:=DU a;unfold uv;rw[Se];congr 1;show(_::_)=_;have b:a+1=(a+1-2^lg a)+1*2^lg a:=by omega
 congr 1
 ·have:(a+1)/2^lg a=1:=by
   rw[vz] at c;have d:0<2^lg a:=RO (by omega);have e:=Nat.div_lt_of_lt_mul (show a+1<2^lg a*2 from c);have c:1<=(a+1)/2^lg a:=(Nat.le_div_iff_mul_le d).2 (by omega);omega
  simp[this]
 ·conv=>lhs;rw[b]
  exact W9 _ _ 1
def Em{v}(a:v<=65534):(uv v).length<=31:=by
 have:=Tn a;simp[uv,fX];omega
def fld(a:Int):Nat:=if a>0 then(2*a-1).toNat else(-2*a).toNat
def sv(a:Int):List Bool:=uv (fld a)
def Jq{a}(b:-32767<=a)(c:a<=32767):fld a<=65534:=by unfold fld;split<;> omega
def TZ(a):(fld a%2=1/\((fld a:Int)+1)/2=a)\/(fld a%2=0/\-((fld a:Int)/2)=a):=by
 unfold fld;split
 ·exact .inl (by omega)
 ·exact .inr (by omega)
def En{v}(a:-32767<=v)(b:v<=32767):(sv v).length<=31:=Em (Jq a b)
def blk:Nat->List Int->List Bool
 |_,[]=>uv 0
 |a,b::c=>if b=0 then blk (a+1) c else uv a++sv b++blk 1 c
def JF(a:Nat)(b:List Int)(c:a+b.length<=66)(d:∀e∈b,-4095<=e/\e<=4095):(blk a b).length<=62*b.length+31:=by
 induction b generalizing a with
 |nil=>simp only[blk];have:=Em (v:=0) (by omega);omega
 |cons e f g=>
  simp only[blk,eu] at*;split
  ·have:=g (a+1) (by omega) (fun h i=>d h (yd _ i));omega
  ·have:=g 1 (by omega) (fun h i=>d h (yd _ i))
   have h:=Em (v:=a) (by omega);have i:=d e (DD ..);have l:=En (v:=e) (by omega) (by omega);simp only[aJ];omega
end Go.Top
namespace Go.Proofs.YtbdhieahnneebaaGreatDoor
section
open Go.Shelf
def OG:Go.Shelf.Ren:=⟨fun|125=>97|128=>148|129=>149|136=>214|a=>a,fun|53=>224|51=>230|3=>3|4=>4|46=>191|5=>5|9=>9|b=>b,fun|c=>c⟩
def VZ:Go.Proofs.Lays.n136 aE OG:={
 mixed:=dK
 f136:=Tryz.func214.trans (congrArg M dK)
 t3:=bJ
 a3:=isAgg3
 z3:=sizeOf3
 v3:=Ij
 t5:=pM
 a5:=isAgg5
 z5:=sizeOf5
 v5:=zeroValue5
 t9:=Px
 a9:=isAgg9
 z9:=sizeOf9
 v9:=zeroValue9}
def L7:Go.Proofs.Lays.n125 aE OG:={
 mixed:=dK
 f125:=Tryz.func97.trans (congrArg M dK)
 f128:=Tryz.func148.trans (congrArg M dK)
 f129:=Tryz.func149.trans (congrArg M dK)
 t3:=bJ
 a3:=isAgg3
 z3:=sizeOf3
 v3:=Ij
 t4:=underlying4
 a4:=isAgg4
 z4:=sizeOf4
 v4:=zeroValue4
 t5:=pM
 a5:=isAgg5
 z5:=sizeOf5
 v5:=zeroValue5
 t9:=Px
 a9:=isAgg9
 z9:=sizeOf9
 v9:=zeroValue9
 t46:=underlying191
 a46:=isAgg191
 z46:=sizeOf191
 v46:=zeroValue191
 t51:=underlying230
 a51:=isAgg230
 z51:=sizeOf230
 v51:=zeroValue230
 t53:=underlying224
 a53:=isAgg224
 z53:=sizeOf224
 v53:=zeroValue224}
def Uw(a b)(c:0<=a)(d:a<=255):
 aT aE 214 #[J .u8 a] b fun e f=>e=aK (J E (uS a.toNat))/\f=b:=Any.bits_TrailingZeros8 VZ a b c d
def NB:∀(a b:Nat),b<=a->0<b->b<2^64->Lib.bitLen b=Aff b+1:=by
 intro a
 induction a with
 |zero=>intro a b c;omega
 |succ a b=>
  intro a c d e;rw[Lib.bitLen_half a O e,Nat.log2_def];rcases Pv 1 a with c|c
  ·rw[if_pos O,b (a/2) O O O];omega
  ·have:a=1:=O
   subst this;decide
def Ux(c:Nat)(b)(d:1<=c)(a:c<=65535):
  aT aE 97 #[J .u64 c] b fun e f=>e=aK (J E (Aff c+1:Nat))/\f=b:=by
 have a:=Any.bits_Len L7 (c:Int) b O O;rw[jn,NB c c (aw _) d O] at a;exact a
end
open Go.RowKit Go.Top
def Aaq(a):p7 a=((2^(7-a):Nat):Int):=by unfold p7;push_cast;rfl
def W6(a b)(c:b<8)(d:a*2*2^(7-b)+2^(7-b)<256):uS (a*2*2^(7-b)+2^(7-b))=7-b:=by
 have e:∀f:Fin 128,∀g:Fin 8,f.val*2*2^(7-g.val)+2^(7-g.val)<256->uS (f.val*2*2^(7-g.val)+2^(7-g.val))=7-g.val:=by decide+kernel
 have:0<2^(7-b):=RO O
 have f:a<128:=by
  have g:a*2*1<=a*2*2^(7-b):=Nat.mul_le_mul_left _ this;omega
 exact e ⟨a,f⟩ ⟨b,c⟩ d
def QE(a):∃b:Int,AN (a++[aB]) (a.length/8)=b/\0<b/\b<=255/\uS b.toNat=7-a.length%8:=by
 obtain⟨b,c,d,e⟩:=xg a aB;have c:=sk (a++[aB]) (a.length/8);have f:a.length%8<8:=rZ _ O;have g:=J1 f;refine⟨_,rfl,?_,c.2,?_⟩
 ·have:=(sk a (a.length/8)).1
  rw[b];simp[b2];omega
 ·obtain⟨g,rfl⟩:=sF e
  have e:AN (a++[aB]) (a.length/8)=((g*2*2^(7-a.length%8)+2^(7-a.length%8):Nat):Int):=by
   rw[b,d,Aaq];simp[b2];rw[Int.mul_assoc]
  rw[e] at c ⊢;rw[jn];exact W6 g _ f O
def Wi(a):CH (aF (a.length/8+1) 0) 0 ((kX a).take (a.length/8+1))=Oo a:=by
 have b:=lH a;rw[kN O];unfold CH Oo;rw[dP,js,List.drop_replicate,b];split
 ·rw[show a.length/8+1-(0+(a.length+7)/8)=1 by omega];rfl
 ·rw[show a.length/8+1-(0+(a.length+7)/8)=0 by omega];simp
def SQ(b)(a:b<8):(128:Int)/2^b=p7 b:=by
 rcases(show b=0\/b=1\/b=2\/b=3\/b=4\/b=5\/b=6\/b=7 by omega) with rfl|rfl|rfl|rfl|rfl|rfl|rfl|rfl<;> rfl
def Aau(b a):bits .or .u8 (AN b (b.length/8)) (b2 a*p7 (b.length%8))=AN (b++[a]) (b.length/8):=by
 obtain⟨c,d,e,f⟩:=xg b a;have d:=sk b (b.length/8);have g:=Cd a;have g:b.length%8<8:=rZ _ O;have h:=J1 g;rw[c]
 have c:0<=b2 a*p7 (b.length%8)/\b2 a*p7 (b.length%8)<=p7 (b.length%8):=by
  rcases(show b2 a=0\/b2 a=1 by omega) with g|g<;> rw[g]<;> omega
 rw[e] at d ⊢;exact Hd (8-b.length%8) _ _ _ (by unfold p7;rw[show 8-b.length%8=(7-b.length%8)+1 by omega,vz];push_cast;omega) f c.1 O O O
def sB(a c b f g)(d:Wr g a c b f)(e:f.length<=90000000):
  aT aE 132 #[aD (M ⟨c,0,S⟩)] g (LU g (kX (f++[aB]))):=by
 obtain⟨⟨a,b,c,h⟩,i,l⟩:=d;obtain⟨a,b,rfl,d⟩:=h.slice;obtain⟨a,b⟩:=aX f.length;rw[<-b] at c;have d:=h.zA (p:=fun _=>True) (fun _ _=>trivial) (uC f);have i:(kX f).length=(a+7)/8:=by rw[lH,b]
 rw[i] at c d;have l:a%8<8:=rZ _ O;obtain⟨n,o⟩:=aQ b i;have o:=c.cell 0 rfl;have p:=c.cell 1 rfl;have q:=c.lt
 have q:∀r:T,(Be 54 (J E ((a:Int)/8+1)) (J E ((a:Int)/8+1))).run aE r=.ok (af (M ⟨r.heap.size,0,S⟩) (a/8+1) (a/8+1)) (r.alloc (r5 5 (a/8+1))):=fun s=>by
  have:=pS (P:=aE) (t:=54) dw iY (a/8+1) (a/8+1) (aw _) O s;simpa using this
 have r:a<=90000000:=O;clear b i h e;go_enter func132,ntmps132;go_upto_region 5 with(with_reducible refine qL (p:=fun _=>True) _ rfl _ _ _ rfl _ dw iY _ _ _ _ _ _ rfl rfl g.heap.size 0 _ (Bk.made g _ (a/8+1)) (kX f) (d.alloc _) (fun _=>rfl) dS ?_;intro w1 hB1 hg1);rw[n.o,Wi] at hB1;obtain⟨b,e⟩:=aX (AN f (a/8));have h:=sk f (a/8);have i:=Aau f aB;rw[<-n.o] at i;rw[<-e] at h i;have h:=(c.alloc (r5 5 (a/8+1))).grown hg1 eB;have r:=h.cell 0 rfl;have r:=h.cell 1 rfl;have h:=hB1.lt;have h:=hB1.frozen (a/8)
 have h:w1.cell? ⟨g.heap.size,a/8,S⟩=M (J .u8 b):=by
  rw[hB1.cell,e,n.o,SS];rfl
 have b:(128:Int)/2^(a%8)=p7 (a%8):=SQ _ l;have b:=J1 l;rw[show b2 aB=1 from rfl,Agn] at i;have b:bj g.heap.size g w1:=((aM _ _).alloc (aw _) _).grown hg1 dS (fun h i=>by injection i with l;omega);obtain⟨h,i,l⟩:=bh hB1 e b;clear o p hg1 hB1 e b q c d
 try simp only[sZ,ak]
 refine cH 16 dK dK ?_;simp only[cZ,dP,eN,eo]
 repeat(go_big_quiet_step (fail))
 refine aN ?_;go_wp2;go_ret;refine⟨_,_,_,rfl,?_,FD (FJ l.o 1) _ (aw _) _,aw _⟩;have b:=(show Bk (w1.drewN 1) _ _ _ from h.o).L (a/8) (AN (f++[aB]) (a/8));have c:(Oo f).set (a/8) (AN (f++[aB]) (a/8))=kX (f++[aB]):=by rw[Om,n.o,(xg f aB).1]
 rw[c] at b;have c:(kX (f++[aB])).length=a/8+1:=by rw[lH,aJ,<-n.o];simp;omega
 have:=b.zA (p:=(g.heap.size<=·)) (aw _) (uC _);rw[c] at this;exact this
section
structure Ud(w w':T)(a:Nat->Prop):Prop where
 os:w'.os=w.os
 tape:w'.tape=w.tape
 output:w'.output=w.output
 size:w.heap.size<=w'.heap.size
 block:∀b,b<w.heap.size->¬a b->w'.heap[b]?=w.heap[b]?
def Ud.refl(w a):Ud w w a:=⟨rfl,rfl,rfl,aw _,fun _ _ _=>rfl⟩
def Ud.trans{a b c d}(e:Ud a b d)(f:Ud b c d):Ud a c d:=
 ⟨f.os.trans e.os,f.tape.trans e.tape,f.output.trans e.output,aY e.size f.size,fun a b c=>(f.block a (dU e.size) c).trans (e.block a b c)⟩
def Ud.mono{a b c G'}(d:Ud a b c)(e:∀i,i<a.heap.size->c i->G' i):Ud a b G':=⟨d.os,d.tape,d.output,d.size,fun f g h=>d.block f g (fun l=>h (e f g l))⟩
def Ud.bS{w w' b}(a)(c:bj b w w')(d:∀i,b<=i->i<w.heap.size->a i):Ud w w' a:=
 ⟨c.os,c.tape,c.output,c.size,fun a e f=>c.block a (by by_cases g:a<b;exact g;exact absurd (d a O e) f)⟩
def Ud.below{w w' a B}(c:Ud w w' a)(b:B<=w.heap.size)(d:∀i,a i->B<=i):bj B w w':=
 ⟨c.os,c.tape,c.output,c.size,fun a b=>c.block a O (fun e=>by have:=d a e;omega)⟩
def Ud.drewN{w w' a}(b:Ud w w' a)(c):Ud w (w'.drewN c) a:=⟨b.os,b.tape,b.output,b.size,b.block⟩
def Ud.set{w w' b}(c:Ud w w' b){a}(d:b a.block)(e):Ud w (w'.setCell a e) b:=
 ⟨c.os,c.tape,c.output,by simpa[gS] using c.size,fun b f g=>(eF w' a e b (fun h=>g (h▸d))).trans (c.block b f g)⟩
def Ud.alloc{w w' a}(b:Ud w w' a)(o):Ud w (w'.alloc o) a:=
 ⟨b.os,b.tape,b.output,by have:=b.size;simp;omega,fun a c d=>(qd w' o a (dU b.size)).trans (b.block a c d)⟩
def Bx.ud{w w' a G b c}(d:Bx w a b c)(e:Ud w w' G)(f:¬G a):Bx w' a b c:=d.K (e.block a d.lt f)
def du.ud{a G w w' b c d}(e:du a w b c d)(f:Ud w w' G)(g:∀h,a h->h<w.heap.size->¬G h):du a w' b c d:=e.K fun i l n=>f.block i n (g i l n)
def Rd(w:T)(g:Nat)(m:List Bool):Prop:=∃a b c d e,Bx w g 346 #[af a b c,J E (mZ d:Nat),J E (e:Nat)]/\du (·<g) w a b (kX (d++[aB]))/\m=d.drop e/\e<=d.length/\d.length<=90000000
section
variable {w w':T} {g:Nat} {m:List Bool}
def Rd.lt(a:Rd w g m):g<w.heap.size:=by obtain⟨_,_,_,_,_,b,_⟩:=a;exact b.lt
def Rd.ext(a:Rd w g m)(b:bj w.heap.size w w'):Rd w' g m:=by
 obtain⟨c,d,e,f,h,i,l,n⟩:=a;exact⟨c,d,e,f,h,i.ext b,l.ext b,n⟩
def Rd.ud{G}(a:Rd w g m)(b:Ud w w' G)(c:∀i,G i->g<i):Rd w' g m:=by
 obtain⟨d,e,f,h,l,n,o,p⟩:=a;exact⟨d,e,f,h,l,n.ud b (fun a=>by have:=c _ a;omega),o.ud b (fun q r _ s=>by have:=c _ s;omega),p⟩
def Rd.alloc(a:Rd w g m)(o):Rd (w.alloc o) g m:=a.ext ((aM _ _).alloc (aw _) _)
end
def GP{e:Nat->Prop}(a:Option Addr)(c b:Nat)(m:List Bool)(w:T)(f:du e w a c (kX (m++[aB])))(d:m.length<=90000000):
  aT aE 178 #[af a c b] w fun h w'=>∃g,h=aK (fE #[aD (M ⟨g,0,S⟩),J E 0])/\Rd w' g m/\bj w.heap.size w w'/\w.heap.size<=g:=by
 obtain⟨a,b⟩:=aX m.length;have h:c=a/8+1:=by rw[<-f.len,lH,aJ,b];simp;omega
 subst h;obtain⟨c,h,i,l,n⟩:=QE m;rw[<-b] at h n;obtain⟨i,l,rfl,n,o,p⟩:=f.addr O;have n:w.cell? ⟨i,l+a/8,S⟩=M (J .u8 c):=p _ _ (by rw[BH,if_pos eB,h]);have h:=aH b;have o:a<=90000000:=O;clear p b d
 have b:∀w:T,(Be 54 (J E ((a:Int)/8+1)) (J E ((a:Int)/8+1))).run aE w=.ok (af (M ⟨w.heap.size,0,S⟩) (a/8+1) (a/8+1)) (w.alloc (r5 5 (a/8+1))):=fun w=>by
  have:=pS (P:=aE) (t:=54) dw iY (a/8+1) (a/8+1) (aw _) O w;simpa using this
 have d:(c==0)=av:=by simp;omega
 go_enter func178,ntmps178;go_upto_region 5 with(with_reducible refine qL (p:=e) _ rfl _ _ _ rfl _ dw iY _ _ _ _ _ _ rfl rfl w.heap.size 0 _ ((Bk.made w _ (a/8+1)).alloc _) (kX (m++[aB])) ((f.alloc _).alloc _) (fun _=>rfl) dS ?_;intro w1 hB1 hg1)
 have d:CH (aF (a/8+1) 0) 0 ((kX (m++[aB])).take (a/8+1))=kX (m++[aB]):=by
  rw[kN (eZ f.len (aw _))];unfold CH;rw[dP,js,RR (by simp[f.len]),List.append_nil]
 rw[d] at hB1;have e:=(Bx.new (w.alloc (r5 5 (a/8+1))) 346 #[af (M ⟨w.heap.size,0,S⟩) (a/8+1) (a/8+1),J E 0,J E 0]).grown hg1 dS;have f:bj w.heap.size w w1:=(((aM _ _).alloc (aw _) _).alloc dS _).grown hg1 eB (fun p q=>by injection q with r;omega);have p:w1.cell? ⟨i,l+a/8,S⟩=M (J .u8 c):=(f.cell (p:=⟨i,l+a/8,S⟩) (Uv n)).trans n;rw[show(w.alloc (r5 5 (a/8+1))).heap.size=w.heap.size+1 by simp] at e;have c:=e.cell 0 rfl;have c:=e.cell 1 rfl;have c:=e.frozen 1;have c:=e.lt;obtain⟨c,i,l⟩:=bh e hB1 f;clear e hB1 f hg1 n d b;go_wp2_with (go_at_call 214;refine(Uw _ _ O O).mono ?_;rintro b d ⟨rfl,rfl⟩);go_ret2;have b:(8*((a:Int)/8+1)-1-((7-a%8:Nat):Int))=((mZ m:Nat):Int):=by rw[<-h.o];omega
 rw[b];have b:w.heap.size≠w.heap.size+1:=O;refine⟨w.heap.size+1,rfl,⟨_,_,_,m,0,c.o.L 1 _,?_,rfl,qo _,by rw[<-h.o];exact o⟩,FD l.o _ dS _,by omega⟩;have c:=i.o.C (a:=⟨w.heap.size+1,1,S⟩) b (J E ((mZ m:Nat):Int));have b:(kX (m++[aB])).length=a/8+1:=by rw[lH,aJ,<-h.o];simp;omega
 have:=c.zA (p:=(·<w.heap.size+1)) O (uC _);rw[b] at this;exact this
def Aib(w:T)(a:aq)(b:Ending)(w':T):Prop:=b=aK a/\∃c,w'=w.drewN c
def Ol{a b c}(d:b=c):aK (J a b)=aK (J a c):=by rw[d]
def UB(g m w)(a:Rd w g m):
  aT aE 183 #[aD (M ⟨g,0,S⟩)] w fun b w'=>Aib w (J E m.length) b w':=by
 obtain⟨b,c,d,e,f,h,i,rfl,l,n⟩:=a;have a:=h.cell 1 rfl;have b:=h.cell 2 rfl;have b:(e.drop f).length=e.length-f:=by simp
 have c:=aH b;obtain⟨d,f⟩:=aX e.length;rw[<-f] at a l n;have a:=aH f;clear b h i f;go_enter func183,ntmps183;go_wp2;go_quiet (fail);go_wp2;go_ret;refine⟨?_,nq,rfl⟩;rw[c.o,<-a.o];exact Ol O
end
def MD(b:Nat)(c)(a:2*b+1<4294967296):bits .or .u32 ((b:Int)*2) (b2 c)=(2*b+c.toNat:Nat):=by
 rw[uT];have a:b2 c=((c.toNat:Nat):Int):=by cases c<;> rfl
 rw[a,show(2*(b:Int))=((2*b:Nat):Int) by push_cast;rfl,u32_or_nat _ _ O (by cases c<;> simp<;> omega)]
 have:2*b|||c.toNat=2*b+c.toNat:=by
  have:=NY (i:=1) (b:=c.toNat) (by cases c<;> simp) b;simpa using this.symm
 rw[this]
def Ai8(a:T)(b:Nat)(c d:List Bool)(e:Ending)(f:T):Prop:=e=aK (fE #[J .u32 (valB c:Nat),J E 0])/\Rd f b d/\Ud a f (·=b)
structure YA(c:Nat->Prop)(d:T)(a:Nat)(e:Option Addr)(f b:Nat)(h:List Bool)(g:Nat):Prop where
 j:Bx d a 346 #[af e f b,J E (mZ h:Nat),J E (g:Nat)]
 zA:du c d e f (kX (h++[aB]))
 le:g<=h.length
 small:h.length<=90000000
def Ai7(a:Nat->Prop)(b:T)(c:Nat)(d:Option Addr)(e f:Nat)(g:List Bool)(h:Nat)(i:List Bool)(l:Ending)(n:T):Prop:=l=aK (fE #[J .u32 (valB i:Nat),J E 0])/\YA a n c d e f g h/\Ud b n (·=c)
def xT{q:Nat->Prop}(d:Nat)(e:∀t,q t->t≠d)(f:Option Addr)(g h:Nat)(i:List Bool)(l:Nat)(n o:List Bool)(p:Nat)(r:T)(a:YA q r d f g h i l)(b:n++o=i.drop l)(c:n.length=p)(s:p<=32):
  aT aE 185 #[aD (M ⟨d,0,S⟩),J E p] r (Ai7 q r d f g h i (l+p) n):=by
 obtain⟨t,u,v,w⟩:=a;have a:(i.drop l).length=i.length-l:=by simp
 rw[<-b,aJ,c] at a;obtain⟨x,y⟩:=aX i.length;rw[<-y] at t v w a;have z:=t.cell 1 rfl;have H:=t.cell 2 rfl;obtain⟨U,V,W,Y,a0⟩:=dZ t u y b c;have a1:l+p<=x:=O;have a2:=t.lt;clear a t u y b c;go_enter func185,ntmps185;go_wp2;go_quiet (fail);go_wp2
 go_loopw [6,30] (fun a b wr=>∃c:Nat,c<=p/\b=J E c/\a=J .u32 (valB (n.take c):Nat)/\fj (Bx wr d 346 #[af f g h,J E (x:Nat),J E ((l+c:Nat):Int)])/\Ud r wr (·=d)) (fun _ t _=>p-(intOf t).toNat)
 case atStart=>exact⟨0,by omega,rfl,rfl,by simpa using aH (show Bx (r.drewN nq) d _ _ from U.o),(Ud.refl r _).drewN nq⟩
 case round=>
  obtain⟨a,b,rfl,rfl,c,t⟩:=hrel
  by_cases u:a<p
  ·obtain⟨y,a3⟩:=aX (l+a)
   have a4:=c.o;rw[<-a3] at a4;have a5:=a4.cell 1 rfl;have a6:=a4.cell 2 rfl;have a7:=a4.cell 0 rfl;have a8:=a4.frozen 2;have a9:=a4.lt;have aa:=V.o.ud t (fun ab ac _ ad=>e ab ac ad);have ab:y<x:=O;have ac:g=x/8+1:=by rw[<-aa.len,lH,aJ,<-W.o];simp;omega
   subst ac;obtain⟨ac,ad,rfl,ae,ag,ah⟩:=aa.addr O;obtain⟨ai,aj⟩:=aX (AN (i++[aB]) (y/8));have al:=ah (y/8) ai (by rw[BH,if_pos (by simp;rw[<-W.o];omega),aj]);have am:=sk (i++[aB]) (y/8);have ap:=Yl (i++[aB]) y;rw[<-aj] at am ap;obtain⟨ar,ax⟩:=aX (n[a]'(eZ a0.o u))
   have ay:bt (i++[aB]) y=ar:=by
    have aV:(i.drop l)[a]?=(n++o)[a]?:=by rw[Y.o]
    rw[iZ,bo (eZ a0.o u),aA (l:=n) (eZ a0.o u),<-ax,<-a3] at aV;rw[Ny,if_pos (D8 W.o ab),bt,jr,aV];rfl
   rw[ay] at ap;have aV:n.take (a+1)=n.take a++[ar]:=um (by rw[aA (eZ a0.o u),ax]);obtain⟨b0,b1⟩:=aX (valB (n.take a))
   have b3:2*b0+1<4294967296:=by
    have b4:=O5 (n.take (a+1));have b5:(n.take (a+1)).length<=32:=by rw[dE];omega
    have b6:2^(n.take (a+1)).length<=2^32:=yK O b5;have b7:=O5 (n.take a);have b8:2^(n.take a).length<=2^31:=yK O (iJ dE);omega
   have b4:valB (n.take (a+1))=2*b0+ar.toNat:=by rw[aV,PQ,b1]
   have b5:=MD b0 ar b3;have b6:p7 (y%8)=2^(7-y%8):=rfl;rw[b6] at ap;obtain⟨b7,b8⟩:=aX (b2 ar);have b9:=Cd ar;rw[<-b8] at b9 ap b5
   have ba:bits .and .u8 (ai/2^(7-y%8)) 1=b7:=by
    rw[<-ap];obtain⟨bb,rfl⟩:=sF am.1;have bc:((bb:Nat):Int)/2^(7-y%8)=((bb/2^(7-y%8):Nat):Int):=by push_cast;rfl
    have bd:bb/2^(7-y%8)<=bb:=Afr _ _;rw[bc,show(1:Int)=((1:Nat):Int) from rfl,u8_and_nat _ _ O O,V6]
    push_cast
    rfl
   rw[<-b1];obtain⟨bb,bc,bd,be⟩:=dq a3 b1 b4 b8;have bf:=t.size;have bi:=aH a4;clear a3 b1 b4 b8 a4 aa ah aj ay aV ap b6 ax;go_wp2;go_quiet (fail);go_wp2;refine⟨⟨a+1,by omega,by go_num,?_,?_,(t.drewN nq).set rfl _⟩,by simp[intOf];omega⟩
   ·rw[bd.o];simp[b5]
   ·rw[show l+(a+1)=y+1 by rw[bb.o];rfl]
    exact aH ((show Bx (wr.drewN nq) d _ _ from bi.o).L 2 _)
  ·obtain rfl:a=p:=O
   go_wp2;go_ret2;exact⟨by rw[kN (eZ a0.o (aw a))];rfl,⟨by rw[<-W.o];exact c.o,V.o.ud t (fun y a3 _ a4=>e y a3 a4),by rw[<-W.o];exact a1,by rw[<-W.o];exact w⟩,t⟩
def Rd.x{a b c}(d:Rd a b c):∃e f g h i,YA (·<b) a b e f g h i/\c=h.drop i:=by
 obtain⟨a,b,c,e,f,g,h,i,l,n⟩:=d;exact⟨a,b,c,e,f,⟨g,h,l,n⟩,i⟩
def YA.rd{a b A n c d e}(f:YA (·<b) a b A n c d e):Rd a b (d.drop e):=⟨A,n,c,d,e,f.j,f.zA,rfl,f.le,f.small⟩
def UA(b c f g d)(a:Rd d b (c++f))(h:c.length=g)(e:g<=32):
  aT aE 185 #[aD (M ⟨b,0,S⟩),J E g] d (Ai8 d b c f):=by
 obtain⟨i,l,n,o,p,q,r⟩:=a.x;refine(xT b (fun a s=>Nat.ne_of_lt s) i l n o p c f g d q r h e).mono ?_;rintro a b ⟨rfl,c,d⟩;refine⟨rfl,?_,d⟩;have a:f=o.drop (p+g):=by rw[<-gK,<-r,Acz h]
 rw[a];exact c.rd
def fS(e f g h)(i l:Nat)(a b:Int)(c:a=i)(d:b=l)(n)(o:Wr n e f g h)(p:l<=32)(q:i<2^l)(r:h.length<=90000000)(s:e<=n.heap.size):
  aT aE 127 #[aD (M ⟨f,0,S⟩),J .u32 a,J E b] n (Rl n e f g (h++jC l i)):=by
 subst c d;exact Yp e f g h i l n o p q r s
def QY(e a:Nat)(b:Int)(c:b=e)(d:Aff e=a)(f)(g:1<=e)(h:e<=65535):
  aT aE 97 #[J .u64 b] f fun i l=>i=aK (J E ((a:Int)+1))/\f=l:=by
 subst c d;refine(Ux e f g h).mono ?_;rintro a b ⟨rfl,rfl⟩;exact⟨by push_cast;rfl,rfl⟩
def qt(c d:Nat)(e:Option Nat)(f:List Bool)(g:Nat)(h:T)(l:Wr h c d e f)(b:g<=65534)(a:f.length<=80000000)(i:c<=h.heap.size):
  aT aE 321 #[aD (M ⟨d,0,S⟩),J E g] h (Rl h c d e (f++uv g)):=by
 obtain⟨a,n⟩:∃o,lg g=o:=⟨_,rfl⟩;have o:a<=15:=by rw[<-n];exact Tn b
 have b:=(DU g).2;rw[n] at b;have o:f++uv g=(f++jC a 0)++jC (a+1) (g+1):=by rw[uv,n,aW]
 obtain⟨p,q,r,s⟩:=dq (fun t=>QY (g+1) a (g+1) (by push_cast;rfl) n t O O) (fS c d e f 0 a 0 a rfl rfl h l O (RO O) O i) (fun(u:T)(v:Option Nat)(w:Wr u c d v (f++jC a 0))(x:c<=u.heap.size)=>fS c d v (f++jC a 0) (g+1) (a+1) (g+1) (a+1) (by push_cast;rfl) (by push_cast;rfl) u w O b (by simp[fX];omega) x) o;clear b o n l;go_enter func321,ntmps321;go_wp2_with fail;refine(p.o _).mono ?_;rintro a b ⟨rfl,rfl⟩;go_wp2_with fail;refine q.o.mono ?_;rintro a b ⟨c,rfl,d,e,f⟩;have a:=aH d;clear d;go_wp2_with fail;refine(r.o _ c a.o (dU e.size)).mono ?_;rintro a b ⟨c,rfl,d,g,h⟩;have a:=aH d;clear d;go_wp2;go_ret;exact⟨c,rfl,by rw[s.o];exact a.o,e.trans g f,f.trans h e.size⟩
def S3(c d)(a:-32767<=c)(b:c<=32767):
  aT aE 330 #[J E c] d fun e f=>e=aK (J E (fld c))/\d=f:=by
 go_enter func330,ntmps330;go_wp2
 all_goals
  go_ret;exact⟨Ol (by unfold fld;split<;> omega),rfl⟩
def mg(a b:Nat)(c:Option Nat)(d:List Bool)(l:Int)(e:T)(n:Wr e a b c d)(f:-32767<=l)(g:l<=32767)(h:d.length<=80000000)(i:a<=e.heap.size):
  aT aE 323 #[aD (M ⟨b,0,S⟩),J E l] e (Rl e a b c (d++sv l)):=by
 obtain⟨o,p⟩:=aQ (fun q=>S3 l q f g) (qt a b c d (fld l) e n (Jq f g) h i);have a:decide (l< -32767)=av:=by simp;omega
 have a:decide (32767<l)=av:=by simp;omega
 clear n;go_enter func323,ntmps323;go_wp2_with fail;refine(o.o _).mono ?_;rintro a b ⟨rfl,rfl⟩;go_wp2_with fail;refine p.o.mono ?_;rintro a b ⟨c,rfl,d,e,f⟩;have a:=aH d;clear d;go_wp2;go_ret;exact⟨c,rfl,a.o,e,f⟩
def Yq(a c b d e)(f:Wr e a c b d):
  aT aE 291 #[aD (M ⟨c,0,S⟩)] e fun g h=>g=aK (J E d.length)/\e=h:=by
 obtain⟨⟨a,b,c,d⟩,e,g⟩:=f;have a:=c.cell 1 rfl;clear c d b;go_enter func291,ntmps291;go_wp2;go_ret;exact⟨rfl,rfl⟩
def Aen(a:T)(b:Nat)(c:Int)(d:List Bool)(e:Ending)(f:T):Prop:=e=aK (fE #[J E c,J E 0])/\Rd f b d/\Ud a f (·=b)
def Sa{a b g:Nat}(c:(2:Int)^a=((2^a:Nat):Int))(d:g=b+1-2^a)(e:2^a<=b+1)(f:b<=65534):RI (RI (RI (2^a)+RI (g:Nat))-1)=(b:Int):=by
 rw[c];generalize 2^a=h at*
 rw[kE (h:Nat) O,kE (g:Nat) O,kE ((h:Int)+g) O,kE _ O];omega
def pj(b:Nat)(c:Nat)(d:List Bool)(e:T)(a:Rd e b (uv c++d))(f:c<=65534):
  aT aE 258 #[aD (M ⟨b,0,S⟩)] e (Aen e b c d):=by
 obtain⟨g,h⟩:∃i,lg c=i:=⟨_,rfl⟩;have i:g<=15:=by rw[<-h];exact Tn f
 obtain⟨l,n⟩:=DU c;rw[Adp,h] at a;rw[h] at l n;obtain⟨o,p⟩:=aX (jC g (c+1-2^g));have q:o.length=g:=by rw[p,fX]
 have r:valB o=c+1-2^g:=by
  rw[p,Sb];apply RJ;rw[vz] at n;omega
 rw[<-p] at a;obtain⟨s,t,u,v,w,x,y⟩:=a.x;have z:=x.j;obtain⟨H,U⟩:=aX v.length;rw[<-U] at z;have V:=z.cell 0 rfl;have W:=z.cell 1 rfl;have Y:=z.cell 2 rfl;have a0:=z.lt;obtain⟨a1,a2,a3,a4,a5,a6⟩:=ej x y z U q r;clear p h a x y z U q r;go_enter func258,ntmps258;go_wp2;obtain⟨a,h⟩:=aX e.heap.size
 have p:YA (·<b) (e.alloc (az #[af s t u,J E H,J E w] 346)) a s t u v w:=by
  subst h;exact⟨by rw[<-a4.o];exact Bx.new _ _ _,a1.o.zA.alloc _,a1.o.le,a1.o.small⟩
 have q:Ud e (e.alloc (az #[af s t u,J E H,J E w] 346)) (fun r=>r=a):=(Ud.refl _ _).alloc _;have r:(e.alloc (az #[af s t u,J E H,J E w] 346)).heap.size=a+1:=by rw[h];simp
 have x:Bx (e.alloc (az #[af s t u,J E H,J E w] 346)) b 346 #[af s t u,J E H,J E w]:=a3.o.alloc _;rw[<-h]
 revert p q r x
 generalize e.alloc (az #[af s t u,J E H,J E w] 346)=y;intro z U a7 a8;have a9:b<a:=by rw[h];exact a0
 obtain⟨aa,ab,ac,ad⟩:=dq h z a7 a8;clear h z a7 a8
 go_loopw [5] (fun h wr=>∃z:Nat,z<=g/\h=J E z/\fj (YA (·<b) wr a s t u v (w+z))/\Ud y wr (·=a)) (fun a7 _=>g-(intOf a7).toNat)
 case atStart=>exact⟨0,by omega,rfl,ab,Ud.refl _ _⟩
 case round=>
  obtain⟨h,z,rfl,a7,a8⟩:=hrel
  have ae:v.drop (w+h)=aF (g-h) av++(aB::o++d):=by
   rw[<-gK,<-a2.o]
   have:aF g av++aB::o++d=aF h av++(aF (g-h) av++(aB::o++d)):=by
    rw[<-aW,ma,show h+(g-h)=g by omega];simp
   rw[this,Acz dS]
  by_cases ag:h<g
  ·have ah:=aH (xT (q:=(·<b)) a (fun ai aj=>by omega) s t u v (w+h) [av] (aF (g-h-1) av++(aB::o++d)) 1 wr a7.o (by rw[ae,show g-h=(g-h-1)+1 by omega];simp[lo]) rfl O)
   clear ae;go_wp2_with fail;refine ah.o.mono ?_;rintro ai aj ⟨rfl,al,am⟩;have ap:=aH al;clear al;go_wp2;refine⟨⟨h+1,by omega,by go_num,ap,a8.trans am⟩,by simp[intOf];omega⟩
  ·obtain rfl:h=g:=O
   obtain⟨ah,ai⟩:=aQ (xT (q:=(·<b)) a (fun aj al=>by omega) s t u v (w+h) [aB] (o++d) 1 wr a7.o (uM ae) rfl O) (fun(am:T)(ap:YA (·<b) am a s t u v (w+h+1))=>xT (q:=(·<b)) a (fun ar ax=>by omega) s t u v (w+h+1) o d h am ap (by rw[<-gK,ae];simp) a5.o O);clear ae;go_wp2_with fail;refine ah.o.mono ?_;rintro ae aj ⟨rfl,al,am⟩;have ap:=aH al;clear al;go_wp2_with fail;refine(ai.o aj ap.o).mono ?_;rintro al ar ⟨rfl,ax,ay⟩;have aV:=aH ax;have b0:=ax.j;rw[<-a4.o] at b0;have b1:=b0.cell 0 rfl;have b2:=b0.cell 1 rfl;have b3:=b0.cell 2 rfl;have b4:=((ad.o.ud a8 O).ud am O).ud ay O;have b5:=b4.frozen 0;have b6:=b4.frozen 1;have b7:=b4.frozen 2;have b8:=b4.lt;have b9:=b4.cell 0 rfl;have ba:=b4.cell 1 rfl;have bb:=b4.cell 2 rfl;have bc:=aH b4;clear ax b0 b4;go_wp2;go_ret2;have ax:(2:Int)^h=((2^h:Nat):Int):=by push_cast;rfl
   have b0:=a6.o;have b4:RI (RI (RI (2^h)+RI (valB o:Nat))-1)=(c:Int):=Sa ax b0 l f;refine⟨?_,?_,?_⟩
   ·rw[b4];rfl
   ·have bd:=(((ad.o.ud a8 O).ud am O).ud ay O)
    have be:d=v.drop (w+h+1+h):=by rw[<-gK,<-gK,<-gK,<-a2.o];simp[a5.o]
    rw[be];refine YA.rd (A:=s) (n:=t) (c:=u) ⟨?_,((aV.o.zA.setCell dS _).setCell dS _).setCell dS _,aV.o.le,aV.o.small⟩;have:=((bc.o.L 0 (af s t u)).L 1 (J E H)).L 2 (J E ((w+h+1+h:Nat):Int));rw[<-a4.o]
    push_cast at this ⊢
    exact this
   ·have:=(((U.trans a8).trans am).trans ay).mono (G':=(·=b)) (fun bd be bf=>by have:=aa.o;omega)
    exact((this.set rfl _).set rfl _).set rfl _
def r7(a f b c)(g:Rd c a (sv f++b))(d:-32767<=f)(e:f<=32767):
  aT aE 263 #[aD (M ⟨a,0,S⟩)] c (Aen c a f b):=by
 have h:=aH (pj a (fld f) b c g (Jq d e));have a:=TZ f;have b:=Jq d e;obtain⟨c,d⟩:=aX (fld f);rw[<-d] at h a b
 by_cases a:c%2=1
 ·have a:f=((c:Int)+1)/2:=O
  have b:((c:Int)%2==1)=aB:=by simp;omega
  have b:=aH a;clear a d g;go_enter func263,ntmps263;go_wp2_with fail;refine h.o.mono ?_;rintro a e ⟨rfl,i,l⟩;have a:=aH i;clear i;go_wp2;go_ret2;exact⟨by rw[b.o];rfl,a.o,l⟩
 ·have a:f=-((c:Int)/2):=O
  have b:((c:Int)%2==1)=av:=by simp;omega
  have b:=aH a;clear a d g;go_enter func263,ntmps263;go_wp2_with fail;refine h.o.mono ?_;rintro a c ⟨rfl,d,e⟩;have a:=aH d;clear d;go_wp2;go_ret2;refine⟨?_,a.o,e⟩;rw[b.o];rfl
end Go.Proofs.YtbdhieahnneebaaGreatDoor
namespace Go.Proofs.YtbdhieahnneebaaGreatDoor
open Go.RowKit
def pz{p:Nat->Prop}(a:aq)(e:Fr)(b c:Int)(f:T)(d:dF p f a e):
  aT aE 205 #[a,J E b,J E c] f fun g h=>g=aK (ao (oP e b c))/\bj f.heap.size f h:=by
 have a:=d;obtain⟨b,c,g,h,i,l,n,o,q,rfl,r,s,t⟩:=d;clear r s t
 by_cases b:jl e=aB
 ·have c:2<=e.W/\e.W<=64/\2<=e.H/\e.H<=64:=by
   obtain⟨c,d,g,h,_⟩:=vO b;omega
  go_enter func205,ntmps205;go_wp2_with fail;refine(om (p:=p) _ e _ (by(repeat with_reducible apply dF.alloc);exact a)).mono ?_;rintro c d ⟨rfl,g⟩;obtain⟨c,h⟩:=gU g;have i:=g.size
  try simp at i
  try simp at c
  try simp at h
  have c:f.heap.size<d.heap.size:=O;go_wp2_with fail
  all_goals
   go_ret;refine⟨gB ?_,((aM _ f).alloc dS _).trans (g.mono dS)⟩;rw[iF]
   first|(simp[oP, *];done)|(simp[oP, *];intros;omega)
 ·have c:jl e=av:=by simpa using b
  go_enter func205,ntmps205;go_wp2_with fail;refine(om (p:=p) _ e _ (by(repeat with_reducible apply dF.alloc);exact a)).mono ?_;rintro a b ⟨rfl,d⟩;go_wp2_with fail;go_ret;exact⟨gB (by simp[oP,c]),((aM _ f).alloc dS _).trans (d.mono dS)⟩
def yE(a:Nat)(b c d:aq):aq:=if a=4 then c else if a=5 then d else b
def Df(a b:Int)(c d e:Option Addr)(f g h i l n o:Nat)(p:T):
  aT aE 269 #[aG #[J E a,J E b,af c f g,af d h i,af e l n],J E o] p fun q r=>q=aK (yE o (af c f g) (af d h i) (af e l n))/\bj p.heap.size p r:=by
 unfold yE
 by_cases a:o=4
 ·subst a
  rw[if_pos rfl];go_enter func269,Z6;go_wp2;go_ret;exact⟨rfl,(aM _ p).alloc dS _⟩
 ·rw[if_neg a]
  have a:((o:Int)==4)=av:=by rw[beq_eq_false_iff_ne];omega
  by_cases a:o=5
  ·subst a
   rw[if_pos rfl];go_enter func269,Z6;go_wp2;go_ret;exact⟨rfl,(aM _ p).alloc dS _⟩
  ·rw[if_neg a]
   have a:((o:Int)==5)=av:=by rw[beq_eq_false_iff_ne];omega
   go_enter func269,Z6;go_wp2;go_ret;exact⟨rfl,(aM _ p).alloc dS _⟩
def n8(g h i:Int)(l:T)(a:0<=g)(b:g<=64)(c:0<=h)(d:h<=3)(e:0<=i)(f:i<=3):
  aT aE 207 #[J E g,J E h,J E i] l fun n o=>n=aK (fE #[aG #[J E (16*i*g+16*h),J E g,J E 16,J E 16],aG #[J E (8*i*(g/2)+8*h),J E (g/2),J E 8,J E 8]])/\bj l.heap.size l o:=by
 have a:=nm (x:=16*i) (y:=g) (m:=64) O O O O;have a:=nm (x:=8*i) (y:=g/2) (m:=64) O O O O;go_enter func207,ntmps207;go_wp2
 go_region
 all_goals go_wp2
 all_goals
  refine dY (v:=fE #[aG #[J E (16*i*g+16*h),J E g,J E 16,J E 16],aG #[J E (8*i*(g/2)+8*h),J E (g/2),J E 8,J E 8]]) (by simp only[Ih,results207];go_simp) rfl ⟨rfl,?_⟩
  repeat refine iu ?_ (by first|(simp;done)|(simp;omega)) _
  first
  |exact(((aM _ l).alloc dS _).alloc dS _).drew
  |trace_state
end Go.Proofs.YtbdhieahnneebaaGreatDoor
namespace Go.Proofs.YtbdhieahnneebaaGreatDoor
open Go.RowKit
def DR{x y m k:Int}(a:0<=x)(b:x<=m)(c:0<=y)(d:y<=k)(e:0<=m):0<=x*y/\x*y<=m*k:=
 ⟨nA a c,xm b d c e⟩
def Ey{a b c d}(e:a=c)(f:b=d):aK (aG #[J E a,J E b,J E 8,J E 8])=aK (aG #[J E c,J E d,J E 8,J E 8]):=by rw[e,f]
def D0(g h i l:Nat)(e:Bool)(f:T)(a:g<=64)(b:h<=3)(c:i<=3)(d:l<=5):
  aT aE 270 #[J E g,J E h,J E i,J E l,ao e] f fun n o=>n=aK (aG #[J E (fromN g h i l e:Nat),J E (stepN g l e:Nat),J E 8,J E 8])/\bj f.heap.size f o:=by
 have a:=DR (x:=16*(i:Int)) (y:=(g:Int)) (m:=48) (k:=64) O O O O O;have a:=DR (x:=8*(i:Int)) (y:=(g:Int)/2) (m:=48) (k:=64) O O O O O;have a:=DR (x:=(l:Int)/2) (y:=(g:Int)) (m:=48) (k:=64) O O O O O;have a:=DR (x:=(l:Int)/2*8) (y:=(g:Int)) (m:=48) (k:=64) O O O O O
 by_cases a:4<=l
 ·have b:(8*(i:Int)*((g:Int)/2)+8*(h:Int))=((fromN g h i l e:Nat):Int):=by unfold fromN;rw[if_pos a];push_cast;rfl
  have c:((g:Int)/2)=((stepN g l e:Nat):Int):=by unfold stepN;rw[if_pos a];push_cast;rfl
  obtain⟨d,n⟩:=aQ b c;clear b c;have b:(4:Int)<=(l:Int):=O;go_enter func270,Z5;go_wp2_with fail;refine(n8 _ _ _ _ O O O O O O).mono ?_;rintro b c ⟨rfl,o⟩;have b:bj f.heap.size f c:=((aM _ f).alloc dS _).trans (o.mono dS);have p:=b.size;obtain⟨p,q⟩:=gU o;have r:=o.size
  try simp at r
  try simp at p
  try simp at q
  have o:f.heap.size<c.heap.size:=O;go_wp2_with fail;refine dY (v:=aG #[J E (8*(i:Int)*((g:Int)/2)+8*(h:Int)),J E ((g:Int)/2),J E 8,J E 8]) (by simp only[Ih,PC];go_simp) rfl ⟨Ey d.o n.o,?_⟩
  repeat(first|(with_reducible exact b)|(with_reducible refine iu ?_ (by first|(simp;done)|(simp;omega)) _)|(with_reducible refine qk ?_ (by first|(simp;done)|(simp;omega)) _)|(with_reducible refine rS ?_))
 ·have b:¬(4:Int)<=(l:Int):=O
  cases e
  ·have b:(16*(i:Int)*(g:Int)+16*(h:Int)+(l:Int)%2*8+(l:Int)/2*8*(g:Int))=((fromN g h i l av:Nat):Int):=by unfold fromN;rw[if_neg a,if_neg dD];push_cast;rfl
   have c:(g:Int)=((stepN g l av:Nat):Int):=by unfold stepN;rw[if_neg a,if_neg dD]
   obtain⟨d,e⟩:=aQ b c;clear b c;go_enter func270,Z5;go_wp2_with fail;refine(n8 _ _ _ _ O O O O O O).mono ?_;rintro b c ⟨rfl,n⟩;have b:bj f.heap.size f c:=((aM _ f).alloc dS _).trans (n.mono dS);have o:=b.size;obtain⟨o,p⟩:=gU n;have q:=n.size
   try simp at q
   try simp at o
   try simp at p
   have n:f.heap.size<c.heap.size:=O;go_wp2_with fail;refine dY (v:=aG #[J E (16*(i:Int)*(g:Int)+16*(h:Int)+(l:Int)%2*8+(l:Int)/2*8*(g:Int)),J E (g:Int),J E 8,J E 8]) (by simp only[Ih,PC];go_simp) rfl ⟨Ey d.o e.o,?_⟩
   repeat(first|(with_reducible exact b)|(with_reducible refine iu ?_ (by first|(simp;done)|(simp;omega)) _)|(with_reducible refine qk ?_ (by first|(simp;done)|(simp;omega)) _)|(with_reducible refine rS ?_))
  ·have b:(16*(i:Int)*(g:Int)+16*(h:Int)+(l:Int)%2*8+(l:Int)/2*(g:Int))=((fromN g h i l aB:Nat):Int):=by unfold fromN;rw[if_neg a,if_pos rfl];push_cast;rfl
   have c:2*(g:Int)=((stepN g l aB:Nat):Int):=by unfold stepN;rw[if_neg a,if_pos rfl];push_cast;rfl
   obtain⟨a,d⟩:=aQ b c;clear b c;go_enter func270,Z5;go_wp2_with fail;refine(n8 _ _ _ _ O O O O O O).mono ?_;rintro b c ⟨rfl,e⟩;have b:bj f.heap.size f c:=((aM _ f).alloc dS _).trans (e.mono dS);have n:=b.size;obtain⟨n,o⟩:=gU e;have p:=e.size
   try simp at p
   try simp at n
   try simp at o
   have e:f.heap.size<c.heap.size:=O;go_wp2_with fail;refine dY (v:=aG #[J E (16*(i:Int)*(g:Int)+16*(h:Int)+(l:Int)%2*8+(l:Int)/2*(g:Int)),J E (2*(g:Int)),J E 8,J E 8]) (by simp only[Ih,PC];go_simp) rfl ⟨Ey a.o d.o,?_⟩
   repeat(first|(with_reducible exact b)|(with_reducible refine iu ?_ (by first|(simp;done)|(simp;omega)) _)|(with_reducible refine qk ?_ (by first|(simp;done)|(simp;omega)) _)|(with_reducible refine rS ?_))
end Go.Proofs.YtbdhieahnneebaaGreatDoor
namespace Go.Proofs.YtbdhieahnneebaaGreatDoor
open Go.RowKit
section
def aS(k:yf)(l:List Int):Array aq:=(l.map (J k)).toArray
def bE(k l):(aS k l).size=l.length:=by simp[aS]
def pT(k l):(aS k l).all (·.oneCell')=aB:=by
 rw[Array.all_eq_true_iff_forall_mem];intro a b;obtain⟨a,_,rfl⟩:=iy.1 (by simpa[aS] using b);rfl
def Bn(k:yf)(w:T)(e:aR)(g:Nat)(l:List Int):Prop:=w.heap[g]?=M (az (aS k l) e (0,0))
section
variable {k:yf} {w w':T} {g:Nat} {e:aR} {l:List Int}
def Bn.lt(a:Bn k w e g l):g<w.heap.size:=by
 rcases Pv g w.heap.size with b|c
 ·exact b
 ·unfold Bn at a;rw[pN c] at a;cases a
def Bn.cell(a:Bn k w e g l)(i):w.cell? ⟨g,i,S⟩=(l[i]?).map (J k):=by
 unfold Bn aS at a;simp[mV,a]
def Bn.gZ(a:Bn k w e g l){i}(b:i<l.length):∃c,l[i]?=M c/\w.cell? ⟨g,i,S⟩=M (.int k c):=
 ⟨l[i],aA b,by rw[a.cell,aA b];rfl⟩
def Bn.frozen(a:Bn k w e g l)(i):w.frozen? ⟨g,i,S⟩=av:=by
 unfold Bn at a;simp[RK,a]
def Bn.K(a:Bn k w e g l)(b:w'.heap[g]?=w.heap[g]?):Bn k w' e g l:=b.trans a
def Bn.drew(a:Bn k w e g l):Bn k w.drew e g l:=a
def Bn.alloc(a:Bn k w e g l)(o):Bn k (w.alloc o) e g l:=a.K (qd w o g a.lt)
def Bn.D(w:T)(k e l g)(a:g=w.heap.size):Bn k (w.alloc (az (aS k l) e)) e g l:=by subst a;exact heap_alloc_new w _
def Bn.L(b:Bn k w e g l)(i a):Bn k (w.setCell ⟨g,i,S⟩ (J k a)) e g (l.set i a):=by
 unfold Bn aS at b ⊢;simp[gS,qF,b]
def Bn.C(b:Bn k w e g l){a}(c:g≠a.block)(d):Bn k (w.setCell a d) e g l:=b.K (eF w a d g c)
def Bn.below{B}(a:Bn k w e g l)(b:bj B w w')(c:g<B):Bn k w' e g l:=a.K (b.block g c)
def Bn.ext(a:Bn k w e g l)(b:bj w.heap.size w w'):Bn k w' e g l:=a.K (b.block g a.lt)
def Bn.row(a:Bn k w e g l)(b):Bn k (w.setRow g (aS k b)) e g b:=setRow_heap w g _ _ e (0,0) a
def Bn.m{g' cs}(a:Bn k w e g l)(b:g≠g'):Bn k (w.setRow g' cs) e g l:=a.K (iD w g' g cs b)
def Bn.load{a:nt}{b:aR}{c:TypeDesc}(d:Bn k w e g l)(f:a.underlying b=M c)(h:(match c with| .struct _| .array _ _=>aB|_=>av)=aB)(i:(a.info? b).map (·.size)=M l.length):
 (oA b ⟨g,0,S⟩).run a w=.ok (aG (aS k l)) w:=run_loadVar_row w g e b _ (0,0) c d f h (eZ bE i)
end
def Bx.m{w g g' a cs cs'}(b:Bx w g a cs)(c:g≠g'):Bx (w.setRow g' cs') g a cs:=b.K (iD w g' g cs' c)
def du.m{a w b c l g cs}(d:du a w b c l)(f:¬a g):du a (w.setRow g cs) b c l:=
 d.K fun a b _=>iD w g a cs (fun e=>f (e▸b))
def aO{B w w' g cs}(b:bj B w w')(a:B<=g):bj B w (w'.setRow g cs):=
 ⟨b.os,b.tape,b.output,by rw[kB];exact b.size,fun k a=>(iD w' g k cs O).trans (b.block k a)⟩
def kh{a b e h c}(o:b.results=#[.cell e c,.tmp h])(i w g d l)
  (f:i.getD e sJ=aD (M ⟨g,0,S⟩))(n:i.getD h sJ=l)(p:(oA c ⟨g,0,S⟩).run a w=.ok d w):(Ih b i).run a w=.ok (fE #[d,l]) w:=by
 have a:i[e]?.getD sJ=aD (M ⟨g,0,S⟩):=by simpa using f
 have b:i[h]?.getD sJ=l:=by simpa using n
 simp[Ih,o,a,b,asAddr,p]
end
end Go.Proofs.YtbdhieahnneebaaGreatDoor
namespace Go.Proofs.YtbdhieahnneebaaGreatDoor
open Go.RowKit
def zeros64:List Int:=aF 64 0
def tR(a:T):(Instr.alloc 277 aB (fE #[])).run aE a=.ok (aD (M ⟨a.heap.size,0,S⟩)) (a.alloc (az (aS E zeros64) 277)):=dK
def xV(a:T):(Instr.build 277 #[]).run aE a=.ok (aG (aS E zeros64)) a:=dK
def gP:(aE.info? 277).map (·.size)=M 64:=dK
def rE{a:T}{b:aR}{c:Nat}{d:List Int}(e:Bn E a b c d)(f:d.length=64):(oA 277 ⟨c,0,S⟩).run aE a=.ok (aG (aS E d)) a:=
 e.load ji rfl (eZ f gP)
def eD{b c d e f g}(i:d.guard=S)(l n)(o:d.op=.store 277 l n)
  (p h)(q:e.eval l=aD (M ⟨p,0,S⟩))(r:e.eval n=aG (aS E h)){s a}(t:Bn E f s p a)(u:a.length=64)(v:h.length=64)
  (w:cG aE b g c (e.put d.dst sJ) (f.setRow p (aS E h))):cG aE b g (d::c) e f:=
 vA i 277 l n o p _ q r s _ t (by rw[bE,v];exact gP) (by rw[bE,bE,u,v]) (pT _ _) w
def fL{a b c d e f}(h:c.guard=S)(i)(l:c.op=.load 277 i)
  (n)(o:d.eval i=aD (M ⟨n,0,S⟩)){p g}(q:Bn E e p n g)(r:g.length=64)
  (s:cG aE a f b (d.put c.dst (aG (aS E g))) e):cG aE a f (c::b) d e:=
 wpList_load_row h 277 i l n o p _ (0,0) _ q ji rfl (by rw[bE,r];exact gP) s
attribute [local go_sem ↓] tR xV
def Ro(a:T)(b:List Int×Int)(c:Ending)(d:T):Prop:=c=aK (fE #[aG (aS E b.1),J E b.2])/\bj a.heap.size a d
def AO(a:Fr)(b c d:Int):Prop:=oP a b c=aB/\0<=d/\d<=5
instance (f:Fr)(mx my n:Int):Decidable (AO f mx my n):=by unfold AO;infer_instance
def EM{h:Nat->Prop}(a:aq)(i:Fr)(f g d:Int)(b:Bool)(l:T)(c:dF h l a i)(e:¬AO i f g d):
  aT aE 233 #[a,J E f,J E g,J E d,ao b] l (Ro l (zeros64,1)):=by
 have a:=c;obtain⟨b,n,o,p,q,r,s,t,u,rfl,v,w,x⟩:=c;clear v w x
 have b:oP i f g=aB->d<0\/5<d:=by
  intro c;rcases RA d 0 with n|n
  ·exact .inl n
  ·rcases RA 5 d with o|o
   ·exact .inr o
   ·exact absurd ⟨c,n,o⟩ e
 clear e
 by_cases c:oP i f g=aB
 ·rcases b c with d|d
  all_goals
   go_enter func233,Z8;go_wp2_with fail;refine(pz (p:=h) _ i _ _ _ (by(repeat with_reducible apply dF.alloc);exact a)).mono ?_;rintro b d ⟨rfl,e⟩;have b:bj l.heap.size l d:=(((aM _ l).alloc dS _).alloc dS _).trans (e.mono eB);have n:Bn E d 277 (l.heap.size+1) zeros64:=(Bn.D _ _ _ _ _ dS).ext e;have d:=n.lt;clear e;go_wp2_with (refine eD rfl (aI 10) (aI 28) rfl (l.heap.size+1) zeros64 rfl rfl n rfl rfl ?_)
   all_goals
    have d:=rE (n.row zeros64) rfl;exact dY (v:=fE #[aG (aS E zeros64),J E 1]) (kh PD _ _ (l.heap.size+1) _ _ rfl rfl d) rfl ⟨rfl,aO b O⟩
 ·have b:oP i f g=av:=by simpa using c
  go_enter func233,Z8;go_wp2_with fail;refine(pz (p:=h) _ i _ _ _ (by(repeat with_reducible apply dF.alloc);exact a)).mono ?_;rintro a b ⟨rfl,c⟩;have a:bj l.heap.size l b:=(((aM _ l).alloc dS _).alloc dS _).trans (c.mono eB);have d:Bn E b 277 (l.heap.size+1) zeros64:=(Bn.D _ _ _ _ _ dS).ext c;have b:=d.lt;clear c;go_wp2_with (refine eD rfl (aI 10) (aI 28) rfl (l.heap.size+1) zeros64 rfl rfl d rfl rfl ?_)
  all_goals
   have b:=rE (d.row zeros64) rfl;exact dY (v:=fE #[aG (aS E zeros64),J E 1]) (kh PD _ _ (l.heap.size+1) _ _ rfl rfl b) rfl ⟨rfl,aO a O⟩
end Go.Proofs.YtbdhieahnneebaaGreatDoor
namespace Go.Proofs.YtbdhieahnneebaaGreatDoor
open Go.RowKit
attribute [local go_sem ↓] tR xV
def QR{a b c d e f g h i l n o}(r)(u:du a b d g c.Y)(p:du a b e i c.U)(s:du a b f n c.V)(v:g<=h)(q:i<=l)(t:n<=o):
  ∃w x y,yE r (af d g h) (af e i l) (af f n o)=af w x y/\x<=y/\du a b w x (jq c r):=by
 unfold yE jq
 by_cases a:r=4
 ·rw[if_pos a,if_pos a];exact⟨_,_,_,rfl,q,p⟩
 ·rw[if_neg a,if_neg a]
  by_cases a:r=5
  ·rw[if_pos a,if_pos a];exact⟨_,_,_,rfl,t,s⟩
  ·rw[if_neg a,if_neg a];exact⟨_,_,_,rfl,v,u⟩
def rh{d e f g h i l n o p q r a b c}(s:yE r (af f i l) (af g n o) (af h p q)=af a b c)(t):
  aT aE 269 #[aG #[J E d,J E e,af f i l,af g n o,af h p q],J E r] t fun u v=>u=aK (af a b c)/\bj t.heap.size t v:=by
 rw[<-s];exact Df d e f g h i l n o p q r t
def N0{p}(a b c d e f g)(h:du p g a b f)(i:b<=c)(l:d<=100000)(n:e<=1000)(o:∀q,q<8->d+q*e+8<=b):
  aT aE 173 #[af a b c,aG #[J E d,J E e,J E 8,J E 8]] g (Rm g (mT f d e 8 8)):=
 qV a b c d e 8 8 f g h i O O O l n o
def Dh{g:Nat->Prop}(h:aq)(i:Fr)(l n o p q:Nat)(r:Bool)(s:T)(a:dF g s h i)(b:eH h)(t:oP i l n=aB)(u:o<=5)
  (c:i.W=((16*p:Nat):Int))(v:p<=4)(w:l<p)(x:q<=4)(y:n<q)(d:i.Y.length=(16*q)*(16*p))(e:i.U.length=(8*q)*(8*p))(f:i.V.length=(8*q)*(8*p)):
  aT aE 233 #[h,J E l,J E n,J E o,ao r] s (Ro s (kT i l n o r,0)):=by
 have z:=a;obtain⟨H,U,V,W,Y,a0,a1,a2,a3,rfl,a4,a5,a6⟩:=a;obtain⟨a,a7,a8⟩:=b.o;obtain⟨b,a9,aa,ab,ac,ad⟩:=QR o a4 a5 a6 a a7 a8;have ae:=Cb (fd:=r) c w y u d e f;rw[ad.len] at ae;have ag:=OL (fd:=r) (n:=o) w v (show n<4 by omega) u;have ah:fj (kT i l n o r=mT (jq i o) (fromN i.W.toNat l n o r) (stepN i.W.toNat o r) 8 8):=aH rfl;have ai:=aH (rB i l n o r);have aj:i.W.toNat=16*p:=O;rw[aj] at ae ah;obtain⟨al,am⟩:=aX (16*p);rw[<-am] at ae ah ag;have ap:i.W=(al:Int):=O;generalize ar:fromN al l n o r=ax at*
 generalize ay:stepN al o r=aV at*
 have b0:∀b1,aT aE 270 #[J E al,J E l,J E n,J E o,ao r] b1 fun b2 b3=>b2=aK (aG #[J E ax,J E aV,J E ((8:Nat):Int),J E ((8:Nat):Int)])/\bj b1.heap.size b1 b3:=by
  intro b4;have:=D0 al l n o r b4 O O O u;rw[ar,ay] at this;exact this
 obtain⟨b1,b2,b3⟩:=bh ae b0 ab;obtain⟨b4,b5⟩:=ag;have ag:al<=64:=O;generalize b6:kT i l n o r=b7 at*
 rw[ap] at z ⊢;have b8:=aH ap;clear ae b0 ab ar ay b6 d e f aj c am a4 a5 a6 ap;have c:decide ((6:Int)<=(o:Int))=av:=decide_eq_false O;go_enter func233,Z8;go_wp2_with fail;refine(pz (p:=g) _ i _ _ _ (by(repeat with_reducible apply dF.alloc);exact z)).mono ?_;rintro d e ⟨rfl,f⟩;have a4:bj s.heap.size s e:=(((aM _ s).alloc dS _).alloc dS _).trans (f.mono eB);have a5:Bx e s.heap.size 63 #[J E al,J E i.H,af H U V,af W Y a0,af a1 a2 a3]:=((Bx.new s _ _).alloc _).ext f;have a6:Bn E e 277 (s.heap.size+1) zeros64:=(Bn.D _ _ _ _ _ dS).ext f;have ab:=ad.ext a4;clear f;obtain⟨f,ae,aj,am,ap⟩:=a5.dz;have ar:=a6.lt;have ay:=a5.lt;go_wp2_with fail;clear f ae aj am ap;change yN _ _ _ _ (e.alloc (az (aS E zeros64) 277));have f:=a5.alloc (az (aS E zeros64) 277);have ae:=a6.alloc (az (aS E zeros64) 277);have aj:=Bn.D e E 277 zeros64 e.heap.size rfl;have am:=ab.alloc (az (aS E zeros64) 277);have ap:=a4.alloc a4.size (az (aS E zeros64) 277);generalize e.alloc (az (aS E zeros64) 277)=b0 at*
 have b6:s.heap.size+1<e.heap.size:=ar;have b9:=aj.lt;generalize e.heap.size=ba at*
 clear a5 a6 ab a4 ar;clear e;obtain⟨e,a4,a5,a6,ab⟩:=f.dz;have ar:s.heap.size<b0.heap.size:=f.lt;have bb:=aH ad
 go_region_held3 (fun bc=>bc.cell? ⟨s.heap.size,0,S⟩=M (J E al)/\bc.cell? ⟨s.heap.size,1,S⟩=M (J E i.H)/\bc.cell? ⟨s.heap.size,2,S⟩=M (.slice H U V)/\bc.cell? ⟨s.heap.size,3,S⟩=M (.slice W Y a0)/\bc.cell? ⟨s.heap.size,4,S⟩=M (.slice a1 a2 a3))
  (first|(refine⟨?_,?_,?_,?_,?_⟩<;> go_simp;done)|go_keep)
  (first
   |(go_at_call 269;((with_reducible refine(rh b3.o _).mono ?_);rintro bc bd ⟨rfl,hb3⟩;have hb3:bj b0.heap.size b0 bd:=(by first|exact ml (ml hb3)|exact ml hb3);obtain⟨c_w3,z_w3⟩:=gU hb3;have be:=hb3.size;have bf:s.heap.size<bd.heap.size:=O))
   |(go_at_call 270;((with_reducible refine(b2.o _).mono ?_);rintro bc w4 ⟨rfl,hb4⟩;obtain⟨c_w4,z_w4⟩:=gU hb4;have bd:s.heap.size<w4.heap.size:=(dU hb4.size)))
   |(go_at_call 173;((with_reducible refine(N0 (p:=g) b a9 aa ax aV (jq i o) _ ((am.ext hb3).ext hb4) ac O O b1.o).mono ?_);rintro bc w5 ⟨A5,n5,bd,rfl,be,hB5,hb5⟩;obtain⟨c_w5,z_w5⟩:=gU hb5;have bf:s.heap.size<w5.heap.size:=(gC hb4.size hb5.size))))
 have bc:=hb5.size;have bd:=hb4.size;have be:=hb3.size;have bf:n5=64:=by rw[<-hB5.len,<-ah.o];exact ai.o
 subst bf;have bf:bj s.heap.size s w5:=((ap.trans (hb3.mono ap.size)).trans (hb4.mono (dU ap.size))).trans (hb5.mono (dU ap.size));have bi:=((ae.ext hb3).ext hb4).ext hb5;have bk:=((aj.ext hb3).ext hb4).ext hb5;have bl:=hB5.mono (q:=(w4.heap.size<=·)) (fun bn _ br=>br);rw[<-ah.o] at bl;have bn:ba<w4.heap.size:=O;clear hB5 hb3 hb4 hb5 c_w3 c_w4 c_w5 z_w3 z_w4 z_w5 ae aj f e a4 a5 a6 ab ad am ah bb b2 b3 b1;go_wp2_with fail
 go_loopw [41] (fun e wr=>∃(f:Nat)(a4:List Int),f<=64/\e=J E f/\bj s.heap.size s wr/\Bn E wr 277 (s.heap.size+1) zeros64/\Bn E wr 277 ba a4/\du (w4.heap.size<=·) wr A5 64 b7/\a4.length=64/\(∀a5,a5<f->a4[a5]?=b7[a5]?)) (fun a6 _=>64-(intOf a6).toNat)
 case atStart=>exact⟨0,_,qo _,rfl,bf,bi,bk,bl,rfl,fun e f=>absurd f O⟩
 case round=>
  clear bf bi bk bl;obtain⟨e,f,a4,rfl,a5,a6,ab,ad,ae,ah⟩:=hrel;obtain⟨aj,am⟩:=aQ ae ah;clear ae ah
  by_cases ae:e<64
  · obtain⟨ah,b1,b2,rfl,b3,bb,bf,bi,bk,bl⟩:=ad.at_ ae
    obtain⟨br,bs,bt⟩:=ab.gZ (i:=e) (eZ aj.o ae);have bu:=ab.frozen e;have bv:=ab.lt;have bx:=aH bf;have bz:=aH bs;clear bf bs;have bf:(e:Int)<64:=O;go_wp2_with fail;have bs:¬(w4.heap.size<=ba):=O
    go_roundw
    case rel=>exact⟨e+1,f.set e b2,by omega,by go_num,a5.setCell eB _,a6.C eB _,ab.L e b2,ad.setCell bs _,by rw[ee];exact aj.o,fun bC bK=>vR aj.o ae am.o bx.o bK⟩
    case measure=>simp[intOf];omega
  · obtain rfl:e=64:=O
    have ah:f=b7:=rC aj.o (by rw[ai.o]) am.o;have b1:=ab.lt;go_wp2_with (first|(refine fL rfl (aI 12) rfl ba rfl ab aj.o ?_)|(refine eD rfl (aI 10) (aI 51) rfl (s.heap.size+1) f rfl rfl a6 rfl aj.o ?_));have b2:=rE (a6.row f) aj.o;subst ah;exact dY (v:=fE #[aG (aS E f),J E 0]) (kh PD _ _ (s.heap.size+1) _ _ rfl rfl b2) rfl ⟨rfl,aO a5 O⟩
end Go.Proofs.YtbdhieahnneebaaGreatDoor
namespace Go.Proofs.YtbdhieahnneebaaGreatDoor
open Go.RowKit Go.Top
def fh(a:T)(b:aq)(c:Ending)(d:T):Prop:=c=aK b/\bj a.heap.size a d
def NH(a:Nat)(i:aq):Prop:=∃b:Nat,b<=a/\i=J E b
def fO.alloc{a d b c}(e:fO a d b c)(o):fO a (d.alloc o) b c:=
 ⟨e.os,e.tape,e.output,by have:=e.size;simp;omega,fun a b c f=>(qd d o a (dU e.size)).trans (e.block a b c f)⟩
def tP(a)(c:a=0\/a=1)(b):aT aE 285 #[J E a] b fun d e=>d=aK (ao aB)/\b=e:=by
 rcases c with rfl|rfl
 all_goals
  go_enter func285,ntmps285;go_wp2;go_ret;exact⟨rfl,rfl⟩
def yF(d)(a:-4095<=d)(b:d<=4095)(c):aT aE 315 #[J E d] c fun e f=>e=aK (ao aB)/\c=f:=by
 have a:decide (-4095<=d)=aB:=by simp;omega
 have a:decide (d<=4095)=aB:=by simp;omega
 go_enter func315,ntmps315;go_wp2;go_ret;exact⟨rfl,rfl⟩
def Ads(d f b:Nat)(a:f<=1)(c:b=64-f)(e:T):
  (Instr.sliceAt 277 (aD (M ⟨d,0,S⟩)) (M (J E f)) S S).run aE e=.ok (af (M ⟨d,f,S⟩) b b) e:=by
 subst c;have a:(K3 3).run aE e=.ok 1 e:=dK;have b:aE.arrayLen 277=64:=dK;have c:=run_sliceAt_array_l (P:=aE) e 277 ⟨d,0,S⟩ ji E (f:Int) O (iJ b);rw[b] at c;rw[c];show((K3 3).run aE e).andThen _=_;rw[a];show Result.ok (slicedAt ⟨d,0,S⟩ (f:Int).toNat 64 64 1) e=_;unfold slicedAt;rw[if_neg O,jn];rcases(show f=0\/f=1 by omega) with rfl|rfl<;> rfl
def GO(e:List Int)(a:e.length=64)(d:∀g∈e,-4095<=g/\g<=4095)(f:Nat)(c:f=0\/f=1)(b:T):
  aT aE 331 #[aG (aS E e),J E f] b (fh b (ao aB)):=by
 have a:=Bn.D b E 277 e b.heap.size rfl;obtain⟨b,g⟩:=aQ a yF;clear a;have a:f<=1:=O;clear c;obtain⟨c,h⟩:=aX (64-f);have i:=fun l n=>Ads l f c a h n
 have a:=aH h;have a:c+f<=64:=O;have a:64<=c+f:=O;clear h;go_enter func331,ntmps331;go_wp2;clear i
 go_loop [10] (NH c) (fun a=>c-(intOf a).toNat)
 case atStart=>exact⟨0,by omega,rfl⟩
 case round=>
  obtain⟨a,h,rfl⟩:=hrel
  by_cases h:a<c
  ·have c:f+a<e.length:=O
   have h:=b.o.cell (f+a);rw[aA c] at h;simp only[bX] at h;have b:=d _ (qG c)
   revert h b
   generalize e[f+a]=b;intro c d;go_wp2_with fail;refine(g.o b d.1 d.2 _).mono ?_;rintro b c ⟨rfl,rfl⟩;go_wp2
   go_round
   case rel=>exact⟨a+1,by omega,by go_num⟩
   case measure=>simp[intOf];omega
  ·go_wp2
   go_ret;exact⟨rfl,(aM _ _).alloc (aw _) _⟩
def tq(c d e f)(g:Nat)(a:Int)(b:a=g)(h)(i:Wr h c d e f)(l:g<=65534)(n:f.length<=80000000)(o:c<=h.heap.size):
  aT aE 321 #[aD (M ⟨d,0,S⟩),J E a] h (Rl h c d e (f++uv g)):=by
 subst b;exact qt c d e f g h i l n o
def Bn.G{k a b c d e f g}(h:Bn k a c d g)(i:fO a b e f)(l:d≠e)(n:f≠M d):Bn k b c d g:=h.K (i.block d h.lt l n)
def Af0(a:T)(b c:Nat)(d:Option Nat)(e:List Bool)(f:List Int)(g:Nat)(h i:aq)(wr:T):Prop:=
 ∃(l n:Nat)(o:Int)(p:Option Nat)(q:List Bool),g<=l/\l<=64/\1<=n/\n<=l+1/\i=J E l/\h=J E o/\o=l-n/\Wr wr b c p (e++q)/\q++blk n (f.drop l)=blk 1 (f.drop g)/\fO a wr c d/\Rn a d p
def Ia(d e:Nat)(f:Option Nat)(g:List Bool)(h:List Int)(a:h.length=64)(i:∀q∈h,-4095<=q/\q<=4095)(l:Nat)(b:l=0\/l=1)(n:T)
  (c:Wr n d e f g)(o:g.length<=70000000)(p:d<=n.heap.size):
  aT aE 324 #[aD (M ⟨e,0,S⟩),aG (aS E h),J E l] n (Rl n d e f (g++blk 1 (h.drop l))):=by
 have q:=Bn.D n E 277 h n.heap.size rfl;obtain⟨r,s,t,u,v⟩:=dZ q (c.alloc (az (aS E h) 277)) ((fO.refl n e f).alloc (az (aS E h) 277)) (tP l O) (GO h a i l b);have w:l<=1:=O;have x:=Rn.new c (aw n.heap.size);obtain⟨y,z,H⟩:=bh x a (JF 1 (h.drop l) eB (fun U V=>i U (iw V)));clear q b c x a;go_enter func324,ntmps324;go_wp2_with fail;refine(u.o _).mono ?_;rintro a b ⟨rfl,rfl⟩;go_wp2_with (first|((with_reducible refine fL rfl (aI 4) rfl n.heap.size rfl r.o z.o ?_))|((with_reducible refine(v.o _).mono ?_);rintro c W ⟨rfl,hbe⟩));obtain⟨c,q,x⟩:=bh (s.o.ext hbe) (r.o.ext hbe) (t.o.trans (fO.bS e f hbe) (Rn.refl _ _));have U:n.heap.size+1<=W.heap.size:=by have:=hbe.size;simpa using this
 clear hbe s r t u v
 go_loopw [7,8] (fun r s wr=>Af0 W d e f g h l r s wr) (fun _ t _=>64-(intOf t).toNat)
 case atStart=>
  exact⟨l,1,(l:Int)-1,f,[],aw _,by omega,aw _,by omega,rfl,rfl,by omega,by simpa using c.o,rfl,fO.refl _ _ _,Rn.refl _ _⟩
 case round=>
  obtain⟨r,s,t,u,v,V,Y,a0,a1,rfl,rfl,a2,a3,a4,a5,a6⟩:=hrel;have a7:=a5.size
  have a8:v.length<=62*64+31:=by
   have a9:=H.o;rw[<-a4,aJ,jO,z.o] at a9;omega
  obtain⟨a9,aa,ab⟩:=bh a3 a4 a2;have ac:-1<=t:=O;have ad:t<=63:=O;clear a3 a4
  by_cases a3:r<64
  ·have a4:=q.o.G a5 y.o.1 y.o.2
   have ae:r<h.length:=by rw[z.o];exact a3
   have ag:=a4.cell r;rw[aA ae] at ag;simp only[bX] at ag;have ah:=i _ (qG ae);have ai:h.drop r=h[r]::h.drop (r+1):=List.drop_eq_getElem_cons ae;obtain⟨aj,al⟩:∃am,h[r]=am:=⟨_,rfl⟩;rw[al] at ag ah ai;obtain⟨am,ap⟩:=aQ ai al;have ar:=ah.1;have ax:=ah.2;clear ai a4 ah a2 al
   by_cases a2:aj=0
   ·have a4:(aj==0)=aB:=by simpa using a2
    have ah:=aH a2;clear a2;go_wp2;refine⟨⟨r+1,s+1,t,u,v,by omega,by omega,by omega,by omega,by go_num,rfl,by have:=ab.o;omega,a9.o,?_,a5,a6⟩,by simp[intOf];omega⟩;rw[<-aa.o,am.o,blk,if_pos ah.o]
   ·have a4:(aj==0)=av:=by simpa using a2
    have ah:=aH a2;clear a2;obtain⟨a2,ai⟩:=aQ (tq d e u (g++v) s ((r:Int)-t) (dU ab.o) wr a9.o O eB O) (fun(al:T)(ay:Option Nat)(aV:Wr al d e ay ((g++v)++uv s))(b0:d<=al.heap.size)=>mg d e ay ((g++v)++uv s) aj al aV O O (by have:=Em (v:=s) O;simp;omega) b0);go_wp2_with fail;refine a2.o.mono ?_;rintro al ay ⟨aV,rfl,b0,b1,b2⟩;have b3:=((q.o.G a5 y.o.1 y.o.2).G b1 y.o.1 (a6 _ O y.o.2));have b4:=b3.cell r;rw[aA ae,ap.o] at b4;simp only[bX] at b4;have b5:=b1.size;have b6:=aH b0;clear b3 b0 ag a2;go_wp2_with fail;refine(ai.o ay aV b6.o O).mono ?_;rintro a2 ag ⟨b0,rfl,b3,b7,b8⟩;have b9:=aH b3;have ba:=b7.size;clear b3 ai;go_wp2;have ai:=a6.trans b2 a5.size;have b3:=a5.trans b1 a6;refine⟨⟨r+1,1,(r:Int),b0,v++uv s++sv aj,by omega,by omega,by omega,by omega,by go_num,rfl,by omega,?_,?_,b3.trans b7 ai,ai.trans b8 b3.size⟩,by simp[intOf];omega⟩
    ·have:=b9.o
     rw[<-aW,<-aW];exact this
    ·rw[<-aa.o,am.o,blk,if_neg ah.o]
     simp only[aW]
  ·obtain rfl:r=64:=O
   have a2:=aH (tq d e u (g++v) 0 0 rfl wr a9.o O eB O)
   have a4:g++v++uv 0=g++blk 1 (h.drop l):=by
    rw[<-aa.o,RR (eZ z.o (aw _)),blk,aW]
   rw[a4] at a2;clear a4;go_wp2_with fail;refine a2.o.mono ?_;rintro a4 ae ⟨ag,rfl,ah,ai,aj⟩;have al:=aH ah;clear ah a2;go_wp2;go_ret;have a2:=x.o.trans a5 (Rn.refl n f);have ah:Rn n f u:=fun am ap ar=>a6 am (dU x.o.size) ar
   exact⟨ag,rfl,al.o,a2.trans ai ah,ah.trans aj a2.size⟩
section
def Uu(b a):(a=aF a.length 0/\blk b a=uv 0)\/∃c d e,a=aF c 0++d::e/\d≠0/\blk b a=uv (b+c)++sv d++blk 1 e:=by
 induction a generalizing b with
 |nil=>exact .inl ⟨rfl,rfl⟩
 |cons a c d=>
  by_cases e:a=0
  ·subst e
   rcases d (b+1) with⟨f,g⟩|⟨h,i,l,f,g,n⟩
   ·exact .inl ⟨by rw[eu,lo,<-f],by rw[blk,if_pos rfl,g]⟩
   ·exact .inr ⟨h+1,i,l,by rw[f,lo];rfl,g,by rw[blk,if_pos rfl,n,show b+1+h=b+(h+1) by omega]⟩
  ·exact .inr ⟨0,a,c,rfl,e,by rw[blk,if_neg e];rfl⟩
def FE(a b):aT aE 314 #[J E a,J E 0] b fun c d=>c=aK (J E a)/\b=d:=by
 go_enter func314,ntmps314;go_wp2;go_ret;exact⟨rfl,rfl⟩
def Ud.row{a e c}(f:Ud a e c){b}(d:a.heap.size<=b)(g):Ud a (e.setRow b g) c:=
 ⟨f.os,f.tape,f.output,by rw[kB];exact f.size,fun a c d=>(iD e b a g O).trans (f.block a c d)⟩
def Rd.below{B a b c d}(e:Rd a c d)(f:bj B a b)(g:c<B):Rd b c d:=by
 obtain⟨a,b,c,d,h,i,l,n⟩:=e;exact⟨a,b,c,d,h,i.below f g,l.below f (fun e _ o=>by omega),n⟩
def Aey(a:T)(b c:Nat)(d e:List Int)(f:List Bool)(g:aq)(wr:T):Prop:=
 ∃(h:Nat)(i:List Int)(l:Int),h<=64/\g=J E l/\l=(h:Int)-1/\i.length=h/\i++d.drop h=e/\Bn E wr 277 c (i++aF (64-h) 0)/\Rd wr b (blk 1 (d.drop h)++f)/\Ud a wr (fun n=>n=b\/n=c)
attribute [local go_sem ↓] tR xV
def Aew(a:T)(b:Nat)(c:List Int)(d:List Bool)(e:Ending)(f:T):Prop:=e=aK (aG (aS E c))/\Rd f b d/\Ud a f (·=b)
def Nz(i:Nat)(f:List Int)(h:List Bool)(a:f.length=64)(g:∀l∈f,-4095<=l/\l<=4095)(d:Nat)(b:d=0\/d=1)(e:T)(c:Rd e i (blk 1 (f.drop d)++h)):
  aT aE 287 #[aD (M ⟨i,0,S⟩),J E d] e (Aew e i (aF d 0++f.drop d) h):=by
 have l:d<=1:=O;obtain⟨l,n⟩:=aQ c a;have o:=c.lt;clear a c b;go_enter func287,ntmps287;go_wp2;change yN _ _ _ _ ((e.alloc (az (aS E zeros64) 277)).alloc (az (aS E zeros64) 277));obtain⟨a,b⟩:=aX ((e.alloc (az (aS E zeros64) 277)).alloc (az (aS E zeros64) 277));obtain⟨c,p⟩:=aX (e.heap.size+1);have q:Bn E a 277 c zeros64:=by rw[b];exact Bn.D _ E _ zeros64 c (uM p)
 have r:a.heap[e.heap.size]?=M (az (aS E zeros64) 277 (0,0)):=by rw[b];exact Amu e _ _
 have s:a.heap.size=e.heap.size+2:=by rw[b];simp
 obtain⟨t,u⟩:=aQ (show Ud e a (fun v=>v=i) by rw[b];exact((Ud.refl _ _).alloc _).alloc _) (show Rd a i (blk 1 (f.drop d)++h) by rw[b];exact(l.o.alloc _).alloc _);rw[<-b,<-p];obtain⟨v,w,x,y⟩:=dq q r p s;clear b p q r s l;obtain⟨b,l⟩:=aX (aF d 0++f.drop d);have p:b.length=64:=by rw[l];simp[n.o];omega
 obtain⟨q,r⟩:=aQ l p;rw[<-l];clear l p
 go_loopw [6] (fun l wr=>Aey a i c f b h l wr) (fun p _=>64-(intOf p+1).toNat)
 case atStart=>
  refine⟨d,aF d 0,_,by omega,rfl,rfl,by simp,q.o.symm,?_,u.o,Ud.refl _ _⟩;rw[ma,show d+(64-d)=64 by omega];exact v.o
 case round=>
  obtain⟨d,l,p,q,rfl,s,u,v,z,H,U⟩:=hrel;have q:=U.size;have q:-1<=p:=O;have q:p<=63:=O;obtain⟨q,V,W,Y⟩:=dq s u v z;clear s u v z;rcases Uu 1 (f.drop d) with⟨s,u⟩|⟨v,z,a0,s,a1,u⟩
  ·rw[u] at H
   obtain⟨a2,a3,a4⟩:=bh (pj i 0 h wr H O) (fun a5=>FE 0 a5) s;clear s u H;go_wp2_with fail;refine a2.o.mono ?_;rintro a2 a5 ⟨rfl,a6,a7⟩;have a2:=aH a6;clear a6;go_wp2_with fail;refine(a3.o _).mono ?_;rintro a3 a6 ⟨rfl,rfl⟩;have a3:=U.trans (a7.mono (G':=fun a6=>a6=i\/a6=c) (fun a8 _ a9=>.inl a9))
   have a6:l++aF (64-d) 0=b:=by
    rw[<-W.o,a4.o,jO,n.o]
   have a4:Bn E a5 277 c b:=by
    rw[<-a6];exact Y.o.K (a7.block _ Y.o.lt (dU x.o))
   have a7:Bn E a5 277 e.heap.size zeros64:=(show Bn E a _ _ zeros64 from w.o).K (a3.block _ (dU y.o) (dU x.o));obtain⟨a,w⟩:=aQ a4 a7;have y:=a3.size;clear a4 a7 a6;go_wp2_with (first|((with_reducible refine fL rfl (aI 5) rfl c rfl a.o r.o ?_))|((with_reducible refine eD rfl (aI 4) (aI 17) rfl e.heap.size b rfl rfl w.o rfl r.o ?_)));have a:Bn E (a5.setRow e.heap.size (aS E b)) 277 e.heap.size b:=w.o.row b;have w:bj e.heap.size a5 (a5.setRow e.heap.size (aS E b)):=aO (aM _ _) (aw _);refine dY (v:=aG (aS E b)) (Ke results287 _ _ e.heap.size 277 _ (0,0) _ rfl a ji rfl (by rw[bE,r.o];exact gP)) rfl ⟨rfl,a2.o.below w o,?_⟩;have a:Ud e a5 (fun b=>b=i):=(((t.o.mono (G':=fun o=>o=i\/o=c) (fun _ _ r=>.inl r))).trans a3).mono (fun w y a2=>by have:=x.o;omega);exact a.row (aw _) _
  ·have a:(f.drop d).length=64-d:=by rw[jO,n.o]
   rw[s] at a;simp only[aJ,bp,eu] at a;obtain⟨b,e⟩:=aX (1+v);obtain⟨f,n⟩:=aX (d+v);have o:p+(b:Int)=(f:Nat):=by have:=q.o;omega
   rw[u,<-e] at H;have o:-4095<=z/\z<=4095:=g z (iw (i:=d) (uM s));have g:=o.1;have p:=o.2;have r:1<=b:=O;have r:b<=64:=O;have r:f<64:=O;simp only[aW] at H;obtain⟨r,t,w,y⟩:=dq (pj i b (sv z++(blk 1 a0++h)) wr H O) (fun a2 a3=>FE a2 a3) (fun a4 a5=>r7 i z (blk 1 a0++h) a4 a5 O O) (yF z g p);have b:(z==0)=av:=by simpa using a1
   obtain⟨b,g,h,p⟩:=dq s n e a1;have h:=Y.o.lt;have h:v+1+a0.length=64-d:=O;clear s u H n e a o a1;go_wp2_with fail;refine r.o.mono ?_;rintro a e ⟨rfl,h,n⟩;have a:=aH h;clear h;go_wp2_with fail;refine(t.o _ _).mono ?_;rintro e h ⟨rfl,rfl⟩;go_wp2_with fail;refine(w.o _ a.o).mono ?_;rintro a e ⟨rfl,h,o⟩;have a:=aH h;clear h;go_wp2_with fail;refine(t.o _ _).mono ?_;rintro h p ⟨rfl,rfl⟩;have h:Bn E e 277 c (l++aF (64-d) 0):=(Y.o.K (n.block _ Y.o.lt (dU x.o))).K (o.block _ (dU n.size) (dU x.o));have p:=h.frozen f;have p:=h.lt
   have p:e.cell? ⟨c,f,S⟩=M (J E 0):=by
    rw[h.cell,aU (by rw[V.o,g.o];omega),V.o,List.getElem?_replicate,if_pos (iJ g.o)];rfl
   have p:=aH h;have r:=n.size;have r:=o.size;clear h;go_wp2_with ((with_reducible refine(y.o _).mono ?_);rintro h r ⟨rfl,rfl⟩);have h:=n.mono (G':=fun r=>r=i\/r=c) (fun s _ t=>.inl t);have n:=o.mono (G':=fun r=>r=i\/r=c) (fun s _ t=>.inl t);refine⟨⟨f+1,l++aF v 0++[z],f,by omega,rfl,by omega,by simp[V.o];have:=g.o;omega,?_,?_,?_,((U.trans h).trans n).set (.inr rfl) _⟩,?_⟩
   ·rw[<-W.o,show f+1=d+(v+1) by have:=g.o;omega,<-gK,b.o]
    simp[GY]
   ·have:=p.o.L f z
    have h:(l++aF (64-d) 0).set f z=l++aF v 0++[z]++aF (64-(f+1)) 0:=by
     rw[show 64-d=v+(1+(64-(f+1))) by have:=g.o;omega,<-ma,<-ma,<-aW,
      jT _ _ (by simp[V.o];have:=g.o;omega)]
     simp[V.o,g.o,aW]
    rw[h] at this;exact this
   ·rw[show f+1=d+(v+1) by have:=g.o;omega,<-gK,b.o,GY]
    have:=a.o.ud (G:=fun b=>b=c) ((Ud.refl e (fun d=>d=c)).set (a:=⟨c,f,S⟩) rfl (J E z)) (fun h l=>by have:=x.o;omega);simpa using this
   ·simp[intOf];have:=q.o;have:=g.o;omega
end
def Q4(a b c):
  CallsD aE 286 #[aD (M a),aD (M b)] .returning c fun d e f=>d=aK (fE #[])/\e=.returning/\f=c:=by
 refine callsD_of_wpS func286 rfl fun a b c=>?_
 apply wpS_seq;apply wpS_region;simp[wpOpsS,go_sem,recoverD,c,ntmps286,Exit.thenS];apply wpS_seq;apply wpS_region;simp[wpOpsS,go_sem,Exit.thenS];refine wpS_cond (t:=false) (by simp[Afl,JT]) ?_;simp only[yP,if_false];refine wpS_of_wp (wp_skip ?_);cases a
 simp_all [bodyPostS,Ih,results286]
def Ao{a b h n c d}(r:b.results=#[.cell h c,.cell n d])(o e i p f g)
  (l:o.getD h sJ=aD (M i))(q:o.getD n sJ=aD (M p))(s:(oA c i).run a e=.ok f e)(t:(oA d p).run a e=.ok g e):(Ih b o).run a e=.ok (fE #[f,g]) e:=by
 have a:o[h]?.getD sJ=aD (M i):=by simpa using l
 have b:o[n]?.getD sJ=aD (M p):=by simpa using q
 simp[Ih,r,a,b,asAddr,s,t]
def Ud.Af5{a d b}(e:Ud a d b){f}(c:a.heap.size<=f.block)(g):Ud a (d.setCell f g) b:=
 ⟨e.os,e.tape,e.output,by simpa[gS] using e.size,fun a b c=>(eF d f g a O).trans (e.block a b c)⟩
def Aei(a:T)(b:Nat)(c:List Int)(d:List Bool)(e:Ending)(f:T):Prop:=e=aK (fE #[aG (aS E c),J E 0])/\Rd f b d/\Ud a f (·=b)
def NA(h:Nat)(e:List Int)(f:List Bool)(b:e.length=64)(a:∀l∈e,-4095<=l/\l<=4095)(g:Nat)(c:g=0\/g=1)(i:T)(d:Rd i h (blk 1 (e.drop g)++f)):
  aT aE 264 #[aD (M ⟨h,0,S⟩),J E g] i (Aei i h (aF g 0++e.drop g) f):=by
 have l:∀(n:Fn)(first o:Array aq)(p:T),(Instr.makeFunc n first o).run aE p=.ok (.func n first o) p:=fun _ _ _ _=>rfl
 have l:=d.lt;have n:=aH d;obtain⟨o,p⟩:=aX (aF g 0++e.drop g);have q:o.length=64:=by rw[p];simp[b];omega
 obtain⟨r,s⟩:=aQ (tP g O) (fun t u=>Nz h e f b a g c t u);rw[<-p] at s ⊢;have a:=aH q;clear p q b d c
 go_enter_defers func264,ntmps264
 go_upto_region 1 with fail;change yN _ _ _ _ ((i.alloc (az (aS E zeros64) 277)).alloc (az #[J E 0] 36));obtain⟨b,c⟩:=aX ((i.alloc (az (aS E zeros64) 277)).alloc (az #[J E 0] 36));have d:b.heap[i.heap.size]?=M (az (aS E zeros64) 277 (0,0)):=by rw[c];exact Amu i _ _
 have p:Bx b (i.heap.size+1) 36 #[J E 0]:=by rw[c];exact Bx.D _ _ _ _ dS
 obtain⟨q,t⟩:=aQ (show Ud i b (fun u=>u=h) by rw[c];exact((Ud.refl _ _).alloc _).alloc _) (show Rd b h (blk 1 (e.drop g)++f) by rw[c];exact(n.o.alloc _).alloc _);have e:b.heap.size=i.heap.size+2:=by rw[c];simp
 rw[<-c];obtain⟨f,g,n⟩:=bh d p e;clear c d p e;go_wp2_with fail;refine(r.o _).mono ?_;rintro c d ⟨rfl,rfl⟩;go_wp2_with fail;refine(s.o _ t.o).mono ?_;rintro c d ⟨rfl,e,p⟩;have c:=aH e;have r:Bn E d 277 i.heap.size zeros64:=(show Bn E b _ _ zeros64 from f.o).K (p.block _ (dU n.o) O);have b:Bx d (i.heap.size+1) 36 #[J E 0]:=g.o.ud p O;have f:=b.m (g':=i.heap.size) (cs':=aS E o) O;have g:=f.cell 0 rfl;have g:=f.frozen 0;have g:=f.lt;obtain⟨g,n⟩:=aQ r f;clear r b f e;go_wp2_with ((with_reducible refine eD rfl (aI 4) (aI 17) rfl i.heap.size o rfl rfl g.o rfl a.o ?_));have b:Bn E ((d.setRow i.heap.size (aS E o)).setCell ⟨i.heap.size+1,0,S⟩ (J E 0)) 277 i.heap.size o:=(g.o.row o).C dS _;have e:=rE b a.o;have a:=(n.o.L 0 (J E 0)).cell 0 rfl;have b:(oA 36 ⟨i.heap.size+1,0,S⟩).run aE ((d.setRow i.heap.size (aS E o)).setCell ⟨i.heap.size+1,0,S⟩ (J E 0))=.ok (J E 0) ((d.setRow i.heap.size (aS E o)).setCell ⟨i.heap.size+1,0,S⟩ (J E 0)):=by simp[go_sem,a]
 have a:bj i.heap.size d ((d.setRow i.heap.size (aS E o)).setCell ⟨i.heap.size+1,0,S⟩ (J E 0)):=FD (aO (aM _ _) (aw _)) _ dS _;refine leaves_cons (f:=286) (args:=#[aD (M ⟨i.heap.size,0,S⟩),aD (M ⟨i.heap.size+1,0,S⟩)]) dS (by simp[go_sem]) ?_;refine(Q4 _ _ _).mono ?_;rintro f g n ⟨rfl,rfl,rfl⟩;refine⟨fE #[aG (aS E o),J E 0],Ao results264 _ _ _ _ _ _ rfl rfl e b,rfl,c.o.below a l,?_⟩;have a:Ud i d (fun b=>b=h):=q.o.trans p;exact(a.row (aw _) _).Af5 dS _
end Go.Proofs.YtbdhieahnneebaaGreatDoor
namespace Go.Top
def S8(a:Nat->Int):Int:=a 0+a 1+a 2+a 3+a 4+a 5+a 6+a 7
def tM(i a:Nat):Int:=([8,8,8,8,8,8,8,8,12,10,6,3,-3,-6,-10,-12,8,4,-4,-8,-8,-4,4,8,10,-3,-12,-6,6,12,3,-10,8,-8,-8,8,8,-8,-8,8,6,-12,3,10,-10,-3,12,-6,4,-8,8,-4,-4,8,-8,4,3,-6,10,-12,12,-10,6,-3]:List Int).getD (8*i+a) 0
def nM(i:Nat):Int:=([512,578,320,578,512,578,320,578]:List Int).getD i 1
def mM(i:Nat):Int:=739840/nM i
def X7{a d b:Int}(c:-b<=d/\d<=b):-(a.natAbs*b)<=a*d/\a*d<=a.natAbs*b:=by
 rcases Int.natAbs_eq a with b|b
 ·have e:(0:Int)<=a.natAbs:=by omega
  have f:=jf c.1 e;have g:=jf c.2 e;rw[VL] at f;constructor
  ·calc _<=(a.natAbs:Int)*d:=f
    _=a*d:=by rw[<-b]
  ·calc a*d=(a.natAbs:Int)*d:=by rw[<-b]
    _<=_:=g
 ·have e:(0:Int)<=a.natAbs:=by omega
  have f:=jf c.1 e;have g:=jf c.2 e;rw[VL] at f;have c:a*d=-((a.natAbs:Int)*d):=by rw[<-Int.neg_mul,<-b]
  rw[c];omega
end Go.Top
namespace Go.Proofs.YtbdhieahnneebaaGreatDoor
open Go.RowKit Go.Top
def Ks:List Int:=[8,8,8,8,8,8,8,8,12,10,6,3,-3,-6,-10,-12,8,4,-4,-8,-8,-4,4,8,10,-3,-12,-6,6,12,3,-10,8,-8,-8,8,8,-8,-8,8,6,-12,3,10,-10,-3,12,-6,4,-8,8,-4,-4,8,-8,4,3,-6,10,-12,12,-10,6,-3]
def X0:List Int:=[512,578,320,578,512,578,320,578]
def MJ(i a)(b:i<8)(c:a<8):Ks[8*i+a]?=M (tM i a):=by
 have d:∀e:Fin 8,∀f:Fin 8,Ks[8*e.val+f.val]?=M (tM e.val f.val):=by decide
 exact d ⟨i,b⟩ ⟨a,c⟩
def T7(i)(a:i<8):X0[i]?=M (nM i):=by
 have b:∀c:Fin 8,X0[c.val]?=M (nM c.val):=by decide
 exact b ⟨i,a⟩
def zu(a:T)(b:List Int)(c:Ending)(d:T):Prop:=c=aK (aG (aS E b))/\bj a.heap.size a d
def UP:(aE.info? 210).map (·.size)=M X0.length:=dK
def AW:(aE.info? 211).map (·.size)=M Ks.length:=dK
def Kn(a:T):aT aE 168 #[] a (zu a X0):=by
 go_enter func168,ntmps168;go_wp2;have b:Bn E (a.alloc (az (aS E X0) 210)) 210 a.heap.size X0:=Bn.D _ _ _ _ _ rfl;exact dY (v:=aG (aS E X0)) (Ke results168 _ _ a.heap.size 210 _ (0,0) _ rfl b underlying210 rfl (eZ bE UP)) rfl ⟨rfl,(aM _ _).alloc (aw _) _⟩
def ug{a b c d v e f u}(h:c.guard=S)(i l n)(o:c.op=.store n i l)
  (g)(p:d.eval i=aD (M ⟨v.heap.size,0,S⟩))(q:d.eval l=aG (aS E g))(r:f.size=g.length)(s:(aE.info? n).map (·.size)=M g.length)
  (t:∀w,Bn E w u v.heap.size g->bj v.heap.size v w->cG aE a e b (d.put c.dst sJ) w):cG aE a e (c::b) d (v.alloc (az f u)):=by
 refine vA h n i l o v.heap.size _ p q u _ (heap_alloc_new v _) (eZ bE s) (by rw[bE,r]) (pT _ _) (t _ ?_ ?_)
 ·exact setRow_heap _ _ _ _ u (0,0) (heap_alloc_new v _)
 ·exact aO ((aM _ v).alloc (aw _) _) (aw _)
def He(a:T):aT aE 167 #[] a (zu a Ks):=by
 go_enter func167,ntmps167;go_upto_region 1 with fail;go_wp2_with (refine ug rfl (aI 0) (aI 9) 211 rfl Ks rfl rfl rfl AW ?_;intro b hB hbe);exact dY (v:=aG (aS E Ks)) (Ke results167 _ _ a.heap.size 211 _ (0,0) _ rfl hB underlying211 rfl (eZ bE AW)) rfl ⟨rfl,hbe⟩
def I9(a:Int):Int:=min (max a 0) 255
def I8(a):0<=I9 a/\I9 a<=255:=by unfold I9;omega
def sj(a:List Int):List Int:=a.map I9
def Ca(a):(sj a).length=a.length:=by simp[sj]
def I7(a):∀b∈sj a,0<=b/\b<=255:=by
 intro a b;obtain⟨a,_,rfl⟩:=iy.1 b;exact I8 a
def An(a:List Int)(b:Nat->Nat)(c:List Int):Nat->List Int
 |0=>a
 |d+1=>(An a b c d).set (b d) (c.getD d 0)
def tw(a b c):∀d,(An a b c d).length=a.length
 |0=>rfl
 |d+1=>by rw[An,ee,tw a b c d]
def Su{a d e b}(c:d+e.length<a.length):CH a d (e++[b])=(CH a d e).set (d+e.length) b:=by
 apply oB;intro a;rw[uq eB,uf,Ag O,uq O]
 by_cases b:a<d
 ·rw[if_pos b,if_neg O,if_pos b]
 ·rw[if_neg b]
  by_cases c:d+e.length=a
  ·rw[if_pos eB,if_pos c,if_pos O]
   rw[aU O,show a-d-e.length=0 by omega];rfl
  ·rw[if_neg c,if_neg b]
   by_cases b:a<d+e.length
   ·rw[if_pos eB,if_pos b,bo O]
   ·rw[if_neg eB,if_neg b]
def KC{m s P fr st r}(a:∀d,d<8->P (8*r+d)=fr+r*st+d)(b:8*r+8<=s.length)(c:fr+r*st+8<=m.length):
  ∀d,d<=8->An m P s (8*r+d)=CH (An m P s (8*r)) (fr+r*st) ((s.drop (r*8)).take d)
 |0,_=>by rw[dP,Of];rfl
 |d+1,e=>by
  have e:r*8=8*r:=dh _ _
  have f:(s.drop (r*8)).take (d+1)=(s.drop (r*8)).take d++[s.getD (8*r+d) 0]:=by
   rw[List.take_add_one,iZ,e,jS,aA O];rfl
  have e:((s.drop (r*8)).take d).length=d:=by rw[dE,jO];omega
  rw[f,Su (by rw[e,tw];omega),e,<-KC a b c d O,show 8*r+(d+1)=(8*r+d)+1 by omega,An,a d O]
def Et{a b c d e}(f:∀i,i<64->c i=d+i/8*e+i%8)(g:b.length=64)(h:∀l,l<8->d+l*e+8<=a.length):
  ∀i,i<=8->An a c b (8*i)=fN a b d e 8 i
 |0,_=>rfl
 |i+1,l=>by
  have:=KC (m:=a) (s:=b) (P:=c) (fr:=d) (st:=e) (r:=i) (fun l n=>by rw[f _ O,show(8*i+l)/8=i by omega,show(8*i+l)%8=l by omega]) O (h i O) 8 (aw _);rw[show 8*(i+1)=8*i+8 by omega,this,Et f g h i O];rfl
def uu(a:Fr)(b:Nat)(c:List Int):Fr:=if b=4 then {a with U:=c} else if b=5 then {a with V:=c} else {a with Y:=c}
def uw(a:Fr)(b c d:Nat)(e:Bool)(f:List Int):Fr:=uu a d (An (jq a d) (zg a.W.toNat b c d e) (sj f) 64)
def IM{d e f g a b fd c}(h:c.length=64)(i:d.W=((16*a:Nat):Int))(l:e<a)(n:f<b)(o:g<=5)
  (p:d.Y.length=(16*b)*(16*a))(q:d.U.length=(8*b)*(8*a))(r:d.V.length=(8*b)*(8*a)):
  An (jq d g) (zg d.W.toNat e f g fd) (sj c) 64=fN (jq d g) (sj c) (fromN d.W.toNat e f g fd) (stepN d.W.toNat g fd) 8 8:=
 Et (fun a _=>(EN d.W.toNat e f g fd a).symm) (by rw[Ca,h]) (Cb i l n o p q r) 8 (aw _)
def Aia(a:T)(b:List Int)(c:Ending)(d:T):Prop:=
 ∃e,c=aK (af (M ⟨e,0,S⟩) b.length b.length)/\a.heap.size<=e/\Bk d 5 e b/\bj a.heap.size a d
def uB{p:Nat->Prop}(b:Option Addr)(e c:Nat)(f:List Int)(g:T)(d:du p g b e f)(a:e<=100000):
  aT aE 244 #[af b e c] g (Aia g f):=by
 have a:=pS (P:=aE) (t:=54) dw iY e e (aw _) O;have a:=aH d.len;go_enter func244,ntmps244;go_wp2_with (with_reducible refine qL (p:=p) _ rfl _ _ _ rfl _ dw iY _ _ _ _ _ _ rfl rfl g.heap.size 0 _ (Bk.made g _ e) f (d.alloc _) (fun _=>rfl) dS ?_;intro b hB1 hg1)
 have b:CH (aF e 0) 0 (f.take e)=f:=by
  rw[kN (eZ a.o (aw _))];unfold CH;simp[a.o]
 rw[b] at hB1;go_ret;refine⟨g.heap.size,by rw[a.o];rfl,aw _,hB1,?_⟩;exact((aM _ g).alloc (aw _) _).grown hg1 dS (fun a b=>by cases b;exact aw _)
structure zw(b:Nat)(e:T)(a:aq)(f:Fr)(c d g:Nat):Prop where
 val:a=aG #[J E f.W,J E f.H,af (M ⟨c,0,S⟩) f.Y.length f.Y.length,af (M ⟨d,0,S⟩) f.U.length f.U.length,af (M ⟨g,0,S⟩) f.V.length f.V.length]
 Q:b<=c
 b2:b<=d
 b3:b<=g
 n12:c≠d
 n13:c≠g
 n23:d≠g
 k1:Bk e 5 c f.Y
 k2:Bk e 5 d f.U
 k3:Bk e 5 g f.V
def D4{p:Nat->Prop}(b:aq)(c:Fr)(d:T)(a:dF p d b c)(e:c.Y.length<=100000)(f:c.U.length<=100000)(g:c.V.length<=100000):
   aT aE 206 #[b] d fun h i=>∃l n o g3,h=aK l/\zw d.heap.size i l c n o g3/\bj d.heap.size d i:=by
 obtain⟨h,i,l,n,o,q,r,s,t,rfl,u,v,w⟩:=a;rw[u.len] at e;rw[v.len] at f;rw[w.len] at g;go_enter func206,ntmps206;go_wp2_with fail;have a:Bx ((d.alloc (az #[J E c.W,J E c.H,af h i l,af n o q,af r s t] 63)).alloc (az #[J E 0,J E 0,af S 0 0,af S 0 0,af S 0 0] 63)) d.heap.size 63 #[J E c.W,J E c.H,af h i l,af n o q,af r s t]:=(Bx.new d _ _).alloc _;have x:Bx ((d.alloc (az #[J E c.W,J E c.H,af h i l,af n o q,af r s t] 63)).alloc (az #[J E 0,J E 0,af S 0 0,af S 0 0,af S 0 0] 63)) (d.heap.size+1) 63 #[J E 0,J E 0,af S 0 0,af S 0 0,af S 0 0]:=Bx.D _ _ _ _ dS;have y:bj d.heap.size d ((d.alloc (az #[J E c.W,J E c.H,af h i l,af n o q,af r s t] 63)).alloc (az #[J E 0,J E 0,af S 0 0,af S 0 0,af S 0 0] 63)):=((aM _ d).alloc dS _).alloc dS _;generalize (d.alloc (az #[J E c.W,J E c.H,af h i l,af n o q,af r s t] 63)).alloc (az #[J E 0,J E 0,af S 0 0,af S 0 0,af S 0 0] 63)=z at*
 have H:=(u.ext y).drew;have U:=v.ext y;have V:=w.ext y;obtain⟨W,Y,a0,a1,a2⟩:=a.dz;obtain⟨a3,a4,a5,a6,a7⟩:=x.dz;have a8:=x.frozen 0;have a9:=x.frozen 1;have aa:=x.frozen 2;have ab:=x.frozen 3;have ac:=x.frozen 4;have ad:=a.lt;have ae:=x.lt
 go_region_held3 (fun ag=>ag.cell? ⟨d.heap.size,0,S⟩=M (J E c.W)/\ag.cell? ⟨d.heap.size,1,S⟩=M (J E c.H)/\ag.cell? ⟨d.heap.size,2,S⟩=M (.slice h i l)/\ag.cell? ⟨d.heap.size,3,S⟩=M (.slice n o q)/\ag.cell? ⟨d.heap.size,4,S⟩=M (.slice r s t))
   (first|(refine⟨?_,?_,?_,?_,?_⟩<;> go_simp;done)|go_keep)
   (first
    |(go_at_call 244;((with_reducible refine(uB (p:=p) h i l c.Y _ H e).mono ?_);rintro ag ah ⟨g3,rfl,hg3,hB3,hb3⟩;have hb3:bj z.heap.size z ah:=(by first|exact ml (ml hb3)|exact ml hb3);obtain⟨ai,aj⟩:=gU hb3;have al:=hb3.size;have am:d.heap.size<ah.heap.size:=O;have ap:d.heap.size+1<ah.heap.size:=O))
    |(go_at_call 244;((with_reducible refine(uB (p:=p) n o q c.U _ (U.ext hb3) f).mono ?_);rintro ag ah ⟨g4,rfl,ai,hB4,hb4⟩;obtain⟨aj,al⟩:=gU hb4;have am:d.heap.size<ah.heap.size:=(dU hb4.size);have ap:d.heap.size+1<ah.heap.size:=(dU hb4.size)))
    |(go_at_call 244;((with_reducible refine(uB (p:=p) r s t c.V _ ((V.ext hb3).ext hb4) g).mono ?_);rintro ag w5 ⟨g5,rfl,ah,hB5,hb5⟩;obtain⟨ai,aj⟩:=gU hb5;have al:d.heap.size<w5.heap.size:=(gC hb4.size hb5.size);have am:d.heap.size+1<w5.heap.size:=(gC hb4.size hb5.size))))
 go_wp2;have ag:=hb3.size;have ah:=hb4.size;have ai:=hb5.size;have aj:=hB3.lt;have al:=hB4.lt;have am:z.heap.size<=g3:=hg3;have ap:bj d.heap.size d w5:=((y.trans (hb3.mono y.size)).trans (hb4.mono (dU y.size))).trans (hb5.mono (dU y.size));refine dY (v:=aG #[J E c.W,J E c.H,af (M ⟨g3,0,S⟩) c.Y.length c.Y.length,af (M ⟨g4,0,S⟩) c.U.length c.U.length,af (M ⟨g5,0,S⟩) c.V.length c.V.length]) (by simp only[Ih,results206];go_simp) rfl ⟨_,g3,g4,g5,rfl,⟨rfl,by omega,by omega,by omega,by omega,by omega,by omega,?_,?_,?_⟩,?_⟩
 · repeat refine Bk.C ?_ eB _
   exact(hB3.ext hb4).ext hb5
 · repeat refine Bk.C ?_ eB _
   exact hB4.ext hb5
 · repeat refine Bk.C ?_ eB _
   exact hB5
 ·
   repeat(first|(with_reducible exact ap)|(with_reducible refine iu ?_ (by first|(simp;done)|(simp;omega)) _)|(with_reducible refine qk ?_ (by first|(simp;done)|(simp;omega)) _)|(with_reducible refine rS ?_))
section
attribute [local go_sem ↓] kH kI
def pG{a}{e:Nat}{b}(c:a.length=64)(f:a[e]?=M b)(d):(eT 277 (aG (aS E a)) (J E (e:Int))).run aE d=.ok (J E b) d:=by
 have a:e<64:=by have:=(aP.1 f).1;omega
 have b:∀c,(K3 3).run aE c=.ok 1 c:=fun _=>by kernel_rfl
 have c:∀d,(isAgg 3).run aE d=.ok av d:=fun _=>by kernel_rfl
 simp[eT,fI ji,part,b,c,aS,go_sem,a,f]
def zw.ext{a b c d e f g h}(i:zw a b d e f g h)(l:bj b.heap.size b c):zw a c d e f g h:=
 ⟨i.val,i.Q,i.b2,i.b3,i.n12,i.n13,i.n23,i.k1.ext l,i.k2.ext l,i.k3.ext l⟩
def zw.C{b c d e f g h}(l:zw b c d e f g h){a}(i:a.block<b)(n):zw b (c.setCell a n) d e f g h:=
 ⟨l.val,l.Q,l.b2,l.b3,l.n12,l.n13,l.n23,l.k1.C (dU l.Q) n,l.k2.C (dU l.b2) n,l.k3.C (dU l.b3) n⟩
def zw.low{a b c d e f g h}(i:zw a c d e f g h)(l:b<=a):zw b c d e f g h:=
 ⟨i.val,aY l i.Q,aY l i.b2,aY l i.b3,i.n12,i.n13,i.n23,i.k1,i.k2,i.k3⟩
def zw.pick{a b c d i e g}(o:zw a b c d i e g)(f)(h:∀p∈d.Y,0<=p/\p<=255)(l:∀q∈d.U,0<=q/\q<=255)(n:∀r∈d.V,0<=r/\r<=255):
  ∃p,yE f (af (M ⟨i,0,S⟩) d.Y.length d.Y.length) (af (M ⟨e,0,S⟩) d.U.length d.U.length) (af (M ⟨g,0,S⟩) d.V.length d.V.length)=af (M ⟨p,0,S⟩) (jq d f).length (jq d f).length/\a<=p/\
   Bk b 5 p (jq d f)/\∀q r,r.length=(jq d f).length->(∀s∈r,0<=s/\s<=255)->Bk q 5 p r->b.grownBy q (M p)->dF (a<=·) q c (uu d f r):=by
 have a:=o.val;subst a;unfold yE jq uu
 by_cases a:f=4
 ·simp only[if_pos a]
  refine⟨e,rfl,o.b2,o.k2,fun b c d p q r=>⟨_,_,_,_,_,_,_,_,_,rfl,(o.k1.grown r (by simp[o.n12])).zA o.Q h,?_,(o.k3.grown r (by simp[xW o.n23])).zA o.b3 n⟩⟩;rw[<-d];exact q.zA o.b2 p
 ·simp only[if_neg a]
  by_cases a:f=5
  ·simp only[if_pos a]
   refine⟨g,rfl,o.b3,o.k3,fun b c d e f p=>⟨_,_,_,_,_,_,_,_,_,rfl,(o.k1.grown p (by simp[o.n13])).zA o.Q h,(o.k2.grown p (by simp[o.n23])).zA o.b2 l,?_⟩⟩;rw[<-d];exact f.zA o.b3 e
  ·simp only[if_neg a]
   refine⟨i,rfl,o.Q,o.k1,fun a b c d e f=>⟨_,_,_,_,_,_,_,_,_,rfl,?_,(o.k2.grown f (by simp[xW o.n12])).zA o.b2 l,(o.k3.grown f (by simp[xW o.n13])).zA o.b3 n⟩⟩;rw[<-c];exact e.zA o.Q d
def IW{p}(a b c d e f g h i l)(n:Bk l 5 a h)(o:h.length=b)(q:b<=c)(r:du p l f 64 i)(s:¬p a)(t:64<=g)(u:d<=100000)(v:e<=1000)(w:b<=100000)
  (x:∀y,y<8->d+y*e+8<=b):
  aT aE 165 #[af (M ⟨a,0,S⟩) b c,aG #[J E d,J E e,J E 8,J E 8],af f 64 g] l (fun y z=>y=aK (fE #[])/\Bk z 5 a (fN h i d e 8 8)/\l.grownBy z (M a)):=
 km a b c d e 8 8 f 64 g h i l n o q r s t O O O u v w O x
def zd{g:Nat->Prop}(h:aq)(l:Fr)(i n o p q:Nat)(r:Bool)(s:List Int)(t:T)(a:dF g t h l)(b:s.length=64)(u:oP l i n=aB)(v:o<=5)
  (c:l.W=((16*p:Nat):Int))(w:p<=4)(x:i<p)(y:q<=4)(z:n<q)(d:l.Y.length=(16*q)*(16*p))(e:l.U.length=(8*q)*(8*p))(f:l.V.length=(8*q)*(8*p)):
  aT aE 235 #[h,J E i,J E n,J E o,ao r,aG (aS E s)] t (nk t (uw l i n o r s,0)):=by
 have H:=a;have U:=IM (fd:=r) b c x z v d e f;have V:=Cb (fd:=r) c x z v d e f;have W:=OL (fd:=r) (n:=o) x w (show n<4 by omega) v;have Y:l.Y.length<=4096:=by rw[d];exact aY (fo (show 16*q<=64 by omega) (show 16*p<=64 by omega)) O
 have a0:l.U.length<=1024:=by rw[e];exact aY (fo (show 8*q<=32 by omega) (show 8*p<=32 by omega)) O
 have a1:l.V.length<=1024:=by rw[f];exact aY (fo (show 8*q<=32 by omega) (show 8*p<=32 by omega)) O
 have a2:(jq l o).length<=4096:=by unfold jq;split<;> (try split)<;> omega
 obtain⟨a3,a4,a5,a6,a7,a8,a9,aa,ab,rfl,ac,ad,ae⟩:=a;have a:=aH ac.yH;have ag:=aH ad.yH;have ah:=aH ae.yH;have ai:l.W.toNat=16*p:=O;rw[ai] at V U;obtain⟨aj,al⟩:=aX (16*p);rw[<-al] at V U W;have am:l.W=(aj:Int):=O;have ap:uw l i n o r s=uu l o (fN (jq l o) (sj s) (fromN aj i n o r) (stepN aj o r) 8 8):=by unfold uw;rw[ai,<-al,U]
 clear U;generalize U:fromN aj i n o r=ar at*
 generalize ax:stepN aj o r=ay at*
 have aV:∀b0,aT aE 270 #[J E aj,J E i,J E n,J E o,ao r] b0 fun b1 b2=>b1=aK (aG #[J E ar,J E ay,J E 8,J E 8])/\bj b0.heap.size b0 b2:=by
  intro b3;have:=D0 aj i n o r b3 O O O v;rw[U,ax] at this;exact this
 obtain⟨b0,b1⟩:=aX (fN (jq l o) (sj s) ar ay 8 8);rw[<-b1] at ap;rw[ap];have b2:=aH b1;clear b1 ap;obtain⟨ap,b1⟩:=aQ V aV;obtain⟨b3,b4⟩:=W;have W:aj<=64:=O;rw[am] at H ⊢;obtain⟨b5,b6,b7⟩:=bh am H b;have b8:∀b9:T,(Be 54 (J E 64) (J E 64)).run aE b9=.ok (af (M ⟨b9.heap.size,0,S⟩) 64 64) (b9.alloc (r5 5 64)):=fun ba=>pS (P:=aE) (t:=54) dw iY 64 64 (aw _) O ba
 obtain⟨b9,ba⟩:=aX (r5 5 64);rw[<-ba] at b8;have bb:=aH ba;clear V aV U ax d e f ai c al ac ad ae am H b ba;have b:decide ((6:Int)<=(o:Int))=av:=decide_eq_false O;go_enter func235,ntmps235;go_wp2_with fail;refine(pz (p:=g) _ l _ _ _ (by(repeat with_reducible apply dF.alloc);exact b6.o)).mono ?_;rintro c d ⟨rfl,e⟩;have f:bj t.heap.size t d:=((((aM _ t).alloc dS _).alloc dS _).alloc eB _).trans (e.mono eB);have H:Bx d t.heap.size 63 #[J E aj,J E l.H,af a3 a4 a5,af a6 a7 a8,af a9 aa ab]:=(((Bx.new t _ _).alloc _).alloc _).ext e;have U:Bn E d 277 (t.heap.size+1) s:=((Bn.D _ _ _ _ _ dS).alloc _).ext e;have V:Bx d (t.heap.size+1+1) 63 #[J E 0,J E 0,af S 0 0,af S 0 0,af S 0 0]:=(Bx.D _ _ _ _ dS).ext e;clear e;obtain⟨e,ac,ad,ae,ai⟩:=H.dz;have al:=V.lt;go_upto_region 4 with fail;clear e ac ad ae ai b8;have e:=H.alloc b9;have ac:=U.alloc b9;have ad:=V.alloc b9;have ae:Bk (d.alloc b9) 5 d.heap.size (aF 64 0):=by rw[bb.o];exact Bk.made d 5 64
 have ai:=f.alloc f.size b9;generalize d.alloc b9=am at*
 generalize d.heap.size=ax at*
 clear H U V f;clear d;go_wp2_with (refine fL rfl (aI 11) rfl (t.heap.size+1) rfl ac b7.o ?_)
 go_loopw [34] (fun d wr=>∃(f:Nat)(H:List Int),f<=64/\d=J E f/\bj t.heap.size t wr/\Bx wr t.heap.size 63 #[J E aj,J E l.H,af a3 a4 a5,af a6 a7 a8,af a9 aa ab]/\Bx wr (t.heap.size+1+1) 63 #[J E 0,J E 0,af S 0 0,af S 0 0,af S 0 0]/\Bk wr 5 ax H/\H.length=64/\(∀U,U<f->H[U]?=(sj s)[U]?)) (fun V _=>64-(intOf V).toNat)
 case atStart=>exact⟨0,_,qo _,rfl,ai,e,ad,ae,by simp,fun d f=>absurd f O⟩
 case round=>
  clear ai e ac ad ae;obtain⟨d,e,f,rfl,H,U,V,ac,ad,ae⟩:=hrel;obtain⟨ai,aV⟩:=aQ ad ae;clear ad ae
  by_cases ad:d<64
  ·have ae:s[d]?=M (s[d]'(eZ b7.o ad)):=aA _
   generalize s[d]'(eZ b7.o ad)=b8 at ae
   have ba:=fun bc=>pG b7.o ae bc
   have bc:(sj s)[d]?=M (I9 b8):=by unfold sj;rw[bN,ae];rfl
   obtain⟨bd,be⟩:=aX (I9 b8);have bf:=I8 b8;have bi:IntKind.u8.wrap (min (max b8 0) 255)=bd:=by rw[be];exact Adq bf.1 bf.2
   rw[<-be] at bc bf;obtain⟨bk,bl,bn⟩:=ac.gZ (i:=d) (eZ ai.o ad);have br:=ac.frozen d;have bs:=ac.lt;obtain⟨bt,bu⟩:=aQ bc be;clear ae bc be bl;have ae:(d:Int)<64:=O;go_wp2_with fail
   go_roundw
   case rel=>exact⟨d+1,e.set d bd,by omega,by go_num,H.setCell eB _,U.C eB _,V.C eB _,ac.L d bd,by rw[ee];exact ai.o,fun bc be=>vR ai.o ad aV.o bt.o be⟩
   case measure=>simp[intOf];omega
  ·obtain rfl:d=64:=O
   have ae:e=sj s:=rC ai.o (by rw[Ca,b7.o]) aV.o;subst ae;obtain⟨ae,b8,ba,bc,bd⟩:=U.dz;have be:=ac.lt;go_wp2_with fail;clear ae b8 ba bc bd;refine(D4 (p:=g) _ l _ (b6.o.ext H) O O O).mono ?_;rintro ae b8 ⟨ba,bc,bd,bf,rfl,bi,bk⟩;have bl:=bi.val;subst bl;rw[b5.o];have bl:=H.trans (bk.mono H.size);have bn:=U.ext bk;have br:=V.ext bk;have bs:=ac.ext bk;have bt:=bi.Q;have bu:=bi.b2;have bv:=bi.b3;have bx:wr.heap.size<=b8.heap.size:=bk.size;have bz:=U.lt;have bC:=V.lt;clear bk U V ac H;go_upto_region 10 with fail;have H:=bn.alloc (az #[J E aj,J E l.H,af (M ⟨bc,0,S⟩) l.Y.length l.Y.length,af (M ⟨bd,0,S⟩) l.U.length l.U.length,af (M ⟨bf,0,S⟩) l.V.length l.V.length] 63);have U:=br.alloc (az #[J E aj,J E l.H,af (M ⟨bc,0,S⟩) l.Y.length l.Y.length,af (M ⟨bd,0,S⟩) l.U.length l.U.length,af (M ⟨bf,0,S⟩) l.V.length l.V.length] 63);have V:=bs.alloc (az #[J E aj,J E l.H,af (M ⟨bc,0,S⟩) l.Y.length l.Y.length,af (M ⟨bd,0,S⟩) l.U.length l.U.length,af (M ⟨bf,0,S⟩) l.V.length l.V.length] 63);have ac:=bi.ext ((aM _ b8).alloc (aw _) (az #[J E aj,J E l.H,af (M ⟨bc,0,S⟩) l.Y.length l.Y.length,af (M ⟨bd,0,S⟩) l.U.length l.U.length,af (M ⟨bf,0,S⟩) l.V.length l.V.length] 63));have bk:=Bx.new b8 63 #[J E aj,J E l.H,af (M ⟨bc,0,S⟩) l.Y.length l.Y.length,af (M ⟨bd,0,S⟩) l.U.length l.U.length,af (M ⟨bf,0,S⟩) l.V.length l.V.length];have bK:=bl.alloc bl.size (az #[J E aj,J E l.H,af (M ⟨bc,0,S⟩) l.Y.length l.Y.length,af (M ⟨bd,0,S⟩) l.U.length l.U.length,af (M ⟨bf,0,S⟩) l.V.length l.V.length] 63);generalize b8.alloc (az #[J E aj,J E l.H,af (M ⟨bc,0,S⟩) l.Y.length l.Y.length,af (M ⟨bd,0,S⟩) l.U.length l.U.length,af (M ⟨bf,0,S⟩) l.V.length l.V.length] 63)=bL at*
   have bR:=bi.k1.lt;have bU:=bi.k2.lt;have bV:=bi.k3.lt;generalize b8.heap.size=bY at*
   clear bn br bs bl bi;obtain⟨bi,bl,bn,br,bs⟩:=bk.dz;have c0:=H.cell 0 rfl;have c1:=H.lt;have c2:=U.lt;have c3:=bk.lt;have c4:=V.lt;obtain⟨c5,c6,c7,c8,c9⟩:=ac.pick o a.o ag.o ah.o;obtain⟨ca,cb⟩:=aQ c6 c9;have cc:=c8.lt;have cd:ax≠c5:=O
   have ce:bY≠c5:=by
     intro cf;have:=bk;have:=c8;rcases ac.pick o a.o ag.o ah.o with⟨cg,ch,_⟩;unfold yE at ch c6;split at c6<;> (try split at c6)<;> (injection c6 with ci;injection ci with ck;injection ck with cl;omega)
   clear c6 c9;have c6:¬((·=ax) c5):=fun c9=>cd c9.symm
   have c9:du (·=ax) bL (M ⟨ax,0,S⟩) 64 (sj s):=by
     have:=V.zA (p:=(·=ax)) rfl (I7 s);rwa [Ca,b7.o] at this
   go_region_held3 (fun cf=>cf.cell? ⟨bY,0,S⟩=M (J E aj)/\cf.cell? ⟨bY,1,S⟩=M (J E l.H)/\cf.cell? ⟨bY,2,S⟩=M (af (M ⟨bc,0,S⟩) l.Y.length l.Y.length)/\cf.cell? ⟨bY,3,S⟩=M (af (M ⟨bd,0,S⟩) l.U.length l.U.length)/\cf.cell? ⟨bY,4,S⟩=M (af (M ⟨bf,0,S⟩) l.V.length l.V.length)/\cf.cell? ⟨t.heap.size,0,S⟩=M (J E aj))
     (first|(refine⟨?_,?_,?_,?_,?_,?_⟩<;> go_simp;done)|go_keep)
     (first
      |(go_at_call 269;((with_reducible refine(rh ca.o _).mono ?_);rintro cf cg ⟨rfl,hb4⟩;have hb4:bj bL.heap.size bL cg:=(by first|exact ml (ml hb4)|exact ml hb4);obtain⟨ch,ci⟩:=gU hb4;have ck:=hb4.size;have cl:t.heap.size<cg.heap.size:=O;have cn:bY<cg.heap.size:=O))
      |(go_at_call 270;((with_reducible refine(b1.o _).mono ?_);rintro cf cg ⟨rfl,hb5⟩;obtain⟨ch,ci⟩:=gU hb5;have ck:t.heap.size<cg.heap.size:=(dU hb5.size);have cl:bY<cg.heap.size:=(dU hb5.size)))
      |(go_at_call 165;((with_reducible refine(IW (p:=(·=ax)) c5 _ _ ar ay (M ⟨ax,0,S⟩) 64 (jq l o) (sj s) _ ((c8.ext hb4).ext hb5) rfl (aw _) ((c9.ext hb4).ext hb5) c6 (aw _) O O O ap.o).mono ?_);rintro cf w6 ⟨rfl,k6,hg6⟩;have cg:=((bk.ext hb4).ext hb5).grown hg6 (by simp[ce]);have ch:=((H.ext hb4).ext hb5).grown hg6 eB;obtain⟨ci,ck,cl,cn,co⟩:=cg.dz;have cp:=ch.cell 0 rfl)))
   have cf:=hb4.size;have cg:=hb5.size;have ch:=hg6.size;have ci:=((U.ext hb4).ext hb5).grown hg6 eB;have ck:=(bK.trans (hb4.mono bK.size)).trans (hb5.mono (dU bK.size));have cl:=ck.grown hg6 O (fun cn co=>by cases co;omega);have cn:b0.length=(jq l o).length:=by rw[b2.o];exact gX 8 ap.o
   have co:∀cp∈b0,0<=cp/\cp<=255:=by
     rw[b2.o];refine ri ?_ (I7 s) 8;unfold jq;split
     · exact ag.o
     · split
       ·exact ah.o
       ·exact a.o
   rw[<-b2.o] at k6;have cr:=(ac.ext hb4).ext hb5;obtain⟨cs,ct,_,_,cu⟩:=cr.pick o a.o ag.o ah.o
   have cv:cs=c5:=by
     have:=ca.o.symm.trans ct;injection this with cw;injection cw with cx;injection cx with cw;exact cw.symm
   subst cv;have cv:=cu w6 b0 cn co k6 hg6;obtain⟨cw,cx,cy,cz,cA⟩:=ci.dz;have cB:=ci.frozen 0;have cC:=ci.frozen 1;have cE:=ci.frozen 2;have cF:=ci.frozen 3;have cI:=ci.frozen 4;have cL:=ci.lt;have cN:=aH cv;clear cu ct cn co cr cv;go_wp2;have cn:¬(wr.heap.size<=t.heap.size+1+1):=O;rw[b5.o] at cN;refine dY (v:=fE #[aG #[J E aj,J E l.H,af (M ⟨bc,0,S⟩) l.Y.length l.Y.length,af (M ⟨bd,0,S⟩) l.U.length l.U.length,af (M ⟨bf,0,S⟩) l.V.length l.V.length],J E 0]) (by simp only[Ih,results235];go_simp) rfl ⟨_,rfl,eH.mk (aw _) (aw _) (aw _),?_,?_⟩
   · refine dF.mono (p:=(wr.heap.size<=·)) ?_ (fun co _ cr=>by omega)
     repeat refine dF.setCell ?_ cn _
     exact cN.o
   ·
     repeat(first|(with_reducible exact cl)|(with_reducible refine iu ?_ (by first|(simp;done)|(simp;omega)) _)|(with_reducible refine qk ?_ (by first|(simp;done)|(simp;omega)) _)|(with_reducible refine rS ?_))
end
def p9(a:Nat->Int):Nat->Int|0=>0|b+1=>p9 a b+a b
def yV(a):p9 a 8=S8 a:=by simp[p9,S8]
def qS{f c}(a:∀i,i<8->-c<=f i/\f i<=c):∀b:Nat,b<=8->-(b*c)<=p9 f b/\p9 f b<=b*c:=by
 intro b
 induction b with
 |zero=>intro _;simp[p9]
 |succ b d=>
  intro e;have e:=d (by omega);have d:=a b (by omega);have a:((b+1:Nat):Int)*c=b*c+c:=by push_cast;rw[Int.add_mul,Agn]
  simp only[p9];rw[a];omega
def en(a:Nat->Int)(b:Nat):List Int:=(dI b).map a++aF (64-b) 0
def jz{a b}(c:b<=64):(en a b).length=64:=by simp[en];omega
def ki{F b}(a:b<64):(en F b).set b (F b)=en F (b+1):=by
 unfold en;rw[jT _ _ dS,show 64-b=(64-(b+1))+1 by omega,lo,Cn,fY];simp
def tO{a b i}(c:i<b):(en a b)[i]?=M (a i):=by
 unfold en;rw[bo (jP c)];simp[c]
def yU(i a):-12<=tM i a/\tM i a<=12:=by
 have b:∀c:Nat,c<64->-12<=Ks.getD c 0/\Ks.getD c 0<=12:=by decide
 by_cases c:8*i+a<64
 ·exact b _ c
 ·unfold tM
  rw[jr,de eB];exact⟨by decide,by decide⟩
def ju{a b c d}(e:-c<=a/\a<=c)(g:-d<=b/\b<=d)(f:0<=c):-(c*d)<=a*b/\a*b<=c*d:=by
 have e:=X7 (a:=a) g;have e:0<=d:=O;have f:(a.natAbs:Int)*d<=c*d:=qj (by omega) e;omega
def cM(a:List Int)(b:Nat):Int:=a.getD b 0
def ux(a:List Int)(b:Nat):Int:=S8 fun c=>tM (b%8) c*cM a (8*(b/8)+c)
def Ds(a:List Int)(b:Nat):Int:=S8 fun c=>tM (b/8) c*ux a (8*c+b%8)
def oW(a:List Int):List Int:=(dI 64).map (Ds a)
def Zw(a:List Int):Prop:=a.length=64/\∀b∈a,-255<=b/\b<=255
def Zw.at_{a}(c:Zw a)(b):-255<=cM a b/\cM a b<=255:=by
 unfold cM;rw[jr];rcases e:a[b]? with _|d
 ·exact⟨by decide,by decide⟩
 ·exact c.2 d (bg e)
def KG{a}(b:Zw a)(c):-24480<=ux a c/\ux a c<=24480:=by
 unfold ux;rw[<-yV];have:=qS (f:=fun d=>tM (c%8) d*cM a (8*(c/8)+d)) (c:=12*255) (fun e _=>ju (yU _ _) (b.at_ _) (by omega)) 8 (by omega);omega
structure NL(e wr:T)(a c d:Nat)(b:List Int):Prop where
 Q:Bn E wr 277 a b
 b2:Bn E wr 277 c zeros64
 b6:Bn E wr 211 d Ks
 F:bj e.heap.size e wr
def NL.ext{a wr b c d e f}(g:NL a wr c d e f)(h:bj wr.heap.size wr b):NL a b c d e f:=⟨g.Q.ext h,g.b2.ext h,g.b6.ext h,g.F.trans (h.mono g.F.size)⟩
def NL.drewN{a wr b c d e}(f:NL a wr b c d e)(g):NL a (wr.drewN g) b c d e:=⟨f.Q,f.b2,f.b6,FJ f.F g⟩
def NL.set{b wr c d e f}(n:NL b wr c d e f){a}(g:e<a.block)(h:c<d)(i:d<e)(l:b.heap.size<=c)(o):NL b (wr.setCell a o) c d e f:=
 ⟨n.Q.C (by omega) o,n.b2.C (by omega) o,n.b6.C (by omega) o,FD n.F _ (by omega) o⟩
def mD(a:Nat)(b:Nat->T->Prop)(i:aq)(wr:T):Prop:=∃c:Nat,c<=a/\i=J E c/\b c wr
def Yy(a:Nat)(b:Nat->Int)(c:T->Prop)(d i:aq)(wr:T):Prop:=∃e:Nat,e<=a/\d=J E (p9 b e)/\i=J E e/\c wr
def FwP(a:T)(b c d e:Nat)(f g:List Int)(wr:T):Prop:=NL a wr b c d f/\Bn E wr 277 e g
def YH(a:T)(b c d e f:Nat)(g h:List Int)(wr:T):Prop:=FwP a b c d e g (en (ux g) 64) wr/\Bn E wr 277 f h
def MG(b:List Int)(a:Zw b)(c:T):aT aE 297 #[aG (aS E b)] c (Ro c (oW b,0)):=by
 have d:=aH a.1;obtain⟨e,f⟩:=aQ a He;obtain⟨g,h⟩:=aX ((c.alloc (az (aS E b) 277)).alloc (az (aS E zeros64) 277));have i:Bn E g 277 c.heap.size b:=by rw[h];exact(Bn.D _ _ _ _ _ rfl).alloc _
 have l:Bn E g 277 (c.heap.size+1) zeros64:=by rw[h];exact Bn.D _ _ _ _ _ dS
 obtain⟨n,o,p⟩:=bh i l (show bj c.heap.size c g by rw[h];exact((aM _ _).alloc (aw _) _).alloc dS _);have q:g.heap.size=c.heap.size+2:=by rw[h];simp
 have r:=aH q;clear a i l q;go_enter func297,ntmps297;go_upto_region 1 with fail;change yN _ _ _ _ ((c.alloc (az (aS E b) 277)).alloc (az (aS E zeros64) 277));rw[<-h];clear h;go_wp2_with ((with_reducible refine fL rfl (aI 1) rfl c.heap.size rfl n.o d.o ?_))
 go_loop [18] (NH 64) (fun a=>64-(intOf a).toNat)
 case atStart=>exact⟨0,by omega,rfl⟩
 case round=>
  obtain⟨a,h,rfl⟩:=hrel
  by_cases i:a<64
  ·have l:b[a]?=M (b[a]'(eZ d.o i)):=aA _
   have q:=e.o.2 _ (qG (l:=b) (n:=a) (eZ d.o i))
   revert q
   generalize b[a]'(eZ d.o i)=s at l
   intro t;have u:=fun v=>pG d.o l v
   have v:decide (s< -255)=av:=by simp;omega
   have w:decide (255<s)=av:=by simp;omega
   clear l;go_wp2
   go_round
   case rel=>exact⟨a+1,by omega,by go_num⟩
   case measure=>simp[intOf];omega
  ·go_wp2_with fail
   refine(f.o _).mono ?_;rintro l q ⟨rfl,s⟩;have t:=aH (n.o.ext s);have u:=aH (o.o.ext s);have v:=aH (p.o.trans (s.mono p.o.size));have w:=s.size;clear n o p s f;go_upto_region 7 with(refine ug rfl (aI 6) (aI 29) 211 rfl Ks rfl rfl rfl AW ?_;intro w2 hB6 hbe2);have f:NL c w2 c.heap.size (c.heap.size+1) q.heap.size b:=⟨t.o.ext hbe2,u.o.ext hbe2,hB6,v.o.trans (hbe2.mono v.o.size)⟩;have n:=hbe2.size;have o:=hB6.lt;clear t u v hbe2 hB6;obtain⟨p,s⟩:=aX c.heap.size;obtain⟨t,u⟩:=aX (c.heap.size+1);obtain⟨v,x⟩:=aX q.heap.size;have y:NL c w2 p t v b:=by rw[s,u,x];exact f
   rw[<-x] at o;rw[<-u,<-s,<-x];change yN _ _ _ _ (w2.alloc (az (aS E zeros64) 277));obtain⟨z,H⟩:=aX w2.heap.size;have U:FwP c p t v z b (en (ux b) 0) (w2.alloc (az (aS E zeros64) 277)):=⟨y.ext ((aM _ _).alloc (aw _) _),Bn.D _ _ _ _ _ H⟩;rw[<-H];have V:p<t:=O;have W:t<v:=by have:=r.o;omega
   have Y:v<z:=O;have a0:c.heap.size<=p:=O;obtain⟨a1,a2,a3,a4,a5⟩:=dZ V W Y a0 U;clear y f U H s u x w n o V W Y a0 r;generalize w2.alloc (az (aS E zeros64) 277)=f at*
   go_loopw [30] (fun n wr=>mD 8 (fun o wr=>FwP c p t v z b (en (ux b) (8*o)) wr) n wr) (fun r _=>8-(intOf r).toNat)
   case atStart=>exact⟨0,by omega,rfl,a5.o⟩
   case round=>
    obtain⟨n,o,rfl,r⟩:=hrel;have s:=aH r;clear r a5
    by_cases r:n<8
    ·go_wp2
     go_loopw [33] (fun u wr=>mD 8 (fun w wr=>FwP c p t v z b (en (ux b) (8*n+w)) wr) u wr) (fun x _=>8-(intOf x).toNat)
     case atStart=>exact⟨0,by omega,rfl,s.o⟩
     case round=>
      obtain⟨u,w,rfl,x⟩:=hrel;have y:=aH x;clear x s
      by_cases x:u<8
      ·go_wp2
       go_loopw [10,36] (fun H U wr=>Yy 8 (fun V=>tM u V*cM b (8*n+V)) (FwP c p t v z b (en (ux b) (8*n+u))) H U wr) (fun _ W _=>8-(intOf W).toNat)
       case atStart=>exact⟨0,by omega,rfl,rfl,y.o⟩
       case round=>
        obtain⟨H,U,rfl,rfl,V⟩:=hrel;have W:=aH V;clear V y;have V:=qS (f:=fun Y=>tM u Y*cM b (8*n+Y)) (c:=12*255) (fun a0 _=>ju (yU _ _) (e.o.at_ _) (by omega)) H U;have Y:(H:Int)*(12*255)<=24480:=O;obtain⟨a0,a5⟩:=aX (p9 (fun a6=>tM u a6*cM b (8*n+a6)) H);rw[<-a5] at V ⊢
        by_cases a6:H<8
        ·have a7:=e.o.at_ (8*n+H)
         have a8:=yU u H;have a9:=ju a8 a7 (by omega);have aa:p9 (fun ab=>tM u ab*cM b (8*n+ab)) (H+1)=a0+tM u H*cM b (8*n+H):=by rw[a5];rfl
         have ab:=W.o.1.b6.cell (8*u+H);rw[MJ u H x a6,show 8*u+H=u*8+H by omega] at ab;have ac:=W.o.1.Q.cell (8*n+H);rw[aA (iJ d.o),show b[8*n+H]'(iJ d.o)=cM b (8*n+H) by unfold cM;rw[jr,aA (iJ d.o)];rfl] at ac;simp only[bX] at ab ac;obtain⟨ad,ae⟩:=aQ a5 aa;obtain⟨ag,ah⟩:=aX (tM u H);obtain⟨ai,aj⟩:=aX (cM b (8*n+H));rw[<-ah] at a8 a9 ab;rw[<-aj] at a7 a9 ac;obtain⟨al,am⟩:=aX (ag*ai);rw[<-am] at a9;obtain⟨ap,ar,ax⟩:=bh am ah aj;have ay:E.wrap (ag*ai)=al:=by rw[<-am];exact an _ (by omega)
         have aV:E.wrap (a0+al)=a0+al:=an _ (by omega);have b0:E.wrap (8*(n:Int))=8*n:=an _ (by omega);have b1:E.wrap (8*(n:Int)+H)=8*n+H:=an _ (by omega);have b2:(8*(n:Int)+H).toNat=8*n+H:=O;have b3:0<=8*(n:Int)+H:=O;have b4:8*(n:Int)+H<64:=O;clear a5 aa ah aj am;go_wp2;go_quiet (fail);go_wp2;exact⟨⟨H+1,by omega,by rw[ae.o,ap.o,ar.o,ax.o],by go_num,W.o.1.drewN nq,W.o.2⟩,by simp[intOf];omega⟩
        ·obtain rfl:H=8:=O
         have a7:a0=ux b (8*n+u):=by
          rw[a5,yV];unfold ux;rw[show(8*n+u)%8=u by omega,show(8*n+u)/8=n by omega]
         have a8:=aH a7;have a9:=W.o.2;have aa:8*n+u<64:=O;obtain⟨ab,ac,ad⟩:=a9.gZ (i:=8*n+u) (by rw[jz (by omega)];exact aa);have ae:=a9.frozen (8*n+u);have ag:=a9.lt;have ah:(8*(n:Int)+u).toNat=8*n+u:=O;clear a5 a7 a9 ac V Y;go_wp2;have V:=W.o.2.L (8*n+u) a0;rw[a8.o,ki aa] at V;refine⟨⟨u+1,by omega,by go_num,W.o.1.set a3.o a1.o a2.o a4.o _,?_⟩,by simp[intOf];omega⟩;rw[a8.o];exact V
      ·obtain rfl:u=8:=O
       go_wp2;exact⟨⟨n+1,by omega,by go_num,by have:=y.o;rw[show 8*n+8=8*(n+1) by omega] at this;exact this⟩,by simp[intOf];omega⟩
    ·obtain rfl:n=8:=O
     have u:=s.o.2.lt;go_wp2;change yN _ _ _ _ (wr.alloc (az (aS E zeros64) 277));obtain⟨w,x⟩:=aX wr.heap.size;have y:YH c p t v z w b (en (Ds b) 0) (wr.alloc (az (aS E zeros64) 277)):=⟨⟨s.o.1.ext ((aM _ _).alloc (aw _) _),s.o.2.alloc _⟩,Bn.D _ _ _ _ _ x⟩;rw[<-x];obtain⟨H,U,V⟩:=bh (show z≠w by omega) (show v<w by have:=a3.o;omega) y;clear x y u s;generalize wr.alloc (az (aS E zeros64) 277)=s at*
     go_loopw [62] (fun u wr=>mD 8 (fun x wr=>YH c p t v z w b (en (Ds b) (8*x)) wr) u wr) (fun y _=>8-(intOf y).toNat)
     case atStart=>exact⟨0,by omega,rfl,V.o⟩
     case round=>
      obtain⟨u,x,rfl,y⟩:=hrel;have W:=aH y;clear y V
      by_cases y:u<8
      ·go_wp2
       go_loopw [65] (fun V wr=>mD 8 (fun Y wr=>YH c p t v z w b (en (Ds b) (8*u+Y)) wr) V wr) (fun a0 _=>8-(intOf a0).toNat)
       case atStart=>exact⟨0,by omega,rfl,W.o⟩
       case round=>
        obtain⟨V,Y,rfl,a0⟩:=hrel;have a3:=aH a0;clear a0 W
        by_cases a0:V<8
        ·go_wp2
         go_loopw [15,68] (fun a5 a6 wr=>Yy 8 (fun a7=>tM u a7*ux b (8*a7+V)) (YH c p t v z w b (en (Ds b) (8*u+V))) a5 a6 wr) (fun _ a8 _=>8-(intOf a8).toNat)
         case atStart=>exact⟨0,by omega,rfl,rfl,a3.o⟩
         case round=>
          obtain⟨a5,a6,rfl,rfl,a7⟩:=hrel;have a8:=aH a7;clear a7 a3;have a7:=qS (f:=fun a9=>tM u a9*ux b (8*a9+V)) (c:=12*24480) (fun aa _=>ju (yU _ _) (KG e.o _) (by omega)) a5 a6;have a9:(a5:Int)*(12*24480)<=2350080:=O;obtain⟨aa,ab⟩:=aX (p9 (fun ac=>tM u ac*ux b (8*ac+V)) a5);rw[<-ab] at a7 ⊢
          by_cases ac:a5<8
          ·have ad:=KG e.o (8*a5+V)
           have ae:=yU u a5;have ag:=ju ae ad (by omega);have ah:p9 (fun ai=>tM u ai*ux b (8*ai+V)) (a5+1)=aa+tM u a5*ux b (8*a5+V):=by rw[ab];rfl
           have ai:=a8.o.1.1.b6.cell (8*u+a5);rw[MJ u a5 y ac,show 8*u+a5=u*8+a5 by omega] at ai;have aj:=a8.o.1.2.cell (8*a5+V);rw[tO (by omega)] at aj;simp only[bX] at ai aj;obtain⟨al,am⟩:=aQ ab ah;obtain⟨ap,ar⟩:=aX (tM u a5);obtain⟨ax,ay⟩:=aX (ux b (8*a5+V));rw[<-ar] at ae ag ai;rw[<-ay] at ad ag aj;obtain⟨aV,b0⟩:=aX (ap*ax);rw[<-b0] at ag;obtain⟨b1,b2,b3⟩:=bh b0 ar ay;have b4:E.wrap (ap*ax)=aV:=by rw[<-b0];exact an _ (by omega)
           have b5:E.wrap (aa+aV)=aa+aV:=an _ (by omega);have b6:E.wrap (8*(a5:Int))=8*a5:=an _ (by omega);have b7:E.wrap (8*(a5:Int)+V)=8*a5+V:=an _ (by omega);have b8:(8*(a5:Int)+V).toNat=8*a5+V:=O;have b9:0<=8*(a5:Int)+V:=O;have ba:8*(a5:Int)+V<64:=O;clear ab ah ar ay b0;go_wp2;go_quiet (fail);go_wp2;exact⟨⟨a5+1,by omega,by rw[am.o,b1.o,b2.o,b3.o],by go_num,⟨a8.o.1.1.drewN nq,a8.o.1.2⟩,a8.o.2⟩,by simp[intOf];omega⟩
          ·obtain rfl:a5=8:=O
           have ad:aa=Ds b (8*u+V):=by
            rw[ab,yV];unfold Ds;rw[show(8*u+V)%8=V by omega,show(8*u+V)/8=u by omega]
           have ae:=aH ad;have ag:=a8.o.2;have ah:8*u+V<64:=O;obtain⟨ai,aj,al⟩:=ag.gZ (i:=8*u+V) (by rw[jz (by omega)];exact ah);have am:=ag.frozen (8*u+V);have ap:=ag.lt;have ar:(8*(u:Int)+V).toNat=8*u+V:=O;clear ab ad ag aj a7 a9;go_wp2;have a7:=a8.o.2.L (8*u+V) aa;rw[ae.o,ki ah] at a7;refine⟨⟨V+1,by omega,by go_num,⟨a8.o.1.1.set U.o a1.o a2.o a4.o _,a8.o.1.2.C H.o _⟩,?_⟩,by simp[intOf];omega⟩;rw[ae.o];exact a7
        ·obtain rfl:V=8:=O
         go_wp2;exact⟨⟨u+1,by omega,by go_num,by have:=a3.o;rw[show 8*u+8=8*(u+1) by omega] at this;exact this⟩,by simp[intOf];omega⟩
      ·obtain rfl:u=8:=O
       have V:=W.o.1.1.b2;have Y:=W.o.2;have a0:en (Ds b) (8*8)=oW b:=by unfold en oW;simp
       rw[a0] at Y;obtain⟨a3,a5⟩:=aQ V Y;have a6:=aH W.o.1.1.F;have a7:=aH (show(oW b).length=64 by simp[oW]);clear V Y a0 W;go_wp2_with (first|((with_reducible refine fL rfl (aI 12) rfl w rfl a5.o a7.o ?_))|((with_reducible refine eD rfl (aI 2) (aI 94) rfl t (oW b) rfl rfl a3.o rfl a7.o ?_)));have V:Bn E (wr.setRow t (aS E (oW b))) 277 t (oW b):=a3.o.row _;have W:=rE V a7.o;exact dY (v:=fE #[aG (aS E (oW b)),J E 0]) (kh results297 _ _ t _ _ rfl rfl W) rfl ⟨rfl,aO a6.o (gC a1.o a4.o)⟩
end Go.Proofs.YtbdhieahnneebaaGreatDoor
