import Derived.Orders
import Derived.Laws.World
import Derived.Laws.Sem
import Derived.WalkKit
import Derived.WalkLawsBesides
import Derived.Great.FillDense
import Derived.Great.BuildSlice
import Derived.Deep.Slices
import Derived.Deep.Fields
import Derived.ChangeSame
import Derived.ProofKit
import Derived.Deep.Upon
import Derived.Laws.BytesString
import Derived.Laws.MakeOwn
import Derived.Lib.ConvBytes
import Derived.MapKept
import Derived.ChangeMaps5
import Derived.Stop.Asserts
import Derived.Laws.Externs
import Derived.Laws.IdiomRangeMap
import Derived.Test.YtepeilglbedgdaaGreatDoorRows
import Derived.Laws.IdiomCopy
/- A part of the proof of this claim: it states and proves what the walk through the program uses. Its names are short ones that a program gave. The last part proves the card: for every input the call returns true, and each argument reads behind the call as it read before. -/
set_option linter.defProp false
set_option linter.all false
set_option maxRecDepth 100000
set_option maxHeartbeats 2000000
open Array renaming getElem?_eq_getElem->ti,getElem?_eq_some_iff->so,length_toList->tj
open BitVec renaming ofInt->iN,toNat_ofInt->ur
open Bool renaming and_eq_true->dA,false->U,false_eq_true->fc,not_eq_false'->ux,not_eq_true'->lq,not_false->lE,not_true->hq,or_eq_true->pP,true->G,true_and->pV
open ByteArray renaming mk->eS
open Except renaming error->b5,map->nM,ok->bA
open Go renaming Addr->es,IntKind->iz,Next->fD,Program->ft,TypeId->co,Value->S,World->aN,grownCap->jz,maxLen->d0,run_underlying->fK,undef->bS
open Go.Builtin renaming append->lp,append_->pQ,zeroCells->nq
open Go.Ending renaming returned->gd
open Go.Extern.MapsClone renaming clone->B5
open Go.Extern.ReflectliteType renaming assignableTo->B6,method->vs,relation->vt
open Go.Extern.ReflectliteValue renaming method->zH,parts->vr,valueError->wG
open Go.Instr renaming typeAssert->sn
open Go.IntKind renaming i64->H,u32->hS,u64->hr,u8->cl
open Go.MapKept renaming run_getObj_map->pS
open Go.Next renaming value->fw
open Go.Obj renaming cells->amv
open Go.Op renaming equalIn->lF
open Go.Proofs.Tryz renaming prog->C
open Go.Region renaming binds->th
open Go.Result renaming andThen->tn,andThen_ok->f7,ok->bN
open Go.Sem renaming run_bind->fx,run_pure->k5
open Go.Value renaming agg->b6,bool->aK,cells->bF,iface->eZ,int->F,map->eB,nilIface->cT,pointer->aE,slice->T,string->bO,tuple->bQ
open Int renaming eq_ofNat_of_zero_le->nL,natCast_mul->uq,toNat_natCast->hf
open List renaming all_eq_true->pO,append_assoc->gq,cons_append->jN,drop_drop->oq,drop_eq_getElem_cons->ot,drop_eq_nil_of_le->uu,eq_nil_of_length_eq_zero->rc,ext_getElem?->qC,flatMap_cons->iA,getD_cons_succ->up,getD_cons_zero->kt,getD_eq_getElem?_getD->gp,getElem?_append_left->pR,getElem?_append_right->nr,getElem?_drop->oo,getElem?_eq_getElem->cr,getElem?_eq_none->jy,getElem?_eq_some_iff->fi,getElem?_map->e1,getElem?_set->pT,getElem_map->ic,getElem_mem->dX,getElem_of_mem->ns,length->jm,length_append->di,length_cons->gF,length_drop->e8,length_map->dU,length_nil->tl,length_set->i9,length_take->ea,map_append->g6,map_congr_left->amO,map_cons->ge,map_nil->tp,map_set->qB,mem_append->b4,mem_cons->ce,mem_cons_of_mem->ev,mem_cons_self->fE,mem_filter->ol,mem_flatMap->tm,mem_map->fS,mem_of_getElem?->gP,mem_of_mem_drop->tr,mem_range->iK,mem_singleton->ku,nil_append->m2,nodup_append->us,nodup_cons->ks,pairwise_iff_getElem->rd,range->c9,range_succ->nK,replicate->cN,set_append_right->sr,set_cons_zero->aoi,take_append_drop->l3,take_left->tk,take_length->j3,take_of_length_le->mv,take_succ_eq_append_getElem->jO
open List.cons renaming injEq->ss
open Nat renaming add_assoc->sp,add_mul->iM,add_zero->qA,beq->go,eq_of_beq_eq_true->lD,le_refl->fF,le_trans->gz,lt_of_lt_of_le->iL,lt_trichotomy->ut,min_eq_left->my,mul_le_mul_right->mw,mul_one->gA,one_mul->sq,pow_le_pow_right->pU,sub_self->k6,zero_add->gQ
open Option renaming bind_some->tg,getD_some->om,map_some->m1,none->I,some->E
open Option.some renaming injEq->vq
open Or renaming inl->Y,inr->Z
open Pure renaming pure->fh
open UInt8 renaming ofNat->ed,toNat_ofNat'->mx,toNat_xor->tq
namespace Go
def A{p:Prop}(h:p:=by omega):p:=h
def B{p:Prop}(h:p:=by simp):p:=h
def K{p:Prop}(h:p:=by kernel_rfl):p:=h
end Go
namespace Go.X
end Go.X
open Go
namespace Go.X
variable{am bU cF:List Nat}{a bv w:aN}{a6 ab af ak b eM g i io j k n t:Nat}{aS cv da ip:List S}{aU jA:Type}{aY:Array Oper}{aa ae bm fH:S}{ac:S -> aN -> Prop}{ad:ft}{ar av bH pX qF:co}{b7 c8:Array S}{bb:Ending -> aN -> Prop}{bx:Array MapEntry}{cO:List (Nat × Option Bool)}{ct:Prop}{d7:Array Bool}{dL:iz}{dr l:List UInt8}{gr:Func}{hT:List (Nat × Bool)}{i0:Array (Nat × S)}
abbrev eN:=Nat->S
def eN.dt(aM:eN)(ag:Option Tmp)(aa:S):eN:=
 match ag with
 |none=>aM
 |some ag=>λt=>bif go t ag then aa else aM t
def cm(aM:eN):Operand->S
 |.tmp t=>aM t
 |.const aa=>aa
 |.global g=>aE (E ⟨g,0,I⟩)
 |.func aj=>.func (.func aj) #[] #[]
def B8(l:List S):eN:=λt=>l.getD t bS
def iC(n:Nat)(d:Act)(aM:eN):Prop:=d.defers=[]/\d.tmps.size=n/\∀t,d.tmps.getD t bS=aM t
variable{aM:eN}
def iC.cm{d:Act}(h:iC n d aM):d.eval=cm aM:=by
 funext x;cases x with
 |tmp t=>exact h.2.2 t
 |_=>rfl
def iC.dt{d:Act}(h:iC n d aM){ag:Option Tmp}(b:∀t,ag=E t->t<n)(aa:S):iC n (d.put ag aa) (aM.dt ag aa):=by
 cases ag with
 |none=>exact h
 |some ag=>
  refine⟨h.1,by simp[Act.put,h.2.1],λt=>?_⟩;have c:=b ag rfl;have e:=h.2.1;have f:=h.2.2 t;simp only[Act.put,eN.dt];by_cases a:t=ag
  ·subst a;simp[Array.getD,e,c]
  ·have:go t ag=U:=by
    cases g:go t ag with
    |false=>rfl
    |true=>exact absurd (lD g) a
   rw[this,cond_false,<-f];simp only[Array.getD_eq_getD_getElem?];rw[Array.getElem?_setIfInBounds_ne (Ne.symm a)]
def iC.U7(c8:List S)(n:Nat)(h:c8.length<=n):
  iC n {tmps:=c8.toArray++Array.replicate (n-c8.toArray.size) bS,defers:=[]} (B8 c8):=by
 refine⟨rfl,by simp;omega,λt=>?_⟩;simp only[B8,Array.getD_eq_getD_getElem?,gp,Array.getElem?_append,List.size_toArray,Array.getElem?_replicate,List.getElem?_toArray];by_cases a:t<c8.length
 ·simp[a]
 ·rw[if_neg a];have:c8[t]?=I:=jy A;rw[this];split<;>simp
def aV(ad:ft)(s:Sem fD)(ac:S->Prop):Prop:=∃aa,(∀w,s.run ad w=bN (fw aa) w)/\ac aa
def aZ(ad:ft)(s:Sem fD)(w:aN)(ac:S->Prop):Prop:=∃aa,s.run ad w=bN (fw aa) w/\ac aa
def o5(ac:S->aN->Prop):Ending->aN->Prop
 |gd aa,w=>ac aa w
 |_,_=>False
def W(ad:ft)(s:Sem fD)(w:aN)(ac:S->aN->Prop):Prop:=
 match s.run ad w with
 |bN (fw aa) a=>ac aa a
 |bN .skip a=>ac bS a
 |bN (.enter aj c8) a=>Calls ad aj c8 a (o5 ac)
 |_=>False
def eV(aa:S)(ct an:Prop):Prop:=(aa=aK G/\ct)\/(aa=aK U/\an)
def hV(e:co):Sem fD:=do fh (fw (<-Instr.alloc e G (bQ #[])))
def rk(e:co)(aa:S):Sem fD:=do fh (fw (<-Instr.box e aa))
def nw(t:co)(a:Array (Nat×S)):Sem fD:=do fh (fw (<-Instr.build t a))
def jR(t:co)(n:Nat)(a:Array (Nat×S)):Sem fD:=do fh (fw (<-Instr.buildSlice t n a))
def a4(t:co)(aa:S):Sem fD:=do fh (fw (<-Instr.loadAt t aa))
def dC(t:co)(ah aa:S):Sem fD:=do Instr.storeAt t ah aa;fh .skip
def ov(aa:S):Sem fD:=execOp (λ_=>aa) ⟨I,.nilCheck (.tmp 0),0, "",#[],I⟩
def dS(d5:BinOp)(t:co)(d b:S):Sem fD:=do fh (fw (<-binOp d5 t d b))
def eE(d5:BinOp)(t:co)(c:Bool)(d b:S):Sem fD:=do fh (fw (<-(do eqGuard d5 t (bif c then .const bS else .tmp 0) (.tmp 0) d b;binOp d5 t d b)))
def qH(d5:UnOp)(aa:S):Sem fD:=do fh (fw (<-Op.unary d5 aa))
def rl(s ag:co)(aa:S):Sem fD:=do fh (fw (<-convert s ag aa))
def tx(t:co)(aa:S):Sem fD:=do fh (fw (<-Instr.makeInterface t aa))
def Fi(gr:Fn)(d b:Array S):Sem fD:=do fh (fw (<-Instr.makeFunc gr d b))
def uz(t:co)(aa:Option S):Sem fD:=do fh (fw (<-Instr.makeMap t aa))
def uA(t:co)(d b:S):Sem fD:=do fh (fw (<-Instr.makeSlice t d b))
def l5(t:co)(x:S)(ay al a:Option S):Sem fD:=do fh (fw (<-Instr.sliceAt t x ay al a))
def gB(t:co)(aa:S)(aj:Nat):Sem fD:=do fh (fw (<-Instr.fieldAt t aa aj))
def B9(t:co)(aa:S)(aj:Nat):Sem fD:=do fh (fw (<-Instr.field t aa aj))
def fY(t:co)(aa i:S):Sem fD:=do fh (fw (<-Instr.indexAt t aa i))
def Ca(t:co)(aa i:S):Sem fD:=do fh (fw (<-Instr.index t aa i))
def qI(t:co)(aa i:S)(d8:Bool):Sem fD:=do fh (fw (<-Instr.lookup t aa i d8))
def wL(t:co)(ak k aa:S):Sem fD:=do Instr.mapUpdate t ak k aa;fh .skip
def zL(t:co)(aa:S):Sem fD:=do fh (fw (<-Instr.range t aa))
def wM(aa:S)(s:Bool)(t:co):Sem fD:=do fh (fw (<-Instr.next aa s t))
def zM(aa:S):Sem fD:=do fh (fw (<-Instr.entry aa))
def zN(aa:S)(t d:co)(d8:Bool):Sem fD:=do fh (fw (<-sn aa t d d8))
def gH(aa:S)(i:Nat):Sem fD:=do fh (fw (<-Instr.extract aa i))
def Fj(c d b:S):Sem fD:=do fh (fw (if<-asBool c then d else b))
def U8(b:Builtin)(a:Array co)(t:co)(bo:Array Bool)(aF:Array S):Sem fD:=builtin b a t bo aF
def dG(b:Builtin)(a:Array co)(aF:Array S):Sem fD:=builtin b a 0 #[] aF
def wN(aj:S)(c8:Array S):Sem fD:=do let ag<-Deferred.ofValue aj c8;invoke ag.target ag.args
def ck(aj:FuncId)(c8:Array S):Sem fD:=wN (.func (.func aj) #[] #[]) c8
def o6(ak:String)(c8:Array S):Sem fD:=invoke (.fn (.method ak) #[]) c8
def U9(aS:Array Operand):Array Bool:=aS.map λ|.const _=>G|_=>U
def uB:Operand->Bool
 |.const _=>G
 |_=>U
def m5{aU jA:Type}(aj:aU->jA)(d:Array aU):Array jA:=(d.toList.map aj).toArray
def xV(aj:aU->jA)(d:Array aU):m5 aj d=d.map aj:=by unfold m5;rw[<-Array.toList_map]
inductive pZ where
 |uC (aa:S)
 |kw (s:Sem fD)
 |j5 (s:Sem fD)
 |i1 (s:Sem fD)
def jc(ad:ft)(t:co):Bool:=match ad.underlying t with|some (.map ..)=>G|_=>U
def qJ(ad:ft)(t:co):Bool:=match ad.underlying t with|some (.int _)=>G|_=>U
def kK(ad:ft)(aM:eN)(af:Oper):pZ:=
 match af.op with
 |.move x=>.uC (cm aM x)
 |.assign x=>.uC (cm aM x)
 |.pick c d b=>.kw (Fj (cm aM c) (cm aM d) (cm aM b))
 |.alloc e=>.i1 (hV e)
 |.box e x=>.i1 (rk e (cm aM x))
 |.build t a=>.kw (nw t (m5 (λah=>(ah.1,cm aM ah.2)) a))
 |.buildSlice t n a=>.i1 (jR t n (m5 (λah=>(ah.1,cm aM ah.2)) a))
 |.load t d=>.j5 (a4 t (cm aM d))
 |.store t d x=>.i1 (dC t (cm aM d) (cm aM x))
 |.nilCheck x=>.kw (ov (cm aM x))
 |.binOp d5 t x ap _=>match d5 with
  |.eql=>.j5 (eE .eql t (uB x||uB ap) (cm aM x) (cm aM ap))
  |.neq=>.j5 (eE .neq t (uB x||uB ap) (cm aM x) (cm aM ap))
  |d5=>.kw (dS d5 t (cm aM x) (cm aM ap))
 |.unOp d5 _ x=>.kw (qH d5 (cm aM x))
 |.convert s ag x=>bif qJ ad s&&qJ ad ag then .kw (rl s ag (cm aM x))else .i1 (rl s ag (cm aM x))
 |.makeInterface t x=>.kw (tx t (cm aM x))
 |.makeFunc gr d b=>.kw (Fi gr (m5 (cm aM) d) (m5 (cm aM) b))
 |.makeMap t ab=>.i1 (uz t (ab.map (cm aM)))
 |.makeSlice t d b=>.i1 (uA t (cm aM d) (cm aM b))
 |.slice t x ay al f=>.kw (l5 t (cm aM x) (ay.map (cm aM)) (al.map (cm aM)) (f.map (cm aM)))
 |.fieldAddr t x aj=>.kw (gB t (cm aM x) aj)
 |.field t x aj=>.kw (B9 t (cm aM x) aj)
 |.indexAddr t x i=>.kw (fY t (cm aM x) (cm aM i))
 |.index t x i=>.kw (Ca t (cm aM x) (cm aM i))
 |.lookup t x i d8=>.j5 (qI t (cm aM x) (cm aM i) d8)
 |.mapUpdate t ak k aa=>.i1 (wL t (cm aM ak) (cm aM k) (cm aM aa))
 |.insert t ak k aa=>.i1 (wL t (cm aM ak) (cm aM k) (cm aM aa))
 |.range t x=>.i1 (zL t (cm aM x))
 |.next gt s=>.i1 (wM (cm aM gt) s af.type)
 |.entry gt=>.j5 (zM (cm aM gt))
 |.typeAssert x t d d8=>.kw (zN (cm aM x) t d d8)
 |.extract x i=>.kw (gH (cm aM x) i)
 |.call c=>match c.callee with
  |.value aj=>match aj with
   |.func g=>.i1 (ck g (m5 (cm aM) c.args))
   |aj=>.i1 (wN (cm aM aj) (m5 (cm aM) c.args))
  |.invoke ab ak=>.i1 (o6 ak (cm aM ab::c.args.toList.map (cm aM)).toArray)
  |.builtin b=>match b with
   |.len=>bif jc ad (c.argTypes.getD 0 0)then .j5 (dG .len c.argTypes (m5 (cm aM) c.args))else .kw (dG .len c.argTypes (m5 (cm aM) c.args))
   |.cap=>.kw (dG .cap c.argTypes (m5 (cm aM) c.args))
   |.min=>.kw (dG .min c.argTypes (m5 (cm aM) c.args))
   |.max=>.kw (dG .max c.argTypes (m5 (cm aM) c.args))
   |lp=>.i1 (dG lp c.argTypes (m5 (cm aM) c.args))
   |.copy=>.i1 (dG .copy c.argTypes (m5 (cm aM) c.args))
   |.delete=>.i1 (dG .delete c.argTypes (m5 (cm aM) c.args))
   |.clear=>.i1 (dG .clear c.argTypes (m5 (cm aM) c.args))
   |b=>.i1 (U8 b c.argTypes af.type (U9 c.args) (m5 (cm aM) c.args))
 |_=>.i1 (execOp (cm aM) af)
def Cb(ad:ft)(h:pZ)(w:aN)(ac:S->aN->Prop):Prop:=
 match h with
 |.uC aa=>ac aa w
 |.kw s=>aV ad s λaa=>ac aa w
 |.j5 s=>aZ ad s w λaa=>ac aa w
 |.i1 s=>W ad s w ac
def pZ.sx(h:pZ)(s:Sem fD):Prop:=
 match h with
 |.uC aa=>s=Sem.pure (fw aa)
 |.kw gs=>s=gs
 |.j5 gs=>s=gs
 |.i1 gs=>s=gs
def eqGuard_k(d5:BinOp)(t:co)(x ap:Operand)(d b:S):
  eqGuard d5 t x ap d b=eqGuard d5 t (bif uB x||uB ap then .const bS else .tmp 0) (.tmp 0) d b:=by
 cases x<;>cases ap<;>simp only[uB,Bool.or_true,Bool.or_false,cond_true,cond_false]<;>unfold eqGuard<;>rfl
def Fk(ad:ft)(aM:eN)(af:Oper):(kK ad aM af).sx (execOp (cm aM) af):=by
 obtain⟨dst,d5,type,e,after,guard⟩:=af;cases d5
 case build t a=>simp only[kK,xV];rfl
 case buildSlice t n a=>simp only[kK,xV];rfl
 case makeFunc gr d b=>simp only[kK,xV];rfl
 case binOp b t x ap f=>
  cases b
  case eql=>simp only[kK,pZ.sx,execOp,eE];rw[eqGuard_k]
  case neq=>simp only[kK,pZ.sx,execOp,eE];rw[eqGuard_k]
  all_goals rfl
 case convert s ag x=>
  simp only[kK];cases qJ ad s&&qJ ad ag<;>rfl
 case call c=>
  obtain⟨callee,c8,j4⟩:=c;cases callee with
  |value aj=>cases aj<;>simp only[kK,xV]<;>rfl
  |invoke ab ak=>
   have:(cm aM ab::c8.toList.map (cm aM)).toArray=#[cm aM ab]++c8.map (cm aM):=by rw[<-List.singleton_append,<-List.append_toArray,<-Array.toList_map]
   simp only[kK,this];rfl
  |builtin b=>
   cases b<;>simp only[kK,xV]<;>first|rfl|(cases jc ad (j4.getD 0 0)<;>rfl)
 all_goals rfl
def Va{d:Act}{af:Oper}{bu:Exit->Act->aN->Prop}
  (g:iC n d aM) (h:Cb ad (kK ad aM af) w ac):af.wp ad d w (λfl a=>∃aa,fl=d.put af.dst aa/\ac aa a) bu:=by
 have ao:=Fk ad aM af;unfold Oper.wp;rw[g.cm];generalize kK ad aM af=i at*;cases i with
 |uC aa=>
  simp only[pZ.sx]at ao;rw[ao];exact⟨aa,rfl,h⟩
 |kw s=>
  simp only[pZ.sx]at ao;obtain⟨aa,b,c⟩:=h;rw[ao,b w];exact⟨aa,rfl,c⟩
 |j5 s=>
  simp only[pZ.sx]at ao;obtain⟨aa,b,c⟩:=h;rw[ao,b];exact⟨aa,rfl,c⟩
 |i1 s=>
  simp only[pZ.sx]at ao;rw[ao];simp only[Cb,W]at h;generalize s.run ad w=ab at*;cases ab with
  |ok x a=>
   cases x<;>simp only at h<;>first
    |exact h.xs
    |exact⟨_,rfl,h⟩
    |exact Calls.mono h (λe j f=>by cases e<;>first|exact⟨_,rfl,f⟩|exact f.elim)
  |halt x a=>exact h.elim
structure nO where
 wO:Nat
 cP:Sem fD
 a7:S
def gu(ad:ft)(s:Sem fD)(aa:S)(w:aN)(ct:Prop):Prop:=s.run ad w=bN (fw aa) w/\ct
def kL(ad:ft)(w:aN):List nO->Prop->Prop
 |[],cs=>cs
 |ah::a,cs=>gu ad ah.cP ah.a7 w (kL ad w a cs)
def p0(ak i:Nat):Bool:=go (Nat.land (Nat.shiftRight ak i) 1) 1
def qK:List (Nat×Option Bool)->Nat->Option (Option Bool)
 |[],_=>I
 |(g,b)::ab,k=>bif go g k then E b else qK ab k
def ow(aY:Array Oper)(i:Nat):Nat:=match(aY[i]?).bind (·.dst)with|some t=>t|none=>0
def nP(ak:Nat):List nO->List nO
 |[]=>[]
 |ah::ab=>bif p0 ak ah.wO then nP ak ab else ah::nP ak ab
inductive m6 where
 |D
 |iD (i:Nat) (ah:m6)
 |jo (i:Nat) (ah ai:m6)
def m6.br:List Nat->m6->m6
 |[],ah=>ah
 |i::ab,ah=>.iD i (m6.br ab ah)
def wP:List Nat->m6
 |[]=>.D
 |i::ab=>.iD i (wP ab)
def wQ(cO:List (Nat×Option Bool))(af:Oper):Option Operand:=match af.op with
 |.move x=>E x
 |.assign x=>E x
 |.pick c d b=>match c with
  |.tmp t=>match qK cO t with
   |some (E a)=>E (bif a then d else b)
   |_=>I
  |_=>I
 |_=>I
def ty(ag:Option Tmp)(x:Operand)(cO:List (Nat×Option Bool)):List (Nat×Option Bool):=match ag with
 |some ag=>match x with
  |.const aa=>match aa with
   |aK b=>(ag,E b)::cO
   |_=>cO
  |.tmp t=>match qK cO t with
   |some a=>(ag,a)::cO
   |none=>cO
  |_=>cO
 |none=>cO
def xW(ag:Option Tmp)(cO:List (Nat×Option Bool)):List (Nat×Option Bool):=match ag with
 |some ag=>(ag,I)::cO
 |none=>cO
def zO(ad:ft)(aY:Array Oper)(e:Bool)(cF:List Nat)(i:Nat)(dE:List nO->List (Nat×Option Bool)->eN->aN->Prop)
  (eh:List nO) (cO:List (Nat×Option Bool)) (aM:eN) (w:aN):Prop:=
 match aY[i]? with
 |none=>False
 |some af=>
  let c (cO:List (Nat×Option Bool)):Prop:=match wQ cO af with
   |some x=>dE eh (ty af.dst x cO) (aM.dt af.dst (cm aM x)) w
   |none=>match kK ad aM af with
    |.uC aa=>dE eh cO (aM.dt af.dst aa) w
    |.kw s=>aV ad s λaa=>dE eh cO (aM.dt af.dst aa) w
    |.j5 s=>aZ ad s w λaa=>dE (bif e then⟨i,s,aa⟩::eh else eh) cO (aM.dt af.dst aa) w
    |.i1 s=>W ad s w λaa a=>kL ad a (nP (cF.getD i 0) eh) (dE (nP (cF.getD i 0) eh) cO (aM.dt af.dst aa) a)
  let skip (cO:List (Nat×Option Bool)):Prop:=dE eh (xW af.dst cO) (aM.dt af.dst bS) w
  match af.guard with
  |none=>c cO
  |some (g,d)=>match qK cO (ow aY g)with
   |some (E b)=>bif(bif b then d else !d)then c cO else skip cO
   |some I=>skip cO
   |none=>eV (aM (ow aY g)) (bif d then c ((ow aY g,E G)::cO)else skip ((ow aY g,E G)::cO)) (bif d then skip ((ow aY g,E U)::cO)else c ((ow aY g,E U)::cO))
def nQ(ad:ft)(aY:Array Oper)(a:Bool)(cF:List Nat)(ac:eN->aN->Prop):m6->List nO->List (Nat×Option Bool)->eN->aN->Prop
 |.D,_,_,aM,w=>ac aM w
 |.iD i ah,eh,cO,aM,w=>zO ad aY a cF i (λeh cO aM w=>nQ ad aY a cF ac ah eh cO aM w) eh cO aM w
 |.jo i ah ai,eh,cO,aM,w=>zO ad aY a cF i (λeh cO aM w=>nQ ad aY a cF ac ah eh cO aM w) eh cO aM w/\nQ ad aY a cF ac ai eh cO aM w
def zP(aY:Array Oper)(af:Oper)(cO:List (Nat×Option Bool))(aM:eN)(c:Bool)(a:List (Nat×Option Bool)):Prop:=
 match af.guard with
 |none=>c=G/\a=cO
 |some (g,d)=>(∃b,((qK cO (ow aY g)=E (E b)/\a=cO)\/(aM (ow aY g)=aK b/\a=(ow aY g,E b)::cO))/\c=(bif b then d else !d))\/
  (qK cO (ow aY g)=E I/\a=cO/\c=U)
def Fl(ad:ft)(b:Bool)(cF:List Nat)(i:Nat)(dE:List nO->List (Nat×Option Bool)->eN->aN->Prop)(eh:List nO)(cO:List (Nat×Option Bool))(af:Oper)(aM:eN)(w:aN):Prop:=
 match wQ cO af with
 |some x=>dE eh (ty af.dst x cO) (aM.dt af.dst (cm aM x)) w
 |none=>match kK ad aM af with
  |.uC aa=>dE eh cO (aM.dt af.dst aa) w
  |.kw s=>aV ad s λaa=>dE eh cO (aM.dt af.dst aa) w
  |.j5 s=>aZ ad s w λaa=>dE (bif b then⟨i,s,aa⟩::eh else eh) cO (aM.dt af.dst aa) w
  |.i1 s=>W ad s w λaa a=>kL ad a (nP (cF.getD i 0) eh) (dE (nP (cF.getD i 0) eh) cO (aM.dt af.dst aa) a)
variable{eh:List nO}
def Fm{f:Bool}{dE:List nO->List (Nat×Option Bool)->eN->aN->Prop}
  (h:zO ad aY f cF i dE eh cO aM w):
  ∃af,aY[i]?=E af/\∃c d,zP aY af cO aM c d/\
   ((c=G/\Fl ad f cF i dE eh d af aM w)\/
    (c=U/\dE eh (xW af.dst d) (aM.dt af.dst bS) w)):=by
 unfold zO at h;cases j:aY[i]? with
 |none=>rw[j]at h;exact h.elim
 |some af=>
  rw[j]at h;refine⟨af,rfl,?_⟩;simp only at h;unfold zP;cases k:af.guard with
  |none=>
   rw[k]at h;exact⟨G,cO,⟨rfl,rfl⟩,Y ⟨rfl,h⟩⟩
  |some n=>
   obtain⟨g,a⟩:=n;rw[k]at h;simp only at h⊢;cases l:qK cO (ow aY g)with
   |none=>
     rw[l]at h;simp only at h;rcases h with⟨e,h⟩|⟨e,h⟩
     ·refine⟨a,(ow aY g,E G)::cO,Y ⟨G,Z ⟨e,rfl⟩,rfl⟩,?_⟩;cases a
      ·exact Z ⟨rfl,h⟩
      ·exact Y ⟨rfl,h⟩
     ·refine⟨!a,(ow aY g,E U)::cO,Y ⟨U,Z ⟨e,rfl⟩,rfl⟩,?_⟩;cases a
      ·exact Y ⟨rfl,h⟩
      ·exact Z ⟨rfl,h⟩
   |some o=>
     rw[l]at h;cases o with
     |none=>exact⟨U,cO,Z ⟨rfl,rfl,rfl⟩,Z ⟨rfl,h⟩⟩
     |some b=>
      simp only at h;refine⟨bif b then a else !a,cO,Y ⟨b,Y ⟨rfl,rfl⟩,rfl⟩,?_⟩;cases m:(bif b then a else !a)
      ·rw[m]at h;exact Z ⟨rfl,h⟩
      ·rw[m]at h;exact Y ⟨rfl,h⟩
def nx(aY:Array Oper):List (Option Nat):=aY.toList.map (·.dst)
def tz(aY:Array Oper):List Nat:=aY.toList.filterMap (·.dst)
def rm:List (Option Nat)->Bool
 |[]=>G
 |none::ab=>rm ab
 |some t::ab=>(ab.all λx=>match x with|some ae=>!go t ae|none=>G)&&rm ab
def p1(n:Nat):List (Option Nat)->Bool
 |[]=>G
 |none::ab=>p1 n ab
 |some t::ab=>Nat.blt t n&&p1 n ab
def JY:∀{ab:List (Option Nat)},(ab.all λx=>match x with|some ae=>!go t ae|none=>G)=G->∀j:Nat,ab[j]?≠E (E t):=by intro ab h j a;have:=pO.1 h (E t) (gP a);simp at this
def Cc:∀{l:List (Option Nat)},rm l=G->∀i j t:Nat,l[i]?=E (E t)->l[j]?=E (E t)->i=j
 |[],_,i,j,t,a,_=>by simp at a
 |none::ab,h,i,j,t,a,b=>by
  cases i with
  |zero=>simp at a
  |succ i=>cases j with
   |zero=>simp at b
   |succ j=>exact congrArg _ (Cc (l:=ab) (by simpa[rm]using h) i j t (by simpa using a) (by simpa using b))
 |some ae::ab,h,i,j,t,a,b=>by
  simp only[rm,dA]at h;cases i with
  |zero=>
   simp at a;subst a;cases j with
   |zero=>rfl
   |succ j=>exact absurd (by simpa using b) (JY h.1 j)
  |succ i=>cases j with
   |zero=>
    simp at b;subst b;exact absurd (by simpa using a) (JY h.1 i)
   |succ j=>exact congrArg _ (Cc (l:=ab) h.2 i j t (by simpa using a) (by simpa using b))
def zQ{n:Nat}:∀{l:List (Option Nat)},p1 n l=G->∀i t:Nat,l[i]?=E (E t)->t<n
 |[],_,i,t,a=>by simp at a
 |none::ab,h,i,t,a=>by
  cases i with
  |zero=>simp at a
  |succ i=>exact zQ (l:=ab) (by simpa[p1]using h) i t (by simpa using a)
 |some ae::ab,h,i,t,a=>by
  simp only[p1,dA]at h;cases i with
  |zero=>simp at a;subst a;exact Nat.blt_eq▸h.1
  |succ i=>exact zQ (l:=ab) h.2 i t (by simpa using a)
def wR{af:Oper}(h:aY[i]?=E af):(nx aY)[i]?=E af.dst:=by simp[nx,h]
def JZ{af:Oper}(h:aY[i]?=E af)(a:af.dst=E t):t∈tz aY:=by unfold tz;exact List.mem_filterMap.2 ⟨af,by simpa using gP (by simpa using h:aY.toList[i]?=some af),a⟩
def l6(aY:Array Oper)(done:List Nat)(cO:List (Nat×Option Bool))(aM:eN):Prop:=
 ∀t a,qK cO t=E a->(∃g af,g∈done/\aY[g]?=E af/\af.dst=E t)/\aM t=(match a with|some b=>aK b|none=>bS)
def Cd(aY:Array Oper):List Nat->List Nat->Bool
 |_,[]=>G
 |done,i::a=>(match(aY[i]?).bind (·.guard)with
  |some (g,_)=>(done.any λk=>go k g)&&((aY[g]?).bind (·.dst)).isSome
  |none=>G)&&Cd aY (i::done) a
def eN.wS{ag:Option Tmp}(h:ag≠E t):aM.dt ag aa t=aM t:=by
 cases ag with
 |none=>rfl
 |some ag=>
  simp only[eN.dt];cases a:go t ag with
  |false=>rfl
  |true=>exact absurd (congrArg E (lD a).symm) h
def eN.xX:aM.dt (E t) aa t=aa:=by simp[eN.dt]
def J0{a:Nat}{b:Option Bool}{c:Option Bool}(h:qK ((g,b)::cO) a=E c):(g=a/\b=c)\/qK cO a=E c:=by
 simp only[qK]at h;cases d:go g a with
 |true=>rw[d]at h;simp at h;exact Y ⟨lD d,h⟩
 |false=>rw[d]at h;exact Z h
def l6.dt{done:List Nat}(h:l6 aY done cO aM)(d:rm (nx aY)=G){af:Oper}(e:aY[i]?=E af)(al:i∉done)(aa:S):
  l6 aY (i::done) cO (aM.dt af.dst aa):=by
 intro t f j;obtain⟨⟨g,k,a,b,c⟩,l⟩:=h t f j;refine⟨⟨g,k,ev _ a,b,c⟩,?_⟩;rw[eN.wS (λm=>al (by
  have:=Cc d i g t (by rw[wR e,m]) (by rw[wR b,c]);exact this▸a))]
 exact l
def l6.Fo{done:List Nat}(h:l6 aY (i::done) cO aM){af:Oper}(d:aY[i]?=E af){ag:Tmp}(e:af.dst=E ag){c:Option Bool}
  (f:aM ag=(match c with|some b=>aK b|none=>bS)):l6 aY (i::done) ((ag,c)::cO) aM:=by
 intro t g a;rcases J0 a with⟨rfl,rfl⟩|a
 ·exact⟨⟨i,af,fE,d,e⟩,f⟩
 ·exact h t g a
def l6.J1{done:List Nat}(h:l6 aY (i::done) cO aM){af:Oper}(b:aY[i]?=E af)(c:∀t,af.dst=E t->aM t=bS):
  l6 aY (i::done) (xW af.dst cO) aM:=by
 cases a:af.dst with
 |none=>exact h
 |some ag=>exact h.Fo b a (c ag a)
def J2{done:List Nat}(f:l6 aY done cO aM){af:Oper}{x:Operand}(h:wQ cO af=E x):
  execOp (cm aM) af=Sem.pure (fw (cm aM x)):=by
 unfold wQ at h;split at h
 ·rename_i ap a;cases h;unfold execOp;rw[a];rfl
 ·rename_i ap a;cases h;unfold execOp;rw[a];rfl
 ·rename_i c d b a;split at h
  ·rename_i t;split at h
   ·rename_i e g;have i:=(f t _ g).2;simp only[vq]at h;unfold execOp;rw[a];have:cm aM (.tmp t)=aK e:=i;simp only[this];subst h;cases e<;>rfl
   ·cases h
  ·cases h
 ·cases h
def l6.kM{done:List Nat}(h:l6 aY done cO aM)(d:rm (nx aY)=G){af:Oper}(c:aY[i]?=E af)(al:i∉done)(x:Operand):
  l6 aY (i::done) (ty af.dst x cO) (aM.dt af.dst (cm aM x)):=by
 have a:=h.dt d c al (cm aM x);unfold ty;cases b:af.dst with
 |none=>rw[b]at a;exact a
 |some ag=>
  rw[b]at a;simp only;split
  ·rename_i aa;split
   ·exact a.Fo c b (by rw[eN.xX];rfl)
   ·exact a
  ·rename_i t;split
   ·rename_i e f;exact a.Fo c b (by rw[eN.xX];exact(h t e f).2)
   ·exact a
  ·exact a
def Vb{d:Act}(a:iC n d aM){af:Oper}(c:aY[g]?=E af)(e:af.dst=E t)(f:t<n):
  yielded aY d.tmps g=match aM t with|aK b=>E b|_=>I:=by
 have h:=a.2.1;have i:=a.2.2 t;have j:d.tmps[t]?=E (aM t):=by rw[<-i];simp[Array.getD,h,f]
 unfold yielded;rw[c];simp only[tg,e];rw[j];cases aM t<;>rfl
def J3{done:List Nat}{A:List (Nat×Option Bool)}{af:Oper}{v:Bool}
  (J:aY[i]?=E af) (l:l6 aY done cO aM) (f:zP aY af cO aM v A)
  (r:(match(aY[i]?).bind (·.guard)with
   |some (g,_)=>(done.any λk=>go k g)&&((aY[g]?).bind (·.dst)).isSome
   |none=>G)=G):
  l6 aY done A aM/\
  (∀n d cZ,iC n d cZ->p1 n (nx aY)=G->(∀g c a t,af.guard=E (g,c)->aY[g]?=E a->a.dst=E t->cZ t=aM t)->Region.wanted af (yielded aY d.tmps)=v):=by
 unfold zP at f;rw[J]at r;simp only[tg]at r;cases w:af.guard with
 |none=>
  rw[w]at f;obtain⟨rfl,rfl⟩:=f;exact⟨l,λn d cZ _ _ _=>by simp[Region.wanted,w]⟩
 |some K=>
  obtain⟨g,c⟩:=K;rw[w]at f r;simp only[dA,Option.isSome_iff_exists]at r;obtain⟨L,t,s⟩:=r;have dI:g∈done:=by obtain⟨k,N,O⟩:=List.any_eq_true.1 L;exact lD O▸N
  obtain⟨a,m,o⟩:∃a,aY[g]?=E a/\a.dst=E t:=by
   cases B:aY[g]? with
   |none=>rw[B]at s;simp at s
   |some a=>rw[B]at s;exact⟨a,rfl,by simpa using s⟩
  have P:ow aY g=t:=by unfold ow;rw[s]
  have bz:∀p:Option Bool,aM t=(match p with|some b=>aK b|none=>bS)->v=(match p with|some b=>(bif b then c else !c)|none=>U)->
    (∀n d cZ,iC n d cZ->p1 n (nx aY)=G->cZ t=aM t->Region.wanted af (yielded aY d.tmps)=v):=by
   intro p e q n d cZ h x j;have D:=Vb h m o (zQ x g t (by rw[wR m,o]));rw[j,e]at D;unfold Region.wanted;rw[w];simp only;rw[D,q];cases p with
   |none=>simp[bS]
   |some b=>cases b<;>cases c<;>rfl
  dsimp only at f;rw[P]at f;rcases f with⟨b,x,q⟩|⟨y,rfl,q⟩
  ·rcases x with⟨y,rfl⟩|⟨e,rfl⟩
   ·have e:=(l t _ y).2;exact⟨l,λn d cZ h u j=>bz (E b) e q n d cZ h u (j g c a t rfl m o)⟩
   ·refine⟨?_,λn d cZ h u j=>bz (E b) e q n d cZ h u (j g c a t rfl m o)⟩;intro sw p z;rcases J0 z with⟨rfl,rfl⟩|z
    ·exact⟨⟨g,a,dI,m,o⟩,e⟩
    ·exact l sw p z
  ·have e:=(l t _ y).2;exact⟨l,λn d cZ h u j=>bz I e q n d cZ h u (j g c a t rfl m o)⟩
def Vc{ac:eN->aN->Prop}{bu:Exit->Act->aN->Prop}
  (y:rm (nx aY)=G) (dI:p1 n (nx aY)=G) (f8:eN)
  (ab:∀d aM w,iC n d aM->ac aM w->(∀t,t∉tz aY->aM t=f8 t)->bu .normal d w):
  ∀(c done:List Nat)(eh:List nO)(cO:List (Nat×Option Bool))(aM:eN)(d:Act)(w:aN),
   (∀i∈c,i∉done)->c.Nodup->Cd aY done c=G->l6 aY done cO aM->iC n d aM->(∀t,t∉tz aY->aM t=f8 t)->
   nQ ad aY U cF ac (wP c) eh cO aM w->wpOps ad aY bu c d w:=by
 intro c;induction c with
 |nil=>intro done eh cO aM d w _ _ _ _ g z h;exact ab d aM w g h z
 |cons i c p=>
  intro done eh cO aM d w N ae q ag g z h;obtain⟨af,f,av,A,ai,aj⟩:=Fm h;simp only[Cd,dA]at q;obtain⟨r,ak⟩:=J3 f ag ai q.1;have am:=ak n d aM g dI (λ_ _ _ _ _ _ _=>rfl);have al:i∉done:=N i fE;have B:=ks.1 ae;have O:∀j∈c,j∉i::done:=by
   intro j P D;rcases ce.1 D with rfl|D
   ·exact B.1 P
   ·exact N j (ev _ P) D
  have Q:∀t,af.dst=E t->t<n:=λt m=>zQ dI i t (by rw[wR f,m]);have R:∀aa t,t∉tz aY->(aM.dt af.dst aa) t=f8 t:=by intro aa t m;rw[eN.wS (λan=>m (JZ f an))];exact z t m
  simp only[wpOps,f,am];rcases aj with⟨rfl,b⟩|⟨rfl,ao⟩
  ·apply Y;have step':∀aa a k u,l6 aY (i::done) u (aM.dt af.dst aa)->nQ ad aY U cF ac (wP c) k u (aM.dt af.dst aa) a->wpOps ad aY bu c (d.put af.dst aa) a:=λaa a k u ap h=>
    p (i::done) k u _ _ _ O B.2 q.2 ap (g.dt Q aa) (R aa) h
   have o:∀aa a k,nQ ad aY U cF ac (wP c) k A (aM.dt af.dst aa) a->wpOps ad aY bu c (d.put af.dst aa) a:=λaa a k h=>
    step' aa a k A (r.dt y f al aa) h
   unfold Fl at b;cases J:wQ A af with
   |some x=>
    rw[J]at b;unfold Oper.wp;rw[g.cm,J2 r J];exact step' _ _ _ _ (r.kM y f al x) b
   |none=>
   rw[J]at b;simp only at b;have aq:Cb ad (kK ad aM af) w (λaa a=>wpOps ad aY bu c (d.put af.dst aa) a):=by
    cases v:kK ad aM af with
    |uC aa=>rw[v]at b;exact o aa w _ b
    |kw s=>rw[v]at b;obtain⟨aa,K,L⟩:=b;exact⟨aa,K,o aa w _ L⟩
    |j5 s=>rw[v]at b;obtain⟨aa,K,L⟩:=b;exact⟨aa,K,o aa w _ L⟩
    |i1 s=>
     rw[v]at b;simp only[Cb,W]at b⊢;have V:∀(l:List nO)(cs:Prop)(a:aN),kL ad a l cs->cs:=by
      intro l;induction l with
      |nil=>exactλcs a h=>h
      |cons ah l p=>exactλcs a h=>p cs a h.2
     split at b<;>first
      |exact b.elim
      |exact o _ _ _ (V _ _ _ b)
      |exact Calls.mono b (λe aw X=>by cases e<;>first|exact o _ _ _ (V _ _ _ X)|exact X.elim)
   exact Oper.wp_mono (λfl a⟨aa,ar,au⟩=>ar▸au) (Va g aq)
  ·exact p (i::done) eh _ _ _ _ O B.2 q.2
    ((r.dt y f al bS).J1 f (λt m=>by rw[m];exact eN.xX)) (g.dt Q bS) (R bS) ao
section
variable(ad:ft)(aY:Array Oper)(cF:List Nat)(n:Nat)(ac:eN->aN->Prop)(bu:Exit->Act->aN->Prop)(f8:eN)
def cs(i j:Nat):Prop:=p0 (cF.getD i 0) j=G
def bC(t i:Nat):Prop:=∃af,aY[i]?=E af/\af.dst=E t
def rn(bn:Nat->Prop)(t:Nat):Prop:=∃i,bn i/\bC aY t i
def hi(d7:Array Bool)(i:Nat):Prop:=d7.getD i U=G
def ro(aM:eN):Option Tmp->S
 |none=>bS
 |some t=>aM t
def mC(aM:eN)(i:Nat)(w:aN):Prop:=
 ∀af,aY[i]?=E af->∀d:Act,d.defers=[]->d.tmps.size=n->
  (∀t∈af.looksAt aY,((∃k,cs cF i k/\bC aY t k)->d.tmps.getD t bS=aM t)/\(¬(∃k,cs cF i k/\bC aY t k)->d.tmps.getD t bS=f8 t))->
  ∀a:Act->aN->Prop,a (d.put af.dst (ro aM af.dst)) w->wpOp ad aY bu i a d w
def zR(i:Nat):Bool:=match aY[i]? with
 |some af=>(match kK ad (λ_=>bS) af with|.i1 _=>G|_=>U)
 |none=>G
def uD(done:List Nat)(i:Nat):Bool:=match aY[i]? with
 |some af=>af.after.toList.all λe=>!th .any e||done.any λk=>go k e.on
 |none=>U
def J4(done:List Nat)(i:Nat):Bool:=match(aY[i]?).bind (·.guard)with
 |some (g,_)=>(done.any λk=>go k g)&&((aY[g]?).bind (·.dst)).isSome
 |none=>G
def qL:List Nat->List Nat->m6->Bool
 |done,_,.D=>go done.length aY.size
 |done,a,.iD i ah=>Nat.blt i aY.size&&!(done.any λk=>go k i)&&uD aY done i&&J4 aY done i&&
  (bif zR ad aY i then((c9 aY.size).all λj=>go j i||(done.any λk=>go k j)||(a.any λk=>go k j)||!uD aY done j)else a.isEmpty)&&qL (i::done) [] ah
 |done,a,.jo i ah ai=>Nat.blt i aY.size&&!(done.any λk=>go k i)&&uD aY done i&&J4 aY done i&&zR ad aY i&&qL (i::done) [] ah&&qL done (i::a) ai
def zS(i:Nat):Bool:=match aY[i]? with
 |some af=>go (cF.getD i 0) (af.after.toList.foldl (λs e=>bif th .any e then Nat.lor (Nat.lor s (Nat.shiftLeft 1 e.on)) (cF.getD e.on 0)else s) 0)&&
  af.after.toList.all λe=>!th .any e||Nat.blt e.on i
 |none=>go (cF.getD i 0) 0
def Ce:Bool:=(c9 aY.size).all λj=>match aY[j]? with
 |some af=>(match af.op with|.select ..=>U|_=>G)&&(af.looksAt aY).all λt=>(c9 aY.size).all λi=>match aY[i]? with
  |some a=>(match a.dst with|some ae=>!go t ae|none=>G)||go i j||p0 (cF.getD j 0) i||p0 (cF.getD i 0) j
  |none=>G
 |none=>U
def Fp(a:m6):Bool:=
 rm (nx aY)&&p1 n (nx aY)&&qL ad aY [] [] a&&
 ((c9 aY.size).all (zS aY cF))&&Nat.ble cF.length aY.size&&Ce aY cF
end
def Vd(j:Nat):p0 0 j=U:=by simp[p0];rfl
def J5(ak j:Nat):p0 ak j=ak.testBit j:=by unfold p0 Nat.testBit;have h:Nat.land (Nat.shiftRight ak j) 1=(ak>>>j)%2:=Nat.and_one_is_mod (ak>>>j);rw[h,Nat.one_and_eq_mod_two];have:=Nat.mod_two_eq_zero_or_one (ak>>>j);rcases this with h|h<;>rw[h]<;>rfl
def Ve(j:Nat):∀(l:List Edge)(s:Nat),
  (l.foldl (λs e=>bif th .any e then Nat.lor (Nat.lor s (Nat.shiftLeft 1 e.on)) (cF.getD e.on 0)else s) s).testBit j=G->
  s.testBit j=G\/∃e∈l,th .any e=G/\(e.on=j\/(cF.getD e.on 0).testBit j=G):=by
 intro l;induction l with
 |nil=>intro s h;exact Y h
 |cons e l d=>
  intro s h;rcases d _ h with h|⟨gh,f,h⟩
  ·dsimp only at h;cases b:th .any e with
   |false=>rw[b]at h;exact Y h
   |true=>
    rw[b,cond_true]at h;have a:((s|||(1<<<e.on))|||(cF.getD e.on 0)).testBit j=G:=h;rw[Nat.testBit_or,Nat.testBit_or,pP,pP]at a;rcases a with(a|a)|a
    ·exact Y a
    ·refine Z ⟨e,fE,b,Y ?_⟩;rw[Nat.testBit_shiftLeft]at a;simp only[dA,decide_eq_true_eq]at a;obtain⟨g,c⟩:=a;have i:j-e.on=0:=by
      rcases Nat.eq_zero_or_pos (j-e.on)with h|h
      ·exact h
      ·have:(1:Nat).testBit (j-e.on)=U:=by exact Nat.testBit_lt_two_pow (Nat.one_lt_two_pow A)
       rw[this]at c;cases c
     omega
    ·exact Z ⟨e,fE,b,Z a⟩
  ·exact Z ⟨gh,ev _ f,h⟩
def vz{l:List Nat}:(l.any λk=>go k i)=G↔i∈l:=by
 simp only[List.any_eq_true];constructor
 ·rintro⟨k,a,h⟩;exact lD h▸a
 ·intro h;exact⟨i,h,B⟩
section
variable{ac:eN->aN->Prop}{bu:Exit->Act->aN->Prop}{f8:eN}
def J6(g:((c9 aY.size).all (zS aY cF))=G)(k:Nat.ble cF.length aY.size=G)(h:cs cF i j):
  ∃af,aY[i]?=E af/\∃e∈af.after.toList,th .any e=G/\e.on<i/\(e.on=j\/cs cF e.on j):=by
 have a:i<aY.size:=by
  rcases Nat.lt_or_ge i aY.size with a|p
  ·exact a
  ·have l:cF.getD i 0=0:=by have:=Nat.le_of_ble_eq_true k;simp[List.getD,jy (show cF.length<=i by omega)]
   unfold cs at h;rw[l,Vd]at h;cases h
 have al:=pO.1 g i (iK.2 a);have b:aY[i]?=E aY[i]:=ti a;refine⟨aY[i],b,?_⟩;unfold zS at al;rw[b]at al;simp only[dA]at al;obtain⟨m,n⟩:=al;unfold cs at h;rw[J5,lD m]at h;rcases Ve j _ _ h with h|⟨e,c,d,o⟩
 ·simp at h
 ·have f:=pO.1 n e c;rw[d]at f;refine⟨e,c,d,by simpa[Nat.blt_eq]using f,o.imp id (λh=>?_)⟩;unfold cs;rw[J5];exact h
structure m7(ad:ft)(aY:Array Oper)(cF:List Nat)(n:Nat)(ac:eN->aN->Prop)(bu:Exit->Act->aN->Prop)(f8:eN)
  (d7:Array Bool) (done:List Nat) (b:m6) (c:List Nat) (eh:List nO) (cO:List (Nat×Option Bool)) (aM:eN) (d:Act) (w:aN):Prop where
 aI:d7.size=aY.size
 tA:d.defers=[]
 rp:d.tmps.size=n
 o7:∀t,(rn aY (hi d7) t->d.tmps.getD t bS=aM t)/\(¬rn aY (hi d7) t->d.tmps.getD t bS=f8 t)
 tB:∀t,¬rn aY (·∈done) t->aM t=f8 t
 d1:∀i,hi d7 i->i∈done
 tC:∀i,hi d7 i->∀j,cs cF i j->hi d7 j
 qM:∀i,i∈done->∀j,cs cF i j->j∈done
 vA:∀i,i∈done->¬hi d7 i->mC ad aY cF n bu f8 aM i w/\
  ((∀a,mC ad aY cF n bu f8 aM i a)\/∃ah∈eh,ah.wO=i/\∀a,ah.cP.run ad a=bN (fw ah.a7) a->mC ad aY cF n bu f8 aM i a)
 xY:l6 aY done cO aM
 rq:qL ad aY done c b=G
 hj:done.Nodup
 aL:∀i∈done,i<aY.size
 cC:nQ ad aY G cF ac b eh cO aM w
structure sy(aY:Array Oper)(cF:List Nat)(n:Nat):Prop where
 uE:rm (nx aY)=G
 Fq:p1 n (nx aY)=G
 Fr:((c9 aY.size).all (zS aY cF))=G
 J7:Nat.ble cF.length aY.size=G
 zT:Ce aY cF=G
def Fs(h:Ce aY cF=G){af a:Oper}(b:aY[j]?=E af)(al:aY[i]?=E a)(c:t∈af.looksAt aY)(d:a.dst=E t):
  i=j\/cs cF j i\/cs cF i j:=by
 have e:j<aY.size:=(so.1 b).1;have f:i<aY.size:=(so.1 al).1;have:=pO.1 h j (iK.2 e);rw[b]at this;simp only[dA]at this;have:=pO.1 this.2 t c;have:=pO.1 this i (iK.2 f);rw[al]at this;simp only[d]at this;simp only[Nat.beq_refl,hq,Bool.false_or,pP]at this;rcases this with(h|h)|h
 ·exact Y (lD h)
 ·exact Z (Y h)
 ·exact Z (Z h)
def J8(h:Ce aY cF=G){af:Oper}(a:aY[j]?=E af):∀bo b,af.op≠.select bo b:=by intro bo b ao;have c:j<aY.size:=(so.1 a).1;have:=pO.1 h j (iK.2 c);rw[a]at this;simp[ao]at this
def bC.zU(a:rm (nx aY)=G)(h:bC aY t i)(b:bC aY t j):i=j:=by obtain⟨af,c,d⟩:=h;obtain⟨g,e,f⟩:=b;exact Cc a i j t (by rw[wR c,d]) (by rw[wR e,f])
def vB(al:i<d7.size):hi (d7.setIfInBounds i G) k↔k=i\/hi d7 k:=by
 unfold hi;by_cases h:k=i
 ·subst h;simp[Array.getD,al]
 ·simp only[Array.getD_eq_getD_getElem?];rw[Array.getElem?_setIfInBounds_ne (Ne.symm h)];simp[h]
def mC.hu{cZ:eN}(h:mC ad aY cF n bu f8 aM i w)(g:∀af t,aY[i]?=E af->af.dst=E t->cZ t=aM t)(j:∀k t,cs cF i k->bC aY t k->cZ t=aM t):
  mC ad aY cF n bu f8 cZ i w:=by
 intro af a d l m b o p;apply h af a d l m (λt c=>⟨λ⟨k,e,f⟩=>((b t c).1 ⟨k,e,f⟩).trans (j k t e f),(b t c).2⟩) o;have:ro aM af.dst=ro cZ af.dst:=by
  cases q:af.dst with
  |none=>rfl
  |some t=>exact(g af t a q).symm
 rw[this];exact p
def Vf{af:Oper}(h:Operand.tmp t∈af.op.operands):t∈af.looksAt aY:=by unfold Oper.looksAt;refine b4.2 (Y (List.mem_filterMap.2 ⟨.tmp t,by simpa using h,rfl⟩))
def J9{af a:Oper}{b:Bool}(h:af.guard=E (g,b))(c:aY[g]?=E a)(d:a.dst=E t):t∈af.looksAt aY:=by unfold Oper.looksAt;refine b4.2 (Z ?_);rw[h];simp[c,d]
def Ka{af:Oper}(a:∀bo b,af.op≠.select bo b){d:Act}(h:∀t∈af.looksAt aY,d.tmps.getD t bS=aM t):execOp d.eval af=execOp (cm aM) af:=by
 refine execOp_congr af a (λx c=>?_);cases x with
 |tmp t=>exact h t (Vf c)
 |_=>rfl
def Kb(cE:sy aY cF n){done:List Nat}(o:∀t,¬rn aY (·∈done) t->aM t=f8 t)(p:∀i,i∈done->∀j,cs cF i j->j∈done){af:Oper}(e:aY[i]?=E af)(al:i∉done)(q:∀j,cs cF i j->j∈done){cZ:eN}(r:∀t,af.dst≠E t->cZ t=aM t){d:Act}
  (f:∀t∈af.looksAt aY,((∃k,cs cF i k/\bC aY t k)->d.tmps.getD t bS=cZ t)/\(¬(∃k,cs cF i k/\bC aY t k)->d.tmps.getD t bS=f8 t)):
  ∀t∈af.looksAt aY,d.tmps.getD t bS=aM t:=by
 intro t b;by_cases a:∃k,cs cF i k/\bC aY t k
 ·rw[(f t b).1 a];obtain⟨k,a,c⟩:=a;refine r t (λs=>?_);have:=bC.zU cE.uE c ⟨af,e,s⟩;subst this;exact al (q _ a)
 ·rw[(f t b).2 a];refine(o t (λ⟨k,g,c⟩=>?_)).symm;obtain⟨u,l,m⟩:=c;rcases Fs cE.zT e l b m with rfl|h|h
  ·exact al g
  ·exact a ⟨k,h,u,l,m⟩
  ·exact al (p k g i h)
def Vg(cE:sy aY cF n){done:List Nat}(l:∀t,¬rn aY (·∈done) t->aM t=f8 t)(m:∀i,i∈done->∀j,cs cF i j->j∈done){af:Oper}(a:aY[i]?=E af)(al:i∉done)(o:∀j,cs cF i j->j∈done){b:Bool}{p:List (Nat×Option Bool)}
  (q:∀n d cZ,iC n d cZ->p1 n (nx aY)=G->(∀g f c t,af.guard=E (g,f)->aY[g]?=E c->c.dst=E t->cZ t=aM t)->Region.wanted af (yielded aY d.tmps)=b)
  (L:zP aY af cO aM b p)
  (r:(b=G/\(execOp (cm aM) af).run ad w=bN (fw aa) w)\/(b=U/\aa=bS)):mC ad aY cF n bu f8 (aM.dt af.dst aa) i w:=by
 intro dI h d s u v N e;rw[a]at h;cases h;have k:=Kb cE l m a al o (cZ:=aM.dt af.dst aa) (λt x=>eN.wS x) v;have y:iC n d (λt=>d.tmps.getD t bS):=⟨s,u,λ_=>rfl⟩;have z:=q n d _ y cE.Fq (λg f c t A B D=>k t (J9 A B D));have J:d.put af.dst (ro (aM.dt af.dst aa) af.dst)=d.put af.dst aa:=by
  cases O:af.dst with
  |none=>rfl
  |some t=>simp only[ro,eN.xX]
 rw[J]at e;unfold wpOp;rw[a];simp only[z];rcases r with⟨rfl,K⟩|⟨rfl,rfl⟩
 ·apply Y;unfold Oper.wp;rw[Ka (J8 cE.zT a) k,K];exact e
 ·exact e
def Vh{done:List Nat}(h:uD aY done i=G):∃af,aY[i]?=E af/\∀e∈af.after.toList,th .any e=G->e.on∈done:=by
 unfold uD at h;cases a:aY[i]? with
 |none=>rw[a]at h;cases h
 |some af=>
  rw[a]at h;refine⟨af,rfl,λe b c=>?_⟩;have:=pO.1 h e b;rw[c]at this;exact vz.1 (by simpa using this)
def Kc(cE:sy aY cF n){done:List Nat}(d:∀i,i∈done->∀j,cs cF i j->j∈done)(h:uD aY done i=G):∀j,cs cF i j->j∈done:=by
 intro j f;obtain⟨af,g,k⟩:=Vh h;obtain⟨o,b,e,l,m,_,a⟩:=J6 cE.Fr cE.J7 f;rw[g]at b;cases b;have c:=k e l m;rcases a with rfl|a
 ·exact c
 ·exact d _ c j a
def m7.Kd(cE:sy aY cF n){done:List Nat}{r:m6}{am:List Nat}{d:Act}
  (bH:m7 ad aY cF n ac bu f8 d7 done (.iD i r) am eh cO aM d w):
  (∃p l cZ,m7 ad aY cF n ac bu f8 d7 (i::done) r [] p l cZ d w)\/
  (∃af s l,aY[i]?=E af/\zR ad aY i=G/\kK ad aM af=.i1 s/\l6 aY done l aM/\
   (∀n d cZ,iC n d cZ->p1 n (nx aY)=G->(∀g an y t,af.guard=E (g,an)->aY[g]?=E y->y.dst=E t->cZ t=aM t)->Region.wanted af (yielded aY d.tmps)=G)/\
   W ad s w λaa a=>kL ad a (nP (cF.getD i 0) eh) (nQ ad aY G cF ac r (nP (cF.getD i 0) eh) l (aM.dt af.dst aa) a)):=by
 obtain⟨af,m,O,l,P,aq⟩:=Fm bH.cC;have Q:=bH.rq;simp only[qL,dA,lq]at Q;obtain⟨⟨⟨⟨⟨ar,R⟩,au⟩,av⟩,aT⟩,aw⟩:=Q;obtain⟨o,V⟩:=J3 m bH.xY P av;have al:i∉done:=λh=>by rw[vz.2 h]at R;cases R
 have X:=Kc cE bH.qM au;have ax:i<aY.size:=by simpa[Nat.blt_eq]using ar
 have mk:∀(aa:S)(p:List nO)(z:List (Nat×Option Bool)),
   (∀ah∈eh,ah∈p)->
   mC ad aY cF n bu f8 (aM.dt af.dst aa) i w->
   ((∀a,mC ad aY cF n bu f8 (aM.dt af.dst aa) i a)\/∃ah∈p,ah.wO=i/\∀a,ah.cP.run ad a=bN (fw ah.a7) a->mC ad aY cF n bu f8 (aM.dt af.dst aa) i a)->
   l6 aY (i::done) z (aM.dt af.dst aa)->
   nQ ad aY G cF ac r p z (aM.dt af.dst aa) w->
   m7 ad aY cF n ac bu f8 d7 (i::done) r [] p z (aM.dt af.dst aa) d w:=by
  intro aa p z ay az aA aB aC;have D:∀k t,k∈done->bC aY t k->(aM.dt af.dst aa) t=aM t:=by intro k t A u;refine eN.wS (λJ=>?_);have:=bC.zU cE.uE u ⟨af,m,J⟩;exact al (this▸A)
  have K:∀k∈done,∀a,mC ad aY cF n bu f8 aM k a->mC ad aY cF n bu f8 (aM.dt af.dst aa) k a:=by intro k A a h;exact h.hu (λy t aD aF=>D k t A ⟨y,aD,aF⟩) (λhC t o B=>D hC t (bH.qM k A hC o) B)
  exact{
   aI:=bH.aI,tA:=bH.tA,rp:=bH.rp
   o7:=λt=>⟨λu=>by
     obtain⟨k,e,B⟩:=u;rw[(bH.o7 t).1 ⟨k,e,B⟩];exact(D k t (bH.d1 k e) B).symm,(bH.o7 t).2⟩
   tB:=λt ae=>by rw[eN.wS (λJ=>ae ⟨i,fE,af,m,J⟩)];exact bH.tB t (λ⟨k,e,u⟩=>ae ⟨k,ev _ e,u⟩)
   d1:=λk e=>ev _ (bH.d1 k e)
   tC:=bH.tC
   qM:=λk e j ai=>by
    rcases ce.1 e with rfl|e
    ·exact ev _ (X j ai)
    ·exact ev _ (bH.qM k e j ai)
   vA:=λk e aG=>by
    rcases ce.1 e with rfl|e
    ·exact⟨az,aA⟩
    ·obtain⟨aow,aoE⟩:=bH.vA k e aG;refine⟨K k e w aow,aoE.imp (λh a=>K k e a (h a)) (λ⟨ah,aH,aJ,h⟩=>⟨ah,ay ah aH,aJ,λa aO=>K k e a (h a aO)⟩)⟩
   xY:=aB
   rq:=aw
   hj:=ks.2 ⟨al,bH.hj⟩
   aL:=λk e=>by
    rcases ce.1 e with rfl|e
    ·exact ax
    ·exact bH.aL k e
   cC:=aC}
 have v:∀(aa:S)(a:aN),((O=G/\(execOp (cm aM) af).run ad a=bN (fw aa) a)\/(O=U/\aa=bS))->mC ad aY cF n bu f8 (aM.dt af.dst aa) i a:=
  λaa a aP=>Vg cE bH.tB bH.qM m al X V P aP
 rcases aq with⟨rfl,f⟩|⟨rfl,aQ⟩
 ·unfold Fl at f;cases L:wQ l af with
  |some x=>
   rw[L]at f;have ab:∀a,mC ad aY cF n bu f8 (aM.dt af.dst (cm aM x)) i a:=λa=>v _ a (Y ⟨rfl,by rw[J2 o L];rfl⟩);exact Y ⟨_,_,_,mk (cm aM x) eh (ty af.dst x l) (λ_ h=>h) (ab w) (Y ab) (o.kM cE.uE m al x) f⟩
  |none=>
  rw[L]at f;simp only at f;have ao:=Fk ad aM af;cases q:kK ad aM af with
  |uC aa=>
   rw[q]at f ao;simp only[pZ.sx]at ao;have ab:∀a,mC ad aY cF n bu f8 (aM.dt af.dst aa) i a:=λa=>v aa a (Y ⟨rfl,by rw[ao];rfl⟩);exact Y ⟨_,_,_,mk aa eh l (λ_ h=>h) (ab w) (Y ab) (o.dt cE.uE m al aa) f⟩
  |kw s=>
   rw[q]at f ao;simp only[pZ.sx]at ao;obtain⟨aa,dI,N⟩:=f;have ab:∀a,mC ad aY cF n bu f8 (aM.dt af.dst aa) i a:=λa=>v aa a (Y ⟨rfl,by rw[ao];exact dI a⟩);exact Y ⟨_,_,_,mk aa eh l (λ_ h=>h) (ab w) (Y ab) (o.dt cE.uE m al aa) N⟩
  |j5 s=>
   rw[q]at f ao;simp only[pZ.sx]at ao;obtain⟨aa,dI,N⟩:=f;have ab:∀a,s.run ad a=bN (fw aa) a->mC ad aY cF n bu f8 (aM.dt af.dst aa) i a:=λa h=>v aa a (Y ⟨rfl,by rw[ao];exact h⟩);exact Y ⟨_,_,_,mk aa (⟨i,s,aa⟩::eh) l (λ_ h=>ev _ h) (ab w dI) (Z ⟨⟨i,s,aa⟩,fE,rfl,ab⟩) (o.dt cE.uE m al aa) N⟩
  |i1 s=>
   rw[q]at f;have aR:zR ad aY i=G:=by
    unfold zR;rw[m];have:∀cZ,(match kK ad cZ af with|.i1 _=>G|_=>U)=(match kK ad aM af with|.i1 _=>G|_=>U):=by
     intro cZ;obtain⟨dst,d5,type,aU,after,guard⟩:=af;cases d5<;>try rfl
     case binOp b t x ap aV=>cases b<;>rfl
     case convert s ag x=>simp only[kK];cases qJ ad s&&qJ ad ag<;>rfl
     case call c=>
      obtain⟨callee,c8,j4⟩:=c;cases callee with
      |value aj=>cases aj<;>rfl
      |invoke ab ak=>rfl
      |builtin b=>cases b<;>first|rfl|(simp only[kK];cases jc ad (j4.getD 0 0)<;>rfl)
    simp only[this,q]
   exact Z ⟨af,s,l,m,aR,q,o,V,f⟩
 ·have ab:∀a,mC ad aY cF n bu f8 (aM.dt af.dst bS) i a:=λa=>v bS a (Z ⟨rfl,rfl⟩);exact Y ⟨_,_,_,mk bS eh (xW af.dst l) (λ_ h=>h) (ab w) (Y ab) ((o.dt cE.uE m al bS).J1 m (λt aS=>by rw[aS];exact eN.xX)) aQ⟩
def vC(a:hi d7 k):hi (d7.setIfInBounds i G) k:=by
 unfold hi at*;by_cases h:k=i
 ·subst h;have:k<d7.size:=by
   rcases Nat.lt_or_ge k d7.size with h|h
   ·exact h
   ·simp[Array.getD,Nat.not_lt.2 h]at a
  simp[Array.getD,this]
 ·simp only[Array.getD_eq_getD_getElem?];rw[Array.getElem?_setIfInBounds_ne (Ne.symm h)];simpa using a
def Vi{l:List Nat}(b:l.Nodup)(c:∀k∈l,k<ak)(h:l.length=ak):∀k,k<ak->k∈l:=by
 intro k d;refine Classical.byContradiction (λe=>?_);have f:(k::l).Nodup:=ks.2 ⟨e,b⟩;have g:(k::l).length<=(c9 ak).length:=List.Nodup.length_le_of_subset f (λx a=>by
  rcases ce.1 a with rfl|a
  ·exact iK.2 d
  ·exact iK.2 (c x a))
 simp at g;omega
def Vj(al:i<ak)(ao:i<d7.size)(a:d7.getD i U=U):
  ((c9 ak).filter λk=>!(d7.setIfInBounds i G).getD k U).length<((c9 ak).filter λk=>!d7.getD k U).length:=by
 have e:((c9 ak).filter λk=>!(d7.setIfInBounds i G).getD k U)=(((c9 ak).filter λk=>!d7.getD k U).filter λk=>!(d7.setIfInBounds i G).getD k U):=by
  rw[List.filter_filter];refine List.filter_congr (λk _=>?_);cases b:d7.getD k U with
  |false=>simp
  |true=>
   have:hi (d7.setIfInBounds i G) k:=vC b;unfold hi at this;simp[this]
 rw[e];refine List.length_filter_lt_length_iff_exists.2 ⟨i,ol.2 ⟨iK.2 al,by simp only[a,lE]⟩,?_⟩;have:hi (d7.setIfInBounds i G) i:=(vB ao).2 (Y rfl);unfold hi at this;simp[this]
def Ke(cE:sy aY cF n){af:Oper}(f:aY[i]?=E af)(j:i<d7.size)(s:¬hi d7 i){d:Act}(m:d.tmps.size=n)
  (h:∀t,(rn aY (hi d7) t->d.tmps.getD t bS=aM t)/\(¬rn aY (hi d7) t->d.tmps.getD t bS=f8 t)):
  ∀t,(rn aY (hi (d7.setIfInBounds i G)) t->(d.put af.dst (ro aM af.dst)).tmps.getD t bS=aM t)/\
   (¬rn aY (hi (d7.setIfInBounds i G)) t->(d.put af.dst (ro aM af.dst)).tmps.getD t bS=f8 t):=by
 intro t;by_cases a:af.dst=E t
 ·have o:t<n:=zQ cE.Fq i t (by rw[wR f,a]);have:(d.put af.dst (ro aM af.dst)).tmps.getD t bS=aM t:=by rw[a];simp[Act.put,ro,Array.getD,m,o]
  exact⟨λ_=>this,λg=>absurd ⟨i,(vB j).2 (Y rfl),af,f,a⟩ g⟩
 ·have p:(d.put af.dst (ro aM af.dst)).tmps.getD t bS=d.tmps.getD t bS:=by
   cases q:af.dst with
   |none=>rfl
   |some ag=>
    have:ag≠t:=λe=>a (by rw[q,e]);simp only[Act.put,Array.getD_eq_getD_getElem?];rw[Array.getElem?_setIfInBounds_ne this]
  rw[p];refine⟨λ⟨k,b,c⟩=>(h t).1 ⟨k,?_,c⟩,λg=>(h t).2 (λ⟨k,b,c⟩=>g ⟨k,vC b,c⟩)⟩;rcases(vB j).1 b with rfl|b
  ·obtain⟨u,l,r⟩:=c;rw[f]at l;cases l;exact absurd r a
  ·exact b
def m7.Ft(cE:sy aY cF n){done:List Nat}{b:m6}{d:Act}
  (bH:m7 ad aY cF n ac bu f8 d7 done b [] eh cO aM d w) (e:i∈done) (c:¬hi d7 i) (p:∀j,cs cF i j->hi d7 j)
  {f:Act->aN->Prop} (v:∀fl,(∃done b eh cO aM,m7 ad aY cF n ac bu f8 (d7.setIfInBounds i G) done b [] eh cO aM fl w)->f fl w):wpOp ad aY bu i f d w:=by
 have q:=bH.aL i e;have g:aY[i]?=E aY[i]:=ti q;have l:i<d7.size:=bH.aI▸q;refine(bH.vA i e c).1 _ g d bH.tA bH.rp (λt x=>⟨λ⟨k,a,m⟩=>(bH.o7 t).1 ⟨k,p k a,m⟩,λo=>(bH.o7 t).2 (λ⟨k,a,m⟩=>?_)⟩) f (v _ ⟨done,b,eh,cO,aM,?_⟩)
 ·obtain⟨y,r,s⟩:=m;rcases Fs cE.zT g r x s with rfl|h|h
  ·exact c a
  ·exact o ⟨k,h,y,r,s⟩
  ·exact c (bH.tC k a i h)
 ·exact{
   aI:=by simp[bH.aI],tA:=by cases aY[i].dst<;>exact bH.tA,rp:=by cases h:aY[i].dst<;>simp[Act.put,bH.rp]
   o7:=Ke cE g l c bH.rp bH.o7
   tB:=bH.tB
   d1:=λk a=>by
    rcases(vB l).1 a with rfl|a
    ·exact e
    ·exact bH.d1 k a
   tC:=λk a j u=>by
    rcases(vB l).1 a with rfl|a
    ·exact vC (p j u)
    ·exact vC (bH.tC k a j u)
   qM:=bH.qM
   vA:=λk a o=>bH.vA k a (λh=>o (vC h))
   xY:=bH.xY,rq:=bH.rq,hj:=bH.hj,aL:=bH.aL,cC:=bH.cC}
def Kf{w:aN}:∀{l:List nO}{an:Prop},kL ad w l an->(∀ah∈l,ah.cP.run ad w=bN (fw ah.a7) w)/\an
 |[],_,h=>⟨λ_ b=>(by cases b),h⟩
 |ah::l,an,h=>by
  obtain⟨c,d⟩:=Kf (l:=l) h.2;exact⟨λai a=>by
   rcases ce.1 a with rfl|a
   ·exact h.1
   ·exact c ai a,d⟩
def Fu{ak:Nat}{ah:nO}:∀{l:List nO},ah∈l->p0 ak ah.wO=U->ah∈nP ak l
 |ai::l,h,a=>by
  simp only[nP];rcases ce.1 h with rfl|h
  ·rw[a];exact fE
  ·cases p0 ak ai.wO
   ·exact ev _ (Fu h a)
   ·exact Fu h a
def m7.Kg(cE:sy aY cF n){done:List Nat}{f aj:m6}{ak:List Nat}{v:List (Nat×Option Bool)}{d:Act}
  (bH:m7 ad aY cF n ac bu f8 d7 done aj ak eh cO aM d w) (N:i<aY.size) (al:i∉done) (am:uD aY done i=G) (an:qL ad aY (i::done) [] f=G)
  (J:∀j,cs cF i j->hi d7 j) {af:Oper} {s:Sem fD} (l:aY[i]?=E af) (ap:kK ad aM af=.i1 s)
  (K:l6 aY done v aM)
  (aq:∀n d cZ,iC n d cZ->p1 n (nx aY)=G->(∀g O m t,af.guard=E (g,O)->aY[g]?=E m->m.dst=E t->cZ t=aM t)->Region.wanted af (yielded aY d.tmps)=G)
  (o:W ad s w λaa a=>kL ad a (nP (cF.getD i 0) eh) (nQ ad aY G cF ac f (nP (cF.getD i 0) eh) v (aM.dt af.dst aa) a)):
  wpOp ad aY bu i (λfl a=>∃done f eh cO aM,m7 ad aY cF n ac bu f8 (d7.setIfInBounds i G) done f [] eh cO aM fl a) d w:=by
 have L:¬hi d7 i:=λh=>al (bH.d1 i h);have P:=Kc cE bH.qM am;have y:i<d7.size:=bH.aI▸N;have Q:∀t∈af.looksAt aY,d.tmps.getD t bS=aM t:=by
  refine Kb cE bH.tB bH.qM l al P (cZ:=aM) (λ_ _=>rfl) (λt ar=>⟨λ⟨k,b,c⟩=>(bH.o7 t).1 ⟨k,J k b,c⟩,λz=>(bH.o7 t).2 (λ⟨k,b,c⟩=>?_)⟩);obtain⟨m,p,q⟩:=c;rcases Fs cE.zT l p ar q with rfl|h|h
  ·exact L b
  ·exact z ⟨k,h,m,p,q⟩
  ·exact L (bH.tC k b i h)
 have au:iC n d (λt=>d.tmps.getD t bS):=⟨bH.tA,bH.rp,λ_=>rfl⟩;have av:=aq n d _ au cE.Fq (λg O m t aw p q=>Q t (J9 aw p q));have ao:=Fk ad aM af;rw[ap]at ao;simp only[pZ.sx]at ao;have R:∀aa a,(kL ad a (nP (cF.getD i 0) eh) (nQ ad aY G cF ac f (nP (cF.getD i 0) eh) v (aM.dt af.dst aa) a))->
   ∃done f eh cO aM,m7 ad aY cF n ac bu f8 (d7.setIfInBounds i G) done f [] eh cO aM (d.put af.dst aa) a:=by
  intro aa a ax;obtain⟨ay,az⟩:=Kf ax;have dI:∀k t,k∈done->bC aY t k->(aM.dt af.dst aa) t=aM t:=by intro k t A c;refine eN.wS (λB=>?_);have:=bC.zU cE.uE c ⟨af,l,B⟩;exact al (this▸A)
  have D:∀k∈done,∀a,mC ad aY cF n bu f8 aM k a->mC ad aY cF n bu f8 (aM.dt af.dst aa) k a:=by intro k A a h;exact h.hu (λm t p q=>dI k t A ⟨m,p,q⟩) (λhC t K aA=>dI hC t (bH.qM k A hC K) aA)
  have aB:d.put af.dst aa=d.put af.dst (ro (aM.dt af.dst aa) af.dst):=by
   cases B:af.dst with
   |none=>rfl
   |some t=>simp only[ro,eN.xX]
  refine⟨i::done,f,nP (cF.getD i 0) eh,v,aM.dt af.dst aa,?_⟩;rw[aB];exact{
   aI:=by simp[bH.aI],tA:=by cases af.dst<;>exact bH.tA,rp:=by cases h:af.dst<;>simp[Act.put,bH.rp]
   o7:=Ke cE l y L bH.rp (λt=>⟨λ⟨k,b,c⟩=>((bH.o7 t).1 ⟨k,b,c⟩).trans (dI k t (bH.d1 k b) c).symm,(bH.o7 t).2⟩)
   tB:=λt z=>by rw[eN.wS (λB=>z ⟨i,fE,af,l,B⟩)];exact bH.tB t (λ⟨k,b,c⟩=>z ⟨k,ev _ b,c⟩)
   d1:=λk b=>by
    rcases(vB y).1 b with rfl|b
    ·exact fE
    ·exact ev _ (bH.d1 k b)
   tC:=λk b j u=>by
    rcases(vB y).1 b with rfl|b
    ·exact vC (J j u)
    ·exact vC (bH.tC k b j u)
   qM:=λk b j u=>by
    rcases ce.1 b with rfl|b
    ·exact ev _ (P j u)
    ·exact ev _ (bH.qM k b j u)
   vA:=λk b V=>by
    rcases ce.1 b with rfl|b
    ·exact absurd ((vB y).2 (Y rfl)) V
    ·have X:¬hi d7 k:=λh=>V (vC h);obtain⟨_,aoE⟩:=bH.vA k b X;rcases aoE with h|⟨ah,aC,ae,h⟩
     ·exact⟨D k b a (h a),Y (λr=>D k b r (h r))⟩
     ·have aD:p0 (cF.getD i 0) ah.wO=U:=by
       cases aF:p0 (cF.getD i 0) ah.wO with
       |false=>rfl
       |true=>exact absurd (J k (by unfold cs;rw[<-ae];exact aF)) X
      have ag:=Fu aC aD;exact⟨D k b a (h a (ay ah ag)),Z ⟨ah,ag,ae,λr aG=>D k b r (h r aG)⟩⟩
   xY:=K.dt cE.uE l al aa
   rq:=an
   hj:=ks.2 ⟨al,bH.hj⟩
   aL:=λk b=>by
    rcases ce.1 b with rfl|b
    ·exact N
    ·exact bH.aL k b
   cC:=az}
 unfold wpOp;rw[l];simp only[av,if_true];apply Y;unfold Oper.wp;rw[Ka (J8 cE.zT l) Q,ao];simp only[W]at o;generalize s.run ad w=ab at*;cases ab with
 |ok x a=>
  cases x<;>simp only at o<;>first
   |exact o.xs
   |exact R _ _ o
   |exact Calls.mono o (λe r ai=>by cases e<;>first|exact R _ _ ai|exact ai.elim)
 |halt x a=>exact o.elim
def m7.cS(cE:sy aY cF n){d:Act}(c:i<aY.size)(L:¬hi d7 i)(o:∀j,cs cF i j->hi d7 j)
  (aa:∀af,aY[i]?=E af->∀e∈af.after.toList,th .any e=G->hi d7 e.on):
  ∀(f:m6)(done g:List Nat)(eh:List nO)(cO:List (Nat×Option Bool))(aM:eN),m7 ad aY cF n ac bu f8 d7 done f g eh cO aM d w->i∉g->i∉done->
   wpOp ad aY bu i (λfl a=>∃done f eh cO aM,m7 ad aY cF n ac bu f8 (d7.setIfInBounds i G) done f [] eh cO aM fl a) d w:=by
 intro f;induction f with
 |D=>
  intro done g eh cO aM bH _ b;have dI:=bH.rq;simp only[qL]at dI;exact absurd (Vi bH.hj bH.aL (lD dI) i c) b
 |iD j f ab=>
  intro done g eh cO aM bH u b;have l:=bH.rq;simp only[qL,dA,lq]at l;obtain⟨⟨⟨⟨⟨N,O⟩,p⟩,_⟩,q⟩,r⟩:=l;rcases bH.Kd cE with⟨P,v,cZ,t⟩|⟨af,s,v,Q,R,y,z,A,J⟩
  ·by_cases V:i∈j::done
   ·exact t.Ft cE V L o (λfl h=>h)
   ·exact ab (j::done) [] P v cZ t B V
  ·by_cases m:i=j
   ·subst m;exact bH.Kg cE c b p r o Q y z A J
   ·exfalso;rw[R,cond_true]at q;have:=pO.1 q i (iK.2 c);simp only[pP,lq]at this;rcases this with((h|h)|h)|h
    ·exact m (lD h)
    ·exact b (vz.1 h)
    ·exact u (vz.1 h)
    ·have:uD aY done i=G:=by
      unfold uD;rw[ti c];refine pO.2 (λe ae=>?_);cases K:th .any e with
      |false=>rfl
      |true=>simpa using vz.2 (bH.d1 _ (aa _ (ti c) e ae K))
     rw[this]at h;cases h
 |jo j ah ai _ ag=>
  intro done g eh cO aM bH u b;have l:=bH.rq;simp only[qL,dA,lq]at l;obtain⟨⟨⟨⟨⟨⟨N,O⟩,p⟩,aj⟩,q⟩,r⟩,ak⟩:=l;obtain⟨W,al⟩:=bH.cC;by_cases m:i=j
  ·subst m;obtain⟨af,Q,ap,v,aq,ar⟩:=Fm W;have X:m7 ad aY cF n ac bu f8 d7 done (.iD i ah) ((c9 aY.size).filter λk=>!go k i) eh cO aM d w:=
    {bH with
     rq:=by
      simp only[qL,dA,lq];refine⟨⟨⟨⟨⟨N,O⟩,p⟩,aj⟩,?_⟩,r⟩;rw[q,cond_true];refine pO.2 (λk am=>?_);cases K:go k i with
      |true=>simp
      |false=>
       have:((c9 aY.size).filter λk=>!go k i).any (λx=>go x k)=G:=vz.2 (ol.2 ⟨am,by simp[K]⟩);simp[this]
     cC:=W}
   rcases X.Kd cE with⟨P,an,cZ,t⟩|⟨af,s,an,ao,R,y,z,A,J⟩
   ·exact t.Ft cE fE L o (λfl h=>h)
   ·exact X.Kg cE c b p r o ao y z A J
  ·exact ag done (j::g) eh cO aM {bH with rq:=ak,cC:=al} (by simp[m,u]) b
def Kh(h:i∈Region.ready .any aY d7)(ao:d7.size=aY.size):
  i<aY.size/\¬hi d7 i/\∃af,aY[i]?=E af/\∀e∈af.after.toList,th .any e=G->hi d7 e.on:=by
 unfold Region.ready at h;obtain⟨d,b⟩:=ol.1 h;have a:=iK.1 d;simp only[dA,lq]at b;refine⟨a,?_,aY[i],ti a,?_⟩
 ·unfold hi;have:=b.1;simp only[Array.getD_eq_getD_getElem?,ti (ao▸a:i<d7.size),om]at this⊢;simp[this]
 ·intro e f g;have c:=b.2;rw[ti a]at c;simp only[m1,om]at c;have:=(Array.all_eq_true'.1 c) e (by simpa using f);rw[g]at this;unfold hi;simpa using this
def Vk(cE:sy aY cF n)(ao:d7.size=aY.size)(h:Region.ready .any aY d7=[]):∀ak i,i<ak->i<aY.size->hi d7 i:=by
 intro ak;induction ak with
 |zero=>intro i al;omega
 |succ ak d=>
  intro i j al;cases b:d7.getD i U with
  |true=>exact b
  |false=>
   exfalso;have:i∈Region.ready .any aY d7:=by
    unfold Region.ready;refine ol.2 ⟨iK.2 al,?_⟩;simp only[dA,lq];constructor
    ·simp only[Array.getD_eq_getD_getElem?,ti (ao▸al:i<d7.size),om]at b⊢;exact b
    ·rw[ti al];simp only[m1,om];refine Array.all_eq_true'.2 (λe f=>?_);cases g:th .any e with
     |false=>simp
     |true=>
      have a:=pO.1 cE.Fr i (iK.2 al);unfold zS at a;rw[ti al]at a;simp only[dA]at a;have c:=pO.1 a.2 e (by simpa using f);rw[g]at c;have k:e.on<i:=by simpa[Nat.blt_eq]using c
      have:=d e.on A A;unfold hi at this;rw[this];rfl
   rw[h]at this;cases this
def m7.uF(cE:sy aY cF n):∀(g:Nat)(d7:Array Bool)(d:Act)(w:aN),
  (∀d aM w,iC n d aM->ac aM w->(∀t,t∉tz aY->aM t=f8 t)->bu .normal d w)->
  ((c9 aY.size).filter λi=>!d7.getD i U).length<=g->
  (∃done b eh cO aM,m7 ad aY cF n ac bu f8 d7 done b [] eh cO aM d w)->wpAny ad .any aY bu g d7 d w:=by
 intro g;have gi:∀(d7:Array Bool)(d:Act)(w:aN),(∀d aM w,iC n d aM->ac aM w->(∀t,t∉tz aY->aM t=f8 t)->bu .normal d w)->
   (∃done b eh cO aM,m7 ad aY cF n ac bu f8 d7 done b [] eh cO aM d w)->Region.ready .any aY d7=[]->bu .normal d w:=by
  intro d7 d w c ⟨done,b,eh,cO,aM,bH⟩ p;have O:∀i,i<aY.size->hi d7 i:=λi al=>Vk cE bH.aI p (i+1) i A al;have ab:∃cZ,ac cZ w/\(∀t,¬rn aY (·∈done) t->cZ t=f8 t)/\(∀t,rn aY (hi d7) t->d.tmps.getD t bS=cZ t):=by
   have q:∀k,k<aY.size->k∈done:=λk v=>bH.d1 k (O k v);have x:=bH.cC;have r:=bH.rq;cases b with
   |D=>exact⟨aM,x,bH.tB,λt=>(bH.o7 t).1⟩
   |iD i ah=>
    simp only[qL,dA,lq]at r;obtain⟨⟨⟨⟨⟨y,l⟩,_⟩,_⟩,_⟩,_⟩:=r;rw[vz.2 (q i (by simpa[Nat.blt_eq]using y))]at l;cases l
   |jo i ah ai=>
    simp only[qL,dA,lq]at r;obtain⟨⟨⟨⟨⟨⟨y,l⟩,_⟩,_⟩,_⟩,_⟩,_⟩:=r;rw[vz.2 (q i (by simpa[Nat.blt_eq]using y))]at l;cases l
  obtain⟨cZ,x,P,ae⟩:=ab;refine c d cZ w ⟨bH.tA,bH.rp,λt=>?_⟩ x (λt ag=>P t (λ⟨k,_,af,s,q⟩=>ag (JZ s q)));by_cases z:rn aY (hi d7) t
  ·exact ae t z
  ·rw[(bH.o7 t).2 z];refine(P t (λ⟨k,v,aj⟩=>z ⟨k,O k (bH.aL k v),aj⟩)).symm
 induction g with
 |zero=>
  intro d7 d w c J u;obtain⟨done,b,eh,cO,aM,bH⟩:=u;have p:Region.ready .any aY d7=[]:=by
   refine List.eq_nil_iff_forall_not_mem.2 (λi al=>?_);obtain⟨m,f,_⟩:=Kh al bH.aI;have:i∈(c9 aY.size).filter λi=>!d7.getD i U:=ol.2 ⟨iK.2 m,by
    unfold hi at f;simpa using f⟩
   rw[rc (Nat.le_zero.1 J)]at this;cases this
  exact⟨p,gi d7 d w c ⟨done,b,eh,cO,aM,bH⟩ p⟩
 |succ g Q=>
  intro d7 d w c J u;refine⟨gi d7 d w c u,λi al=>?_⟩;obtain⟨done,b,eh,cO,aM,bH⟩:=u;obtain⟨m,f,af,s,R⟩:=Kh al bH.aI;have V:∀j,cs cF i j->hi d7 j:=by
   intro j ak;obtain⟨am,o,e,K,L,_,dI⟩:=J6 cE.Fr cE.J7 ak;rw[s]at o;cases o;have W:=R e K L;rcases dI with rfl|dI
   ·exact W
   ·exact bH.tC _ W j dI
  have X:((c9 aY.size).filter λk=>!(d7.setIfInBounds i G).getD k U).length<=g:=
   Nat.le_of_lt_succ (iL (Vj m (bH.aI▸m) (by unfold hi at f;simpa using f)) J)
  by_cases aa:i∈done
  ·exact wpOp_mono (λfl a N=>Q _ _ _ c X N) (bH.Ft cE aa f V (λfl h=>h))
  ·exact wpOp_mono (λfl a N=>Q _ _ _ c X N) (bH.cS cE m f V (λam o e K L=>by rw[s]at o;cases o;exact R e K L) b done [] eh cO aM B aa)
def Vl{a:m6}(e:Fp ad aY cF n a=G)(f:ad.follows .mixedOrders=G){id:Nat}{d:Act}
  (j:∀d aM w,iC n d aM->ac aM w->(∀t,t∉tz aY->aM t=f8 t)->bu .normal d w)
  (b:iC n d f8) (h:nQ ad aY G cF ac a [] [] f8 w.drew):(Code.region id aY G).wp ad bu d w:=by
 simp only[Fp,dA]at e;obtain⟨⟨⟨⟨⟨l,m⟩,o⟩,p⟩,q⟩,r⟩:=e;have cE:sy aY cF n:=⟨l,m,p,q,r⟩;refine wp_region_any f (m7.uF cE aY.size _ d _ j ?_ ⟨[],a,[],[],f8,?_⟩)
 ·exact gz (List.length_filter_le _ _) B
 ·have c:∀i,¬hi (Array.replicate aY.size U) i:=by
   intro i al;unfold hi at al;by_cases h:i<aY.size
   ·simp[Array.getD,h]at al
   ·simp[Array.getD,h]at al
  exact{
   aI:=B,tA:=b.1,rp:=b.2.1
   o7:=λt=>⟨λ⟨k,s,_⟩=>absurd s (c k),λ_=>b.2.2 t⟩
   tB:=λ_ _=>rfl
   d1:=λi al=>absurd al (c i)
   tC:=λi al=>absurd al (c i)
   qM:=λi al=>by cases al
   vA:=λi al=>by cases al
   xY:=λg v u=>by cases u
   rq:=o
   hj:=List.nodup_nil
   aL:=λi al=>by cases al
   cC:=h}
end
inductive b2 where
 |D
 |L (d b:b2)
 |bK (aw:List Nat) (d b:b2)
 |aW (d:b2)
 |cJ (aw:List Nat) (d:b2)
 |b9 (a:m6) (cF:List Nat)
def b2.uG:b2->b2
 |.L d _=>d
 |.aW d=>d
 |_=>.D
def b2.zV:b2->b2
 |.L _ b=>b
 |_=>.D
def j6:Code->List Nat
 |.region _ aY _=>tz aY
 |.seq d b=>j6 d++j6 b
 |.cond _ d b=>j6 d++j6 b
 |.block _ c=>j6 c
 |.loop c=>j6 c
 |.scope c=>j6 c
 |_=>[]
def wT:List Nat->Nat->Nat->Option Nat
 |[],_,_=>I
 |ae::ab,t,k=>bif go ae t then E k else wT ab t (k+1)
def wU:List Nat->Nat->Bool
 |[],_=>U
 |ae::ab,t=>bif go ae t then G else wU ab t
def zW(aM:eN)(a aw:List Nat)(aF:List S)(b:eN):eN:=λt=>
 match wT aw t 0 with
 |some k=>aF.getD k bS
 |none=>bif wU a t then b t else aM t
def ny(a:(List S->aN->Prop)->Prop)(b:List S->eN->aN->Prop):Prop:=
 ∃gU:List S->aN->Prop,a gU/\∀aF c w,gU aF w->b aF c w
def rr(d:List S)(bv:aN)(body:(List S->aN->Prop)->List S->eN->aN->Prop):Prop:=
 ∃(bH:List S->aN->Prop)(b:List S->aN->Nat),bH d bv/\
  ∀aF e w,bH aF w->body (λc a=>bH c a/\b c a<b aF w) aF e w
abbrev tD:=Exit->eN->aN->Prop
def uH(next:eN->aN->Prop)(bu:tD):tD:=λe aM w=>match e with
 |.normal=>next aM w
 |.exit i=>bu (.exit i) aM w
 |.ret=>bu .ret aM w
 |.goto l=>bu (.goto l) aM w
 |_=>False
def vD(id:Nat)(bu:tD):tD:=λe aM w=>match e with
 |.exit i=>bif go i id then bu .normal aM w else bu (.exit i) aM w
 |.normal=>bu .normal aM w
 |.ret=>bu .ret aM w
 |.goto l=>bu (.goto l) aM w
 |_=>False
def Fv(aw:List Nat)(gU:List S->aN->Prop)(bu:tD):tD:=uH (λaM w=>gU (aw.map aM) w) bu
def cC(ad:ft):Code->b2->tD->eN->aN->Prop
 |.skip,_,bu,aM,w=>bu .normal aM w
 |.region _ aY ag,fm,bu,aM,w=>match ag with
  |false=>nQ ad aY U [] (bu .normal) (wP (c9 aY.size)) [] [] aM w
  |true=>match fm with
   |.b9 f cF=>nQ ad aY G cF (bu .normal) f [] [] aM w.drew
   |_=>False
 |.seq x ap,fm,bu,aM,w=>match fm with
  |.bK aw d b=>ny (λgU=>cC ad x d (Fv aw gU bu) aM w) (λaF e a=>cC ad ap b bu (zW aM (j6 x) aw aF e) a)
  |.L d b=>cC ad x d (uH (λcZ a=>cC ad ap b bu cZ a) bu) aM w
  |_=>cC ad x .D (uH (λcZ a=>cC ad ap .D bu cZ a) bu) aM w
 |.cond c x ap,fm,bu,aM,w=>eV (cm aM c) (cC ad x fm.uG bu aM w) (cC ad ap fm.zV bu aM w)
 |.block id c,fm,bu,aM,w=>cC ad c fm.uG (vD id bu) aM w
 |.loop c,fm,bu,aM,w=>match fm with
  |.cJ aw d=>rr (aw.map aM) w (λgU aF e a=>cC ad c d (Fv aw gU bu) (zW aM (j6 c) aw aF e) a)
  |_=>False
 |.exit id,_,bu,aM,w=>bu (.exit id) aM w
 |.ret,_,bu,aM,w=>bu .ret aM w
 |_,_,_,_,_=>False
def j7(ad:ft)(n:Nat):Code->b2->Bool
 |.region _ aY ag,fm=>match ag with
  |false=>rm (nx aY)&&p1 n (nx aY)&&Cd aY [] (c9 aY.size)
  |true=>match fm with
   |.b9 a cF=>Fp ad aY cF n a
   |_=>U
 |.seq x ap,fm=>match fm with
  |.bK _ d b=>j7 ad n x d&&j7 ad n ap b
  |.L d b=>j7 ad n x d&&j7 ad n ap b
  |_=>j7 ad n x .D&&j7 ad n ap .D
 |.cond _ x ap,fm=>j7 ad n x fm.uG&&j7 ad n ap fm.zV
 |.block _ c,fm=>j7 ad n c fm.uG
 |.loop c,fm=>match fm with
  |.cJ _ d=>j7 ad n c d
  |_=>U
 |_,_=>G
def Ki:∀{aw:List Nat}{t k ak:Nat},wT aw t k=E ak->k<=ak/\aw[ak-k]?=E t
 |[],_,_,_,h=>by cases h
 |ae::ab,t,k,ak,h=>by
  simp only[wT]at h;cases a:go ae t with
  |true=>
   rw[a]at h;simp at h;subst h;simp[lD a]
  |false=>
   rw[a]at h;obtain⟨c,b⟩:=Ki (aw:=ab) h;refine⟨A,?_⟩;have:ak-k=(ak-(k+1))+1:=A;rw[this];simpa using b
def Kj:∀{aw:List Nat}{t:Nat},wU aw t=U->t∉aw
 |[],_,_=>B
 |ae::ab,t,h=>by
  simp only[wU]at h;cases a:go ae t with
  |true=>rw[a]at h;cases h
  |false=>
   rw[a]at h;have:=Kj (aw:=ab) h;intro b;rcases ce.1 b with rfl|b
   ·simp at a
   ·exact this b
def Kk{cZ:eN}{a aw:List Nat}(h:∀t,t∉a->cZ t=aM t):zW aM a aw (aw.map cZ) cZ=cZ:=by
 funext t;unfold zW;cases b:wT aw t 0 with
 |some k=>
  have:=(Ki b).2;simp at this;simp[List.getD,this]
 |none=>
  cases c:wU a t with
  |true=>rfl
  |false=>exact(h t (Kj c)).symm
def Vm(an:ad.follows .mixedOrders=G):∀(c:Code)(fm:b2)(bu:tD)(aM:eN)(d:Act)(w:aN),
  j7 ad n c fm=G->iC n d aM->cC ad c fm bu aM w->
  c.wp ad (λe fl a=>∃cZ,iC n fl cZ/\bu e cZ a/\∀t,t∉j6 c->cZ t=aM t) d w:=by
 intro c;induction c with
 |skip=>intro fm bu aM d w _ k h;exact wp_skip ⟨aM,k,h,λ_ _=>rfl⟩
 |region id aY ag=>
  intro fm bu aM d w f k h;cases ag with
  |false=>
   simp only[j7,dA]at f;refine wp_region (Vc (n:=n) (ac:=bu .normal) (cF:=[]) f.1.1 f.1.2 aM (λfl cZ a p V o=>⟨cZ,p,V,o⟩) (c9 aY.size) [] [] [] aM d w B List.nodup_range f.2 (λg aF ao=>by cases ao) k (λ_ _=>rfl) h)
  |true=>
   cases fm with
   |b9 aG cF=>
    simp only[j7]at f;exact Vl (n:=n) f an (λfl cZ a p V o=>⟨cZ,p,V,o⟩) k h
   |_=>exact h.elim
 |seq x ap W X=>
  intro fm bu aM d w f k h;have ai:∀(b:b2)(K:tD),(∀cZ a,K .normal cZ a->(∀t,t∉j6 x->cZ t=aM t)->∀fl,iC n fl cZ->ap.wp ad (λe r A=>∃m,iC n r m/\bu e m A/\∀t,t∉j6 (.seq x ap)->m t=aM t) fl a)->
    (∀e cZ a,e≠.normal->K e cZ a->bu e cZ a)->cC ad x b K aM w->j7 ad n x b=G->
    (Code.seq x ap).wp ad (λe r A=>∃m,iC n r m/\bu e m A/\∀t,t∉j6 (.seq x ap)->m t=aM t) d w:=by
   intro b K aq dI aa ar;refine wp_seq (wp_mono (W b K aM d w ar k aa) ?_);intro e fl a j;obtain⟨cZ,p,J,o⟩:=j;have N:∀t,t∉j6 (.seq x ap)->cZ t=aM t:=λt s=>o t (λh=>s (b4.2 (Y h)));cases e with
   |normal=>exact aq cZ a J o fl p
   |exit i=>exact⟨cZ,p,dI _ _ _ B J,N⟩
   |goto l=>exact⟨cZ,p,dI _ _ _ B J,N⟩
   |ret=>exact⟨cZ,p,dI _ _ _ B J,N⟩
   |panic Q=>exact⟨cZ,p,dI _ _ _ B J,N⟩
   |outgrown=>exact⟨cZ,p,dI _ _ _ B J,N⟩
  have aj:∀(aH:eN)(b:b2)(cZ:eN)(a:aN),j7 ad n ap b=G->cC ad ap b bu cZ a->(∀t,t∉j6 x->cZ t=aM t)->∀fl,iC n fl cZ->
    ap.wp ad (λe r A=>∃m,iC n r m/\bu e m A/\∀t,t∉j6 (.seq x ap)->m t=aM t) fl a:=by
   intro _ b cZ a au ab o fl p;apply wp_mono (X b bu cZ fl a au p ab);intro e r A j;obtain⟨m,u,av,ae⟩:=j;refine⟨m,u,av,λt s=>?_⟩;have ak:t∉j6 x/\t∉j6 ap:=⟨λh=>s (b4.2 (Y h)),λh=>s (b4.2 (Z h))⟩;exact(ae t ak.2).trans (o t ak.1)
  have plain:∀(fl z:b2),j7 ad n x fl=G->j7 ad n ap z=G->cC ad x fl (uH (λcZ a=>cC ad ap z bu cZ a) bu) aM w->_:=λfl z aa ab O=>
   ai fl _ (λcZ a j o r u=>aj aM z cZ a ab j o r u) (λe cZ a af j=>by
    cases e with
    |normal=>exact absurd rfl af
    |exit i=>exact j
    |goto l=>exact j
    |ret=>exact j
    |panic Q=>exact j.elim
    |outgrown=>exact j.elim) O aa
  cases fm with
  |bK aw fl z=>
   simp only[j7,dA]at f;obtain⟨gU,ax,ay⟩:=h;refine ai fl _ (λcZ a j o r u=>?_) (λe cZ a af j=>by
    cases e with
    |normal=>exact absurd rfl af
    |exit i=>exact j
    |goto l=>exact j
    |ret=>exact j
    |panic Q=>exact j.elim
    |outgrown=>exact j.elim) ax f.1
   have:=ay (aw.map cZ) cZ a j;dsimp only at this;rw[Kk o]at this;exact aj aM z cZ a f.2 this o r u
  |L fl z=>
   simp only[j7,dA]at f;exact plain fl z f.1 f.2 h
  |D=>simp only[j7,dA]at f;exact plain .D .D f.1 f.2 h
  |aW _=>simp only[j7,dA]at f;exact plain .D .D f.1 f.2 h
  |cJ _ _=>simp only[j7,dA]at f;exact plain .D .D f.1 f.2 h
  |b9 _ _=>simp only[j7,dA]at f;exact plain .D .D f.1 f.2 h
 |cond c x ap W X=>
  intro fm bu aM d w f k h;simp only[j7,dA]at f;rcases h with⟨O,h⟩|⟨O,h⟩
  ·refine wp_cond_true (by rw[k.cm];exact O) (wp_mono (W fm.uG bu aM d w f.1 k h) ?_);exactλe fl a⟨cZ,v,q,y⟩=>⟨cZ,v,q,λt s=>y t (λh=>s (b4.2 (Y h)))⟩
  ·refine wp_cond_false (by rw[k.cm];exact O) (wp_mono (X fm.zV bu aM d w f.2 k h) ?_);exactλe fl a⟨cZ,v,q,y⟩=>⟨cZ,v,q,λt s=>y t (λh=>s (b4.2 (Z h)))⟩
 |block id c ah=>
  intro fm bu aM d w f k h;simp only[j7]at f;refine wp_block (wp_mono (ah fm.uG (vD id bu) aM d w f k h) ?_);intro e fl a j;obtain⟨cZ,v,q,y⟩:=j;cases e with
  |exit i=>
   simp only[vD]at q;simp only[Exit.inBlock];by_cases al:i=id
   ·subst al;simp only[Nat.beq_refl,cond_true]at q;rw[if_pos rfl];exact⟨cZ,v,q,y⟩
   ·have:go i id=U:=by
     cases P:go i id with
     |false=>rfl
     |true=>exact absurd (lD P) al
    rw[this,cond_false]at q;rw[if_neg al];exact⟨cZ,v,q,y⟩
  |normal=>exact⟨cZ,v,q,y⟩
  |goto l=>exact⟨cZ,v,q,y⟩
  |ret=>exact⟨cZ,v,q,y⟩
  |panic Q=>exact q.elim
  |outgrown=>exact q.elim
 |loop c ah=>
  intro fm bu aM d w f k h;cases fm with
  |cJ aw az=>
   simp only[j7]at f;obtain⟨bH,aA,aB,aC⟩:=h;have am:∀(d:Act)(aM:eN),iC n d aM->(aw.map λt=>d.tmps.getD t bS)=aw.map aM:=λd aM k=>amO (λt _=>k.2.2 t);apply wp_loop (λd w=>∃cZ,iC n d cZ/\bH (aw.map cZ) w/\∀t,t∉j6 c->cZ t=aM t) (λd w=>aA (aw.map λt=>d.tmps.getD t bS) w) ⟨aM,k,aB,λ_ _=>rfl⟩;intro fl a aD;obtain⟨cZ,p,al,o⟩:=aD;have P:=aC (aw.map cZ) cZ a al;dsimp only at P;rw[Kk o]at P;apply wp_mono (ah az _ cZ fl a f p P);intro e r A j;obtain⟨m,u,j,ae⟩:=j;have R:∀t,t∉j6 c->m t=aM t:=λt s=>(ae t s).trans (o t s);cases e with
   |normal=>exact⟨⟨m,u,j.1,R⟩,by rw[am r m u,am fl cZ p];exact j.2⟩
   |exit i=>exact⟨m,u,j,R⟩
   |goto l=>exact⟨m,u,j,R⟩
   |ret=>exact⟨m,u,j,R⟩
   |panic Q=>exact j.elim
   |outgrown=>exact j.elim
  |_=>exact h.elim
 |exit id=>intro fm bu aM d w _ k h;exact wp_exit ⟨aM,k,h,λ_ _=>rfl⟩
 |ret=>intro fm bu aM d w _ k h;exact wp_ret ⟨aM,k,h,λ_ _=>rfl⟩
 |rangeFunc _ _ _ _ _ _=>intro fm bu aM d w _ _ h;exact h.elim
 |scope _ _=>intro fm bu aM d w _ _ h;exact h.elim
 |label _=>intro fm bu aM d w _ _ h;exact h.elim
 |goto _=>intro fm bu aM d w _ _ h;exact h.elim
 |refuse _=>intro fm bu aM d w _ _ h;exact h.elim
def uI(ad:ft):List ResultVar->eN->aN->(List S->Prop)->Prop
 |[],_,_,ac=>ac []
 |.tmp t::ab,aM,w,ac=>uI ad ab aM w λaF=>ac (aM t::aF)
 |.cell ah ar::ab,aM,w,ac=>aZ ad (a4 ar (aM ah)) w λaa=>uI ad ab aM w λaF=>ac (aa::aF)
def wV:List S->S
 |[aa]=>aa
 |aF=>bQ aF.toArray
def Cf(ad:ft)(cj:List ResultVar)(bb:Ending->aN->Prop):tD:=λe aM w=>match e with
 |.normal=>uI ad cj aM w λaF=>bb (gd (wV aF)) w
 |.ret=>uI ad cj aM w λaF=>bb (gd (wV aF)) w
 |_=>False
def xZ(gr:Func):Code:=gr.body.getD .skip
def Cg(ad:ft)(gr:Func)(fm:b2)(c8:List S)(w:aN)(bb:Ending->aN->Prop):Prop:=
 cC ad (xZ gr) fm (Cf ad gr.results.toList bb) (B8 c8) w
def Ch(ad:ft)(gr:Func)(fm:b2)(a:Nat):Bool:=
 gr.body.isSome&&Nat.ble a gr.ntmps&&j7 ad gr.ntmps (xZ gr) fm&&ad.follows .mixedOrders
def Kl{ah:S}(h:(a4 ar ah).run ad w=bN (fw aa) w):
  (do loadVar ar (<-asAddr ah):Sem S).run ad w=bN aa w:=by
 have e:(a4 ar ah).run ad w=((Instr.loadAt ar ah).run ad w).andThen λaa a=>bN (fw aa) a:=by unfold a4;rw[fx];rfl
 rw[e]at h;unfold Instr.loadAt at h;have bz:∀d,(Instr.sureAddr ah=fh d)->(asAddr ah=fh d)->(do loadVar ar (<-asAddr ah):Sem S).run ad w=bN aa w:=by
  intro d c f;rw[c]at h;rw[f];simp only[pure_bind]at h⊢;cases b:(loadVar ar d).run ad w with
  |ok ae a=>
   rw[b]at h;simp at h;obtain⟨rfl,rfl⟩:=h;rfl
  |halt x a=>rw[b]at h;simp at h
 cases ah with
 |pointer d=>
  cases d with
  |some d=>exact bz d rfl rfl
  |none=>simp[Instr.sureAddr]at h
 |_=>simp[Instr.sureAddr]at h
def Ci(tmps:Array S)(x:ResultVar):Sem S:=
 match x with
 |.tmp t=>fh (tmps.getD t bS)
 |.cell d t=>do loadVar t (<-asAddr (tmps.getD d bS))
def Vn{d:Act}(c:iC n d aM):∀(cj:List ResultVar)(ac:List S->Prop),uI ad cj aM w ac->
  ∃aF,(cj.mapM (Ci d.tmps)).run ad w=bN aF w/\ac aF:=by
 intro cj;induction cj with
 |nil=>intro ac h;exact⟨[],rfl,h⟩
 |cons x cj e=>
  intro ac h;cases x with
  |tmp t=>
   obtain⟨aF,a,b⟩:=e _ h;refine⟨aM t::aF,?_,b⟩;rw[List.mapM_cons];simp only[Ci,fx,k5,f7];rw[a,c.2.2 t];rfl
  |cell ah ar=>
   obtain⟨aa,f,h⟩:=h;obtain⟨aF,a,b⟩:=e _ h;refine⟨aa::aF,?_,b⟩;have g:=Kl f;rw[List.mapM_cons];rw[fx];simp only[Ci,c.2.2 ah];rw[g];simp only[f7,fx];rw[a];rfl
def Km{d:Act}(a:iC n d aM)
  (h:uI ad gr.results.toList aM w λaF=>bb (gd (wV aF)) w):d.defers=[]/\∃aa,(results gr d.tmps).run ad w=bN aa w/\bb (gd aa) w:=by
 obtain⟨aF,b,c⟩:=Vn a _ _ h;refine⟨a.1,wV aF,?_,c⟩;have e:results gr d.tmps=(do
   let aF<-gr.results.mapM (Ci d.tmps)
   fh (if h:aF.size=1 then aF[0]else bQ aF)):=by
  unfold results;congr 1
 rw[e,fx,Array.mapM_eq_mapM_toList,Sem.run_map,b];simp only[f7,k5];congr 1
 match aF with
 |[]=>rfl
 |[aa]=>rfl
 |aa::ae::l=>simp[wV]
def Kn{aj:FuncId}{fm:b2}{c8:List S}
  (j:ad.funcs[aj]?=E gr) (d:Ch ad gr fm k=G) (m:c8.length=k) (h:Cg ad gr fm c8 w bb):Calls ad aj c8.toArray w bb:=by
 simp only[Ch,dA]at d;obtain⟨⟨⟨n,o⟩,p⟩,q⟩:=d;obtain⟨c,f⟩:=Option.isSome_iff_exists.1 n;have r:xZ gr=c:=by unfold xZ;rw[f];rfl
 apply calls_of_wp j f;rw[<-r];have s:=iC.U7 c8 gr.ntmps (by rw[m];exact Nat.le_of_ble_eq_true o);apply wp_mono (Vm q (xZ gr) fm _ _ _ w p s h);intro e fl a b;obtain⟨cZ,g,b,_⟩:=b;cases e with
 |normal=>exact Km g b
 |ret=>exact Km g b
 |exit i=>exact b.elim
 |goto l=>exact b.elim
 |panic t=>exact b.elim
 |outgrown=>exact b.elim
section
open Go.RowKit
section
variable{ac:S->Prop}
def hv{s:Sem fD}(h:∀w,s.run ad w=bN (fw aa) w):aV ad s ac↔ac aa:=
 ⟨λ⟨ae,b,a⟩=>by
  have:=(b default).symm.trans (h default);simp at this;exact this▸a,λa=>⟨aa,h,a⟩⟩
def j8{s:Sem fD}(h:s.run ad w=bN (fw aa) w):aZ ad s w ac↔ac aa:=
 ⟨λ⟨ae,b,a⟩=>by
  have:=b.symm.trans h;simp at this;exact this▸a,λa=>⟨aa,h,a⟩⟩
def j9{s:Sem fD}{ac:S->aN->Prop}(h:s.run ad w=bN (fw aa) a):W ad s w ac↔ac aa a:=by unfold W;rw[h]
def Fw{s:Sem fD}{ac:S->aN->Prop}(h:s.run ad w=bN .skip a):W ad s w ac↔ac bS a:=by unfold W;rw[h]
def Fx{s:Sem fD}{an:Prop}(h:s.run ad w=bN (fw aa) w):gu ad s aa w an↔an:=⟨λh=>h.2,λa=>⟨h,a⟩⟩
def mD(s:Sem S):(do fh (fw (<-s)):Sem fD).run ad w=(s.run ad w).andThen λaa a=>bN (fw aa) a:=by rw[fx];rfl
def k9{an:Prop}:eV (aK G) ct an↔ct:=by simp[eV]
def kN{an:Prop}:eV (aK U) ct an↔an:=by simp[eV]
def cG{b:Bool}{an:Prop}:eV (aK b) ct an↔(b=G->ct)/\(b=U->an):=by cases b<;>simp[eV]
def bi{ah:Prop}[Decidable ah]{an:Prop}:eV (aK (decide ah)) ct an↔(ah->ct)/\(¬ah->an):=by by_cases h:ah<;>simp[eV,h]
def Cj{d:es}:aV ad (ov (aE (E d))) ac↔ac (aE (E d)):=hv λ_=>rfl
def Ck{b:Bool}:aV ad (Fj (aK b) ae aa) ac↔ac (if b then ae else aa):=by cases b<;>exact hv λ_=>rfl
def Cl{gr:Fn}{d b:Array S}:aV ad (Fi gr d b) ac↔ac (.func gr d b):=hv λ_=>rfl
def wW{b:Bool}:aV ad (qH .not (aK b)) ac↔ac (aK (!b)):=hv λ_=>rfl
variable{k:iz}{d b:Int}
def tE:aV ad (dS .add ar (F k d) (F k b)) ac↔ac (F k (k.wrap (d+b))):=hv λw=>by simp[dS,binOp,Op.intArith]
def tF:aV ad (dS .sub ar (F k d) (F k b)) ac↔ac (F k (k.wrap (d-b))):=hv λw=>by simp[dS,binOp,Op.intArith]
def Cm:aV ad (dS .mul ar (F k d) (F k b)) ac↔ac (F k (k.wrap (d*b))):=hv λw=>by simp[dS,binOp,Op.intArith]
def apG(h:b≠0):aV ad (dS .quo ar (F k d) (F k b)) ac↔ac (F k (k.wrap (d.tdiv b))):=hv λw=>by simp[dS,binOp,Op.intDiv,h]
def vE(h:b≠0):aV ad (dS .rem ar (F k d) (F k b)) ac↔ac (F k (d.tmod b)):=hv λw=>by simp[dS,binOp,Op.intDiv,h]
def qN:aV ad (dS .lss ar (F k d) (F k b)) ac↔ac (aK (decide (d<b))):=hv λw=>by simp[dS,binOp,Op.intCmp]
def Cn:aV ad (dS .leq ar (F k d) (F k b)) ac↔ac (aK (decide (d<=b))):=hv λw=>by simp[dS,binOp,Op.intCmp]
def wX:aV ad (dS .gtr ar (F k d) (F k b)) ac↔ac (aK (decide (b<d))):=hv λw=>by simp[dS,binOp,Op.intCmp]
def Co:aV ad (dS .geq ar (F k d) (F k b)) ac↔ac (aK (decide (b<=d))):=hv λw=>by simp[dS,binOp,Op.intCmp]
def uJ{c:Bool}:aZ ad (eE .eql ar c (F k d) (F k b)) w ac↔ac (aK (decide (d=b))):=j8 (by simp[eE,eqGuard,binOp,Op.intCmp];rfl)
def zX{c:Bool}:aZ ad (eE .neq ar c (F k d) (F k b)) w ac↔ac (aK (decide (d≠b))):=j8 (by simp[eE,eqGuard,binOp,Op.intCmp];rfl)
def Cp{a:Array co}:aV ad (dG .max a #[F k d,F k b]) ac↔ac (F k (max d b)):=hv λw=>by simp only[dG,builtin,Builtin.max_,List.foldlM,Builtin.max2,fx,k5,f7];congr 3;rw[Int.max_def];split<;>split<;>omega
def Cq{a:Array co}:aV ad (dG .min a #[F k d,F k b]) ac↔ac (F k (min d b)):=hv λw=>by simp only[dG,builtin,Builtin.min_,List.foldlM,Builtin.min2,fx,k5,f7];congr 3;rw[Int.min_def];split<;>split<;>omega
end
structure Q(bU:List Nat)(w a:aN):Prop where
 x0:a.os=w.os
 x1:a.tape=w.tape
 x2:a.output=w.output
 aI:w.heap.size<=a.heap.size
 nR:∀k,k<w.heap.size->k∉bU->a.heap[k]?=w.heap[k]?
def Q.b0(bU:List Nat)(w:aN):Q bU w w:=⟨rfl,rfl,rfl,fF _,λ_ _ _=>rfl⟩
def Q.dP{e dE:List Nat}{d b c:aN}(h:Q bU d b)(a:Q e b c)(j:∀k∈bU,k∈dE\/d.heap.size<=k)(l:∀k∈e,k∈dE\/d.heap.size<=k):Q dE d c:=
 ⟨a.x0.trans h.x0,a.x1.trans h.x1,a.x2.trans h.x2,gz h.aI a.aI,λk g i=>by
  have m:k∉bU:=λf=>(j k f).elim i (λn=>A);have o:k∉e:=λf=>(l k f).elim i (λn=>A);exact(a.nR k (iL g h.aI) o).trans (h.nR k g m)⟩
def Q.bw{dE:List Nat}{d b:aN}(h:Q bU d b)(a:∀k∈bU,k∈dE\/d.heap.size<=k):Q dE d b:=
 (h.dP (Q.b0 [] b) a B)
def Q.R{dE:List Nat}{d b c:aN}(h:Q dE d b)(a:Q bU b c)(e:∀k∈bU,k∈dE\/d.heap.size<=k):Q dE d c:=
 h.dP a (λ_ f=>Y f) e
def Q.h6{d b:aN}(h:Q bU d b):Q bU d b.drew:=⟨h.x0,h.x1,h.x2,h.aI,h.nR⟩
def cD(bU:List Nat)(w:aN):Q bU w w.drew:=⟨rfl,rfl,rfl,fF _,λ_ _ _=>rfl⟩
def Q.Cr{d b:aN}(h:Q bU d.drew b):Q bU d b:=⟨h.x0,h.x1,h.x2,h.aI,h.nR⟩
def ox(bU:List Nat)(w:aN)(af:Obj):Q bU w (w.alloc af):=⟨rfl,rfl,rfl,B,λk a _=>Below.heap_alloc w af k a⟩
def Q.Fy{d b:aN}(h:Q bU d b)(af:Obj):Q bU d (b.alloc af):=h.R (ox [] b af) B
def Vo(w:aN)(d:es)(aa:S):Q [d.block] w (w.setCell d aa):=
 ⟨rfl,rfl,rfl,B,λk _ a=>heap_setCell_other w d k aa (by simpa using a)⟩
def Q.Vp(h:Q [] w a):Below w.heap.size w a:=⟨h.x0,h.x1,h.x2,h.aI,λk b=>h.nR k b B⟩
def anu(h:Below w.heap.size w a):Q [] w a:=⟨h.os,h.tape,h.output,h.size,λk b _=>h.block k b⟩
def aC(w:aN)(b:Nat)(ar:co)(l:List S):Prop:=w.heap[b]?=E (amv l.toArray ar (0,0))
def aC.aL{l:List S}(h:aC w b ar l):b<w.heap.size:=(so.1 h).1
def aC.J{l:List S}(h:aC w b ar l)(c:Q bU w a)(d:b∉bU):aC a b ar l:=
 (c.nR b h.aL d).trans h
def sz(w:aN)(ar:co)(l:List S):aC (w.alloc (amv l.toArray ar)) w.heap.size ar l:=heap_alloc_new w _
def aC.tG{l:List S}(h:aC w b ar l)(aa:S):aC (w.setCell ⟨b,af,I⟩ aa) b ar (l.set af aa):=by unfold aC at*;rw[heap_setCell_same w b af _ ar aa h];simp
def aC.bh{l:List S}(h:aC w b ar l):w.cell? ⟨b,af,I⟩=l[af]?:=by rw[cell_of_row w b af _ ar _ h];simp
def aC.Fz{l:List S}(h:aC w b ar l):w.frozen? ⟨b,af,I⟩=U:=frozen_of_row w b af _ ar h
def fu(w:aN)(b af:Nat)(l:List S):Prop:=∀j,j<l.length->w.cell? ⟨b,af+j,I⟩=l[j]?
def fu.J{l:List S}(h:fu w b af l)(e:Q bU w a)(f:b∉bU):fu a b af l:=by
 intro j d;have c:=h j d;rw[cr d]at c⊢;have g:b<w.heap.size:=by simpa using block_lt_of_cell c
 rw[<-c];exact World.cell?_of_block (w:=w) (e.nR b g f)
def fu.d1{l:List S}(h:fu w b af l)(i n:Nat):fu w b (af+i) ((l.drop i).take n):=by intro j a;simp only[ea,e8]at a;have:=h (i+j) A;rw[List.getElem?_take_of_lt A,oo,<-this,sp]
def fu.Ko{l:List S}(h:fu w b af l)(n:Nat):fu w b af (l.take n):=by simpa using h.d1 0 n
def fu.vF{l:List S}(h:fu w b af l)(i:Nat):fu w b (af+i) (l.drop i):=by have:=h.d1 i l.length;rwa[mv B]at this
def fu.D(w:aN)(b af:Nat):fu w b af []:=λj a=>by simp at a
def aC.cy{l:List S}(h:aC w b ar l):fu w b 0 l:=λj _=>by rw[gQ];exact h.bh
def Kp{l:List S}(h:fu w b af l):fu w.drew b af l:=h
def bD{l:List S}(h:aC w b ar l):aC w.drew b ar l:=h
def fZ(ad:ft)(ar:co):Bool:=match ad.underlying ar,ad.info? ar with
 |some (.struct _),_=>U
 |some (.array ..),_=>U
 |some _,E i=>go i.size 1
 |_,_=>U
def iP(ad:ft)(ar:co)(n:Nat):Bool:=match ad.underlying ar,ad.info? ar with
 |some (.struct _),E i=>go i.size n
 |some (.array ..),E i=>go i.size n
 |_,_=>U
def gV(ad:ft)(ar av:co):Bool:=match ad.underlying ar with
 |some (.slice e)=>go e av
 |_=>U
def ep(ad:ft)(ar:co)(n:Nat):Bool:=match ad.info? ar with
 |some i=>go i.size n
 |none=>U
def FA(ad:ft)(ar:co)(n:Nat):Bool:=match ad.info? ar with
 |some i=>go i.bytes n
 |none=>U
def o8(h:gV ad ar av=G):ad.underlying ar=E (.slice av):=by
 unfold gV at h;split at h
 ·rename_i e a;rw[a,lD h]
 ·cases h
def tH(h:ep ad ar n=G):∃i,ad.info? ar=E i/\i.size=n:=by
 unfold ep at h;split at h
 ·rename_i i al;exact⟨i,al,lD h⟩
 ·cases h
def Vq(h:FA ad ar n=G):∃i,ad.info? ar=E i/\i.bytes=n:=by
 unfold FA at h;split at h
 ·rename_i i al;exact⟨i,al,lD h⟩
 ·cases h
section
def Cs(h:fZ ad ar=G):(isAgg ar).run ad w=bN U w:=by
 unfold fZ at h;unfold isAgg underlying;cases a:ad.underlying ar with
 |none=>rw[a]at h;simp at h
 |some ag=>
  rw[a]at h;simp only[fx,run_program,f7,a];cases ag<;>first|rfl|simp at h
def Kq(h:iP ad ar n=G):(isAgg ar).run ad w=bN G w:=by
 unfold iP at h;unfold isAgg underlying;cases a:ad.underlying ar with
 |none=>rw[a]at h;simp at h
 |some ag=>
  rw[a]at h;simp only[fx,run_program,f7,a];cases ag<;>first|rfl|(cases al:ad.info? ar<;>rw[al]at h<;>simp at h)
def sA{i:TypeInfo}(al:ad.info? ar=E i)(ao:i.size=n):(sizeOf ar).run ad w=bN n w:=by unfold sizeOf typeInfo;simp[al,ao]
def Vr(h:fZ ad ar=G):∃i,ad.info? ar=E i/\i.size=1:=by
 unfold fZ at h;cases al:ad.info? ar with
 |none=>rw[al]at h;split at h<;>simp_all
 |some i=>rw[al]at h;exact⟨i,rfl,by split at h<;>simp_all⟩
def Kr(h:iP ad ar n=G):∃i,ad.info? ar=E i/\i.size=n:=by
 unfold iP at h;split at h
 ·rename_i i _ al;exact⟨i,al,lD h⟩
 ·rename_i i _ al;exact⟨i,al,lD h⟩
 ·cases h
def FB(h:fZ ad ar=G){d:es}(a:w.cell? d=E aa):(a4 ar (aE (E d))).run ad w=bN (fw aa) w:=by unfold a4;rw[mD];simp only[Instr.loadAt,Instr.sureAddr,pure_bind,loadVar,fx,Cs h,f7,fc,if_false,run_load,a]
def Ks(b:Nat):∀(l:List S)(af i:Nat)(dM:Array S),(∀j,j<l.length->w.cell? ((⟨b,af,I⟩:es).add (i+j))=l[j]?)->
  (loadCellsFrom ⟨b,af,I⟩ i l.length dM).run ad w=bN (dM++l.toArray) w:=by
 intro l;induction l with
 |nil=>intro af i dM _;simp[loadCellsFrom]
 |cons aa l c=>
  intro af i dM h;have a:=h 0 B;simp only[qA,List.getElem?_cons_zero]at a;simp only[gF,loadCellsFrom,fx,run_load,a,f7];rw[c af (i+1) (dM.push aa) (λj d=>by
   have:=h (j+1) (by simpa using d);rw[show i+1+j=i+(j+1)by omega];simpa using this)]
  simp
def jC(b af j:Nat):(⟨b,af,I⟩:es).add j=⟨b,af+j,I⟩:=by
 unfold Addr.add;split
 ·rename_i h;subst h;rfl
 ·rfl
def Kt{l:List S}(h:iP ad ar l.length=G)(a:fu w b af l):(a4 ar (aE (E ⟨b,af,I⟩))).run ad w=bN (fw (b6 l.toArray)) w:=by obtain⟨i,al,ao⟩:=Kr h;unfold a4;rw[mD];simp only[Instr.loadAt,Instr.sureAddr,pure_bind,loadVar,fx,Kq h,f7,if_true,sA al ao,loadCells];rw[Ks b l af 0 #[] (λj c=>by rw[jC,gQ];exact a j c)];simp
def x3(b af:Nat)(pX:co):∀(aF cv c5 da:List S)(w:aN)(i:Nat),aC w b pX (cv++c5++da)->c5.length=aF.length->(∀aa∈aF,aa.oneCell'=G)->cv.length=af+i->
  ∃a,(storeCells ⟨b,af,I⟩ aF i).run ad w=bN () a/\aC a b pX (cv++aF++da)/\Q [b] w a/\a.heap.size=w.heap.size:=by
 intro aF;induction aF with
 |nil=>
  intro cv c5 da w i c d _ _;have:c5=[]:=rc (by simpa using d);subst this;exact⟨w,rfl,c,Q.b0 _ _,rfl⟩
 |cons aa aF h=>
  intro cv c5 da w i c d f e;obtain⟨ae,c5,rfl⟩:∃ae l,c5=ae::l:=by
   cases c5 with
   |nil=>simp at d
   |cons ae l=>exact⟨ae,l,rfl⟩
  have j:w.cell? ⟨b,af+i,I⟩=E ae:=by rw[c.bh,<-e];simp
  have g:=c.tG (af:=af+i) aa;have k:(cv++ae::c5++da).set (af+i) aa=(cv++[aa])++c5++da:=by rw[<-e];simp
  rw[k]at g;obtain⟨a,m,n,o,p⟩:=h (cv++[aa]) c5 da _ (i+1) g (by simpa using d) (λx q=>f x (ev _ q)) (by simp[e];omega);refine⟨a,?_,by simpa using n,?_,by rw[p];simp⟩
  ·simp only[storeCells,fx,jC];rw[run_store ad w _ aa .plain (f aa fE)];simp only[j,c.Fz,fc,if_false,f7];exact m
  ·exact(Vo w ⟨b,af+i,I⟩ aa).R o B
def tI(h:aa.oneCell'=G):aa.cells=#[aa]:=by cases aa<;>first|rfl|simp[Value.oneCell']at h
def Ku{c5:List S}(e:ep ad ar n=G)(f:aC w b pX (cv++c5++da))(l:cv.length=af)(g:c5.length=n)
  (d:aa.cells.size=n) (c:∀ae∈aa.cells.toList,ae.oneCell'=G):
  ∃a,(dC ar (aE (E ⟨b,af,I⟩)) aa).run ad w=bN .skip a/\aC a b pX (cv++aa.cells.toList++da)/\Q [b] w a/\a.heap.size=w.heap.size:=by
 obtain⟨i,al,ao⟩:=tH e;obtain⟨a,c,h,j,k⟩:=x3 (ad:=ad) b af pX aa.cells.toList cv c5 da w 0 f (by simp[g,d]) c A;refine⟨a,?_,h,j,k⟩;unfold dC;simp only[Instr.storeAt,Instr.sureAddr,pure_bind,storeVar,fx,sA al ao,f7,d,ne_eq,not_true_eq_false,if_false];rw[c];rfl
def f0{c5:List S}(c:ep ad ar n=G)(d:aC w b pX (cv++c5++da))(e:cv.length=af)(f:c5.length=n)
  (g:aa.cells.size=n) (h:∀ae∈aa.cells.toList,ae.oneCell'=G)
  (k:∀a,aC a b pX (cv++aa.cells.toList++da)->Q [b] w a->a.heap.size=w.heap.size->ac bS a):W ad (dC ar (aE (E ⟨b,af,I⟩)) aa) w ac:=by
 obtain⟨a,i,j,l,m⟩:=Ku (ad:=ad) c d e f g h;exact(Fw i).2 (k a j l m)
def eK{l:List S}(e:ep ad ar 1=G)(f:aC w b pX l)(g:af<l.length)(c:aa.oneCell'=G)
  (k:∀a,aC a b pX (l.set af aa)->Q [b] w a->a.heap.size=w.heap.size->ac bS a):W ad (dC ar (aE (E ⟨b,af,I⟩)) aa) w ac:=by
 have h:l=l.take af++[l[af]]++l.drop (af+1):=B;refine f0 (cv:=l.take af) (c5:=[l[af]]) (da:=l.drop (af+1)) e (h▸f) (by simp;omega) rfl (by rw[tI c];rfl) (by rw[tI c];simpa using c) (λa d=>?_);rw[tI c]at d;rw[show l.take af++#[aa].toList++l.drop (af+1)=l.set af aa by rw[List.set_eq_take_append_cons_drop,if_pos g];simp]at d;exact k a d
def eA(k:∀a,aC a w.heap.size ar aa.cells.toList->Q [] w a->a.heap.size=w.heap.size+1->ac (aE (E ⟨w.heap.size,0,I⟩)) a):W ad (rk ar aa) w ac:=by refine(j9 (aa:=aE (E ⟨w.heap.size,0,I⟩)) (a:=w.alloc (amv aa.cells ar)) ?_).2 (k _ (sz w ar aa.cells.toList) (ox _ _ _) B);unfold rk;rw[mD];rfl
def du(ad:ft)(ar:co)(bm:S):Prop:=(ad.info? ar).map (·.zero)=E (E bm)
def FC(a:du ad ar bm):(zeroValue ar).run ad w=bN bm w:=by
 unfold du at a;cases al:ad.info? ar with
 |none=>rw[al]at a;simp at a
 |some i=>
  rw[al]at a;simp at a;unfold zeroValue typeInfo;simp[al,a]
def gI(b:du ad ar bm)
  (k:∀a,aC a w.heap.size ar bm.cells.toList->Q [] w a->a.heap.size=w.heap.size+1->ac (aE (E ⟨w.heap.size,0,I⟩)) a):W ad (hV ar) w ac:=by
 refine(j9 (aa:=aE (E ⟨w.heap.size,0,I⟩)) (a:=w.alloc (amv bm.cells ar)) ?_).2 (k _ (sz w ar bm.cells.toList) (ox _ _ _) B);unfold hV;rw[mD];simp only[Instr.alloc,fx,FC b,f7];rfl
def wY(ad:ft)(ar:co)(aj eM:Nat):Bool:=match ad.underlying ar with
 |some (.struct a2)=>match a2[aj]? with
  |some x=>go x.offset eM&&(match ad.info? x.type with|some i=>!go i.size 0|none=>U)
  |none=>U
 |_=>U
def FD{ac:S->Prop}{aj:Nat}(h:wY ad ar aj eM=G):aV ad (gB ar (aE (E ⟨b,af,I⟩)) aj) ac↔ac (aE (E ⟨b,af+eM,I⟩)):=by
 refine hv λw=>?_;unfold wY at h;split at h
 ·rename_i a2 c;split at h
  ·rename_i x d;simp only[dA]at h;obtain⟨e,a⟩:=h;split at a
   ·rename_i i al;unfold gB;rw[mD];have f:(sizeOf x.type).run ad w=bN i.size w:=sA al rfl;have g:¬i.size=0:=by intro j;rw[j]at a;simp at a
    simp only[Instr.fieldAt,fx,underlying,run_program,f7,c,k5,d,Instr.sureAddr,fieldPlace,f,g,if_false,jC,lD e]
   ·cases a
  ·cases h
 ·cases h
def sB{ac:S->Prop}{c:Nat}{ai:iz}{i:Int}(h:gV ad ar av=G)(ao:ep ad av a6=G)(a:0<=i)(d:i<n):
  aV ad (fY ar (T (E ⟨b,af,I⟩) n c) (F ai i)) ac↔ac (aE (E ⟨b,af+i.toNat*a6,I⟩)):=by
 refine hv λw=>?_;obtain⟨e,f,g⟩:=tH ao;have j:=o8 h;unfold fY;rw[mD];simp only[Instr.indexAt,asIntOf,fx,underlying,run_program,f7,j,k5,pure_bind];simp[sA f g,a,d,jC]
def zY{ac:S->Prop}{d:Option es}{c:Nat}(h:gV ad ar av=G):aV ad (dG .len #[ar] #[T d n c]) ac↔ac (F H n):=by refine hv λw=>?_;have a:=o8 h;unfold dG;simp[builtin,Builtin.len_,underlying,a,goInt]
def rs{ac:S->Prop}{d:Option es}{c:Nat}{ai:iz}{i:Int}(h:gV ad ar av=G)(ao:ep ad av a6=G)(a:0<=i)(b:i<=n):
  aV ad (l5 ar (T d n c) (E (F ai i)) I I) ac↔ac (T (if c=i.toNat then d else d.map (·.add (i.toNat*a6))) (n-i.toNat) (c-i.toNat)):=by
 refine hv λw=>?_;obtain⟨e,f,g⟩:=tH ao;have j:=o8 h;unfold l5;rw[mD];simp[Instr.sliceAt,Instr.slice,underlying,j,Instr.sliceBounds,Instr.sliceBound,asIntOf,a,b,sA f g]
end
end
section
open Go.RowKit Go.Great
def bP(w:aN)(av:co)(a6:Nat)(aa:S)(n:Nat)(aS:List S)(am:List Nat):Prop:=
 aS.length=n*a6/\((aa=T I 0 0/\n=0/\am=[])\/
  ∃g af bL cf,aa=T (E ⟨g,af,I⟩) n bL/\am=[g]/\aC w g av cf/\n<=bL/\bL<=d0/\af+bL*a6<=cf.length/\(cf.drop af).take (n*a6)=aS)
section
def gJ(w:aN)(av:co)(a6:Nat):bP w av a6 (T I 0 0) 0 [] []:=⟨B,Y ⟨rfl,rfl,rfl⟩⟩
def bP.aL(h:bP w av a6 aa n aS am):∀g∈am,g<w.heap.size:=by
 intro g a;rcases h.2 with⟨_,_,rfl⟩|⟨c,_,_,_,_,rfl,b,_⟩
 ·cases a
 ·simp at a;subst a;exact b.aL
def bP.J(h:bP w av a6 aa n aS am)(b:Q bU w a)(c:∀g∈am,g∉bU):bP a av a6 aa n aS am:=by
 refine⟨h.1,?_⟩;rcases h.2 with d|⟨g,af,bL,cf,e,rfl,f,i⟩
 ·exact Y d
 ·exact Z ⟨g,af,bL,cf,e,rfl,f.J b (c g B),i⟩
def bP.jD(h:bP w av a6 aa n aS am):∃d c,aa=T d n c/\n<=c/\(aS=[]\/∃b af,d=E ⟨b,af,I⟩/\am=[b]/\fu w b af aS):=by
 rcases h.2 with⟨rfl,rfl,_⟩|⟨g,af,bL,cf,rfl,rfl,a,e,_,ao,f⟩
 ·exact⟨I,0,rfl,fF _,Y (rc (by simpa using h.1))⟩
 ·refine⟨_,bL,rfl,e,Z ⟨g,af,rfl,rfl,?_⟩⟩;rw[<-f];have:=a.cy.d1 af (n*a6);rwa[gQ]at this
def bP.rt(h:bP w av a6 aa n aS am):∀b af ak c,aa=T (E ⟨b,af,I⟩) ak c->b∈am:=by
 intro b af ak c a;rcases h.2 with⟨rfl,_⟩|⟨g,d,bL,cf,rfl,rfl,_⟩
 ·cases a
 ·cases a;simp
def bP.Vs(h:bP w av a6 aa n aS am):∀d ak c,aa=T d ak c->d=I\/∃g af,d=E ⟨g,af,I⟩/\g∈am:=by
 intro d ak c a;rcases h.2 with⟨rfl,_⟩|⟨g,af,bL,cf,rfl,rfl,_⟩
 ·cases a;exact Y rfl
 ·cases a;exact Z ⟨g,af,rfl,B⟩
def bP.jd(h:bP w av a6 aa n aS am){d:Option es}{c:Nat}(a:aa=T d n c)(i:k<=n):bP w av a6 (T (if c=k then d else d.map (·.add (k*a6))) (n-k) (c-k)) (n-k) (aS.drop (k*a6)) am:=by
 refine⟨by rw[e8,h.1,Nat.sub_mul],?_⟩;rcases h.2 with⟨rfl,rfl,rfl⟩|⟨g,af,bL,cf,rfl,rfl,b,j,l,ao,e⟩
 ·cases a;obtain rfl:k=0:=A;exact Y ⟨rfl,rfl,rfl⟩
 ·cases a;right;by_cases f:c=k
  ·subst f;obtain rfl:n=c:=A;refine⟨g,af,0,cf,B,rfl,b,A,A,by simp;omega,?_⟩;simp;rw[<-e];simp;omega
  ·refine⟨g,af+k*a6,c-k,cf,by rw[if_neg f];simp[jC],rfl,b,A,A,?_,?_⟩
   ·have:(c-k)*a6+k*a6=c*a6:=by rw[<-iM,Nat.sub_add_cancel A]
    omega
   ·rw[<-e,List.drop_take,oq,Nat.sub_mul]
end
def gv(ad:ft)(s:Sem S)(w:aN)(h:s.run ad w=bN aa a):(do fh (fw (<-s)):Sem fD).run ad w=bN (fw aa) a:=by rw[mD,h];rfl
section
structure hO(ad:ft)(ar av:co)(a6 io:Nat)(bm:S):Prop where
 cY:gV ad ar av=G
 aI:ep ad av a6=G
 Vt:FA ad av io=G
 Kv:du ad av bm
 zZ:bm.cells.size=a6
 lH:0<a6
def hO.wZ(h:hO ad ar av a6 io bm):ad.underlying ar=E (.slice av)/\∃i,ad.info? av=E i/\i.zero=E bm/\i.size=a6/\i.bytes=io:=by refine⟨o8 h.cY,?_⟩;obtain⟨i,al,ao⟩:=tH h.aI;obtain⟨d,b,c⟩:=Vq h.Vt;have a:=h.Kv;rw[al]at b;cases b;unfold du at a;rw[al]at a;exact⟨i,al,by simpa using a,ao,c⟩
def Vu(v:hO ad ar av a6 io bm)(h:bP w av a6 aa n aS am){c:Nat}(V:fu w b af ip)(e:ip.length=ak*a6)(W:∀ae∈ip,ae.oneCell'=G)
  (x:(n+ak)*io<=140737488355328) (y:n+ak<=d0) (X:0<ak):
  ∃dd a az,(pQ #[ar,ar] 0 #[aa,T (E ⟨b,af,I⟩) ak c]).run ad w=bN dd a/\bP a av a6 dd (n+ak) (aS++ip) az/\Q am w a/\(∀g∈az,g∈am\/(w.heap.size<=g/\w.heap.size<a.heap.size)):=by
 obtain⟨p,i,al,z,ao,D⟩:=v.wZ;have q:∀j ae,ip[j]?=E ae->w.cell? ((⟨b,af,I⟩:es).add j)=E ae:=by intro j ae k;rw[jC,V j (fi.1 k).1,k]
 have J:((n+ak:Nat):Int)<=9223372036854775807:=by simp only[d0]at y;omega
 have l:(aS++ip).length=(n+ak)*a6:=by rw[di,h.1,e,iM]
 have K:∀(gR:Nat),bP (w.drew.alloc (amv (aS.toArray++ip.toArray++nq bm.cells (jz w (n+ak) gR av-(n+ak))) av)) av a6
    (T (E ⟨w.heap.size,0,I⟩) (n+ak) (jz w (n+ak) gR av)) (n+ak) (aS++ip) [w.heap.size]/\
   Q am w (w.drew.alloc (amv (aS.toArray++ip.toArray++nq bm.cells (jz w (n+ak) gR av-(n+ak))) av)):=by
  intro gR;have L:=grownCap_ge w (n+ak) gR av;have r:jz w (n+ak) gR av<=d0:=grownCap_le_maxLen w (n+ak) gR av y;have dI:=size_zeroCells bm.cells (jz w (n+ak) gR av-(n+ak));rw[v.zZ]at dI;refine⟨⟨l,Z ⟨w.heap.size,0,_,aS++ip++(nq bm.cells (jz w (n+ak) gR av-(n+ak))).toList,rfl,rfl,?_,L,r,?_,?_⟩⟩,(cD am w).Fy _⟩
  ·have:(aS.toArray++ip.toArray++nq bm.cells (jz w (n+ak) gR av-(n+ak)))=(aS++ip++(nq bm.cells (jz w (n+ak) gR av-(n+ak))).toList).toArray:=B;rw[this];exact sz w.drew av _
  ·rw[di,l,tj,dI,Nat.sub_mul];have:=mw a6 L;omega
  ·rw[List.drop_zero,<-l];exact tk
 rcases h.2 with⟨rfl,rfl,rfl⟩|⟨g,d,bL,cf,rfl,rfl,m,au,r,aw,N⟩
 ·have ab:aS=[]:=rc (by simpa using h.1);subst ab;have s:=run_append_nil (P:=ad) w ar 0 av i bm p al z ⟨b,af,I⟩ ak c ip (by rw[e,ao]) q X (by simpa using J) (by rw[D];have:=x;simp only[gQ]at this;omega);have f:=K 0;simp only[gQ]at f⊢;exact⟨_,_,_,s,by simpa using f.1,by simpa using f.2,λg m=>Z ⟨by simp at m;omega,B⟩⟩
 ·by_cases t:n+ak<=bL
  ·have o:(n+ak)*a6<=bL*a6:=mw _ t;have ax:=h.1;have ac:cf=cf.take (d+n*a6)++(cf.drop (d+n*a6)).take (ak*a6)++cf.drop (d+(n+ak)*a6):=by rw[iM,<-sp,<-oq (i:=ak*a6),gq,l3,l3]
   have ag:((cf.drop (d+n*a6)).take (ak*a6)).length=ak*a6:=by rw[ea,e8];rw[iM]at o;omega
   obtain⟨a,O,ah,ai,ay⟩:=x3 (ad:=ad) g (d+n*a6) av ip (cf.take (d+n*a6)) ((cf.drop (d+n*a6)).take (ak*a6)) (cf.drop (d+(n+ak)*a6)) w 0 (ac▸m) (by rw[ag,e]) W (by rw[ea];rw[iM]at o;omega);have aj:=run_firstCells_some (P:=ad) w i.size ak ⟨b,af,I⟩ ak c ip (by rw[e,ao]) q;have an:(pQ #[ar,ar] 0 #[T (E ⟨g,d,I⟩) n bL,T (E ⟨b,af,I⟩) ak c]).run ad w=bN (T (E ⟨g,d,I⟩) (n+ak) bL) a:=by rw[<-ao]at O;simp[pQ,fK p,sizeOf,typeInfo,al,Builtin.lenOf,t,aj,jC,O]
   have ap:(cf.take (d+n*a6)).length=d+n*a6:=by rw[ea];rw[iM]at o;omega
   refine⟨_,_,[g],an,⟨l,Z ⟨g,d,bL,_,rfl,rfl,ah,t,r,?_,?_⟩⟩,ai,λaq u=>Y u⟩
   ·rw[di,di,ap,e,e8];rw[iM]at o⊢;omega
   ·rw[gq,List.drop_append_of_le_length A,List.drop_take,Nat.add_sub_cancel_left,N,<-gq,<-l];exact tk
  ·have holds:∀j ae,aS[j]?=E ae->w.cell? ((⟨g,d,I⟩:es).add j)=E ae:=by intro j ae k;have R:=m.cy.d1 d (n*a6);rw[N,gQ]at R;rw[jC,R j (fi.1 k).1,k]
   have s:=run_append_grow (P:=ad) w ar 0 av i bm p al z ⟨g,d,I⟩ n bL aS (by rw[h.1,ao]) holds ⟨b,af,I⟩ ak c ip (by rw[e,ao]) q A J
    (growslice_fits A (by rw[D];exact x))
   have f:=K bL;exact⟨_,_,_,s,f.1,f.2,λaq u=>Z ⟨by simp at u;omega,B⟩⟩
def m8(e:hO ad ar av a6 io bm)(h:bP w av a6 aa n aS am){c:Nat}(f:fu w b af ip)(i:ip.length=ak*a6)(j:∀ae∈ip,ae.oneCell'=G)
  (l:(n+ak)*io<=140737488355328) (m:n+ak<=d0) (o:0<ak)
  (k:∀dd a az,bP a av a6 dd (n+ak) (aS++ip) az->Q am w a->(∀g∈az,g∈am\/w.heap.size<=g)->dd.oneCell'=G->ac dd a):
  W ad (dG lp #[ar,ar] #[aa,T (E ⟨b,af,I⟩) ak c]) w ac:=by
 obtain⟨dd,a,az,p,d,q,r⟩:=Vu (ad:=ad) e h f i j l m o;refine(j9 (aa:=dd) (a:=a) ?_).2 (k dd a az d q (λg s=>(r g s).imp id (·.1)) ?_)
 ·show(do fh (fw (<-pQ #[ar,ar] 0 #[aa,T (E ⟨b,af,I⟩) ak c])):Sem fD).run ad w=_;exact gv ad _ w p
 ·rcases d.2 with⟨rfl,_⟩|⟨_,_,_,_,rfl,_⟩<;>rfl
def hw(b:hO ad ar av a6 io bm){len:Nat}(aF:List S)(c:i0.toList=(aF.zipIdx).map λah=>(ah.2,ah.1))(d:aF.length=len)(e:∀aa∈aF,aa.cells.size=a6)
  (f:0<len) (m:len*a6<=16777216) (k:∀a,aC a w.heap.size av (aF.flatMap λaa=>aa.cells.toList)->Q [] w a->a.heap.size=w.heap.size+1->ac (T (E ⟨w.heap.size,0,I⟩) len len) a):
  W ad (jR ar len i0) w ac:=by
 obtain⟨g,i,al,h,ao,n⟩:=b.wZ;have j:=fill_whole b.lH aF ((Array.range (len*a6)).map (bm.cells[·%bm.cells.size]!)) e (by simp[d]);have l:=run_buildSlice (P:=ad) w ar av len i0 _ i bm g al h (by rw[ao];omega) (by rw[ao];have:=Nat.mul_pos f b.lH;omega) (by rw[ao,c];exact j);refine(j9 (aa:=T (E ⟨w.heap.size,0,I⟩) len len) (a:=w.alloc (amv (aF.flatMap λaa=>aa.cells.toList).toArray av)) ?_).2 (k _ (sz _ _ _) (ox _ _ _) B);unfold jR;exact gv ad _ w l
def bY{ac:S->Prop}{gT:Array S}(h:ad.built ar i0.toList=E gT):aV ad (nw ar i0) ac↔ac (b6 gT):=
 hv λw=>gv ad _ w (run_build w ar i0 gT h)
def a0(ad:ft)(aj:FuncId)(c8:Array S)(w:aN)(bu:S->aN->Prop):Prop:=Calls ad aj c8 w (o5 bu)
def bf(ad:ft)(aj:FuncId):Bool:=match ad.funcs[aj]? with
 |some gr=>gr.body.isSome&&!(gr.name== "runtime.NumGoroutine")
 |none=>U
def Kw{aj:FuncId}(h:bf ad aj=G)(c8:Array S):(callFunc aj c8).run ad w=bN (.enter aj c8) w:=by
 unfold bf at h;split at h
 ·rename_i gr a;simp only[dA,lq]at h;have b:gr.body.isNone=U:=by simp[Option.isNone_eq_false_iff,h.1]
  unfold callFunc;simp only[fx,run_program,f7,a,h.2,b,fc,if_false,k5]
 ·cases h
def aH{aj:FuncId}{bu:S->aN->Prop}(h:bf ad aj=G)(c:a0 ad aj c8 w bu)(k:∀aa a,bu aa a->ac aa a):W ad (ck aj c8) w ac:=by
 unfold W;have:(ck aj c8).run ad w=bN (.enter aj c8) w:=by have e:ck aj c8=callFunc aj ((#[]++c8)++#[]):=rfl;rw[e,Kw h];simp
 rw[this];exact Calls.mono c (λe a b=>by cases e<;>first|exact k _ _ b|exact b.elim)
def x4{aj:FuncId}{first c8 bL:Array S}{bu:S->aN->Prop}(h:bf ad aj=G)(c:a0 ad aj (first++c8++bL) w bu)(k:∀aa a,bu aa a->ac aa a):W ad (wN (.func (.func aj) first bL) c8) w ac:=by
 unfold W;have:(wN (.func (.func aj) first bL) c8).run ad w=bN (.enter aj (first++c8++bL)) w:=by have e:wN (.func (.func aj) first bL) c8=callFunc aj ((first++c8)++bL):=rfl;rw[e,Kw h]
 rw[this];exact Calls.mono c (λe a b=>by cases e<;>first|exact k _ _ b|exact b.elim)
def a0.bw{aj:FuncId}{bu zJ:S->aN->Prop}(h:a0 ad aj c8 w bu)(k:∀aa a,bu aa a->zJ aa a):a0 ad aj c8 w zJ:=
 Calls.mono h (λe a b=>by cases e<;>first|exact k _ _ b|exact b.elim)
def l7{b:(List S->aN->Prop)->Prop}{c:List S->eN->aN->Prop}(h:b (λaF w=>∀a,c aF a w)):ny b c:=⟨_,h,λ_ a _ d=>d a⟩
def bT{a:(List S->aN->Prop)->Prop}{b:List S->eN->aN->Prop}(gU:List S->aN->Prop)(c:a gU)(d:∀aF e w,gU aF w->b aF e w):ny a b:=⟨gU,c,d⟩
def c1{c:List S}{body:(List S->aN->Prop)->List S->eN->aN->Prop}(bH:List S->aN->Prop)(b:List S->aN->Nat)(e:bH c bv)
 (h:∀aF f w,bH aF w->body (λd a=>bH d a/\b d a<b aF w) aF f w):rr c bv body:=⟨bH,b,e,h⟩
def bl{ac:S->Prop}(h:fZ ad ar=G){d:es}(a:w.cell? d=E aa):aZ ad (a4 ar (aE (E d))) w ac↔ac aa:=j8 (FB h a)
def gC{ac:S->Prop}{l:List S}(h:iP ad ar l.length=G)(a:fu w b af l):aZ ad (a4 ar (aE (E ⟨b,af,I⟩))) w ac↔ac (b6 l.toArray):=j8 (Kt h a)
def dz{an:Prop}(h:fZ ad ar=G){d:es}(a:w.cell? d=E aa):gu ad (a4 ar (aE (E d))) aa w an↔an:=Fx (FB h a)
def mE{an:Prop}{l:List S}(h:iP ad ar l.length=G)(a:fu w b af l):gu ad (a4 ar (aE (E ⟨b,af,I⟩))) (b6 l.toArray) w an↔an:=Fx (Kt h a)
def hP{ac:S->Prop}{c:Nat}{ai:iz}(h:gV ad ar av=G)(ao:ep ad av a6=G)(a:i<n):
  aV ad (fY ar (T (E ⟨b,af,I⟩) n c) (F ai i)) ac↔ac (aE (E ⟨b,af+i*a6,I⟩)):=by
 have:=sB (ac:=ac) (b:=b) (af:=af) (n:=n) (c:=c) (ai:=ai) (i:=(i:Int)) h ao A A;rwa[hf]at this
def Ct(h:fu w b af [aa]):w.cell? ⟨b,af,I⟩=E aa:=h 0 B
def iq(ad:ft)(ar:co)(k:iz):Prop:=ad.underlying ar=E (.int k)
def fv{ac:S->Prop}{s ag:co}{k hC:iz}{n:Int}(ao:iq ad s k)(a:iq ad ag hC):aV ad (rl s ag (F k n)) ac↔ac (F hC (hC.wrap n)):=
 hv λw=>by unfold iq at ao a;unfold rl;rw[mD];simp[convert,underlying,ao,a,Conv.intToInt]
def nS{ac:S->Prop}{k a:iz}{x ap:Int}(b:0<=ap):aV ad (dS .shr ar (F k x) (F a ap)) ac↔ac (F k (x/2^min ap.toNat k.bits)):=
 hv λw=>by unfold dS;rw[mD];simp[binOp,shift_shr_any k a x ap b]
def w0{ac:S->Prop}{k a:iz}{x ap:Int}(b:0<=ap):aV ad (dS .shl ar (F k x) (F a ap)) ac↔ac (F k (k.wrap (x*2^min ap.toNat k.bits))):=
 hv λw=>by unfold dS;rw[mD];simp[binOp,shift_shl_any k a x ap b]
def l8{x:Int}(a:0<=x)(b:x<=18446744073709551615):hr.wrap x=x:=by simp only[IntKind.wrap,IntKind.bits,IntKind.signed];simp;omega
def sC(ad:ft)(ar:co):Prop:=ad.underlying ar=E (.pointer (ad.pointee ar))
def ru{ac:S->Prop}{ah:Option es}{c:Bool}(h:sC ad ar):aZ ad (eE .eql ar c (aE ah) (aE I)) w ac↔ac (aK ah.isNone):=
 j8 (by
  unfold eE;rw[mD];have:eqGuard .eql ar (bif c then .const bS else .tmp 0) (.tmp 0) (aE ah) (aE I)=fh ():=by cases c<;>rfl
  rw[this];simp only[pure_bind];rw[run_eql_pointer_nil w ar ah h];rfl)
def z0(ad:ft)(ar:co)(aj eM:Nat):Bool:=match ad.underlying ar with
 |some (.struct a2)=>match a2[aj]? with
  |some x=>go x.offset eM&&fZ ad x.type
  |none=>U
 |_=>U
def Cu{ac:S->Prop}{aj:Nat}{bo:Array S}(h:z0 ad ar aj eM=G)(a:bo[eM]?=E aa):aV ad (B9 ar (b6 bo) aj) ac↔ac aa:=by
 refine hv λw=>?_;unfold z0 at h;split at h
 ·rename_i a2 b;split at h
  ·rename_i x c;simp only[dA]at h;unfold B9;rw[mD];have d:=lD h.1;simp only[Instr.field,fx,underlying,run_program,f7,b,k5,c,asAgg,pure_bind,part,Cs h.2,fc,if_false,d,a]
  ·cases h
 ·cases h
def a0.Vv{aj:FuncId}(h:a0 ad aj c8 w λaa a=>aa=aK G/\Q [] w a):Calls ad aj c8 w λe a=>e=gd (aK G)/\Below w.heap.size w a:=
 Calls.mono h (λe a b=>by
  cases e with
  |returned aa=>exact⟨by rw[b.1],b.2.Vp⟩
  |panicked _=>exact b.elim
  |outgrown=>exact b.elim)
def bq{x:Int}(a:-9223372036854775808<=x)(b:x<=9223372036854775807):H.wrap x=x:=by rw[IntKind.wrap_i64];omega
end
def aT{aU:Type}(w:aN)(be:aU->List S)(aa:S)(l:List aU):Prop:=
 ∃d c,aa=T d l.length c/\l.length<=c/\(l=[]\/∃b af,d=E ⟨b,af,I⟩/\fu w b af (l.flatMap be))
section
variable{be:aU->List S}{l:List aU}
def kx(h:∀x,(be x).length=a6)(l:List aU):(l.flatMap be).length=l.length*a6:=by
 induction l with
 |nil=>simp
 |cons x l a=>simp[a,h,iM,Nat.add_comm]
def z1{a6:Nat}(h:∀x,(be x).length=a6):∀(l:List aU)(i:Nat),(l.flatMap be).drop (i*a6)=(l.drop i).flatMap be
 |[],i=>B
 |x::l,0=>B
 |x::l,i+1=>by rw[iA,List.drop_succ_cons,<-z1 h l i,iM,sq,Nat.add_comm (i*a6) a6,<-oq];congr 1;rw[<-h x];exact List.drop_left
def Cv{a6:Nat}(h:∀x,(be x).length=a6):∀(l:List aU)(i:Nat),(l.flatMap be).take (i*a6)=(l.take i).flatMap be
 |[],i=>B
 |x::l,0=>B
 |x::l,i+1=>by rw[iA,List.take_succ_cons,iA,<-Cv h l i,iM,sq,Nat.add_comm (i*a6) a6];rw[<-h x,List.take_length_add_append]
def w1{x:aU}(h:∀x,(be x).length=a6)(c:fu w b af (l.flatMap be))(d:l[i]?=E x):fu w b (af+i*a6) (be x):=by have a:=c.d1 (i*a6) a6;rw[z1 h]at a;obtain⟨al,rfl⟩:=fi.1 d;rw[ot al,iA,<-h l[i],tk]at a;rw[<-h l[i]];exact a
def aT.J(h:aT w be aa l)(f:Q bU w a)(g:∀b af n c,aa=T (E ⟨b,af,I⟩) n c->b∉bU):aT a be aa l:=by obtain⟨d,c,rfl,i,j⟩:=h;refine⟨d,c,rfl,i,j.imp id (λ⟨b,af,e,k⟩=>⟨b,af,e,k.J f (g b af _ _ (by rw[e]))⟩)⟩
def aT.V(h:aT w be aa l)(b:Q [] w a):aT a be aa l:=h.J b B
def bP.eF(h:bP w av a6 aa l.length (l.flatMap be) am)(e:∀x,(be x).length=a6)(f:0<a6):aT w be aa l:=by
 obtain⟨d,c,g,i,a⟩:=h.jD;refine⟨d,c,g,i,?_⟩;rcases a with a|⟨b,af,j,_,k⟩
 ·left;have:=kx e l;rw[a]at this;simp only[tl]at this;have m:l.length=0:=by
   rcases Nat.eq_zero_or_pos l.length with h|h
   ·exact h
   ·have:=Nat.mul_pos h f;omega
  exact rc m
 ·exact Z ⟨b,af,j,k⟩
end
def ew(n:Int):List S:=[F H n]
def Cw(n:Int):(ew n).length=1:=rfl
def la{l:List S}(h:fu w b af l)(a:l[j]?=E aa):w.cell? ⟨b,af+j,I⟩=E aa:=
 (h j (fi.1 a).1).trans a
def Kx{ac:S->Prop}{k:iz}{d b:Int}:aV ad (dS .and ar (F k d) (F k b)) ac↔ac (F k (k.wrap (iN k.bits d&&&iN k.bits b).toNat)):=hv λw=>by simp[dS,binOp,Op.intBits]
def Ky{ac:S->Prop}{k:iz}{d b:Int}:aV ad (dS .or ar (F k d) (F k b)) ac↔ac (F k (k.wrap (iN k.bits d|||iN k.bits b).toNat)):=hv λw=>by simp[dS,binOp,Op.intBits]
def Cx{ac:S->Prop}{k:iz}{d b:Int}:aV ad (dS .xor ar (F k d) (F k b)) ac↔ac (F k (k.wrap (iN k.bits d^^^iN k.bits b).toNat)):=hv λw=>by simp[dS,binOp,Op.intBits]
def Kz{n:Int}(h:(Lit.int H n).wf=G):-9223372036854775808<=n/\n<=9223372036854775807:=by simpa[Lit.wf,IntKind.min,IntKind.max,IntKind.signed,IntKind.bits]using h
end
section
open Go.RowKit Go.ChangeShapes Go.WideShapes Go.Deep
def sD(aS:Array S)(af:Nat):Int:=match aS[af]? with
 |some (F _ n)=>n
 |_=>0
def Cy(ad:ft)(aj:Field):Bool:=(match ad.underlying aj.type with|some (.int k)=>(match k with|H=>G|_=>U)|_=>U)&&!(aj.name== "_")
def KA(ad:ft)(ar:co)(a:List Nat):Prop:=
 ad.underlying ar=E (.struct (ad.fieldsOf ar))/\ad.stoodInHeld ar=U/\ad.eqGuardType ad.depth ar=U/\(ad.fieldsOf ar).toList.all (Cy ad)=G/\(ad.fieldsOf ar).toList.map (·.offset)=a
section
def Vw{aj:Field}(h:Cy ad aj=G):ad.underlying aj.type=E (.int H)/\(aj.name== "_")=U:=by
 unfold Cy at h;simp only[dA,lq]at h;refine⟨?_,h.2⟩;have a:=h.1;split at a
 ·rename_i k b;cases k<;>first|exact b|cases a
 ·cases a
def Cz{t:co}(h:ad.underlying t=E (.int H)):(isAgg t).run ad w=bN U w:=by unfold isAgg underlying;simp[h]
def eqFields_ints{aS b7:Array S}(a:∀af,af<aS.size->∃n,aS[af]?=E (F H n))(c:∀af,af<b7.size->∃n,b7[af]?=E (F H n))(ag:Nat):∀(a2:List Field),a2.all (Cy ad)=G->
  (∀aj∈a2,aj.offset<aS.size/\aj.offset<b7.size)->
  (Op.eqFields (ag+1) aS b7 a2).run ad w=bN (a2.all λaj=>sD aS aj.offset==sD b7 aj.offset) w
 |[],_,_=>rfl
 |aj::a2,h,e=>by
  simp only[List.all_cons,dA]at h;obtain⟨f,k⟩:=Vw h.1;obtain⟨l,m⟩:=e aj fE;obtain⟨d,i⟩:=a aj.offset l;obtain⟨b,j⟩:=c aj.offset m;have o:aj.name≠ "_":=by simpa using k
  have p:=eqFields_ints a c ag a2 h.2 (λg q=>e g (ev _ q));have r:sD aS aj.offset=d:=by unfold sD;rw[i]
  have s:sD b7 aj.offset=b:=by unfold sD;rw[j]
  simp only[Op.eqFields,o,ne_eq,not_false_eq_true,if_true,fx,part,Cz f,f7,fc,if_false,i,j,k5,run_equalIn_int w ag aj.type H H d b f,List.all_cons,r,s];cases t:(d==b)
  ·simp
  ·simp[p]
def FE{d5:BinOp}{c:Bool}{aS:Array S}(b:ad.eqGuardType ad.depth ar=U):
  (eE d5 ar c (b6 aS) (b6 b7)).run ad w=((binOp d5 ar (b6 aS) (b6 b7)).run ad w).andThen λaa a=>bN (fw aa) a:=by
 unfold eE;rw[mD,fx,run_eqGuard_agg (w:=w) d5 ar _ _ aS b7 b];rfl
end
def KB{aU:Type}{w:aN}{be:aU->List S}{a6 b:Nat}(a:∀x,(be x).length=a6):∀(l:List aU)(af:Nat),(∀i x,l[i]?=E x->fu w b (af+i*a6) (be x))->fu w b af (l.flatMap be)
 |[],af,_=>fu.D _ _ _
 |x::l,af,h=>by
  rw[iA];intro j e;rcases Nat.lt_or_ge j (be x).length with c|d
  ·rw[pR c];have:=h 0 x B j c;simpa using this
  ·rw[nr d];have f:=KB a l (af+a6) (λi ap g=>by
    have:=h (i+1) ap (by simpa using g);rwa[iM,sq,Nat.add_comm (i*a6) a6,<-sp]at this)
   rw[di]at e;have:=f (j-(be x).length) A;rw[a x]at this d⊢;rwa[show af+a6+(j-a6)=af+j by omega]at this
end
section
open Go.RowKit
section
def Vx(t:hO ad ar av a6 io bm)(h:bP w av a6 aa n aS am){x:S}(ao:Src ad a6 qF x ak ip w)
  (u:(n+ak)*io<=140737488355328) (v:n+ak<=d0):
  ∃dd a az,(pQ #[ar,qF] 0 #[aa,x]).run ad w=bN dd a/\bP a av a6 dd (n+ak) (aS++ip) az/\Q am w a/\(∀g∈az,g∈am\/(w.heap.size<=g/\w.heap.size<a.heap.size)):=by
 obtain⟨l,i,al,y,W,z⟩:=t.wZ;subst W;have m:=ao.newsLen;have f:(aS++ip).length=(n+ak)*i.size:=by rw[di,h.1,m,iM]
 by_cases X:ak=0
 ·subst X;have ab:ip=[]:=rc (by simpa using m);subst ab;obtain⟨d,c,rfl,D,_⟩:=h.jD;exact⟨_,w,am,run_append_nothing w ar qF 0 av i l al d n c D x ao,by simpa using h,Q.b0 _ _,λg e=>Y e⟩
 have au:0<ak:=A;have J:((n+ak:Nat):Int)<=9223372036854775807:=by simp only[d0]at v;omega
 have K:∀(gR:Nat),bP (w.drew.alloc (amv ((aS++ip).toArray++nq bm.cells (jz w (n+ak) gR av-(n+ak))) av)) av i.size
    (T (E ⟨w.heap.size,0,I⟩) (n+ak) (jz w (n+ak) gR av)) (n+ak) (aS++ip) [w.heap.size]/\
   Q am w (w.drew.alloc (amv ((aS++ip).toArray++nq bm.cells (jz w (n+ak) gR av-(n+ak))) av)):=by
  intro gR;have L:=grownCap_ge w (n+ak) gR av;have p:jz w (n+ak) gR av<=d0:=grownCap_le_maxLen w (n+ak) gR av v;have dI:=size_zeroCells bm.cells (jz w (n+ak) gR av-(n+ak));rw[t.zZ]at dI;refine⟨⟨f,Z ⟨w.heap.size,0,_,aS++ip++(nq bm.cells (jz w (n+ak) gR av-(n+ak))).toList,rfl,rfl,?_,L,p,?_,?_⟩⟩,(cD am w).Fy _⟩
  ·have:((aS++ip).toArray++nq bm.cells (jz w (n+ak) gR av-(n+ak)))=(aS++ip++(nq bm.cells (jz w (n+ak) gR av-(n+ak))).toList).toArray:=B;rw[this];exact sz w.drew av _
  ·rw[di,f,tj,dI,Nat.sub_mul];have:=mw i.size L;omega
  ·rw[List.drop_zero,<-f];exact tk
 rcases h.2 with⟨rfl,rfl,rfl⟩|⟨g,b,bL,cf,rfl,rfl,e,D,p,aw,N⟩
 ·have ac:aS=[]:=rc (by simpa using h.1);subst ac;have q:=run_append_grow_src (P:=ad) w ar qF 0 av i bm l al y I 0 0 [] (run_firstCells_none w.drew i.size 0 0 0) x ak ip ao A (by simpa using J)
   (growslice_fits A (by rw[z];exact u))
  have k:=K 0;exact⟨_,_,_,q,k.1,k.2,λg e=>Z ⟨by simp at e;omega,B⟩⟩
 ·by_cases r:n+ak<=bL
  ·have o:(n+ak)*i.size<=bL*i.size:=mw _ r;have ax:=h.1;have af:cf=cf.take (b+n*i.size)++(cf.drop (b+n*i.size)).take (ak*i.size)++cf.drop (b+(n+ak)*i.size):=by rw[iM,<-sp,<-oq (i:=ak*i.size),gq,l3,l3]
   have ag:((cf.drop (b+n*i.size)).take (ak*i.size)).length=ak*i.size:=by rw[ea,e8];rw[iM]at o;omega
   obtain⟨a,ah,ai,aj,ay⟩:=x3 (ad:=ad) g (b+n*i.size) av ip (cf.take (b+n*i.size)) ((cf.drop (b+n*i.size)).take (ak*i.size)) (cf.drop (b+(n+ak)*i.size)) w 0 (af▸e) (by rw[ag,m]) ao.one (by rw[ea];rw[iM]at o;omega);have an:(pQ #[ar,qF] 0 #[T (E ⟨g,b,I⟩) n bL,x]).run ad w=bN (T (E ⟨g,b,I⟩) (n+ak) bL) a:=by rcases ao.kind with⟨gh,O⟩|O<;>simp[pQ,fK l,fK O,sizeOf,typeInfo,al,ao.len,r,ao.cells,jC,ah]
   have ap:(cf.take (b+n*i.size)).length=b+n*i.size:=by rw[ea];rw[iM]at o;omega
   refine⟨_,_,[g],an,⟨f,Z ⟨g,b,bL,_,rfl,rfl,ai,r,p,?_,?_⟩⟩,aj,λaq s=>Y s⟩
   ·rw[di,di,ap,m,e8];rw[iM]at o⊢;omega
   ·rw[gq,List.drop_append_of_le_length A,List.drop_take,Nat.add_sub_cancel_left,N,<-gq,<-f];exact tk
  ·have holds:∀j ae,aS[j]?=E ae->w.drew.cell? ((⟨g,b,I⟩:es).add j)=E ae:=by intro j ae R;have V:=e.cy.d1 b (n*i.size);rw[N,gQ]at V;have:=V j (fi.1 R).1;rw[jC,World.cell?_drew,this,R]
   have q:=run_append_grow_src (P:=ad) w ar qF 0 av i bm l al y (E ⟨g,b,I⟩) n bL aS (run_firstCells_some w.drew i.size n ⟨g,b,I⟩ n bL aS h.1 holds) x ak ip ao A J
    (growslice_fits A (by rw[z];exact u))
   have k:=K bL;exact⟨_,_,_,q,k.1,k.2,λaq s=>Z ⟨by simp at s;omega,B⟩⟩
def tJ(c:hO ad ar av a6 io bm)(h:bP w av a6 aa n aS am){x:S}(ao:Src ad a6 qF x ak ip w)
  (d:(n+ak)*io<=140737488355328) (e:n+ak<=d0)
  (k:∀dd a az,bP a av a6 dd (n+ak) (aS++ip) az->Q am w a->(∀g∈az,g∈am\/w.heap.size<=g)->dd.oneCell'=G->ac dd a):
  W ad (dG lp #[ar,qF] #[aa,x]) w ac:=by
 obtain⟨dd,a,az,f,b,i,j⟩:=Vx (ad:=ad) c h ao d e;refine(j9 (aa:=dd) (a:=a) ?_).2 (k dd a az b i (λg l=>(j g l).imp id (·.1)) ?_)
 ·show(do fh (fw (<-pQ #[ar,qF] 0 #[aa,x])):Sem fD).run ad w=_;exact gv ad _ w f
 ·rcases b.2 with⟨rfl,_⟩|⟨_,_,_,_,rfl,_⟩<;>rfl
def mF(ad:ft)(ar:co):Prop:=ad.underlying ar=E .string
def rv{ac:S->Prop}{s:ByteArray}(h:mF ad ar):aV ad (dG .len #[ar] #[bO s]) ac↔ac (F H s.size):=by refine hv λw=>?_;unfold mF at h;unfold dG;simp[builtin,Builtin.len_,fK h,goInt]
def z2{ac:S->Prop}{s:ByteArray}{ai:iz}(h:mF ad ar)(al:i<s.size):aV ad (Ca ar (bO s) (F ai i)) ac↔ac (F cl (s[i]'al).toNat):=by
 refine hv λw=>?_;unfold mF at h;unfold Ca;rw[mD];have a:s[i]?=E (s[i]'al):=by simp[al]
 simp[Instr.index,asIntOf,fK h,a]
def Vy{ac:S->Prop}{s:ByteArray}{j:Int}(h:mF ad ar)(a:0<=j)(b:j<=s.size):
  aV ad (l5 ar (bO s) I (E (F dL j)) I) ac↔ac (bO (s.extract 0 j.toNat)):=by
 refine hv λw=>?_;unfold mF at h;unfold l5;rw[mD];simp[Instr.sliceAt,Instr.slice,fK h,Instr.sliceBounds,Instr.sliceBound,asIntOf,a,b]
def KC{ac:S->Prop}{s:ByteArray}{ai:iz}{i:Int}(h:mF ad ar)(a:0<=i)(b:i<=s.size):
  aV ad (l5 ar (bO s) (E (F ai i)) I I) ac↔ac (bO (s.extract i.toNat s.size)):=by
 refine hv λw=>?_;unfold mF at h;unfold l5;rw[mD];simp[Instr.sliceAt,Instr.slice,fK h,Instr.sliceBounds,Instr.sliceBound,asIntOf,a,b]
def Vz{ac:S->Prop}{s t:ByteArray}(h:s.size+t.size<=9223372036854775807):aV ad (dS .add ar (bO s) (bO t)) ac↔ac (bO (s++t)):=by
 refine hv λw=>?_;unfold dS;rw[mD];have a:¬(((s.size+t.size:Nat):Int)>H.max):=by rw[show H.max=9223372036854775807 from by decide];omega
 simp only[binOp,Op.stringOp,a,if_false];rfl
def z3(d b:ByteArray):(d.toList==b.toList)=decide (d=b):=by
 have e:∀x:ByteArray,x.toList=x.data.toList:=λx=>ByteArray.toList_eq x;by_cases h:d=b
 ·subst h;simp
 ·simp only[h,decide_false,beq_eq_false_iff_ne,ne_eq,e];intro a;apply h;cases d;cases b;simpa using a
def w2{ac:S->Prop}{c:Bool}{d b:ByteArray}:aZ ad (eE .eql ar c (bO d) (bO b)) w ac↔ac (aK (decide (d=b))):=
 j8 (by rw[<-z3];simp[eE,eqGuard,binOp,Op.stringOp])
def CA{ac:S->Prop}{c:Bool}{d b:ByteArray}:aZ ad (eE .neq ar c (bO d) (bO b)) w ac↔ac (aK (!decide (d=b))):=
 j8 (by rw[<-z3];simp[eE,eqGuard,binOp,Op.stringOp])
def bs(b:UInt8):List S:=[F cl b.toNat]
def e2(b:UInt8):(bs b).length=1:=rfl
def dV(s:ByteArray):List S:=[bO s]
def KD(s:ByteArray):(dV s).length=1:=rfl
def tK(l:List UInt8):l.flatMap bs=l.map (λb=>F cl b.toNat):=by
 induction l with
 |nil=>rfl
 |cons d l a=>simp[bs,a]
def VA(s:ByteArray):byteCells s=s.data.toList.flatMap bs:=(tK _).symm
def VB(l:List UInt8)(s:ByteArray):((l.map λb=>(b.toNat:Int)).foldl (λab n=>ab.push (ed n.toNat)) s)=⟨(s.data.toList++l).toArray⟩:=by
 induction l generalizing s with
 |nil=>simp
 |cons d l a=>
  simp only[ge,List.foldl_cons,a,hf,UInt8.ofNat_toNat];congr 1;simp[ByteArray.push]
def CB(ad:ft)(ar:co):Prop:=∃e,ad.underlying ar=E (.slice e)/\ad.underlying e=E (.int cl)
def w3{aq:co}(k:CB ad ar)(a:mF ad aq)(h:aT w bs aa l):W ad (rl ar aq aa) w ac↔ac (bO ⟨l.toArray⟩) w:=by
 obtain⟨e,f,g⟩:=k;unfold mF at a;obtain⟨d,c,rfl,q,i⟩:=h;apply j9;unfold rl;apply gv ad _ w;cases d with
 |none=>
  have:l=[]:=by
   rcases i with h|⟨b,af,h,_⟩
   ·exact h
   ·cases h
  subst this;simp[convert,fK f,fK g,fK a,Conv.bytesToString];rfl
 |some d=>
  have m:(loadCells d l.length).run ad w=bN ((l.map λb=>(b.toNat:Int)).map (F cl)).toArray w:=by
   rcases i with rfl|⟨b,af,n,o⟩
   ·rfl
   ·cases n;have:=Ks (ad:=ad) (w:=w) b (l.flatMap bs) af 0 #[] (λj p=>by rw[jC,gQ];exact o j p);rw[kx e2,gA]at this;rw[loadCells,this,tK];simp
  have:=run_bytesToString (P:=ad) w d l.length c _ m;simp[convert,fK f,fK g,fK a,this,VB]
def VC(a:bm.cells.size=1):(madeCells bm.cells n).toList=cN n (bm.cells[0]'A):=by
 apply List.ext_getElem
 ·simp[madeCells]
 ·intro i b c;simp[madeCells,a,Nat.mod_one]
end
structure eH{aU:Type}(ad:ft)(ar av:co)(a6:Nat)(be:aU->List S)(bI:aU->S):Prop where
 cY:gV ad ar av=G
 aI:ep ad av a6=G
 dT:∀x,(be x).length=a6
 VD:∀{w:aN}{b af:Nat}{x:aU}{ac:S->Prop},fu w b af (be x)->(aZ ad (a4 av (aE (E ⟨b,af,I⟩))) w ac↔ac (bI x))
def eH.aW{bI:aU->S}(h:gV ad ar av=G)(a:ep ad av 1=G)(b:fZ ad av=G):eH ad ar av 1 (λx=>[bI x]) bI:=
 ⟨h,a,λ_=>rfl,λc=>bl b (Ct c)⟩
def eH.rx{be:aU->List S}(h:gV ad ar av=G)(b:ep ad av a6=G)(a:∀x,(be x).length=a6)(c:iP ad av a6=G):eH ad ar av a6 be (λx=>b6 (be x).toArray):=
 ⟨h,b,a,λ{_ _ _ x _} d=>gC (l:=be x) (by rw[a];exact c) d⟩
section
variable{be:aU->List S}{bI:aU->S}
def eH.ek(e:eH ad ar av a6 be bI){l:List aU}(f:aT w be fH l)(g:Q [] w a)(al:i<l.length){ac:S->Prop}{ai:iz}:
  (aV ad (fY ar fH (F ai i)) λaa=>aZ ad (a4 av aa) a ac)↔ac (bI l[i]):=by
 obtain⟨d,c,rfl,k,h⟩:=f;obtain⟨b,af,rfl,j⟩:=h.resolve_left (by intro h;subst h;simp at al);rw[hP e.cY e.aI al];exact e.VD ((w1 e.dT j (cr al)).J g B)
def CC(q:eH ad ar av a6 be bI){ah:aU->Bool}{l:List aU}{bL:Array S}(t:bf ad g=G)(u:aT w be fH l)(aa:l.length<=9223372036854775806)
  (v:∀x∈l,∀a,Q [] w a->a0 ad g (#[]++#[bI x]++bL) a λae y=>ae=aK (ah x)/\Q [] a y)
  (k:∀a,Q [] w a->bb (gd (F H (if l.findIdx ah<l.length then(l.findIdx ah:Int)else-1))) a):
  (aV ad (dG .len #[ar] #[fH]) λz=>
  rr [(F H 0)] w λD e _ m=>
   aV ad (dS .lss bH (e.getD 0 bS) z) λJ=>
   eV J (
    aV ad (fY ar fH (e.getD 0 bS)) λK=>
   aZ ad (a4 av K) m λL=>
   W ad (wN (.func (.func g) #[] bL) #[L]) m λdI r=>
   eV dI (
    bb (gd (e.getD 0 bS)) r) (
    aV ad (dS .add bH (e.getD 0 bS) (F H 1)) λN=>
   D [N] r)) (
    bb (gd (F H (-1))) m)):=by
 obtain⟨d,c,rfl,O,P⟩:=u;refine(zY q.cY).2 (c1 (λaF a=>∃k:Nat,aF=[F H k]/\k<=l.length/\(∀j,j<k->∀h,l[j]?=E h->ah h=U)/\Q [] w a) (λaF _=>match aF with|[F _ k]=>l.length-k.toNat|_=>0) ⟨0,rfl,A,A,Q.b0 _ _⟩ ?_);rintro _ _ aA ⟨hC,rfl,ab,n,f⟩;simp only[Cj,Ck,Cl,wW,tE,tF,Cm,qN,Cn,wX,Co,Cp,Cq,uJ,zX,gQ,qA,Nat.reduceAdd,kt,up,k9,kN,bi];refine⟨λac=>?_,λaf=>?_⟩
 ·have b:hC<l.length:=A;refine(q.ek ⟨d,c,rfl,O,P⟩ f b).2 (x4 t (v l[hC] (dX b) aA f) ?_);rintro _ ax ⟨rfl,R⟩;have s:Q [] w ax:=f.R R B;simp only[cG];refine⟨λo=>?_,λo=>?_⟩
  ·have:l.findIdx ah=hC:=(List.findIdx_eq b).2 ⟨o,λj i=>n j i _ (cr A)⟩;have:=k ax s;rwa[‹l.findIdx ah=hC›,if_pos b]at this
  ·refine⟨⟨hC+1,?_,b,?_,s⟩,?_⟩
   ·rw[bq A A];rfl
   ·intro j i h p;by_cases V:j<hC
    ·exact n j V h p
    ·obtain rfl:j=hC:=A;rw[cr b]at p;cases p;exact o
   ·rw[bq A A];omega
 ·have:l.findIdx ah=l.length:=List.findIdx_eq_length_of_false (λh X=>by
   obtain⟨j,i,rfl⟩:=ns X;exact n j A _ (cr i))
  have:=k aA f;rwa[‹l.findIdx ah=l.length›,if_neg A]at this
def VE(p:eH ad ar av a6 be bI){ah:aU->Bool}{l:List aU}{q:S}(r:aT w be fH l)(N:l.length<=9223372036854775806)
  (s:∀x∈l,∀a(ac:S->Prop),aZ ad (eE .eql av U q (bI x)) a ac↔ac (aK (ah x)))
  (k:∀a,Q [] w a->bb (gd (F H (if l.findIdx ah<l.length then(l.findIdx ah:Int)else-1))) a):
  (aV ad (dG .len #[ar] #[fH]) λt=>
  rr [(F H 0)] w λu f _ e=>
   aV ad (dS .lss bH (f.getD 0 bS) t) λv=>
   eV v (
    aV ad (fY ar fH (f.getD 0 bS)) λy=>
   aZ ad (a4 av y) e λz=>
   aZ ad (eE .eql av U q z) e λB=>
   eV B (
    bb (gd (f.getD 0 bS)) e) (
    aV ad (dS .add bH (f.getD 0 bS) (F H 1)) λD=>
   u [D] e)) (
    bb (gd (F H (-1))) e)):=by
 obtain⟨d,c,rfl,J,K⟩:=r;refine(zY p.cY).2 (c1 (λaF a=>∃k:Nat,aF=[F H k]/\k<=l.length/\(∀j,j<k->∀h,l[j]?=E h->ah h=U)/\Q [] w a) (λaF _=>match aF with|[F _ k]=>l.length-k.toNat|_=>0) ⟨0,rfl,A,A,Q.b0 _ _⟩ ?_);rintro _ _ aA ⟨hC,rfl,O,m,g⟩;simp only[Cj,Ck,Cl,wW,tE,tF,Cm,qN,Cn,wX,Co,Cp,Cq,uJ,zX,gQ,qA,Nat.reduceAdd,kt,up,k9,kN,bi];refine⟨λP=>?_,λR=>?_⟩
 ·have b:hC<l.length:=A;refine(p.ek ⟨d,c,rfl,J,K⟩ g b).2 ((s l[hC] (dX b) aA _).2 ?_);simp only[cG];refine⟨λn=>?_,λn=>?_⟩
  ·have:l.findIdx ah=hC:=(List.findIdx_eq b).2 ⟨n,λj i=>m j i _ (cr A)⟩;have:=k aA g;rwa[‹l.findIdx ah=hC›,if_pos b]at this
  ·refine⟨⟨hC+1,?_,b,?_,g⟩,?_⟩
   ·rw[bq A A];rfl
   ·intro j i h o;by_cases L:j<hC
    ·exact m j L h o
    ·obtain rfl:j=hC:=A;rw[cr b]at o;cases o;exact n
   ·rw[bq A A];omega
 ·have:l.findIdx ah=l.length:=List.findIdx_eq_length_of_false (λh dI=>by
   obtain⟨j,i,rfl⟩:=ns dI;exact m j A _ (cr i))
  have:=k aA g;rwa[‹l.findIdx ah=l.length›,if_neg A]at this
def CD{l:List aU}{ah:aU->Bool}:decide ((0:Int)<=if l.findIdx ah<l.length then(l.findIdx ah:Int)else-1)=l.any ah:=by
 by_cases h:l.findIdx ah<l.length
 ·rw[if_pos h];have:=List.findIdx_getElem (w:=h);have a:l.any ah=G:=List.any_eq_true.2 ⟨_,dX h,this⟩;rw[a];simp
 ·rw[if_neg h];have a:l.any ah=U:=by rw[List.any_eq_false];intro x b;intro c;exact h (List.findIdx_lt_length_of_exists ⟨x,b,c⟩)
  rw[a];rfl
def anv[DecidableEq aU](f:eH ad ar av a6 be bI){aS b7:List aU}{d b:S}(r:aT w be d aS)(s:aT w be b b7)(ah:aS.length<=9223372036854775806)
  (t:∀x ap a(ac:S->Prop),aZ ad (eE .neq av U (bI x) (bI ap)) a ac↔ac (aK (!decide (x=ap))))
  (k:∀a,Q [] w a->bb (gd (aK (decide (aS=b7)))) a):
  (aV ad (dG .len #[ar] #[d]) λu=>
  aV ad (dG .len #[ar] #[b]) λv=>
  aZ ad (eE .neq bH U u v) w λy=>
  eV y (
   bb (gd (aK U)) w) (
   rr [(F H 0)] w λz g _ e=>
   aV ad (dG .len #[ar] #[d]) λB=>
   aV ad (dS .lss bH (g.getD 0 bS) B) λD=>
   eV D (
    aV ad (fY ar d (g.getD 0 bS)) λJ=>
   aZ ad (a4 av J) (e.drew) λK=>
   aV ad (fY ar b (g.getD 0 bS)) λL=>
   aZ ad (a4 av L) (e.drew) λdI=>
   aZ ad (eE .neq av U K dI) (e.drew) λN=>
   eV N (
    bb (gd (aK U)) (e.drew)) (
    aV ad (dS .add bH (g.getD 0 bS) (F H 1)) λO=>
   z [O] (e.drew))) (
    bb (gd (aK G)) e))):=by
 obtain⟨P,R,rfl,V,W⟩:=r;obtain⟨X,aa,rfl,ab,ae⟩:=s;refine(zY f.cY).2 ((zY f.cY).2 ?_);simp only[Cj,Ck,Cl,wW,tE,tF,Cm,qN,Cn,wX,Co,Cp,Cq,uJ,zX,gQ,qA,Nat.reduceAdd,kt,up,k9,kN,bi];have done:∀(b:Bool) a,b=decide (aS=b7)->Q [] w a->bb (gd (aK b)) a:=λb a h c=>h▸k a c;refine⟨λl=>done _ _ ?_ (Q.b0 _ _),λn=>?_⟩
 ·symm;simp only[decide_eq_false_iff_not];intro h;subst h;exact l rfl
 ·have ai:aS.length=b7.length:=by
   rcases ut aS.length b7.length with h|h|h
   ·exact absurd (show((aS.length:Nat):Int)≠(b7.length:Nat)by omega) n
   ·exact h
   ·exact absurd (show((aS.length:Nat):Int)≠(b7.length:Nat)by omega) n
  apply c1 (λaF a=>∃i:Nat,aF=[F H i]/\i<=aS.length/\(∀j,j<i->aS[j]?=b7[j]?)/\Q [] w a) (λaF _=>match aF with|[F _ k]=>aS.length-k.toNat|_=>0) ⟨0,rfl,A,A,Q.b0 _ _⟩;rintro _ _ aA ⟨i,rfl,al,o,c⟩;apply(zY f.cY).2;simp only[Cj,Ck,Cl,wW,tE,tF,Cm,qN,Cn,wX,Co,Cp,Cq,uJ,zX,gQ,qA,Nat.reduceAdd,kt,up,k9,kN,bi];refine⟨λaj=>?_,λak=>?_⟩
  ·have m:i<aS.length:=A;have p:i<b7.length:=A;refine(f.ek ⟨P,R,rfl,V,W⟩ c.h6 m).2 ((f.ek ⟨X,aa,rfl,ab,ae⟩ c.h6 p).2 ((t _ _ _ _).2 ?_));simp only[cG,lq,decide_eq_false_iff_not,ux,decide_eq_true_eq];refine⟨λl=>done _ _ ?_ c.h6,λaf=>?_⟩
   ·symm;simp only[decide_eq_false_iff_not];intro h;subst h;exact l rfl
   ·rw[bq A A];refine⟨⟨i+1,rfl,m,λj q=>?_,c.h6⟩,A⟩;by_cases ag:j<i
    ·exact o j ag
    ·obtain rfl:j=i:=A;rw[cr m,cr p,af]
  ·refine done _ _ ?_ c;symm;simp only[decide_eq_true_eq];refine qC (λj=>?_);by_cases q:j<i
   ·exact o j q
   ·rw[jy A,jy A]
end
def z4(n ay al:Int):Int:=ay+n%(al-ay+1)
def amc{n ay al:Int}(h:ay<=al):ay<=z4 n ay al/\z4 n ay al<=al:=by unfold z4;have a:=Int.emod_nonneg n (show al-ay+1≠0 by omega);have b:=Int.emod_lt_of_pos n (show 0<al-ay+1 by omega);omega
def VF{n ay al:Int}(y:-1152921504606846976<=ay)(z:ay<=al)(B:al<=4611686018427387904)(k:bb (gd (F H (z4 n ay al))) w):
  (aV ad (dS .sub bH (F H al) (F H ay)) λf=>
  aV ad (dS .add bH f (F H 1)) λg=>
  aV ad (dS .rem bH (F H n) g) λc=>
  ny (λd=>
   aV ad (dS .lss bH c (F H 0)) λh=>
   eV h (
    aV ad (dS .add bH c (F H al)) λi=>
    aV ad (dS .sub bH i (F H ay)) λj=>
    aV ad (dS .add bH j (F H 1)) λl=>
    d [l] w) (
    d [c] w)) λm _ o=>
  aV ad (dS .add bH (F H ay) (m.getD 0 bS)) λp=>
  bb (gd p) o):=by
 have q:H.wrap (al-ay)=al-ay:=bq A A;have r:H.wrap (al-ay+1)=al-ay+1:=bq A A;simp only[tF,tE,q,r];apply(vE A).2;have D:=Int.tmod_lt_of_pos n (show 0<al-ay+1 by omega);have J:-(al-ay+1)<n.tmod (al-ay+1):=by have:=Int.lt_tmod_of_pos n (show 0<al-ay+1 by omega);omega
 have K:=Int.emod_nonneg n (show al-ay+1≠0 by omega);have L:=Int.emod_lt_of_pos n (show 0<al-ay+1 by omega);have s:∃k:Int,n.tmod (al-ay+1)-n%(al-ay+1)=k*(al-ay+1)/\(k=0\/k=-1):=by
  by_cases t:0<=n
  ·exact⟨0,by rw[Int.tmod_eq_emod_of_nonneg t];omega,Y rfl⟩
  ·have:=Int.tmod_eq_emod (a:=n) (b:=al-ay+1);rw[this];split
   ·exact⟨0,A,Y rfl⟩
   ·refine⟨-1,?_,Z rfl⟩;have:((al-ay+1).natAbs:Int)=al-ay+1:=A;rw[this];omega
 refine bT (λaF a=>aF=[F H (n%(al-ay+1))]/\w=a) ?_ ?_
 ·simp only[qN,bi];obtain⟨k,dI,e⟩:=s;refine⟨λN=>?_,λO=>?_⟩
  ·simp only[tE,tF,and_true];have u:H.wrap (n.tmod (al-ay+1)+al)=n.tmod (al-ay+1)+al:=bq A A;have v:H.wrap (n.tmod (al-ay+1)+al-ay)=n.tmod (al-ay+1)+al-ay:=bq A A;have x:H.wrap (n.tmod (al-ay+1)+al-ay+1)=n.tmod (al-ay+1)+al-ay+1:=bq A A;rw[u,v,x];congr 2;rcases e with rfl|rfl<;>omega
  ·simp only[and_true];congr 2;rcases e with rfl|rfl<;>omega
 ·rintro _ _ _ ⟨rfl,rfl⟩;simp only[Cj,Ck,Cl,wW,tE,tF,Cm,qN,Cn,wX,Co,Cp,Cq,uJ,zX,gQ,qA,Nat.reduceAdd,kt,up,k9,kN];rw[bq A A];exact k
end
structure ca where
 a5:Int
 aI:Int
 iQ:Int
 gw:Int
 gK:Int
structure e3 where
 aR:Int
 cP:ByteArray
 df:List ByteArray
def fd(aj:ca):List S:=[F H aj.a5,F H aj.aI,F H aj.iQ,F H aj.gw,F H aj.gK]
def CE(aj:ca):(fd aj).length=5:=rfl
def gL(aj:ca):S:=b6 (fd aj).toArray
def uK(aj:ca):∀ae∈fd aj,ae.oneCell'=G:=by intro ae a;simp[fd]at a;rcases a with rfl|rfl|rfl|rfl|rfl<;>rfl
def ca.bt(aj:ca):Bool:=
 !(decide (aj.iQ<0)||decide (aj.gw<aj.iQ))&&
 if aj.a5=1 then decide (aj.gK=0)&&((decide (aj.aI=1\/aj.aI=2\/aj.aI=4)&&decide (aj.gw/2^(8*aj.aI).toNat=0))||decide (aj.aI=8))
 else if aj.a5=3 then !(decide (255<aj.gw)||decide (aj.gK<0)||decide (65535<aj.gK))&&decide (aj.aI=0/\aj.gw<=65535)
 else if aj.a5=2 then decide (aj.aI=0/\aj.gK=0/\aj.gw<=65535)
 else U
def ca.p2(aj:ca)(n:Int):Bool:=decide (aj.iQ<=n)&&decide (n<=aj.gw)
def cg:ByteArray:=⟨#[]⟩
def ca.e0(aj:ca)(aa:e3):Bool:=
 let a:=!decide (aa.aR=0);let b:=!decide (aa.cP=cg);let c:=!aa.df.isEmpty
 if aj.a5=1 then aj.p2 aa.aR&&!b&&!c
 else if aj.a5=2 then aj.p2 aa.cP.size&&!a&&!c
 else aj.p2 aa.df.length&&!(aa.df.any λs=>decide (aj.gK<s.size))&&!a&&!b
def eU(n:Int)(k:Nat):List UInt8:=(c9 k).map λi=>ed (n/2^(8*i)%256).toNat
def jp(n:Int)(k:Nat):(eU n k).length=k:=by simp[eU]
def eO(s:ByteArray):List UInt8:=s.data.toList
def oy(s:ByteArray):(eO s).length=s.size:=by unfold eO;rw[tj];rfl
def iR(s:ByteArray):List UInt8:=eU s.size 2++eO s
def ca.jS(aj:ca)(aa:e3):List UInt8:=
 if aj.a5=1 then eU aa.aR aj.aI.toNat
 else if aj.a5=2 then iR aa.cP
 else eU aa.df.length 1++aa.df.flatMap iR
def lI:Nat->List ca->List e3->Except (Int×Int) (List UInt8)
 |_,[],_=>bA []
 |i,aj::a2,aa::aF=>if aj.e0 aa then(lI (i+1) a2 aF).map (aj.jS aa++·)else b5 (i,2)
 |i,_::_,[]=>b5 (i,2)
def g9(a2:List ca)(aF:List e3):Except (Int×Int) (List UInt8):=
 if a2.findIdx (λaj=>!aj.bt)<a2.length then b5 (a2.findIdx (λaj=>!aj.bt),1)
 else if aF.length=a2.length then lI 0 a2 aF else b5 (aF.length,1)
def fe:List UInt8->Nat
 |[]=>0
 |b::l=>b.toNat+256*fe l
def tL(l:List UInt8):fe l<256^l.length:=by
 induction l with
 |nil=>simp[fe]
 |cons b l a=>
  have:=b.toNat_lt;simp only[fe,gF,Nat.pow_succ];omega
def kO(dj:Nat)(ay al:Int)(ab:List UInt8):Except Int (Int×List UInt8):=
 if ab.length<dj then b5 3
 else if(fe (ab.take dj):Int)<ay\/al<fe (ab.take dj)then b5 2
 else bA (fe (ab.take dj),ab.drop dj)
def o9(ay al:Int)(ab:List UInt8):Except Int (ByteArray×List UInt8):=
 match kO 2 ay al ab with
 |b5 e=>b5 e
 |bA (n,dr)=>if(dr.length:Int)<n then b5 3 else bA (⟨(dr.take n.toNat).toArray⟩,dr.drop n.toNat)
def nT(gG:Int):Nat->List UInt8->Except Int (List ByteArray×List UInt8)
 |0,ab=>bA ([],ab)
 |k+1,ab=>match o9 0 gG ab with
  |b5 e=>b5 e
  |bA (s,dr)=>match nT gG k dr with
   |b5 e=>b5 e
   |bA (l,a)=>bA (s::l,a)
def ca.jT(aj:ca)(ab:List UInt8):Except Int (e3×List UInt8):=
 if aj.a5=1 then match kO aj.aI.toNat aj.iQ aj.gw ab with
  |b5 e=>b5 e
  |bA (n,dr)=>bA (⟨n,cg,[]⟩,dr)
 else if aj.a5=2 then match o9 aj.iQ aj.gw ab with
  |b5 e=>b5 e
  |bA (s,dr)=>bA (⟨0,s,[]⟩,dr)
 else match kO 1 aj.iQ aj.gw ab with
  |b5 e=>b5 e
  |bA (k,dr)=>match nT aj.gK k.toNat dr with
   |b5 e=>b5 e
   |bA (l,a)=>bA (⟨0,cg,l⟩,a)
def ir(n:Nat):List ca->List UInt8->Except (Int×Int) (List e3)
 |[],ab=>if ab.isEmpty then bA []else b5 (n-ab.length,4)
 |aj::a2,ab=>match aj.jT ab with
  |b5 e=>b5 (n-ab.length,e)
  |bA (aa,dr)=>(ir n a2 dr).map (aa::·)
def mG(a2:List ca)(b:List UInt8):Except (Int×Int) (List e3):=
 if a2.findIdx (λaj=>!aj.bt)<a2.length then b5 (a2.findIdx (λaj=>!aj.bt),1)
 else ir b.length a2 b
structure l9 where
 aR:Int
 cP:ByteArray
 jq:S
def fA(x:l9):List S:=[F H x.aR,bO x.cP,x.jq]
def w4(x:l9):(fA x).length=3:=rfl
def ls(x:l9):S:=b6 (fA x).toArray
def jE(w:aN)(x:l9)(aa:e3):Prop:=x.aR=aa.aR/\x.cP=aa.cP/\aT w dV x.jq aa.df
def jE.V{x:l9}{aa:e3}(h:jE w x aa)(b:Q [] w a):jE a x aa:=⟨h.1,h.2.1,h.2.2.V b⟩
section
open Go.RowKit
section
variable{be:aU->List S}
def x5(a:aC w g av aS)(b:aS.length=n*a6)(c:n<=d0):bP w av a6 (T (E ⟨g,0,I⟩) n n) n aS [g]:=
 ⟨b,Z ⟨g,0,n,aS,rfl,rfl,a,fF _,c,A,by rw[List.drop_zero,mv A]⟩⟩
def x6(b:hO ad ar av 1 io bm){ai:iz}{l:Nat}(h:io*l<=140737488355328)(j:l<=d0)
  (k:∀a,aC a w.heap.size av (cN l (bm.cells[0]'(by have:=b.zZ;omega)))->Q [] w a->a.heap.size=w.heap.size+1->ac (T (E ⟨w.heap.size,0,I⟩) l l) a):
  W ad (uA ar (F ai l) (F dL l)) w ac:=by
 obtain⟨d,i,al,e,ao,f⟩:=b.wZ;have m:d0<=9223372036854775807:=by unfold d0;omega
 have g:((io*l:Nat):Int)<=140737488355328:=A;rw[uq]at g;have c:=run_make (P:=ad) w ar av i bm d al e ai dL l l A (Int.le_refl _) (by rw[f];omega) A;simp only[hf,ao,gA]at c;refine(j9 (aa:=T (E ⟨w.heap.size,0,I⟩) l l) (a:=w.alloc (amv (madeCells bm.cells l) av)) ?_).2 (k _ ?_ (ox _ _ _) B)
 ·unfold uA;exact gv ad _ w c
 ·rw[<-VC (n:=l) b.zZ];exact sz w av _
def sE.x7{gh:co}{l:List aU}(e:ad.underlying qF=E (.slice gh))(g:aT w be aa l)(i:∀x,(be x).length=a6)(k:∀x,∀ae∈be x,ae.oneCell'=G):Src ad a6 qF aa l.length (l.flatMap be) w:=by
 obtain⟨d,c,rfl,q,f⟩:=g;have one:∀ae∈l.flatMap be,ae.oneCell'=G:=λae m=>by obtain⟨x,_,n⟩:=tm.1 m;exact k x ae n
 cases d with
 |none=>
  have:l=[]:=by
   rcases f with h|⟨b,af,h,_⟩
   ·exact h
   ·cases h
  subst this;exact Src.ofNil w e c
 |some d=>
  refine Src.ofSlice w e d _ _ _ (kx i l) (λj ae a=>?_) one;rcases f with rfl|⟨b,af,o,p⟩
  ·simp at a
  ·cases o;rw[jC,p j (fi.1 a).1,a]
def z5(x:UInt8):∀ae∈bs x,ae.oneCell'=G:=by intro ae a;simp[bs]at a;subst a;rfl
def sE.KE(a:mF ad qF)(s:ByteArray):Src ad 1 qF (bO s) s.size ((eO s).flatMap bs) w:=by have:=Src.ofString (P:=ad) w a s;rw[VA]at this;exact this
end
def pa(x:Int):cl.wrap x=x%256:=by simp[IntKind.wrap,IntKind.bits,IntKind.signed]
def KF(x:Int):F cl (x%256)=F cl ((ed (x%256).toNat).toNat:Nat):=by have a:=Int.emod_nonneg x (show(256:Int)≠0 by omega);have b:=Int.emod_lt_of_pos x (show(0:Int)<256 by omega);congr 1;rw[mx];omega
def CF(n:Int)(k:Nat):eU n (k+1)=eU n k++[ed (n/2^(8*k)%256).toNat]:=by simp[eU,nK]
def KG{ct:List S}(h:ct.length=i):(ct++cN (k+1) bm).set i aa=ct++[aa]++cN k bm:=by subst h;rw[sr _ _ (fF _),k6,List.replicate_succ,aoi,gq];rfl
section
variable{ac:S->Prop}
def sF(ad:ft)(ar:co):Bool:=match ad.underlying ar with
 |some (.interface _)=>U
 |some _=>G
 |none=>U
def hk(h:sF ad ar=G):aV ad (tx ar aa) ac↔ac (eZ ar aa):=by
 refine hv λw=>?_;unfold sF at h;unfold tx;apply gv ad _ w;cases a:ad.underlying ar with
 |none=>rw[a]at h;cases h
 |some ag=>
  rw[a]at h;simp only[Instr.makeInterface,fx,fK a,f7];cases ag<;>first|rfl|cases h
def nU(ad:ft)(ar:co):Bool:=match ad.underlying ar with
 |some (.interface _)=>G
 |_=>U
def z6(h:nU ad ar=G):∃a,ad.underlying ar=E (.interface a):=by
 unfold nU at h;split at h
 ·rename_i a b;exact⟨a,b⟩
 ·cases h
def eqIfaceIn{t:co}(h:nU ad ar=G)(ag:Nat):(lF (ag+1) ar (eZ t aa) cT).run ad w=bN U w:=by obtain⟨b,a⟩:=z6 h;simp only[lF,fx,fK a,f7];rfl
def eqNilIn(h:nU ad ar=G)(ag:Nat):(lF (ag+1) ar cT cT).run ad w=bN G w:=by obtain⟨b,a⟩:=z6 h;simp only[lF,fx,fK a,f7];rfl
def KH{t:co}(h:nU ad ar=G):(Op.equal ar (eZ t aa) cT).run ad w=bN U w:=eqIfaceIn h 9999
def KI(h:nU ad ar=G):(Op.equal ar cT cT).run ad w=bN G w:=eqNilIn h 9999
def z7{t:co}(h:nU ad ar=G):aZ ad (eE .eql ar G (eZ t aa) cT) w ac↔ac (aK U):=j8 (by
 unfold eE;apply gv ad _ w;simp only[fx,eqGuard,binOp,KH h,f7,k5];rfl)
def ry(h:nU ad ar=G):aZ ad (eE .eql ar G cT cT) w ac↔ac (aK G):=j8 (by
 unfold eE;apply gv ad _ w;simp only[fx,eqGuard,binOp,KI h,f7,k5];rfl)
def rz{t:co}(h:nU ad ar=G):aZ ad (eE .neq ar G (eZ t aa) cT) w ac↔ac (aK G):=j8 (by
 unfold eE;apply gv ad _ w;simp only[fx,eqGuard,binOp,KH h,f7,k5];rfl)
def fp(h:nU ad ar=G):aZ ad (eE .neq ar G cT cT) w ac↔ac (aK U):=j8 (by
 unfold eE;apply gv ad _ w;simp only[fx,eqGuard,binOp,KI h,f7,k5];rfl)
def qO{aF:Array S}(h:aF[i]?=E aa):aV ad (gH (bQ aF) i) ac↔ac aa:=hv λw=>by unfold gH;refine gv ad _ w ?_;simp only[Instr.extract,h];rfl
end
def cV{ac:S->Prop}{d b:S}:aV ad (gH (bQ #[d,b]) 0) ac↔ac d:=qO rfl
def cX{ac:S->Prop}{d b:S}:aV ad (gH (bQ #[d,b]) 1) ac↔ac b:=qO rfl
section
variable{be:aU->List S}
def z8{ac:S->Prop}{d:Option es}{c:Nat}{ai:iz}{i j:Int}(h:gV ad ar av=G)(ao:ep ad av a6=G)(a:0<=i)(m:i<=j)(o:j<=c):
  aV ad (l5 ar (T d n c) (E (F ai i)) (E (F dL j)) I) ac↔ac (T (if c=i.toNat then d else d.map (·.add (i.toNat*a6))) (j.toNat-i.toNat) (c-i.toNat)):=by
 refine hv λw=>?_;obtain⟨e,b,f⟩:=tH ao;have g:=o8 h;obtain⟨j,rfl⟩:=nL (show 0<=j by omega);obtain⟨i,rfl⟩:=nL a;have k:i<=j:=A;have l:j<=c:=A;unfold l5;rw[mD];simp[Instr.sliceAt,Instr.slice,underlying,g,Instr.sliceBounds,Instr.sliceBound,asIntOf,k,l,sA b f]
def z9{ac:S->Prop}{d:Option es}{c:Nat}{j:Int}(h:gV ad ar av=G)(ao:ep ad av a6=G)(a:0<=j)(k:j<=c):
  aV ad (l5 ar (T d n c) I (E (F dL j)) I) ac↔ac (T (if c=0 then d else d.map (·.add (0*a6))) j.toNat c):=by
 refine hv λw=>?_;obtain⟨e,b,f⟩:=tH ao;have g:=o8 h;obtain⟨j,rfl⟩:=nL a;have i:j<=c:=A;unfold l5;rw[mD];simp[Instr.sliceAt,Instr.slice,underlying,g,Instr.sliceBounds,Instr.sliceBound,asIntOf,i,sA b f]
def aT.d1{d:Option es}{c:Nat}{l:List aU}(a:∀x,(be x).length=a6)(h:aT w be (T d l.length c) l)(n:i<=j)(o:j<=l.length):
  aT w be (T (if c=i then d else d.map (·.add (i*a6))) (j-i) (c-i)) ((l.drop i).take (j-i)):=by
 obtain⟨fl,p,f,q,g⟩:=h;cases f;have e:((l.drop i).take (j-i)).length=j-i:=by rw[ea,e8];omega
 refine⟨_,c-i,by rw[e],by rw[e];omega,?_⟩;rcases g with rfl|⟨b,af,rfl,k⟩
 ·exact Y B
 ·by_cases m:c=i
  ·left;have:j-i=0:=A;rw[this,List.take_zero]
  ·right;refine⟨b,af+i*a6,by rw[if_neg m];simp[jC],?_⟩;have:=(k.d1 (i*a6) ((j-i)*a6));rwa[z1 a,Cv a]at this
end
def CG(l:List UInt8)(x:UInt8):fe (l++[x])=fe l+x.toNat*256^l.length:=by
 induction l with
 |nil=>simp[fe]
 |cons d l a=>
  have e:x.toNat*256^(l.length+1)=256*(x.toNat*256^l.length):=by rw[Nat.pow_succ,<-Nat.mul_assoc,Nat.mul_comm]
  simp only[jN,fe,a,gF,e,Nat.mul_add];omega
def KJ{d x:Nat}(h:d<2^i):d|||(x*2^i)=d+x*2^i:=by have:=Nat.shiftLeft_add_eq_or_of_lt h x;rw[Nat.shiftLeft_eq]at this;rw[Nat.or_comm,<-this,Nat.add_comm]
def VG{d:Nat}(h:(d|||b)<2^64):hr.wrap ((iN 64 (d:Int)|||iN 64 (b:Int)).toNat:Nat)=((d|||b:Nat):Int):=by
 have e:(iN 64 (d:Int)|||iN 64 (b:Int)).toNat=d|||b:=by rw[BitVec.toNat_or,ur,ur];have f:d<2^64:=Nat.lt_of_le_of_lt Nat.left_le_or h;have g:b<2^64:=Nat.lt_of_le_of_lt Nat.right_le_or h;have a:((d:Int)%((2:Nat)^64:Nat)).toNat=d:=A;have c:((b:Int)%((2:Nat)^64:Nat)).toNat=b:=A;rw[a,c]
 rw[e];exact l8 A A
def VH{ac:S->Prop}{d:Nat}(h:(d|||b)<2^64):aV ad (dS .or ar (F hr d) (F hr b)) ac↔ac (F hr ((d|||b:Nat):Int)):=
 Ky.trans (Iff.of_eq (congrArg (λbm=>ac (F hr bm)) (VG h)))
section
variable{bI:aU->S}
def fq:List (Int×aU)->Int->Option aU
 |[],_=>I
 |ah::l,k=>if ah.1=k then E ah.2 else fq l k
def lJ:List (Int×aU)->Int->Option (Nat×aU)
 |[],_=>I
 |ah::l,k=>if ah.1=k then E (0,ah.2)else(lJ l k).map λj=>(j.1+1,j.2)
def ka:List (Int×aU)->Int->aU->List (Int×aU)
 |[],k,aa=>[(k,aa)]
 |ah::l,k,aa=>if ah.1=k then(k,aa)::l else ah::ka l k aa
def CH(l:List (Int×aU))(k:Int):fq l k=(lJ l k).map (·.2):=by
 induction l with
 |nil=>rfl
 |cons ah l a=>
  simp only[fq,lJ];split
  ·rfl
  ·rw[a];cases lJ l k<;>rfl
def CI{l:List (Int×aU)}{k:Int}{aa:aU}(h:lJ l k=E (j,aa)):l[j]?=E (k,aa):=by
 induction l generalizing j with
 |nil=>cases h
 |cons ah l b=>
  simp only[lJ]at h;split at h
  ·rename_i c;cases h;simp[<-c]
  ·cases a:lJ l k with
   |none=>rw[a]at h;cases h
   |some ai=>rw[a]at h;cases h;simpa using b a
def FF{l:List (Int×aU)}{k:Int}{ae aa:aU}(h:lJ l k=E (j,ae)):ka l k aa=l.set j (k,aa):=by
 induction l generalizing j with
 |nil=>cases h
 |cons ah l c=>
  simp only[lJ]at h;simp only[ka];split at h
  ·rename_i a;cases h;simp[a]
  ·rename_i a;rw[if_neg a];cases b:lJ l k with
   |none=>rw[b]at h;cases h
   |some ai=>rw[b]at h;cases h;rw[c b];rfl
def FG{l:List (Int×aU)}{k:Int}{aa:aU}(h:lJ l k=I):ka l k aa=l++[(k,aa)]/\k∉l.map (·.1):=by
 induction l with
 |nil=>exact⟨rfl,B⟩
 |cons ah l c=>
  simp only[lJ]at h;simp only[ka];split at h
  ·cases h
  ·rename_i a;rw[if_neg a];cases b:lJ l k with
   |none=>
    obtain⟨d,e⟩:=c b;refine⟨by rw[d];rfl,?_⟩;rw[ge,ce,not_or];exact⟨λh=>a h.symm,e⟩
   |some ai=>rw[b]at h;cases h
def x8(l:List (Int×aU))(k hC:Int)(aa:aU):fq (ka l k aa) hC=if k=hC then E aa else fq l hC:=by
 induction l with
 |nil=>rfl
 |cons ah l c=>
  simp only[ka,fq];by_cases b:ah.1=k
  ·rw[if_pos b];simp only[fq];by_cases a:k=hC
   ·rw[if_pos a,if_pos a]
   ·rw[if_neg a,if_neg a,if_neg A]
  ·rw[if_neg b];simp only[fq];rw[c];by_cases a:k=hC
   ·rw[if_pos a,if_pos a,if_neg A]
   ·rw[if_neg a,if_neg a]
def VI(l:List (Int×aU))(k:Int)(aa:aU):(ka l k aa).length=if(fq l k).isSome then l.length else l.length+1:=by
 rw[CH];cases h:lJ l k with
 |none=>rw[(FG h).1];simp
 |some ai=>obtain⟨j,ae⟩:=ai;rw[FF h];simp
def KK{l:List (Int×aU)}{k:Int}{aa:aU}(h:(l.map (·.1)).Nodup):((ka l k aa).map (·.1)).Nodup:=by
 cases a:lJ l k with
 |none=>
  obtain⟨c,f⟩:=FG (aa:=aa) a;rw[c,g6];exact us.2 ⟨h,B,λd i b g=>by
   simp at g;subst g;intro m;subst m;exact f i⟩
 |some ai=>
  obtain⟨j,ae⟩:=ai;rw[FF a,qB];have:=CI a;have e:(l.map (·.1)).set j k=l.map (·.1):=by
   have c:(l.map (·.1))[j]?=E k:=by rw[e1,this];rfl
   obtain⟨f,n⟩:=fi.1 c;rw[<-n];exact List.set_getElem_self f
  rw[e];exact h
def hW(e:MapEntry):S×S:=(e.key,e.val)
def oz(bI:aU->S)(ah:Int×aU):S×S:=(F H ah.1,bI ah.2)
def kb(w:aN)(ab:Nat)(bI:aU->S)(l:List (Int×aU)):Prop:=
 ∃bx a,w.heap[ab]?=E (.map bx a)/\(∀x∈bx.toList,x.born<a)/\(bx.toList.map (·.born)).Nodup/\bx.toList.map hW=l.map (oz bI)/\(l.map (·.1)).Nodup
def kb.aL{l:List (Int×aU)}(h:kb w ab bI l):ab<w.heap.size:=by obtain⟨bx,c,h,_⟩:=h;exact(so.1 h).1
def kb.J{l:List (Int×aU)}(h:kb w ab bI l)(b:Q bU w a)(d:ab∉bU):kb a ab bI l:=by have e:=h.aL;obtain⟨bx,c,h,f⟩:=h;exact⟨bx,c,(b.nR ab e d).trans h,f⟩
def kb.dT{l:List (Int×aU)}(h:bx.toList.map hW=l.map (oz bI)):bx.size=l.length:=by have:=congrArg jm h;simpa using this
def FH{ai:iz}(k:Int):∀(bx:List MapEntry)(l:List (Int×aU))(i:Nat),bx.map hW=l.map (oz bI)->
  Instr.findNow (.int ai) (F H k) bx i=E ((lJ l k).map λj=>(i+j.1,bI j.2))
 |[],[],i,_=>rfl
 |[],ah::l,i,h=>by cases h
 |e::bx,[],i,h=>by cases h
 |e::bx,ah::l,i,h=>by
  simp only[ge,ss]at h;obtain⟨a,c⟩:=h;have d:e.key=F H ah.1:=congrArg (·.1) a;have f:e.val=bI ah.2:=congrArg (·.2) a;simp only[Instr.findNow,d,Instr.sameNow,if_true,lJ];by_cases b:ah.1=k
  ·subst b;simp[f]
  ·have:(k==ah.1)=U:=by simp;omega
   rw[this,if_neg b];simp only;rw[FH k bx l (i+1) c];cases lJ l k with
   |none=>rfl
   |some j=>simp;omega
def sG(ad:ft)(ar av:co):Prop:=∃k,ad.underlying ar=E (.map k av)/\ad.underlying k=E (.int H)
section
variable{l:List (Int×aU)}
def CJ{k:co}{n:Int}{b:Bool}(h:ad.underlying k=E (.int H)):(Instr.checkKey b 10000 k (F H n)).run ad w=bN () w:=by
 have e:∀ag,(Instr.checkKey b (ag+1) k (F H n)).run ad w=bN () w:=λag=>by simp only[Instr.checkKey,fx,fK h,f7];rfl
 exact e 9999
def KL(g:sG ad ar av)(h:kb w ab bI l)(i:du ad av bm)(k:Int)(d8:Bool):
  (Instr.lookup ar (eB (E ab)) (F H k) d8).run ad w=bN (if d8 then bQ #[((fq l k).map bI).getD bm,aK (fq l k).isSome]else((fq l k).map bI).getD bm) w:=by
 obtain⟨o,d,a⟩:=g;obtain⟨bx,c,e,_,_,m,_⟩:=h;have b:=FH (ai:=H) k bx.toList l 0 m;have n:=FC (w:=w) i;rw[CH];cases f:lJ l k with
 |none=>
  rw[f]at b;cases d8<;>simp[Instr.lookup,fK d,pS e,CJ a,Instr.findKey,fK a,b,n,tn]
 |some j=>
  rw[f]at b;cases d8<;>simp[Instr.lookup,fK d,pS e,CJ a,Instr.findKey,fK a,b,tn]
def FI{ac:S->Prop}(a:sG ad ar av)(h:kb w ab bI l)(b:du ad av bm){k:Int}:
  aZ ad (qI ar (eB (E ab)) (F H k) U) w ac↔ac (((fq l k).map bI).getD bm):=j8 (by
 unfold qI;apply gv ad _ w;rw[KL a h b];rfl)
def FJ{ac:S->Prop}(a:sG ad ar av)(h:kb w ab bI l)(b:du ad av bm){k:Int}:
  aZ ad (qI ar (eB (E ab)) (F H k) G) w ac↔ac (bQ #[((fq l k).map bI).getD bm,aK (fq l k).isSome]):=j8 (by
 unfold qI;apply gv ad _ w;rw[KL a h b];rfl)
def VJ{ac:S->Prop}(a:sG ad ar av)(h:kb w ab bI l):aZ ad (dG .len #[ar] #[eB (E ab)]) w ac↔ac (F H l.length):=j8 (by
 obtain⟨f,b,g⟩:=a;obtain⟨bx,c,d,_,_,e,_⟩:=h;unfold dG;simp[builtin,Builtin.len_,fK b,pS d,goInt,kb.dT e])
def VK(w:aN)(bI:aU->S):kb (w.alloc (.map #[] 0)) w.heap.size bI []:=⟨#[],0,heap_alloc_new w _,B,B,rfl,B⟩
def Aa(c:sG ad ar av){b:Option S}(d:b=I\/∃k n,b=E (F k n))(k:∀a,kb a w.heap.size bI []->Q [] w a->a.heap.size=w.heap.size+1->ac (eB (E w.heap.size)) a):W ad (uz ar b) w ac:=by
 obtain⟨f,e,g⟩:=c;refine(j9 (aa:=eB (E w.heap.size)) (a:=w.alloc (.map #[] 0)) ?_).2 (k _ (VK w bI) (ox _ _ _) B);unfold uz;apply gv ad _ w;rcases d with rfl|⟨ai,n,rfl⟩
 ·simp[Instr.makeMap]
 ·simp[Instr.makeMap,fK e,asInt,asIntOf]
def x9{c:Nat}(a:w.heap[b]?=E (.map bx c))(af:Obj):Q [b] w {w with heap:=w.heap.setIfInBounds b af}:=
 ⟨rfl,rfl,rfl,B,λk _ d=>ChangeMaps.heap_setBlock_other a af (by simpa using d)⟩
def VL(D:sG ad ar av)(h:kb w ab bI l)(k:Int)(aa:aU):∃a,(Instr.mapUpdate ar (eB (E ab)) (F H k) (bI aa)).run ad w=bN () a/\kb a ab bI (ka l k aa)/\Q [ab] w a/\a.heap.size=w.heap.size:=by
 obtain⟨P,s,p⟩:=D;obtain⟨bx,c,g,q,t,m,u⟩:=h;have n:=FH (ai:=H) k bx.toList l 0 m;have J:=kb.dT m;cases o:lJ l k with
 |none=>
  rw[o]at n;refine⟨_,by simp[Instr.mapUpdate,fK s,pS g,CJ p,Instr.findKey,fK p,n,MapKept.run_setObj_map _ g,tn];rfl,?_,x9 g _,B⟩;refine⟨bx.push {key:=F H k,val:=bI aa,born:=c},c+1,ChangeMaps.heap_setBlock_same g _,?_,?_,?_,KK u⟩
  ·intro x f;simp only[Array.toList_push,b4,ku]at f;rcases f with f|rfl
   ·exact Nat.lt_succ_of_lt (q x f)
   ·exact Nat.lt_succ_self _
  ·simp only[Array.toList_push,g6,ge,tp];refine us.2 ⟨t,B,?_⟩;intro d K b v;simp only[ku]at v;subst v;obtain⟨x,f,rfl⟩:=fS.1 K;exact Nat.ne_of_lt (q x f)
  ·rw[(FG o).1];simp[m,hW,oz]
 |some ai=>
  obtain⟨j,ae⟩:=ai;rw[o]at n;simp only[m1,gQ]at n;have y:=CI o;have z:j<bx.size:=by rw[J];exact(fi.1 y).1
  have L:bx[j].key=F H k:=by
   have r:(bx.toList.map hW)[j]?=E (oz bI (k,ae)):=by rw[m,e1,y];rfl
   rw[e1]at r;have dI:bx.toList[j]?=E bx[j]:=B;rw[dI]at r;simp[hW,oz]at r;exact r.1
  have N:(Instr.keyThatStays (F H k) (F H k)).run ad w=bN (F H k) w:=by simp[Instr.keyThatStays,Instr.sameBits]
  refine⟨_,by simp[Instr.mapUpdate,fK s,pS g,CJ p,Instr.findKey,fK p,n,z,L,N,MapKept.run_setObj_map _ g,tn];rfl,?_,x9 g _,B⟩;refine⟨_,c,ChangeMaps.heap_setBlock_same g _,?_,?_,?_,KK u⟩
  ·intro x f;simp only[Array.toList_modify]at f;obtain⟨i,al,rfl⟩:=ns f;have A:i<bx.toList.length:=by simpa using al
   rw[List.getElem_modify];split
   ·exact q bx.toList[i] (dX A)
   ·exact q bx.toList[i] (dX A)
  ·have:(bx.modify j λe=>{e with key:=F H k,val:=bI aa}).toList.map (·.born)=bx.toList.map (·.born):=by
    apply qC;intro i;simp only[e1,Array.getElem?_toList,Array.getElem?_modify];split
    ·cases bx[i]?<;>rfl
    ·rfl
   rw[this];exact t
  ·rw[FF o];have:(bx.modify j λe=>{e with key:=F H k,val:=bI aa}).toList.map hW=(bx.toList.map hW).set j (oz bI (k,aa)):=by
    apply qC;intro i;simp only[e1,Array.getElem?_toList,Array.getElem?_modify,pT,dU,tj];split
    ·rename_i O;subst O;simp[z,hW,oz]
    ·rfl
   rw[this,m,qB]
def Ab(b:sG ad ar av)(h:kb w ab bI l){k:Int}{aa:aU}(c:ae=bI aa)
  (d:∀a,kb a ab bI (ka l k aa)->Q [ab] w a->a.heap.size=w.heap.size->ac bS a):W ad (wL ar (eB (E ab)) (F H k) ae) w ac:=by
 subst c;obtain⟨a,e,f,g,i⟩:=VL b h k aa;refine(Fw (a:=a) ?_).2 (d a f g i);unfold wL;simp[e]
end
end
abbrev cb(ad:ft)(t aj eM:Nat):Prop:=∀(ac:S->Prop)(b af:Nat),aV ad (gB t (aE (E ⟨b,af,I⟩)) aj) ac↔ac (aE (E ⟨b,af+eM,I⟩))
def cc{aj:Nat}(h:wY ad t aj eM=G):cb ad t aj eM:=λ_ _ _=>FD h
abbrev kP(ad:ft)(t:Nat):Prop:=∀(ac:S->Prop)(d:Option es)(n c:Nat),aV ad (dG .len #[t] #[T d n c]) ac↔ac (F H n)
def lb{e:Nat}(h:gV ad t e=G):kP ad t:=λ_ _ _ _=>zY h
def dI:
  (∀(ac:S->Prop)(d:es),aV ad (ov (aE (E d))) ac↔ac (aE (E d)))/\
  (∀(ac:S->Prop)(b:Bool)(ae aa:S),aV ad (Fj (aK b) ae aa) ac↔ac (if b then ae else aa))/\
  (∀(ac:S->Prop)(aj:Fn)(d b:Array S),aV ad (Fi aj d b) ac↔ac (.func aj d b))/\
  (∀(ac:S->Prop)(b:Bool),aV ad (qH .not (aK b)) ac↔ac (aK (!b)))/\
  (∀(ac:S->Prop)(ar:co)(k:iz)(d b:Int),aV ad (dS .add ar (F k d) (F k b)) ac↔ac (F k (k.wrap (d+b))))/\
  (∀(ac:S->Prop)(ar:co)(k:iz)(d b:Int),aV ad (dS .sub ar (F k d) (F k b)) ac↔ac (F k (k.wrap (d-b))))/\
  (∀(ac:S->Prop)(ar:co)(k:iz)(d b:Int),aV ad (dS .mul ar (F k d) (F k b)) ac↔ac (F k (k.wrap (d*b))))/\
  (∀(ac:S->Prop)(ar:co)(k:iz)(d b:Int),aV ad (dS .lss ar (F k d) (F k b)) ac↔ac (aK (decide (d<b))))/\
  (∀(ac:S->Prop)(ar:co)(k:iz)(d b:Int),aV ad (dS .leq ar (F k d) (F k b)) ac↔ac (aK (decide (d<=b))))/\
  (∀(ac:S->Prop)(ar:co)(k:iz)(d b:Int),aV ad (dS .gtr ar (F k d) (F k b)) ac↔ac (aK (decide (b<d))))/\
  (∀(ac:S->Prop)(ar:co)(k:iz)(d b:Int),aV ad (dS .geq ar (F k d) (F k b)) ac↔ac (aK (decide (b<=d))))/\
  (∀(ac:S->Prop)(a:Array co)(k:iz)(d b:Int),aV ad (dG .max a #[F k d,F k b]) ac↔ac (F k (max d b)))/\
  (∀(ac:S->Prop)(a:Array co)(k:iz)(d b:Int),aV ad (dG .min a #[F k d,F k b]) ac↔ac (F k (min d b)))/\
  (∀(w:aN)(ac:S->Prop)(ar:co)(c:Bool)(k:iz)(d b:Int),aZ ad (eE .eql ar c (F k d) (F k b)) w ac↔ac (aK (decide (d=b))))/\
  (∀(w:aN)(ac:S->Prop)(ar:co)(c:Bool)(k:iz)(d b:Int),aZ ad (eE .neq ar c (F k d) (F k b)) w ac↔ac (aK (decide (d≠b)))):=
 ⟨λ_ _=>Cj,λ_ _ _ _=>Ck,λ_ _ _ _=>Cl,λ_ _=>wW,λ_ _ _ _ _=>tE,λ_ _ _ _ _=>tF,λ_ _ _ _ _=>Cm,λ_ _ _ _ _=>qN,λ_ _ _ _ _=>Cn,λ_ _ _ _ _=>wX,λ_ _ _ _ _=>Co,λ_ _ _ _ _=>Cp,λ_ _ _ _ _=>Cq,λ_ _ _ _ _ _ _=>uJ,λ_ _ _ _ _ _ _=>zX⟩
def N:(∀(cs an:Prop),eV (aK G) cs an↔cs)/\(∀(cs an:Prop),eV (aK U) cs an↔an)/\(∀n:Nat,0+n=n)/\(∀n:Nat,n+0=n)/\(∀(d:S)(l:List S)(ag:S),(d::l).getD 0 ag=d)/\(∀(d:S)(l:List S)(ag:S)(i:Nat),(d::l).getD (i+1) ag=l.getD i ag):=
 ⟨λ_ _=>k9,λ_ _=>kN,gQ,qA,λ_ _ _=>kt,λ_ _ _ _=>up⟩
end
def Ac{aj:FuncId}{bn:Prop}(fm:b2)(c8:List S)(k:Nat)(a:ad.funcs[aj]?=E gr)(d8:Ch ad gr fm k=G)(b:c8.length=k)(h:bn)(e:bn=Cg ad gr fm c8 w bb):Calls ad aj c8.toArray w bb:=
 Kn (fm:=fm) a d8 b (Eq.mp e h)
def Ad(t:co)(x:S):Sem fD:=do fh (fw (<-Instr.arrayAt t x))
section
open Go.RowKit
variable{a2:List ca}{aF:List e3}{aj:ca}
inductive ex where
 |dD (k:Int)
 |lK (d b c:Int)
 |d2 (d5:ByteArray) (aQ:Int) (e:ex)
def ex.a5:ex->Int
 |.dD k=>k
 |.lK _ _ _=>6
 |.d2 _ _ e=>e.a5
structure dn where
 dF:Int
 iE:Int
 cu:Int
 cS:Int
 gj:List ByteArray
 dY:List (Int×ByteArray)
structure kQ where
 dF:Int
 iE:Int
 cu:Int
 cS:Int
 pb:S
 mH:S
def eb(x:kQ):List S:=[F H x.dF,F H x.iE,F H x.cu,F H x.cS,x.pb,x.mH]
def je(x:kQ):S:=b6 (eb x).toArray
def hX(ah:Int×ByteArray):List S:=[F H ah.1,bO ah.2]
def CK(ah:Int×ByteArray):(hX ah).length=2:=rfl
def Ae(ah:Int×ByteArray):∀ae∈hX ah,ae.oneCell'=G:=by intro ae a;simp[hX]at a;rcases a with rfl|rfl<;>rfl
def qP(ah:Int×ByteArray):S:=b6 (hX ah).toArray
structure ma(w:aN)(x:kQ)(ab:dn):Prop where
 dF:x.dF=ab.dF
 iE:x.iE=ab.iE
 cu:x.cu=ab.cu
 cS:x.cS=ab.cS
 gj:aT w dV x.pb ab.gj
 dY:aT w hX x.mH ab.dY
def ma.V{x:kQ}{ab:dn}(h:ma w x ab)(b:Q [] w a):ma a x ab:=⟨h.dF,h.iE,h.cu,h.cS,h.gj.V b,h.dY.V b⟩
def aT.aW{be:aU->List S}{l:List aU}(h:aT w be aa l):aa.oneCell'=G:=by obtain⟨d,c,rfl,_⟩:=h;rfl
def ma.aW{x:kQ}{ab:dn}(h:ma w x ab):∀ae∈eb x,ae.oneCell'=G:=by intro ae a;simp[eb]at a;rcases a with rfl|rfl|rfl|rfl|rfl|rfl<;>first|rfl|exact h.gj.aW|exact h.dY.aW
def h7(l:List UInt8):ByteArray:=⟨l.toArray⟩
def lL(ah:Int×ByteArray):ByteArray:=h7 (eU ah.1 8)++ah.2
def lc:List ca:=[⟨1,4,0,4294967295,0⟩,⟨1,1,0,255,0⟩,⟨1,8,0,9223372036854775807,0⟩,⟨1,8,0,9223372036854775807,0⟩,⟨3,0,0,8,24⟩,⟨3,0,0,4,608⟩]
def dn.h8(ab:dn):List e3:=[⟨ab.dF,cg,[]⟩,⟨ab.iE,cg,[]⟩,⟨ab.cu,cg,[]⟩,⟨ab.cS,cg,[]⟩,⟨0,cg,ab.gj⟩,⟨0,cg,ab.dY.map lL⟩]
def dn.dt(ab:dn):Except (Int×Int) (List UInt8):=g9 lc ab.h8
def oA{aU jA:Type}:Except aU jA->Bool
 |bA _=>G
 |b5 _=>U
def dn.bt(ab:dn):Bool:=oA ab.dt&&!ab.dY.any λah=>decide (ah.1<0)
def Af{aU:Type}:Except aU (List UInt8)->List UInt8
 |bA b=>b
 |b5 _=>[]
def dn.ch(ab:dn):List UInt8:=if ab.bt then Af ab.dt else[]
def pc(s:ByteArray):Int×ByteArray:=(H.wrap (fe ((eO s).take 8)),s.extract 8 s.size)
def vG:ByteArray:=⟨#[103,114,97,109,46,71,101,116]⟩
def w5:ByteArray:=⟨#[114,101,112,108,121,46,71,101,116]⟩
def vH(b:List UInt8):Except ex dn:=
 match mG lc b with
 |b5 (i,k)=>b5 (.d2 w5 0 (.d2 vG i (.dD k)))
 |bA aF=>match aF with
  |[d,b,c,ag,e,aj]=>
   if aj.df.any λs=>decide (s.size<8)then b5 (.d2 w5 0 (.dD 2))
   else
    let ab:dn:=⟨d.aR,b.aR,c.aR,ag.aR,e.df,aj.df.map pc⟩
    if ab.bt then bA ab else b5 (.d2 w5 0 (.dD 2))
  |_=>b5 (.dD 0)
def VM{d x:Nat}(a:d<2^j)(h:d+x*2^j<18446744073709551616):
  H.wrap ((iN 64 (d:Int)|||iN 64 (H.wrap ((x*2^j:Nat):Int))).toNat:Nat)=H.wrap ((d+x*2^j:Nat):Int):=by
 have e:(iN 64 (d:Int)|||iN 64 (H.wrap ((x*2^j:Nat):Int))).toNat=d+x*2^j:=by
  have c:=KJ (x:=x) a;have i:(2:Nat)^j>0:=Nat.pow_pos A;generalize x*2^j=b at*;have f:((d:Int)%((2:Nat)^64:Nat)).toNat=d:=A;have g:(H.wrap ((b:Nat):Int)%((2:Nat)^64:Nat)).toNat=b:=by rw[IntKind.wrap_i64];omega
  rw[<-c,BitVec.toNat_or,ur,ur,f,g]
 rw[e]
def Ag{ac:S->Prop}{d x:Nat}(a:d<2^j)(b:d+x*2^j<18446744073709551616):
  aV ad (dS .or ar (F H d) (F H (H.wrap ((x*2^j:Nat):Int)))) ac↔ac (F H (H.wrap ((d+x*2^j:Nat):Int))):=
 Ky.trans (Iff.of_eq (congrArg (λbm=>ac (F H bm)) (VM a b)))
def FK{n:Nat}:∀{a2:List ca}{ab:List UInt8}{aF:List e3},ir n a2 ab=bA aF->aF.length=a2.length
 |[],ab,aF,h=>by
  unfold ir at h;split at h
  ·cases h;rfl
  ·cases h
 |aj::a2,ab,aF,h=>by
  unfold ir at h;cases b:aj.jT ab with
  |error e=>rw[b]at h;cases h
  |ok ai=>
   obtain⟨aa,dr⟩:=ai;rw[b]at h;simp only at h;cases a:ir n a2 dr with
   |error e=>rw[a]at h;cases h
   |ok l=>
    rw[a]at h;simp only[nM]at h;cases h;simp[FK a]
def Ah{b:List UInt8}(h:mG a2 b=bA aF):ir b.length a2 b=bA aF/\∀aj∈a2,aj.bt=G:=by
 unfold mG at h;split at h
 ·cases h
 ·rename_i a;refine⟨h,λaj c=>?_⟩;cases d:aj.bt with
  |true=>rfl
  |false=>exact absurd (List.findIdx_lt_length_of_exists ⟨aj,c,by simp[d]⟩) a
def KM{b:List UInt8}(h:mG a2 b=bA aF):aF.length=a2.length:=FK (Ah h).1
def VN(l:List UInt8):fe (l.take 1)<=255:=by
 have h:=tL (l.take 1);have:(l.take 1).length<=1:=by rw[ea];omega
 have:=iL h (gz (pU A this) (show 256^1<=256 by omega));omega
def KN{gG:Int}:∀{k:Nat}{ab dr:List UInt8}{l:List ByteArray},nT gG k ab=bA (l,dr)->l.length=k
 |0,_,_,_,h=>by cases h;rfl
 |k+1,ab,dr,l,h=>by
  unfold nT at h;split at h
  ·cases h
  ·split at h
   ·cases h
   ·rename_i a;cases h;simp[KN a]
def VO{ab:List UInt8}{aa:e3}(h:aj.jT ab=bA (aa,dr)):aa.df.length<=255:=by
 unfold ca.jT at h;split at h
 ·split at h
  ·cases h
  ·cases h;simp
 ·split at h
  ·split at h
   ·cases h
   ·cases h;simp
  ·split at h
   ·cases h
   ·rename_i k aow a;split at h
    ·cases h
    ·rename_i b;cases h;rw[KN b];unfold kO at a;split at a
     ·cases a
     ·split at a
      ·cases a
      ·cases a;have:=VN ab;omega
def FL{n:Nat}:∀{a2:List ca}{ab:List UInt8}{aF:List e3},ir n a2 ab=bA aF->∀aa∈aF,aa.df.length<=255
 |[],ab,aF,h=>by
  unfold ir at h;split at h
  ·cases h;simp
  ·cases h
 |aj::a2,ab,aF,h=>by
  unfold ir at h;cases a:aj.jT ab with
  |error e=>rw[a]at h;cases h
  |ok ai=>
   obtain⟨aa,dr⟩:=ai;rw[a]at h;simp only at h;cases b:ir n a2 dr with
   |error e=>rw[b]at h;cases h
   |ok l=>
    rw[b]at h;simp only[nM]at h;cases h;intro x c;rcases ce.1 c with rfl|c
    ·exact VO a
    ·exact FL b x c
def VP(l:List UInt8):fe (l.take 2)<65536:=by
 have h:=tL (l.take 2);have:(l.take 2).length<=2:=by rw[ea];omega
 exact iL h (gz (pU A this) A)
def VQ{ay al:Int}{ab:List UInt8}{s:ByteArray}(h:o9 ay al ab=bA (s,dr)):s.size<=65535:=by
 unfold o9 at h;split at h
 ·cases h
 ·rename_i n aow a;split at h
  ·cases h
  ·cases h;unfold kO at a;split at a
   ·cases a
   ·split at a
    ·cases a
    ·cases a;have:=VP ab;show(List.toArray _).size<=_;rw[List.size_toArray,ea];omega
def KO{gG:Int}:∀{k:Nat}{ab dr:List UInt8}{l:List ByteArray},nT gG k ab=bA (l,dr)->∀s∈l,s.size<=65535
 |0,_,_,_,h=>by cases h;simp
 |k+1,ab,dr,l,h=>by
  unfold nT at h;split at h
  ·cases h
  ·rename_i s aow ao;split at h
   ·cases h
   ·rename_i b;cases h;intro x a;rcases ce.1 a with rfl|a
    ·exact VQ ao
    ·exact KO b x a
def VR{ab:List UInt8}{aa:e3}(h:aj.jT ab=bA (aa,dr)):∀s∈aa.df,s.size<=65535:=by
 unfold ca.jT at h;split at h
 ·split at h
  ·cases h
  ·cases h;simp
 ·split at h
  ·split at h
   ·cases h
   ·cases h;simp
  ·split at h
   ·cases h
   ·split at h
    ·cases h
    ·rename_i a;cases h;exact KO a
def KP{n:Nat}:∀{a2:List ca}{ab:List UInt8}{aF:List e3},ir n a2 ab=bA aF->∀aa∈aF,∀s∈aa.df,s.size<=65535
 |[],ab,aF,h=>by
  unfold ir at h;split at h
  ·cases h;simp
  ·cases h
 |aj::a2,ab,aF,h=>by
  unfold ir at h;cases a:aj.jT ab with
  |error e=>rw[a]at h;cases h
  |ok ai=>
   obtain⟨aa,dr⟩:=ai;rw[a]at h;simp only at h;cases b:ir n a2 dr with
   |error e=>rw[b]at h;cases h
   |ok l=>
    rw[b]at h;simp only[nM]at h;cases h;intro x c;rcases ce.1 c with rfl|c
    ·exact VR a
    ·exact KP b x c
def ya(ad:ft)(aj:Field):Option (Nat×Bool):=if aj.name== "_"then I else match ad.underlying aj.type with
 |some (.int k)=>(match k with|H=>E (aj.offset,U)|_=>I)
 |some .string=>E (aj.offset,G)
 |_=>I
def yb(ad:ft)(ar:co)(hT:List (Nat×Bool)):Prop:=
 ad.underlying ar=E (.struct (ad.fieldsOf ar))/\ad.stoodInHeld ar=U/\ad.eqGuardType ad.depth ar=U/\(ad.fieldsOf ar).toList.map (ya ad)=hT.map E
def nV(aS:Array S)(s:Nat×Bool):Prop:=match s.2 with
 |false=>∃n,aS[s.1]?=E (F H n)
 |true=>∃t,aS[s.1]?=E (bO t)
def m9:Option S->Option S->Bool
 |some (F _ d),E (F _ b)=>decide (d=b)
 |some (bO d),E (bO b)=>decide (d=b)
 |_,_=>U
section
def FM{aj:Field}{s:Nat×Bool}(h:ya ad aj=E s):aj.name≠ "_"/\aj.offset=s.1/\((s.2=U/\ad.underlying aj.type=E (.int H))\/(s.2=G/\ad.underlying aj.type=E .string)):=by
 unfold ya at h;split at h
 ·cases h
 ·rename_i b;refine⟨by simpa using b,?_⟩;split at h
  ·rename_i k a;cases k<;>simp at h;subst h;exact⟨rfl,Y ⟨rfl,a⟩⟩
  ·rename_i a;cases h;exact⟨rfl,Z ⟨rfl,a⟩⟩
  ·cases h
def FN{t:co}(h:ad.underlying t=E .string):(isAgg t).run ad w=bN U w:=by unfold isAgg underlying;simp[h]
def eqFields_flat{aS b7:Array S}(ag:Nat):∀(a2:List Field)(hT:List (Nat×Bool)),a2.map (ya ad)=hT.map E->(∀s∈hT,nV aS s/\nV b7 s)->
  (Op.eqFields (ag+1) aS b7 a2).run ad w=bN (hT.all λs=>m9 aS[s.1]? b7[s.1]?) w
 |[],[],_,_=>rfl
 |[],s::hT,h,_=>by cases h
 |aj::a2,[],h,_=>by cases h
 |aj::a2,s::hT,h,j=>by
  simp only[ge,ss]at h;obtain⟨k,i,d⟩:=FM h.1;obtain⟨l,m⟩:=j s fE;have o:=eqFields_flat ag a2 hT h.2 (λt p=>j t (ev _ p));obtain⟨af,b⟩:=s;simp only at i;rcases d with⟨e,d⟩|⟨e,d⟩
  ·simp only at e;subst e;obtain⟨ak,a⟩:=l;obtain⟨n,c⟩:=m;simp only at a c;simp only[Op.eqFields,k,ne_eq,not_false_eq_true,if_true,fx,part,Cz d,f7,fc,if_false,i,a,c,k5,run_equalIn_int w ag aj.type H H ak n d,List.all_cons];have f:m9 aS[af]? b7[af]?=decide (ak=n):=by rw[a,c];rfl
   rw[a,c]at f;rw[f];by_cases g:ak=n
   ·simp[g,o]
   ·simp[g]
  ·simp only at e;subst e;obtain⟨ak,a⟩:=l;obtain⟨n,c⟩:=m;simp only at a c;simp only[Op.eqFields,k,ne_eq,not_false_eq_true,if_true,fx,part,FN d,f7,fc,if_false,i,a,c,k5,run_equalIn_string w ag aj.type ak n d,List.all_cons,z3];have f:m9 aS[af]? b7[af]?=decide (ak=n):=by rw[a,c];rfl
   rw[a,c]at f;rw[f];by_cases g:ak=n
   ·simp[g,o]
   ·simp[g]
def apH{ac:S->Prop}{c:Bool}{aS:Array S}(h:yb ad ar hT)(a:∀s∈hT,nV aS s/\nV b7 s):
  aZ ad (eE .neq ar c (b6 aS) (b6 b7)) w ac↔ac (aK (!(hT.all λs=>m9 aS[s.1]? b7[s.1]?))):=
 j8 (by
  obtain⟨b,d,e,f⟩:=h;rw[FE e,run_neq_struct,run_equalIn_struct w 9999 ar aS b7 b d,eqFields_flat 9998 _ _ f a];rfl)
def KQ{ac:S->Prop}{c:Bool}{aS:Array S}(h:yb ad ar hT)(a:∀s∈hT,nV aS s/\nV b7 s):
  aZ ad (eE .eql ar c (b6 aS) (b6 b7)) w ac↔ac (aK (hT.all λs=>m9 aS[s.1]? b7[s.1]?)):=
 j8 (by
  obtain⟨b,d,e,f⟩:=h;rw[FE e,run_eql_struct,run_equalIn_struct w 9999 ar aS b7 b d,eqFields_flat 9998 _ _ f a];rfl)
end
section
section
variable{be:aU->List S}{l:List aU}
def KR(b:hO ad ar av a6 io bm)(k:∀a,bP a av a6 (T (E ⟨w.heap.size,0,I⟩) 0 0) 0 [] [w.heap.size]->Q [] w a->a.heap.size=w.heap.size+1->ac (T (E ⟨w.heap.size,0,I⟩) 0 0) a):
  W ad (jR ar 0 #[]) w ac:=by
 obtain⟨c,i,al,d,ao,e⟩:=b.wZ;refine(j9 (aa:=T (E ⟨w.heap.size,0,I⟩) 0 0) (a:=w.alloc (amv (#[]:Array S) av)) ?_).2 (k _ ?_ (ox _ _ _) B)
 ·unfold jR;apply gv ad _ w;simp[Instr.buildSlice,fK c,sizeOf,typeInfo,al,Instr.fill,newRow];rw[show(Array.range 0)=(#[]:Array Nat)from by apply Array.eq_empty_of_size_eq_zero;simp];simp
 ·exact⟨B,Z ⟨w.heap.size,0,0,[],rfl,rfl,sz w av [],fF _,by unfold d0;omega,B,B⟩⟩
def aT.sH(h:aT w be aa l)(a:∀x,(be x).length=a6)(al:i<l.length):∃b af c,aa=T (E ⟨b,af,I⟩) l.length c/\fu w b (af+i*a6) (be l[i]):=by obtain⟨d,c,rfl,g,e⟩:=h;obtain⟨b,af,rfl,f⟩:=e.resolve_left (by intro h;subst h;simp at al);exact⟨b,af,c,rfl,w1 a f (cr al)⟩
def aT.VS{d:Option es}{c:Nat}(a:∀x,(be x).length=a6)(h:aT w be (T d l.length c) l)(b:j<=l.length):aT w be (T (if c=0 then d else d.map (·.add (0*a6))) j c) (l.take j):=by have:=aT.d1 (i:=0) (j:=j) a h A b;simpa using this
def aT.gW(w:aN)(be:aU->List S):aT w be (T I 0 0) ([]:List aU):=⟨I,0,rfl,B,Y rfl⟩
end
open Go Go.RowKit
def KS{ac:S->Prop}{d b:UInt8}:aV ad (dS .xor ar (F cl d.toNat) (F cl b.toNat)) ac↔ac (F cl (d^^^b).toNat):=
 Cx.trans (Iff.of_eq (congrArg (λbm=>ac (F cl bm)) (by
  have e:(iN cl.bits ((d.toNat:Nat):Int)^^^iN cl.bits ((b.toNat:Nat):Int)).toNat=(d^^^b).toNat:=by show(iN 8 ((d.toNat:Nat):Int)^^^iN 8 ((b.toNat:Nat):Int)).toNat=_;rw[tq,BitVec.toNat_xor,ur,ur];have f:=d.toNat_lt;have g:=b.toNat_lt;have a:(((d.toNat:Nat):Int)%((2:Nat)^8:Nat)).toNat=d.toNat:=A;have c:(((b.toNat:Nat):Int)%((2:Nat)^8:Nat)).toNat=b.toNat:=A;rw[a,c]
  rw[e,pa];have:=(d^^^b).toNat_lt;omega)))
def VT{cf:List aU}{a:Nat}{aa:aU}:((cf.set (a+i) aa).drop a).take n=((cf.drop a).take n).set i aa:=by
 apply qC;intro j;rw[pT,List.getElem?_take,List.getElem?_take,oo,oo,pT];simp only[ea,e8];by_cases b:j<n
 ·by_cases c:i=j
  ·subst c;by_cases d:a+i<cf.length
   ·simp[b,d];omega
   ·have:¬(i<n/\i<cf.length-a):=A;simp[b,d,this];omega
  ·have:¬a+i=a+j:=A;simp[c,b,this]
 ·by_cases c:i=j
  ·subst c;simp[b];omega
  ·simp[c,b]
open Go Go.RowKit
def vI{c:Nat}(j:ep ad ar 1=G)(h:bP w av a6 (T (E ⟨b,af,I⟩) n c) n aS am)(al:i<aS.length)(l:ae.oneCell'=G)
  (k:∀a,bP a av a6 (T (E ⟨b,af,I⟩) n c) n (aS.set i ae) am->Q am w a->a.heap.size=w.heap.size->ac bS a):W ad (dC ar (aE (E ⟨b,af+i,I⟩)) ae) w ac:=by
 have m:=h.1;rcases h.2 with⟨d,_,_⟩|⟨g,v,bL,cf,d,e,o,f,p,q,r⟩
 ·cases d
 ·cases d;have x:n*a6<=c*a6:=mw _ f;refine eK j o A l λa s t u=>k a ⟨by rw[i9];exact m,Z ⟨b,af,c,_,rfl,e,s,f,p,by rw[i9];exact q,?_⟩⟩ (e▸t) u;rw[VT,r]
end
end
section
open Go.RowKit Go.Extern
section
def qQ{aj:FuncId}{e:Array S->Sem S}(b:ad.funcs[aj]?=E gr)(c:(gr.name== "runtime.NumGoroutine")=U)(d:gr.body.isNone=G)(f:Extern.findNext gr=I)(g:Extern.find gr=E e)(i:(e c8).run ad w=bN aa a)(k:ac aa a):W ad (ck aj c8) w ac:=by have j:ck aj c8=callFunc aj ((#[]++c8)++#[]):=rfl;have h:=run_callFunc_extern b c d f g c8 w;rw[i]at h;refine(j9 (aa:=aa) (a:=a) ?_).2 k;rw[j,Array.empty_append,Array.append_empty,h];rfl
def CL{ak:String}{t:co}{ab:S}{aj:FuncId}(a:(Go.method (ad.types.size+Made.depth) t aa ak).run ad w=bN (aj,ab) w)(h:W ad (ck aj #[ab]) w ac):W ad (o6 ak #[eZ t aa]) w ac:=by
 have b:(o6 ak #[eZ t aa]).run ad w=(ck aj #[ab]).run ad w:=by have c:ck aj #[ab]=callFunc aj #[ab]:=rfl;have d:o6 ak #[eZ t aa]=callMethod (eZ t aa) ak #[]:=rfl;rw[c,d];unfold callMethod;simp only[fx,run_program,f7,a];rfl
 unfold W at h⊢;rw[b];exact h
def FO{ak:String}{t:co}{ab d:S}{aj:FuncId}(a:(Go.method (ad.types.size+Made.depth) t aa ak).run ad w=bN (aj,ab) w)(h:W ad (ck aj #[ab,d]) w ac):W ad (o6 ak #[eZ t aa,d]) w ac:=by
 have b:(o6 ak #[eZ t aa,d]).run ad w=(ck aj #[ab,d]).run ad w:=by have c:ck aj #[ab,d]=callFunc aj #[ab,d]:=rfl;have e:o6 ak #[eZ t aa,d]=callMethod (eZ t aa) ak #[d]:=rfl;rw[c,e];unfold callMethod;simp only[fx,run_program,f7,a];rfl
 unfold W at h⊢;rw[b];exact h
def pd{ac:S->Prop}{x ab:S}{t d:co}(h:∀w,(sn x t d G).run ad w=bN ab w):aV ad (zN x t d G) ac↔ac ab:=hv λw=>by unfold zN;exact gv ad _ w (h w)
end
def KT(bm:Sem S)(aj:co->es->Nat->Nat->Sem S)(aa:S):
 zH bm aj #[aa]=(do match<-vr aa with|none=>bm|some (t,d,aoG)=>aj t d aoG (aoG%32)):=rfl
def VU(aa x:S):ReflectliteValue.set #[aa,x]=(do
 let(E (dst,d,aoG),E (a,b,_)):=(<-vr aa,<-vr x)
  |unsupported (.noEntry "extern/(internal/reflectlite.Value).Set.zeroValue")
 if aoG/ReflectliteValue.flagAddr%2==0 then unsupported (.noEntry "extern/(internal/reflectlite.Value).Set.unaddressable")
 let bI<-loadVar a b
 if<-Rtype.directlyAssignable dst a then storeVar dst d bI
 else if<-Rtype.implements dst a then
  if(<-Rtype.kind a)==20 then
   match bI with
   |cT=>unsupported (.noEntry "extern/reflectlite: a nil value of one interface type handed on as a value of another")
   |_=>storeVar dst d bI
  else storeVar dst d (eZ a bI)
 else panicString ("reflectlite.Set: value of type "++(<-Rtype.spelt a)++ " is not assignable to type "++(<-Rtype.spelt dst))
 fh (bQ #[])):=rfl
section
def VV{d ah:es}{aoG:Nat}(a:(vr aa).run ad w=bN (E (ar,d,aoG)) w)(b:([18,19,20,21,22,23,26].contains (aoG%32))=G)(c:fZ ad ar=G)(e:w.cell? d=E (aE (E ah))):
  (zH (wG "reflectlite.Value.IsNil" 0) ReflectliteValue.isNil #[aa]).run ad w=bN (aK U) w:=by
 rw[KT];simp only[fx,a,f7];unfold ReflectliteValue.isNil;have f:(loadVar ar d).run ad w=bN (aE (E ah)) w:=by simp only[loadVar,fx,Cs c,f7,fc,if_false,run_load,e]
 simp only[b,hq,fc,if_false,fx,f,f7,k5]
def VW{ab:S}{d ah:es}{aoG:Nat}(a:(vr aa).run ad w=bN (E (ar,d,aoG)) w)(b:aoG%32=22)(c:fZ ad ar=G)(e:w.cell? d=E (aE (E ah)))
  (f:(Rtype.elem? ar).run ad w=bN (E av) w) (g:(ReflectliteValue.mk av ah ReflectliteValue.flagAddr).run ad w=bN ab w):
  (zH (wG "reflectlite.Value.Elem" 0) ReflectliteValue.elem #[aa]).run ad w=bN ab w:=by
 rw[KT];simp only[fx,a,f7];unfold ReflectliteValue.elem;have h:(loadVar ar d).run ad w=bN (aE (E ah)) w:=by simp only[loadVar,fx,Cs c,f7,fc,if_false,run_load,e]
 simp[b,h,f,g]
def VX{x bI:S}{d b:es}{aoG c:Nat}(e:(vr aa).run ad w=bN (E (ar,d,aoG)) w)(f:(vr x).run ad w=bN (E (ar,b,c)) w)
  (g:(aoG/ReflectliteValue.flagAddr%2==0)=U) (h:(loadVar ar b).run ad w=bN bI w) (i:(Rtype.directlyAssignable ar ar).run ad w=bN G w) (ao:(storeVar ar d bI).run ad w=bN () a):
  (ReflectliteValue.set #[aa,x]).run ad w=bN (bQ #[]) a:=by
 rw[VU];simp only[fx,e,f,f7,g,fc,if_false,h,i,if_true,ao,k5]
def VY{d:es}(h:(a4 ar (aE (E d))).run ad w=bN (fw aa) w):(loadVar ar d).run ad w=bN aa w:=by have a:=Kl h;simpa[asAddr]using a
def VZ{d:es}(h:(dC ar (aE (E d)) aa).run ad w=bN .skip a):(storeVar ar d aa).run ad w=bN () a:=by
 unfold dC at h;simp only[Instr.storeAt,Instr.sureAddr,pure_bind,fx]at h;cases b:(storeVar ar d aa).run ad w with
 |ok ae ax=>
  rw[b]at h;simp at h;obtain⟨rfl⟩:=h;rfl
 |halt x ax=>rw[b]at h;simp at h
end
end
section
open Go.RowKit
def mI(ad:ft)(ar av:co)(n:Nat):Prop:=ad.underlying ar=E (.array n av)
section
variable{ac:S->Prop}
def kc{ai:iz}(h:mI ad ar av n)(ao:ep ad av a6=G)(a:i<n):
  aV ad (fY ar (aE (E ⟨b,af,I⟩)) (F ai i)) ac↔ac (aE (E ⟨b,af+i*a6,I⟩)):=by
 refine hv λw=>?_;obtain⟨e,c,d⟩:=tH ao;unfold mI at h;unfold fY;apply gv ad _ w;have f:(i:Int)<n:=A;simp[Instr.indexAt,asIntOf,fK h,Instr.sureAddr,fx,sA c d,a,jC]
def yc(h:mI ad ar av n)(ao:ep ad av a6=G):
  aV ad (l5 ar (aE (E ⟨b,af,I⟩)) I I I) ac↔ac (T (E ⟨b,af,I⟩) n n):=by
 refine hv λw=>?_;obtain⟨e,a,c⟩:=tH ao;unfold mI at h;unfold l5;apply gv ad _ w;simp[Instr.sliceAt,fK h,Instr.sureAddr,Instr.sliceBounds,Instr.sliceBound,asIntOf,sA a c,jC]
def KU{c:Bool}{k e:co}(h:ad.underlying ar=E (.map k e)):aZ ad (eE .eql ar c (eB (E ab)) (eB I)) w ac↔ac (aK U):=j8 (by
 unfold eE;apply gv ad _ w;have:eqGuard .eql ar (bif c then .const bS else .tmp 0) (.tmp 0) (eB (E ab)) (eB I)=fh ():=by cases c<;>rfl
 rw[this];simp only[pure_bind];simp only[binOp,Op.equal,Op.maxDepth];have e:∀ag:Nat,(lF (ag+1) ar (eB (E ab)) (eB I)).run ad w=bN U w:=λag=>by simp[lF,fK h]
 have:=e 9999;simp[this])
def KV{t d:co}(h:sF ad d=G):aV ad (zN (eZ d aa) t d U) ac↔ac aa:=hv λw=>by
 unfold sF at h;unfold zN;apply gv ad _ w;cases a:ad.underlying d with
 |none=>rw[a]at h;cases h
 |some ag=>
  rw[a]at h;simp only[sn,fx,fK a,f7];cases ag<;>first|(simp;done)|cases h
end
def V0{bI:aU->S}{l:List (Int×aU)}(t:co)(h:kb w ab bI l):
  ∃a,(B5 #[eZ t (eB (E ab))]).run ad w=bN (eZ t (eB (E w.heap.size))) a/\kb a w.heap.size bI l/\Q [] w a/\a.heap.size=w.heap.size+1:=by
 obtain⟨bx,b,c,d⟩:=h;have e:B5 #[eZ t (eB (E ab))]=(getObj ab>>=λaf=>match af with
   |.map f b=>(newObj (.map f b)>>=λn=>fh (eZ t (eB (E n))))
   |_=>stuck "maps.clone: a map expected"):=rfl
 refine⟨w.alloc (.map bx b),?_,⟨bx,b,heap_alloc_new w _,d⟩,ox _ _ _,B⟩;rw[e];simp[pS c,tn]
def eH.sI{aO:co}{aj:Nat}{be:aU->List S}{bI:aU->S}{ac:S->Prop}(d:eH ad ar av a6 be bI){l:List aU}{ai:iz}(e:aT w be fH l)(f:Q [] w a)(al:i<l.length)
  (g:wY ad av aj eM=G) (h:fZ ad aO=G) (j:(be l[i])[eM]?=E ae):
  (aV ad (fY ar fH (F ai i)) λaa=>aV ad (gB av aa aj) λc=>aZ ad (a4 aO c) a ac)↔ac ae:=by
 obtain⟨b,af,c,rfl,k⟩:=e.sH d.dT al;rw[hP d.cY d.aI al,FD g];exact bl h (la (k.J f B) j)
def p3{be:aU->List S}{l:List aU}(h:aC w b av (l.flatMap be)):aT w be (T (E ⟨b,0,I⟩) l.length l.length) l:=
 ⟨_,_,rfl,fF _,Z ⟨b,0,rfl,h.cy⟩⟩
def eH.gc{aO:co}{aj:Nat}{be:aU->List S}{bI:aU->S}{ac:S->S->Prop}(d:eH ad ar av a6 be bI){l:List aU}{ai:iz}(h:aT w be fH l)(j:Q [] w a)(al:i<l.length)
  (m:wY ad av aj eM=G) (n:fZ ad aO=G) (f:(be l[i])[eM]?=E ae) (k:∀cs:es,(∀e,Q [] w e->e.cell? cs=E ae)->ac (aE (E cs)) ae):
  (aV ad (fY ar fH (F ai i)) λaa=>aV ad (gB av aa aj) λc=>aZ ad (a4 aO c) a λae=>ac c ae):=by
 obtain⟨b,af,c,rfl,g⟩:=h.sH d.dT al;rw[hP d.cY d.aI al,FD m];refine(bl n (la (g.J j B) f)).2 (k _ λe o=>la (g.J o B) f)
def na{ac:S->Prop}{d b c:S}:aV ad (gH (bQ #[d,b,c]) 0) ac↔ac d:=qO rfl
def oB{ac:S->Prop}{d b c:S}:aV ad (gH (bQ #[d,b,c]) 1) ac↔ac b:=qO rfl
def oC{ac:S->Prop}{d b c:S}:aV ad (gH (bQ #[d,b,c]) 2) ac↔ac c:=qO rfl
def KW(d b:Nat):go d b=decide (d=b):=by
 cases h:go d b with
 |true=>have:=lD h;simp[this]
 |false=>have:=Nat.ne_of_beq_eq_false h;simp[this]
def V1{aU jA:Type}(aj:aU->jA)(l:List aU):m5 aj l.toArray=(l.map aj).toArray:=by rw[xV];simp
def V2{aU:Sort _}(c:Bool)(d b:aU):cond c d b=(match c with|true=>d|false=>b):=by cases c<;>rfl
def V3{aU:Type}(d:aU)(l:List aU)(ag:aU):(d::l).toArray.getD 0 ag=d:=B
def V4(ak i:Nat):p0 ak i=decide (ak>>>i&&&1=1):=by unfold p0;rw[KW];rfl
def a8:=And.intro @Go.X.Cg.eq_1 (And.intro @Go.X.xZ.eq_1 (And.intro @Go.X.cC.eq_1 (And.intro @Go.X.cC.eq_2 (And.intro @Go.X.cC.eq_3 (And.intro @Go.X.cC.eq_4 (And.intro @Go.X.cC.eq_5 (And.intro @Go.X.cC.eq_6 (And.intro @Go.X.cC.eq_7 (And.intro @Go.X.cC.eq_8 (And.intro @Go.X.cC.eq_9 (And.intro @Go.X.cC.eq_10 (And.intro @Go.X.cC.eq_11 (And.intro @Go.X.cC.eq_12 (And.intro @Go.X.cC.eq_13 (And.intro @Go.X.cC.eq_14 (And.intro @Go.X.nQ.eq_1 (And.intro @Go.X.nQ.eq_2 (And.intro @Go.X.nQ.eq_3 (And.intro @Go.X.wP.eq_1 (And.intro @Go.X.wP.eq_2 (And.intro @Go.X.zO.eq_1 (And.intro @Go.X.kK.eq_1 (And.intro @Go.X.cm.eq_1 (And.intro @Go.X.cm.eq_2 (And.intro @Go.X.cm.eq_3 (And.intro @Go.X.cm.eq_4 (And.intro @Go.X.eN.dt.eq_1 (And.intro @Go.X.eN.dt.eq_2 (And.intro @Go.X.B8.eq_1 (And.intro @Go.X.uH.eq_1 (And.intro @Go.X.uH.eq_2 (And.intro @Go.X.uH.eq_3 (And.intro @Go.X.uH.eq_4 (And.intro @Go.X.uH.eq_5 (And.intro @Go.X.vD.eq_1 (And.intro @Go.X.vD.eq_2 (And.intro @Go.X.vD.eq_3 (And.intro @Go.X.vD.eq_4 (And.intro @Go.X.vD.eq_5 (And.intro @Go.X.Fv.eq_1 (And.intro @Go.X.Cf.eq_1 (And.intro @Go.X.Cf.eq_2 (And.intro @Go.X.Cf.eq_3 (And.intro @Go.X.uI.eq_1 (And.intro @Go.X.uI.eq_2 (And.intro @Go.X.uI.eq_3 (And.intro @Go.X.wV.eq_1 (And.intro @Go.X.wV.eq_2 (And.intro @Go.X.zW.eq_1 (And.intro @Go.X.wT.eq_1 (And.intro @Go.X.wT.eq_2 (And.intro @Go.X.wU.eq_1 (And.intro @Go.X.wU.eq_2 (And.intro @Go.X.j6.eq_1 (And.intro @Go.X.j6.eq_2 (And.intro @Go.X.j6.eq_3 (And.intro @Go.X.j6.eq_4 (And.intro @Go.X.j6.eq_5 (And.intro @Go.X.j6.eq_6 (And.intro @Go.X.j6.eq_7 (And.intro @Go.X.tz.eq_1 (And.intro @Go.X.b2.uG.eq_1 (And.intro @Go.X.b2.uG.eq_2 (And.intro @Go.X.b2.uG.eq_3 (And.intro @Go.X.b2.zV.eq_1 (And.intro @Go.X.b2.zV.eq_2 (And.intro @Go.X.wQ.eq_1 (And.intro @Go.X.ty.eq_1 (And.intro @Go.X.ty.eq_2 (And.intro @Go.X.ty.eq_3 (And.intro @Go.X.ty.eq_4 (And.intro @Go.X.ty.eq_5 (And.intro @Go.X.xW.eq_1 (And.intro @Go.X.xW.eq_2 (And.intro @Go.X.qK.eq_1 (And.intro @Go.X.qK.eq_2 (And.intro @Go.X.ow.eq_1 (And.intro @Go.X.kL.eq_1 (And.intro @Go.X.kL.eq_2 (And.intro @Go.X.nP.eq_1 (And.intro @Go.X.nP.eq_2 (And.intro @Go.X.uB.eq_1 (And.intro @Go.X.uB.eq_2 (And.intro @Go.X.m6.br.eq_1 (And.intro @Go.X.m6.br.eq_2 (And.intro @om.{0} (And.intro @List.size_toArray.{0} (And.intro @gF.{0} (And.intro @tl.{0} (And.intro @List.range.eq_1 (And.intro @List.range.loop.eq_1 (And.intro @List.range.loop.eq_2 (And.intro @List.getElem?_toArray.{0} (And.intro @List.getElem?_cons_zero.{0} (And.intro @List.getElem?_cons_succ.{0} (And.intro @KW (And.intro @decide_true (And.intro @decide_false (And.intro @kt.{0} (And.intro @up.{0} (And.intro @tg.{0,0} (And.intro @ge.{0,0} (And.intro @tp.{0,0} (And.intro @Bool.or_true (And.intro @Bool.or_false (And.intro @Bool.true_or (And.intro @Bool.false_or (And.intro @hq (And.intro @lE (And.intro @V1 (And.intro @V2.{1} (And.intro @V3 (And.intro @m1.{0,0} (And.intro @Option.map_none.{0,0} (And.intro @V4 (And.intro @List.filterMap_cons.{0,0} (And.intro @List.filterMap_nil.{0,0} (And.intro @jN.{0} (And.intro @m2.{0} (And.intro @pV (And.intro @Bool.and_true (And.intro @Bool.false_and (@Bool.and_false)))))))))))))))))))))))))))))))))))))))))))))))))))))))))))))))))))))))))))))))))))))))))))))))))))))))))))))))))))))))))))
def a9{aj:FuncId}{c8:List S}(fm:b2)(k:Nat)(b:ad.funcs[aj]?=E gr)(d8:Ch ad gr fm k=G)(c:c8.length=k)(h:∀a,a=bb->Cg ad gr fm c8 w a):Calls ad aj c8.toArray w bb:=
 Kn (fm:=fm) b d8 c (h bb rfl)
end
end Go.X
namespace Go.Proofs.YtepeilglbedgdaaGreatDoor
open Go.X
def V5:z0 C 25 1 1=G:=K
def KX:z0 C 25 3 3=G:=K
def KY:sC C 27:=by unfold sC;kernel_rfl
def V6:sC C 63:=by unfold sC;kernel_rfl
def FP:sC C 132:=by unfold sC;kernel_rfl
def KZ:sC C 260:=by unfold sC;kernel_rfl
def CM:sC C 345:=by unfold sC;kernel_rfl
def bZ:fZ C 3=G:=K
def hl:ep C 3 1=G:=K
def Ai:fZ C 4=G:=K
def yd:ep C 4 1=G:=K
def mb:fZ C 5=G:=K
def el:ep C 5 1=G:=K
def oD:fZ C 9=G:=K
def vJ:ep C 9 1=G:=K
def Aj:fZ C 22=G:=K
def CN:ep C 22 1=G:=K
def CO:fZ C 30=G:=K
def V7:ep C 30 1=G:=K
def Ak:fZ C 33=G:=K
def Al:ep C 33 1=G:=K
def mc:fZ C 34=G:=K
def K0:ep C 34 1=G:=K
def FQ:fZ C 35=G:=K
def K1:ep C 35 1=G:=K
def nb:fZ C 52=G:=K
def mJ:ep C 52 1=G:=K
def K2:fZ C 56=G:=K
def FR:ep C 56 1=G:=K
def V8:fZ C 57=G:=K
def CP:fZ C 63=G:=K
def CQ:fZ C 64=G:=K
def FT:fZ C 73=G:=K
def K3:ep C 73 1=G:=K
def K4:fZ C 118=G:=K
def V9:ep C 118 1=G:=K
def Wa:fZ C 122=G:=K
def Wb:ep C 122 1=G:=K
def K5:fZ C 123=G:=K
def Wc:ep C 123 1=G:=K
def K6:fZ C 130=G:=K
def CR:ep C 130 1=G:=K
def FU:fZ C 132=G:=K
def K7:ep C 132 1=G:=K
def Wd:fZ C 133=G:=K
def K8:ep C 133 1=G:=K
def K9:fZ C 134=G:=K
def La:ep C 134 1=G:=K
def FV:fZ C 144=G:=K
def rA:fZ C 183=G:=K
def FW:ep C 183 1=G:=K
def Lb:fZ C 184=G:=K
def Lc:ep C 184 1=G:=K
def We:fZ C 193=G:=K
def FX:fZ C 201=G:=K
def Wf:fZ C 202=G:=K
def Wg:fZ C 211=G:=K
def Wh:ep C 211 1=G:=K
def CS:fZ C 260=G:=K
def Wi:fZ C 285=G:=K
def Wj:fZ C 311=G:=K
def Wk:ep C 311 1=G:=K
def Am:fZ C 347=G:=K
def w6:fZ C 350=G:=K
def sJ:fZ C 356=G:=K
def Ld:ep C 356 1=G:=K
def FY:fZ C 413=G:=K
def FZ:fZ C 457=G:=K
def ye:iP C 25 5=G:=K
def Wl:ep C 25 5=G:=K
def F0:iP C 37 6=G:=K
def yf:ep C 37 6=G:=K
def F1:iP C 41 4=G:=K
def yg:ep C 41 4=G:=K
def CT:iP C 43 14=G:=K
def Wm:ep C 43 14=G:=K
def aph:iP C 51 7=G:=K
def F2:iP C 54 11=G:=K
def Wn:ep C 54 11=G:=K
def Wo:iP C 59 8=G:=K
def Wp:ep C 59 8=G:=K
def F3:iP C 70 2=G:=K
def yh:ep C 70 2=G:=K
def An:iP C 82 11=G:=K
def Wq:ep C 82 11=G:=K
def Wr:ep C 104 16=G:=K
def Ws:iP C 121 7=G:=K
def Le:ep C 121 7=G:=K
def Lf:iP C 152 3=G:=K
def tM:ep C 152 3=G:=K
def Lg:iP C 179 15=G:=K
def F4:ep C 179 15=G:=K
def Ao:iP C 190 3=G:=K
def Wt:ep C 190 3=G:=K
def Lh:iP C 220 3=G:=K
def Wu:ep C 220 3=G:=K
def yi:iP C 232 5=G:=K
def vK:ep C 232 5=G:=K
def anx:iP C 259 2=G:=K
def am4:ep C 259 2=G:=K
def Wv:iP C 293 108=G:=K
def Ww:ep C 293 108=G:=K
def Li:iP C 294 108=G:=K
def CU:ep C 294 108=G:=K
def CV:iP C 310 3=G:=K
def yj:ep C 310 3=G:=K
def tN:iP C 317 112=G:=K
def Ap:ep C 317 112=G:=K
def Wx:iP C 337 7=G:=K
def Wy:ep C 337 7=G:=K
def Wz:iP C 349 2=G:=K
def F5:ep C 349 2=G:=K
def uL:iP C 354 5=G:=K
def rB:ep C 354 5=G:=K
def WA:iP C 401 3=G:=K
def WB:ep C 401 3=G:=K
def WC:iP C 412 2=G:=K
def WD:ep C 412 2=G:=K
def WE:iP C 426 3=G:=K
def CW:ep C 426 3=G:=K
def WF:du C 3 (F H 0):=by unfold du;kernel_rfl
def WG:du C 5 (F cl 0):=by unfold du;kernel_rfl
def WH:du C 9 (bO ⟨#[]⟩):=by unfold du;kernel_rfl
def WI:du C 33 (F H 0):=by unfold du;kernel_rfl
def CX:du C 37 (b6 #[F H 0,F H 0,F H 0,F H 0,T I 0 0,T I 0 0]):=by unfold du;kernel_rfl
def CY:du C 41 (b6 #[F H 0,F H 0,F H 0,T I 0 0]):=by unfold du;kernel_rfl
def CZ:du C 52 (T I 0 0):=by unfold du;kernel_rfl
def Aq:du C 70 (b6 #[F H 0,bO ⟨#[]⟩]):=by unfold du;kernel_rfl
def WJ:du C 121 (b6 #[F H 0,F H 0,F H 0,F H 0,F H 0,T I 0 0,T I 0 0]):=by unfold du;kernel_rfl
def WK:du C 122 (aE I):=by unfold du;kernel_rfl
def C0:du C 152 (b6 #[F H 0,bO ⟨#[]⟩,T I 0 0]):=by unfold du;kernel_rfl
def WL:du C 179 (b6 #[F H 0,F H 0,F H 0,bO ⟨#[]⟩,bO ⟨#[]⟩,F H 0,F H 0,F H 0,F H 0,F H 0,F H 0,F H 0,F H 0,F H 0,T I 0 0]):=by unfold du;kernel_rfl
def WM:du C 183 (T I 0 0):=by unfold du;kernel_rfl
def WN:du C 190 (b6 #[aE I,aE I,F hr 0]):=by unfold du;kernel_rfl
def F6:du C 232 (b6 #[F H 0,F H 0,F H 0,F H 0,F H 0]):=by unfold du;kernel_rfl
def am6:du C 259 (b6 #[bO ⟨#[]⟩,F H 0]):=by unfold du;kernel_rfl
def WO:du C 310 (b6 #[F H 0,F H 0,T I 0 0]):=by unfold du;kernel_rfl
def WP:du C 311 (T I 0 0):=by unfold du;kernel_rfl
def WQ:du C 349 (b6 #[aE I,aE I]):=by unfold du;kernel_rfl
def C1:du C 354 (b6 #[F H 0,F H 0,F H 0,F H 0,F H 0]):=by unfold du;kernel_rfl
def Lj:du C 412 (b6 #[F H 0,T I 0 0]):=by unfold du;kernel_rfl
def F7:du C 426 (b6 #[F H 0,F H 0,F H 0]):=by unfold du;kernel_rfl
def WR:du C 466 (b6 #[F H 0,F H 0,F H 0,F H 0,F H 0,F H 0,F H 0,F H 0]):=by unfold du;kernel_rfl
def vL:gV C 22 3=G:=K
def uM:hO C 22 3 1 8 (F H 0):=⟨vL,K,K,WF,rfl,by decide⟩
def Lk:gV C 23 54=G:=K
def Ar:gV C 34 9=G:=K
def vM:hO C 34 9 1 16 (bO ⟨#[]⟩):=⟨Ar,K,K,WH,rfl,by decide⟩
def C2:gV C 35 70=G:=K
def C3:hO C 35 70 2 24 (b6 #[F H 0,bO ⟨#[]⟩]):=⟨C2,K,K,Aq,rfl,by decide⟩
def fP:gV C 52 5=G:=K
def ky:hO C 52 5 1 1 (F cl 0):=⟨fP,K,K,WG,rfl,by decide⟩
def WS:gV C 57 173=G:=K
def WT:gV C 76 51=G:=K
def C4:gV C 93 37=G:=K
def Ll:hO C 93 37 6 80 (b6 #[F H 0,F H 0,F H 0,F H 0,T I 0 0,T I 0 0]):=⟨C4,K,K,CX,rfl,by decide⟩
def C5:gV C 118 121=G:=K
def F8:hO C 118 121 7 88 (b6 #[F H 0,F H 0,F H 0,F H 0,F H 0,T I 0 0,T I 0 0]):=⟨C5,K,K,WJ,rfl,by decide⟩
def F9:gV C 123 122=G:=K
def Lm:hO C 123 122 1 8 (aE I):=⟨F9,K,K,WK,rfl,by decide⟩
def C6:gV C 134 179=G:=K
def Ln:hO C 134 179 15 152 (b6 #[F H 0,F H 0,F H 0,bO ⟨#[]⟩,bO ⟨#[]⟩,F H 0,F H 0,F H 0,F H 0,F H 0,F H 0,F H 0,F H 0,F H 0,T I 0 0]):=⟨C6,K,K,WL,rfl,by decide⟩
def Ga:gV C 137 183=G:=K
def WU:hO C 137 183 1 24 (T I 0 0):=⟨Ga,K,K,WM,rfl,by decide⟩
def rC:gV C 146 152=G:=K
def vN:hO C 146 152 3 48 (b6 #[F H 0,bO ⟨#[]⟩,T I 0 0]):=⟨rC,K,K,C0,rfl,by decide⟩
def yk:gV C 149 232=G:=K
def As:hO C 149 232 5 40 (b6 #[F H 0,F H 0,F H 0,F H 0,F H 0]):=⟨yk,K,K,F6,rfl,by decide⟩
def pe:gV C 183 52=G:=K
def mK:hO C 183 52 1 24 (T I 0 0):=⟨pe,K,K,CZ,rfl,by decide⟩
def At:gV C 211 294=G:=K
def WV:gV C 256 259=G:=K
def anz:hO C 256 259 2 24 (b6 #[bO ⟨#[]⟩,F H 0]):=⟨WV,K,K,am6,rfl,by decide⟩
def WW:gV C 280 73=G:=K
def Au:gV C 311 317=G:=K
def C7:gV C 344 349=G:=K
def Gb:hO C 344 349 2 16 (b6 #[aE I,aE I]):=⟨C7,K,K,WQ,rfl,by decide⟩
def tO:gV C 356 354=G:=K
def C8:hO C 356 354 5 40 (b6 #[F H 0,F H 0,F H 0,F H 0,F H 0]):=⟨tO,K,K,C1,rfl,by decide⟩
def Av:gV C 363 310=G:=K
def WX:hO C 363 310 3 40 (b6 #[F H 0,F H 0,T I 0 0]):=⟨Av,K,K,WO,rfl,by decide⟩
def Lo:gV C 366 412=G:=K
def Gc:hO C 366 412 2 32 (b6 #[F H 0,T I 0 0]):=⟨Lo,K,K,Lj,rfl,by decide⟩
def Gd:gV C 392 311=G:=K
def WY:hO C 392 311 1 24 (T I 0 0):=⟨Gd,K,K,WP,rfl,by decide⟩
def kd:iq C 3 H:=by unfold iq;kernel_rfl
def oE:iq C 5 cl:=by unfold iq;kernel_rfl
def Lp:iq C 56 hS:=by unfold iq;kernel_rfl
def tP:iq C 155 hr:=by unfold iq;kernel_rfl
def Ge:iq C 173 hr:=by unfold iq;kernel_rfl
def vO:sG C 30 4:=⟨3,K,K⟩
def w7:sG C 184 52:=⟨3,K,K⟩
def Gf:sG C 457 426:=⟨3,K,K⟩
def WZ:bf C 9=G:=K
def Lq:bf C 10=G:=K
def W0:bf C 11=G:=K
def W1:bf C 12=G:=K
def W2:bf C 13=G:=K
def W3:bf C 14=G:=K
def C9:bf C 15=G:=K
def W5:bf C 17=G:=K
def W6:bf C 20=G:=K
def W7:bf C 21=G:=K
def Lr:bf C 22=G:=K
def amX:bf C 23=G:=K
def anA:bf C 24=G:=K
def apI:bf C 25=G:=K
def W8:bf C 26=G:=K
def apJ:bf C 27=G:=K
def W9:bf C 28=G:=K
def Xa:bf C 29=G:=K
def Xb:bf C 31=G:=K
def apK:bf C 32=G:=K
def Xc:bf C 33=G:=K
def Gg:bf C 34=G:=K
def Xd:bf C 35=G:=K
def Xe:bf C 36=G:=K
def Xf:bf C 37=G:=K
def Gh:bf C 38=G:=K
def yl:bf C 39=G:=K
def Gi:bf C 40=G:=K
def Xg:bf C 41=G:=K
def Xh:bf C 42=G:=K
def apL:bf C 43=G:=K
def Xi:bf C 44=G:=K
def Xj:bf C 46=G:=K
def Xk:bf C 47=G:=K
def Xl:bf C 48=G:=K
def Xm:bf C 49=G:=K
def Ls:bf C 50=G:=K
def Xn:bf C 51=G:=K
def ym:bf C 52=G:=K
def Xo:bf C 53=G:=K
def Xp:bf C 54=G:=K
def Da:bf C 55=G:=K
def Lt:bf C 56=G:=K
def Xq:bf C 57=G:=K
def Xr:bf C 58=G:=K
def nz:bf C 59=G:=K
def Xs:bf C 60=G:=K
def Gj:bf C 61=G:=K
def Db:bf C 62=G:=K
def Gk:bf C 63=G:=K
def Lu:bf C 64=G:=K
def apM:bf C 65=G:=K
def Xt:bf C 66=G:=K
def w8:bf C 67=G:=K
def apN:bf C 68=G:=K
def Xu:bf C 69=G:=K
def Xv:bf C 70=G:=K
def yn:bf C 71=G:=K
def Xw:bf C 72=G:=K
def Xx:bf C 73=G:=K
def Xy:bf C 74=G:=K
def Xz:bf C 75=G:=K
def XA:bf C 76=G:=K
def Lv:bf C 77=G:=K
def XB:bf C 78=G:=K
def XC:bf C 79=G:=K
def Lw:bf C 80=G:=K
def Lx:bf C 81=G:=K
def XD:bf C 82=G:=K
def XE:bf C 83=G:=K
def XF:bf C 84=G:=K
def XG:bf C 85=G:=K
def XH:bf C 86=G:=K
def XI:bf C 87=G:=K
def XJ:bf C 88=G:=K
def XK:bf C 89=G:=K
def XL:bf C 90=G:=K
def XM:bf C 91=G:=K
def XN:bf C 92=G:=K
def XO:bf C 96=G:=K
def XP:bf C 98=G:=K
def XQ:bf C 99=G:=K
def XR:bf C 100=G:=K
def tQ:bf C 101=G:=K
def Ly:bf C 102=G:=K
def Lz:bf C 103=G:=K
def XS:bf C 104=G:=K
def XT:bf C 105=G:=K
def LA:bf C 106=G:=K
def XU:bf C 107=G:=K
def LB:bf C 108=G:=K
def LC:bf C 109=G:=K
def XV:bf C 110=G:=K
def Gl:bf C 111=G:=K
def yo:bf C 112=G:=K
def Gm:bf C 113=G:=K
def Gn:bf C 114=G:=K
def LD:bf C 115=G:=K
def Aw:bf C 116=G:=K
def XW:bf C 117=G:=K
def LE:bf C 118=G:=K
def LF:bf C 119=G:=K
def LG:bf C 120=G:=K
def XX:bf C 121=G:=K
def XY:bf C 122=G:=K
def XZ:bf C 123=G:=K
def X0:bf C 124=G:=K
def X1:bf C 125=G:=K
def X2:bf C 126=G:=K
def X3:bf C 127=G:=K
def X4:bf C 128=G:=K
def X5:bf C 129=G:=K
def LH:bf C 130=G:=K
def LI:bf C 131=G:=K
def Gp:bf C 132=G:=K
def X6:bf C 133=G:=K
def X7:bf C 134=G:=K
def X8:bf C 135=G:=K
def X9:bf C 137=G:=K
def LJ:bf C 138=G:=K
def Ya:bf C 139=G:=K
def Yb:bf C 140=G:=K
def anB:bf C 141=G:=K
def Yc:bf C 142=G:=K
def Yd:bf C 143=G:=K
def Ye:bf C 144=G:=K
def Yf:bf C 145=G:=K
def Yg:bf C 146=G:=K
def Yh:bf C 147=G:=K
def Yi:bf C 148=G:=K
def Yj:bf C 151=G:=K
def Yk:bf C 152=G:=K
def Dc:bf C 153=G:=K
def Gq:bf C 154=G:=K
def LK:bf C 155=G:=K
def Yl:bf C 156=G:=K
def Ym:bf C 157=G:=K
def Yn:bf C 159=G:=K
def Dd:bf C 160=G:=K
def LL:bf C 161=G:=K
def LM:bf C 162=G:=K
def Yo:bf C 163=G:=K
def Yp:bf C 164=G:=K
def Yq:bf C 165=G:=K
def Yr:bf C 166=G:=K
def Ys:bf C 167=G:=K
def Yt:bf C 168=G:=K
def LN:bf C 169=G:=K
def Yu:bf C 170=G:=K
def Yv:bf C 171=G:=K
def LO:bf C 172=G:=K
def LP:bf C 173=G:=K
def Gr:bf C 174=G:=K
def LQ:bf C 175=G:=K
def De:bf C 176=G:=K
def LR:bf C 177=G:=K
def LS:bf C 178=G:=K
def Gs:bf C 179=G:=K
def Yw:bf C 180=G:=K
def LT:bf C 181=G:=K
def LU:bf C 182=G:=K
def LV:bf C 183=G:=K
def LW:bf C 184=G:=K
def Gt:bf C 185=G:=K
def LX:bf C 186=G:=K
def Yx:bf C 187=G:=K
def Gu:bf C 188=G:=K
def LY:bf C 189=G:=K
def LZ:bf C 190=G:=K
def L0:bf C 191=G:=K
def Ax:bf C 192=G:=K
def L1:bf C 193=G:=K
def Yy:bf C 194=G:=K
def Yz:bf C 195=G:=K
def anC:bf C 196=G:=K
def anD:bf C 197=G:=K
def L2:bf C 198=G:=K
def YA:bf C 199=G:=K
def YB:bf C 200=G:=K
def YC:bf C 201=G:=K
def YD:bf C 202=G:=K
def YE:bf C 203=G:=K
def YF:bf C 204=G:=K
def YG:bf C 205=G:=K
def YH:bf C 206=G:=K
def YI:bf C 207=G:=K
def YJ:bf C 208=G:=K
def Gv:bf C 209=G:=K
def YK:bf C 210=G:=K
def YL:bf C 211=G:=K
def L3:bf C 212=G:=K
def L4:bf C 213=G:=K
def YM:bf C 214=G:=K
def YN:bf C 215=G:=K
def YO:bf C 216=G:=K
def YP:bf C 217=G:=K
def YQ:bf C 218=G:=K
def YR:bf C 219=G:=K
def YS:bf C 220=G:=K
def YT:bf C 221=G:=K
def YU:bf C 222=G:=K
def Gw:bf C 223=G:=K
def YV:bf C 224=G:=K
def Df:bf C 226=G:=K
def YW:bf C 227=G:=K
def YX:bf C 228=G:=K
def YY:bf C 229=G:=K
def YZ:bf C 230=G:=K
def Y0:bf C 231=G:=K
def Y1:bf C 232=G:=K
def Y2:bf C 234=G:=K
def Y3:bf C 235=G:=K
def Y4:bf C 236=G:=K
def Y5:bf C 237=G:=K
def Y6:bf C 238=G:=K
def Y7:bf C 239=G:=K
def Y8:bf C 240=G:=K
def L5:bf C 244=G:=K
def Y9:bf C 245=G:=K
def L6:bf C 246=G:=K
def Za:bf C 247=G:=K
def Zb:bf C 248=G:=K
def Zc:bf C 249=G:=K
def Zd:bf C 250=G:=K
def Ze:bf C 251=G:=K
def Zf:bf C 252=G:=K
def Zg:bf C 253=G:=K
def Zh:bf C 254=G:=K
def Zi:bf C 255=G:=K
def Zj:bf C 256=G:=K
def Zk:bf C 257=G:=K
def Zl:bf C 258=G:=K
def Zm:bf C 259=G:=K
def Zn:bf C 260=G:=K
def Zo:bf C 261=G:=K
def Zp:bf C 262=G:=K
def L7:bf C 263=G:=K
def Zq:bf C 264=G:=K
def L8:bf C 265=G:=K
def Zr:bf C 266=G:=K
def Zs:bf C 267=G:=K
def Zt:bf C 268=G:=K
def Zu:bf C 269=G:=K
def Zv:bf C 271=G:=K
def Dg:bf C 272=G:=K
def Zw:bf C 273=G:=K
def Zx:bf C 274=G:=K
def Zy:bf C 275=G:=K
def Zz:bf C 276=G:=K
def ZA:bf C 277=G:=K
def ZB:bf C 280=G:=K
def ZC:bf C 281=G:=K
def ZD:bf C 282=G:=K
def ZE:bf C 287=G:=K
def ZF:bf C 288=G:=K
def ZG:bf C 289=G:=K
def ZH:bf C 290=G:=K
def ZI:bf C 291=G:=K
def ZJ:bf C 292=G:=K
def L9:bf C 293=G:=K
def Gx:bf C 294=G:=K
def ZK:bf C 295=G:=K
def ZL:bf C 296=G:=K
def ZM:bf C 297=G:=K
def Gy:bf C 298=G:=K
def ZN:bf C 299=G:=K
def ZO:bf C 300=G:=K
def ZP:bf C 301=G:=K
def Ma:bf C 302=G:=K
def ZQ:bf C 316=G:=K
def ZR:bf C 318=G:=K
def ZS:bf C 319=G:=K
def ZT:bf C 327=G:=K
def ZU:bf C 373=G:=K
def ZV:bf C 375=G:=K
def O:cb C 25 0 0/\cb C 25 1 1/\cb C 25 2 2/\cb C 25 3 3/\cb C 25 4 4/\cb C 32 0 0/\cb C 32 1 5/\cb C 37 0 0/\cb C 37 1 1/\cb C 37 2 2/\cb C 37 3 3/\cb C 37 4 4/\cb C 37 5 5/\cb C 41 0 0/\cb C 41 1 1/\cb C 41 2 2/\cb C 41 3 3/\cb C 43 0 0/\cb C 43 1 1/\cb C 43 2 2/\cb C 43 3 3/\cb C 43 4 4/\cb C 43 5 5/\cb C 43 6 6/\cb C 43 7 7/\cb C 43 8 8/\cb C 43 9 9/\cb C 43 10 10/\cb C 46 0 0/\cb C 46 1 1/\cb C 51 0 0/\cb C 51 1 1/\cb C 51 2 2/\cb C 51 3 3/\cb C 51 4 4/\cb C 51 5 5/\cb C 51 6 6/\cb C 54 0 0/\cb C 54 1 1/\cb C 54 2 2/\cb C 54 3 3/\cb C 54 4 10/\cb C 59 0 0/\cb C 59 1 1/\cb C 59 2 2/\cb C 59 3 3/\cb C 59 4 4/\cb C 59 5 5/\cb C 59 6 6/\cb C 59 7 7/\cb C 70 0 0/\cb C 70 1 1/\cb C 82 0 0/\cb C 82 1 1/\cb C 82 2 2/\cb C 82 3 3/\cb C 82 4 4/\cb C 82 5 5/\cb C 82 6 6/\cb C 82 7 7/\cb C 103 0 0/\cb C 103 1 1/\cb C 103 2 2/\cb C 103 3 3/\cb C 106 0 0/\cb C 106 1 1/\cb C 121 0 0/\cb C 121 1 1/\cb C 125 0 0/\cb C 125 1 1/\cb C 125 2 2/\cb C 136 0 0/\cb C 136 1 1/\cb C 136 2 2/\cb C 136 3 3/\cb C 136 4 4/\cb C 136 5 5/\cb C 136 6 6/\cb C 152 0 0/\cb C 152 1 1/\cb C 152 2 2/\cb C 179 0 0/\cb C 179 1 1/\cb C 186 0 0/\cb C 186 1 1/\cb C 186 2 2/\cb C 186 3 3/\cb C 205 0 0/\cb C 205 1 1/\cb C 209 0 0/\cb C 209 1 1/\cb C 220 0 0/\cb C 220 1 1/\cb C 220 2 2/\cb C 224 2 2/\cb C 226 0 0/\cb C 226 1 1/\cb C 230 0 0/\cb C 230 1 1/\cb C 230 2 2/\cb C 232 0 0/\cb C 232 1 1/\cb C 232 2 2/\cb C 232 3 3/\cb C 232 4 4/\cb C 259 0 0/\cb C 267 0 0/\cb C 267 1 1/\cb C 267 2 2/\cb C 287 0 0/\cb C 291 0 0/\cb C 291 1 1/\cb C 291 2 6/\cb C 291 3 7/\cb C 310 0 0/\cb C 310 1 1/\cb C 310 2 2/\cb C 317 0 0/\cb C 317 1 1/\cb C 317 2 2/\cb C 317 3 3/\cb C 317 4 4/\cb C 349 0 0/\cb C 349 1 1/\cb C 352 0 0/\cb C 352 1 1/\cb C 352 2 2/\cb C 354 0 0/\cb C 354 1 1/\cb C 354 2 2/\cb C 354 3 3/\cb C 354 4 4/\cb C 401 1 1/\cb C 405 0 0/\cb C 405 1 1/\cb C 405 2 2/\cb C 412 0 0/\cb C 412 1 1/\cb C 416 0 0/\cb C 416 1 1/\cb C 416 2 2/\cb C 426 0 0/\cb C 426 1 1/\cb C 426 2 2/\cb C 437 0 0/\cb C 460 0 0/\cb C 465 0 0/\cb C 465 1 510/\cb C 504 0 0/\cb C 504 1 1:=⟨cc K,cc K,cc K,cc K,cc K,cc K,cc K,cc K,cc K,cc K,cc K,cc K,cc K,cc K,cc K,cc K,cc K,cc K,cc K,cc K,cc K,cc K,cc K,cc K,cc K,cc K,cc K,cc K,cc K,cc K,cc K,cc K,cc K,cc K,cc K,cc K,cc K,cc K,cc K,cc K,cc K,cc K,cc K,cc K,cc K,cc K,cc K,cc K,cc K,cc K,cc K,cc K,cc K,cc K,cc K,cc K,cc K,cc K,cc K,cc K,cc K,cc K,cc K,cc K,cc K,cc K,cc K,cc K,cc K,cc K,cc K,cc K,cc K,cc K,cc K,cc K,cc K,cc K,cc K,cc K,cc K,cc K,cc K,cc K,cc K,cc K,cc K,cc K,cc K,cc K,cc K,cc K,cc K,cc K,cc K,cc K,cc K,cc K,cc K,cc K,cc K,cc K,cc K,cc K,cc K,cc K,cc K,cc K,cc K,cc K,cc K,cc K,cc K,cc K,cc K,cc K,cc K,cc K,cc K,cc K,cc K,cc K,cc K,cc K,cc K,cc K,cc K,cc K,cc K,cc K,cc K,cc K,cc K,cc K,cc K,cc K,cc K,cc K,cc K,cc K,cc K,cc K,cc K,cc K,cc K,cc K,cc K,cc K,cc K,cc K⟩
def P:kP C 22/\kP C 23/\kP C 34/\kP C 35/\kP C 52/\kP C 57/\kP C 76/\kP C 93/\kP C 118/\kP C 123/\kP C 134/\kP C 137/\kP C 146/\kP C 149/\kP C 183/\kP C 211/\kP C 256/\kP C 280/\kP C 311/\kP C 344/\kP C 356/\kP C 363/\kP C 366/\kP C 392:=⟨lb vL,lb Lk,lb Ar,lb C2,lb fP,lb WS,lb WT,lb C4,lb C5,lb F9,lb C6,lb Ga,lb rC,lb yk,lb pe,lb At,lb WV,lb WW,lb Au,lb C7,lb tO,lb Av,lb Lo,lb Gd⟩
def M:=And.intro (dI (ad:=C)) (And.intro N (And.intro O P))
def ba:=And.intro (by kernel_rfl:qJ Tryz.prog 3=true) (And.intro (by kernel_rfl:qJ Tryz.prog 5=true) (And.intro (by kernel_rfl:qJ Tryz.prog 56=true) (And.intro (by kernel_rfl:qJ Tryz.prog 155=true) (And.intro (by kernel_rfl:qJ Tryz.prog 173=true) (And.intro (by kernel_rfl:qJ Tryz.prog 9=false) (And.intro (by kernel_rfl:qJ Tryz.prog 52=false) (And.intro (by kernel_rfl:jc Tryz.prog 9=false) (And.intro (by kernel_rfl:jc Tryz.prog 22=false) (And.intro (by kernel_rfl:jc Tryz.prog 23=false) (And.intro (by kernel_rfl:jc Tryz.prog 34=false) (And.intro (by kernel_rfl:jc Tryz.prog 35=false) (And.intro (by kernel_rfl:jc Tryz.prog 52=false) (And.intro (by kernel_rfl:jc Tryz.prog 57=false) (And.intro (by kernel_rfl:jc Tryz.prog 76=false) (And.intro (by kernel_rfl:jc Tryz.prog 93=false) (And.intro (by kernel_rfl:jc Tryz.prog 118=false) (And.intro (by kernel_rfl:jc Tryz.prog 123=false) (And.intro (by kernel_rfl:jc Tryz.prog 134=false) (And.intro (by kernel_rfl:jc Tryz.prog 137=false) (And.intro (by kernel_rfl:jc Tryz.prog 146=false) (And.intro (by kernel_rfl:jc Tryz.prog 149=false) (And.intro (by kernel_rfl:jc Tryz.prog 183=false) (And.intro (by kernel_rfl:jc Tryz.prog 211=false) (And.intro (by kernel_rfl:jc Tryz.prog 256=false) (And.intro (by kernel_rfl:jc Tryz.prog 280=false) (And.intro (by kernel_rfl:jc Tryz.prog 311=false) (And.intro (by kernel_rfl:jc Tryz.prog 344=false) (And.intro (by kernel_rfl:jc Tryz.prog 356=false) (And.intro (by kernel_rfl:jc Tryz.prog 363=false) (And.intro (by kernel_rfl:jc Tryz.prog 366=false) (And.intro (by kernel_rfl:jc Tryz.prog 392=false) (And.intro (by kernel_rfl:jc Tryz.prog 30=true) (And.intro (by kernel_rfl:jc Tryz.prog 201=true) ((by kernel_rfl:jc Tryz.prog 285=true)))))))))))))))))))))))))))))))))))
end Go.Proofs.YtepeilglbedgdaaGreatDoor
namespace Go.X
variable{bU:List Nat}{a w:aN}{ab ak:Nat}{aU:Type}{ac:S -> aN -> Prop}{ad:ft}{ar av:co}
def ZW(aa:S):Sem fD:=do fh (fw (<-Instr.panic aa))
section
open Go.RowKit
section
variable{bI:aU->S}{l:List (Int×aU)}
def tR(w:aN)(ab ak:Nat)(bI:aU->S)(l:List (Int×aU))(done:List Int):Prop:=
 ∃(bx:Array MapEntry)(a:Nat)(ec:Array Nat)(b:List MapEntry),w.heap[ak]?=E (.map bx a)/\(∀x∈bx.toList,x.born<a)/\(bx.toList.map (·.born)).Nodup/\bx.toList.map hW=l.map (oz bI)/\(l.map (·.1)).Nodup/\
  w.heap[ab]?=E (.mapIter (E ak) a ec a)/\ec.toList=(b.map (·.born)).reverse/\(∀ag∈b,ag∈bx.toList)/\b.map (·.key)=done.map (F H)
def tR.J{done:List Int}(h:tR w ab ak bI l done)(b:Q bU w a)(e:ab∉bU)(f:ak∉bU):tR a ab ak bI l done:=by obtain⟨bx,g,ec,i,c,j,k,m,n,d,o⟩:=h;have cv:ak<w.heap.size:=(so.1 c).1;have c5:ab<w.heap.size:=(so.1 d).1;exact⟨bx,g,ec,i,(b.nR ak cv f).trans c,j,k,m,n,(b.nR ab c5 e).trans d,o⟩
def tR.ec{done:List Int}(h:tR w ab ak bI l done):(w.iterSeen ab).size=done.length:=by
 obtain⟨bx,g,ec,i,j,k,m,n,o,a,c,p,f⟩:=h;have e:w.iterSeen ab=ec:=by unfold World.iterSeen;rw[a]
 rw[e];have d:=congrArg jm c;have b:=congrArg jm f;simp at d b;omega
def ZX(d:sG ad ar av)(h:kb w ak bI l)(k:∀a,tR a w.heap.size ak bI l []->Q [] w a->a.heap.size=w.heap.size+1->ac (aE (E ⟨w.heap.size,0,I⟩)) a):W ad (zL ar (eB (E ak))) w ac:=by
 obtain⟨e,f,o⟩:=d;have g:=h.aL;obtain⟨bx,c,b,i,j,m,n⟩:=h;refine(j9 (aa:=aE (E ⟨w.heap.size,0,I⟩)) (a:=w.alloc (.mapIter (E ak) c #[] c)) ?_).2 (k _ ?_ (ox _ _ _) B)
 ·unfold zL;exact gv ad _ w (run_range_map w ar e av ak bx c f b)
 ·exact⟨bx,c,#[],[],(ox [] w _).nR ak g B|>.trans b,i,j,m,n,Go.heap_alloc_new w _,rfl,B,rfl⟩
def ZY{bx:List MapEntry}(b:bx.map hW=l.map (oz bI)){e:MapEntry}(c:e∈bx):∃ah∈l,e.key=F H ah.1/\e.val=bI ah.2:=by have:hW e∈l.map (oz bI):=b▸fS.2 ⟨e,c,rfl⟩;obtain⟨ah,d,a⟩:=fS.1 this;exact⟨ah,d,(congrArg (·.1) a).symm,(congrArg (·.2) a).symm⟩
def Mb{bx:List MapEntry}(b:bx.map hW=l.map (oz bI)){ah:Int×aU}(c:ah∈l):∃e∈bx,e.key=F H ah.1/\e.val=bI ah.2:=by have:oz bI ah∈bx.map hW:=b▸fS.2 ⟨ah,c,rfl⟩;obtain⟨e,d,a⟩:=fS.1 this;exact⟨e,d,congrArg (·.1) a,congrArg (·.2) a⟩
def Mc{bx:List MapEntry}(e:bx.map hW=l.map (oz bI))(g:(l.map (·.1)).Nodup){d b:MapEntry}(k:d∈bx)(m:b∈bx)(h:d.key=b.key):d=b:=by
 obtain⟨i,al,rfl⟩:=ns k;obtain⟨j,n,rfl⟩:=ns m;have p:bx.length=l.length:=by simpa using congrArg jm e
 have bz:∀i(al:i<bx.length),bx[i].key=F H (l[i]'A).1:=by
  intro i al;have a:(bx.map hW)[i]?=(l.map (oz bI))[i]?:=by rw[e]
  rw[e1,e1,cr al,cr A]at a;simp[hW,oz]at a;exact a.1
 rw[bz i al,bz j n]at h;have h:(l[i]'A).1=(l[j]'A).1:=by simpa using h
 have:i=j:=by
  have f:=rd.1 g;rcases ut i j with c|o|c
  ·exact(f i j (by simp;omega) (by simp;omega) c (by rw[ic,ic];exact h)).elim
  ·exact o
  ·exact(f j i (by simp;omega) (by simp;omega) c (by rw[ic,ic];exact h.symm)).elim
 subst this;rfl
def ZZ{done:List Int}{O:co}(h:tR w ab ak bI l done)(ar:ab≠ak)(au:(∀ah∈l,ah.1∈done)->ac (bQ #[aK U]) w)
  (av:∀ah∈l,ah.1∉done->∀a,tR a ab ak bI l (ah.1::done)->Q [ab] w a->a.heap.size=w.heap.size->ac (bQ #[aK G,F H ah.1,bI ah.2]) a):W ad (wM (aE (E ⟨ab,0,I⟩)) U O) w ac:=by
 obtain⟨bx,c,ec,P,R,t,V,p,X,ae,af,u,v⟩:=h;have aj:∀e∈bx.toList,ec.contains e.born=G↔∃k∈done,e.key=F H k:=by
  intro e d;rw[Array.contains_iff_mem,<-Array.mem_toList_iff,af,List.mem_reverse,fS];constructor
  ·rintro⟨ag,b,am⟩;have ax:ag=e:=by
    obtain⟨i,al,rfl⟩:=ns (u ag b);obtain⟨j,q,rfl⟩:=ns d;have r:=rd.1 V;rcases ut i j with y|d|y
    ·exact(r i j (by simpa using al) (by simpa using q) y (by rw[ic,ic];exact am)).elim
    ·subst d;rfl
    ·exact(r j i (by simpa using q) (by simpa using al) y (by rw[ic,ic];exact am.symm)).elim
   subst ax;have:ag.key∈done.map (F H):=v▸fS.2 ⟨ag,b,rfl⟩;obtain⟨k,m,f⟩:=fS.1 this;exact⟨k,m,f.symm⟩
  ·rintro⟨k,m,f⟩;have:F H k∈P.map (·.key):=v▸fS.2 ⟨k,m,rfl⟩;obtain⟨ag,b,ay⟩:=fS.1 this;exact⟨ag,b,congrArg _ (Mc p X (u ag b) d (ay.trans f.symm))⟩
 have az:=next_test_false ec bx c c t (fF _);have aB:(getObj ab).run ad w=bN (.mapIter (E ak) c ec c) w:=by simp only[getObj,Sem.run,ae]
 have aC:(getObj ak).run ad w=bN (.map bx c) w:=pS R;have z:∀x∈(Array.filter (λe=>!ec.contains e.born) bx).toList,x.born<c:=λx g=>t x (by simp at g⊢;exact g.1);have D:∀x,x∈(Array.filter (λe=>!ec.contains e.born) bx).toList↔x∈bx.toList/\ec.contains x.born=U:=by intro x;simp
 have n:(Instr.next (aE (E ⟨ab,0,I⟩)) U O).run ad w=(do
   let left:=bx.filter λe=>!ec.contains e.born;let gR:=left.filter (·.born<c);let aD:=left.filter (·.born>=c);let an:=(if gR.isEmpty then#[I]else#[])++(gR++aD).map E
   match an[<-choose (.mapNext an.size)]? with
   |some (E e)=>
    setObj ab (.mapIter (E ak) c (ec.push e.born) c)
    fh (bQ #[aK G,e.key,e.val])
   |some I=>fh (bQ #[aK U])
   |none=>stuck "Next: no such candidate":Sem S).run ad w:=by
  simp only[Instr.next,fx,aB,aC,f7,az,fc,if_false];rfl
 generalize aS:Array.filter (λe=>!ec.contains e.born) bx=aw at z D n;have aF:aw.filter (λx=>decide (x.born<c))=aw:=Array.filter_eq_self.2 (λx g=>by simpa using z x (by simpa using g));have aG:aw.filter (λx=>decide (x.born>=c))=#[]:=by rw[Array.filter_eq_empty_iff];intro x g;have:=z x (by simpa using g);simp;omega
 simp only[aF,aG,Array.append_empty]at n;by_cases ao:aw.size=0
 ·have aH:aw=#[]:=Array.eq_empty_of_size_eq_zero ao;subst aH;refine(j9 (aa:=bQ #[aK U]) (a:=w) ?_).2 (au λah J=>?_)
  ·unfold wM;apply gv ad _ w;rw[n];simp[choose,Sem.run,Question.forced]
  ·obtain⟨e,d,aI,_⟩:=Mb p J;have K:ec.contains e.born=G:=by
    cases K:ec.contains e.born with
    |true=>rfl
    |false=>exact absurd ((D e).2 ⟨d,K⟩) B
   obtain⟨k,m,f⟩:=(aj e d).1 K;rw[aI]at f;have:ah.1=k:=by simpa using f
   rw[this];exact m
 ·have aJ:aw.isEmpty=U:=by simp[Array.isEmpty,ao]
  simp only[aJ,fc,if_false,Array.empty_append,Array.size_map]at n;have aL:∃(j:Nat)(aA:aN),j<aw.size/\aA.heap=w.heap/\Q [] w aA/\(choose (Question.mapNext aw.size)).run ad w=bN j aA:=by
   by_cases ap:aw.size<=1
   ·exact⟨0,w,A,rfl,Q.b0 _ _,by simp[choose,Sem.run,Question.forced,ap]⟩
   ·exact⟨_,w.drew,Nat.mod_lt _ A,rfl,cD _ _,by
     simp only[choose,Sem.run,Question.forced,decide_eq_true_eq,ap,if_false,Question.cut];rfl⟩
  obtain⟨j,aA,q,o,L,aM⟩:=aL;have s:=(D aw[j]).1 B;obtain⟨ah,J,dI,aO⟩:=ZY p s.1;have aq:aA.heap[ab]?=E (.mapIter (E ak) c ec c):=by rw[o];exact ae
  have aP:∀N,(setObj ab N).run ad aA=bN () {aA with heap:=aA.heap.setIfInBounds ab N}:=λN=>by simp only[setObj,Sem.run,aq]
  have aQ:ab<aA.heap.size:=(so.1 aq).1;refine(j9 (aa:=bQ #[aK G,F H ah.1,bI ah.2]) (a:={aA with heap:=aA.heap.setIfInBounds ab (.mapIter (E ak) c (ec.push aw[j].born) c)}) ?_).2 (av ah J ?_ _ ?_ ?_ (by simp[o]))
  ·unfold wM;apply gv ad _ w;rw[n];simp only[fx,aM,f7,Array.getElem?_map,ti q,m1,aP,dI,aO];rfl
  ·intro aR;have:=(aj _ s.1).2 ⟨ah.1,aR,dI⟩;rw[s.2]at this;cases this
  ·refine⟨bx,c,ec.push aw[j].born,aw[j]::P,?_,t,V,p,X,?_,by simp[af],?_,by simp[v,dI]⟩
   ·show(aA.heap.setIfInBounds ab _)[ak]?=_;rw[Array.getElem?_setIfInBounds_ne ar,o];exact R
   ·show(aA.heap.setIfInBounds ab _)[ab]?=_;rw[Array.getElem?_setIfInBounds_self_of_lt aQ]
   ·intro ag b;rcases ce.1 b with rfl|b
    ·exact s.1
    ·exact u ag b
  ·refine⟨L.x0,L.x1,L.x2,by simp[o],λai aT r=>?_⟩;show(aA.heap.setIfInBounds ab _)[ai]?=_;have:ab≠ai:=λh=>r (by simp[h]);rw[Array.getElem?_setIfInBounds_ne this,o]
def Z0{ac:S->Prop}{done:List Int}{ah:Int×aU}(h:tR w ab ak bI l (ah.1::done))(i:ah∈l):aZ ad (zM (aE (E ⟨ab,0,I⟩))) w ac↔ac (bQ #[F H ah.1,bI ah.2]):=by
 obtain⟨bx,c,ec,b,j,y,k,d,m,n,o,p,a⟩:=h;cases b with
 |nil=>simp at a
 |cons ag b=>
  simp only[ge,ss]at a;have f:=p ag fE;obtain⟨e,q,g,r⟩:=Mb d i;have s:ag=e:=Mc d m f q (a.1.trans g.symm);subst s;apply j8;unfold zM;apply gv ad _ w;have t:(getObj ab).run ad w=bN (.mapIter (E ak) c ec c) w:=by simp only[getObj,Sem.run,n]
  have u:(getObj ak).run ad w=bN (.map bx c) w:=pS j;have v:ec.back?=E ag.born:=by rw[<-Array.getLast?_toList,o];simp
  have x:bx.find? (·.born==ag.born)=E ag:=by rw[<-Array.find?_toList];exact find_born ag bx.toList k f
  simp only[Instr.entry,fx,t,u,f7,v,bne_self_eq_false,fc,if_false,x,g,r,k5]
end
end
end Go.X
namespace Go.Proofs.YtepeilglbedgdaaGreatDoor
open Go.X
def apO:b2:=(.L .D (.L .D (.L .D (.L .D (.L .D (.L (.L .D (.aW (.cJ [14] (.L (.bK [45] .D .D) .D)))) (.L .D (.L .D (.L (.L .D (.aW (.cJ [15,16] (.L .D (.L (.aW (.L .D (.L .D (.L (.L .D (.aW (.cJ [17,18] (.L .D (.L (.aW (.L .D (.aW (.cJ [17,19] (.L .D (.L (.aW (.L .D (.bK [22,23] (.b9 (.br [0,1,3,4,5] (.jo 2 (.br [6] (.jo 7 (.br [8,9,10,11,12,13] .D) (.iD 11 (.br [7,8,9,10,12,13] .D)))) (.iD 11 (.br [2,6,7,8,9,10,12,13] .D)))) [0,0,2,0,0,16,62,127,255,511,511,0,3071,8191]) (.L (.bK [99] .D .D) .D)))) .D)))))) .D))))) (.bK [] (.L .D (.L (.L .D (.aW (.cJ [109] (.L .D (.L .D (.L (.aW (.L .D (.L (.b9 (.br [0,1,2,3,4,5,6,7,8,9] .D) [0,0,3,7,0,0,48,112,255,511]) .D))) .D)))))) .D)) (.L .D (.L (.L .D (.aW (.cJ [25] (.L (.bK [131] .D .D) .D)))) (.L .D (.aW (.cJ [26] .D)))))))))) .D))))) .D)))))))))
def api(ad:ft)(fH ay z A az:S)(w:aN)(bb:Ending->aN->Prop):Prop:=W ad (ck 9 #[fH,ay,(F H 10),(F H 2)]) w λb c=>W ad (hV 25) c λag e=>W ad (dC 25 ag b) e λ_ aj=>aZ ad (a4 25 ag) aj λg=>W ad (ck 10 #[g]) aj λh i=>aZ ad (eE .eql 27 G h (aE I)) i λj=>eV j (bb (gd (aK U)) i) (aZ ad (a4 25 ag) i λk=>W ad (uz 30 I) i λl ak=>aV ad (nw 32 #[(0,k),(1,l)]) λn=>W ad (rk 32 n) ak λaf ah=>rr [(F H 0)] ah λai s _ t=>ny (λae=>aV ad (dG .len #[23] #[z]) λaa=>aV ad (dS .lss 3 (s.getD 0 bS) aa) λx=>eV x (aV ad (dS .lss 3 (s.getD 0 bS) (F H 20)) λap=>ae [ap] t) (ae [(aK U)] t)) λbm _ cs=>eV (bm.getD 0 bS) (aV ad (fY 23 z (s.getD 0 bS)) λan=>aZ ad (a4 54 an) cs λcE=>W ad (ck 27 #[cE,(s.getD 0 bS)]) cs λaq av=>W ad (ck 15 #[h,aq]) av λ_ am=>aV ad (dS .add 3 (s.getD 0 bS) (F H 1)) λaD=>ai [aD] am) (aV ad (nw 59 #[(0,(F H 2))]) λams=>W ad (ck 15 #[h,ams]) cs λ_ bH=>rr [(T I 0 0),(F H 0)] bH λgU ac _ aw=>aV ad (dS .lss 3 (ac.getD 1 bS) (F H 2)) λbU=>eV bU (aV ad (nw 59 #[(0,(F H 6))]) λdE=>W ad (ck 15 #[h,dE]) aw λ_ aA=>rr [(T I 0 0),(F H 0)] aA λbu bn _ ar=>aV ad (dS .lss 3 (bn.getD 1 bS) (F H 3)) λaB=>eV aB (rr [(bn.getD 0 bS),(F H 0)] ar λc0 bC _ aO=>aV ad (dS .lss 3 (bC.getD 1 bS) (F H 3)) λgf=>eV gf (W ad (ck 23 #[(bn.getD 1 bS)]) aO λaoq aC=>aV ad (nw 43 #[(0,(F H 9)),(1,(F H 8)),(2,aoq),(4,(bC.getD 1 bS))]) λaF=>W ad (ck 11 #[h,aF]) aC λB aG=>aV ad (gH B 0) λaH=>aV ad (gH B 1) λaI=>W ad (hV 37) aG λq aJ=>W ad (dC 37 q aH) aJ λ_ r=>ny (λu=>aV ad (gB 37 q 2) λd=>aZ ad (a4 3 d) (r.drew) λa=>(W ad (ck 23 #[(bn.getD 1 bS)]) (r.drew) λaL v=>gu ad (a4 3 d) a v<|aV ad (nw 43 #[(0,(F H 9)),(1,(F H 7)),(2,aL),(4,(bC.getD 1 bS)),(7,a),(8,(F H 400))]) λD=>(W ad (ck 11 #[h,D]) v λJ aM=>aV ad (gH J 0) λfT=>aV ad (gH J 1) λaou=>W ad (hV 37) aM λK b1=>W ad (dC 37 K fT) b1 λ_ aP=>u [K,aou] aP)/\(W ad (hV 37) v λL dI=>gu ad (a4 3 d) a dI<|W ad (ck 11 #[h,D]) dI λiO aQ=>aV ad (gH iO 0) λaR=>aV ad (gH iO 1) λaS=>W ad (dC 37 L aR) aQ λ_ aT=>u [L,aS] aT))/\(W ad (hV 37) (r.drew) λN O=>gu ad (a4 3 d) a O<|W ad (ck 23 #[(bn.getD 1 bS)]) O λaU P=>gu ad (a4 3 d) a P<|aV ad (nw 43 #[(0,(F H 9)),(1,(F H 7)),(2,aU),(4,(bC.getD 1 bS)),(7,a),(8,(F H 400))]) λaW=>W ad (ck 11 #[h,aW]) P λQ aX=>aV ad (gH Q 0) λaY=>aV ad (gH Q 1) λiB=>W ad (dC 37 N aY) aX λ_ a0=>u [N,iB] a0)) λR _ V=>ny (λbo=>aV ad (qH .not aI) λa1=>eV a1 (bo [(aK G)] V) (aV ad (qH .not (R.getD 1 bS)) λa2=>bo [a2] V)) λvw _ f=>eV (vw.getD 0 bS) (bb (gd (aK U)) f) (aZ ad (a4 37 q) f λa3=>aZ ad (a4 37 (R.getD 0 bS)) f λa5=>W ad (jR 93 2 #[(0,a3),(1,a5)]) f λa6 a7=>W ad (dG lp #[93,93] #[(bC.getD 0 bS),a6]) a7 λa8 a9=>aV ad (dS .add 3 (bC.getD 1 bS) (F H 1)) λba=>c0 [a8,ba] a9)) (aV ad (dS .add 3 (bn.getD 1 bS) (F H 1)) λbc=>bu [(bC.getD 0 bS),bc] aO)) (ny (λX=>aZ ad (eE .eql 3 G (ac.getD 1 bS) (F H 1)) ar λbd=>eV bd (aV ad (dG .len #[93] #[(bn.getD 0 bS)]) λbe=>rr [(F H 0)] ar λbf m _ o=>aV ad (dS .lss 3 (m.getD 0 bS) be) λbg=>eV bg (aV ad (fY 93 (bn.getD 0 bS) (m.getD 0 bS)) λht=>aZ ad (a4 37 ht) (o.drew) λbh=>aV ad (fY 93 (ac.getD 0 bS) (m.getD 0 bS)) λbi=>aZ ad (a4 37 bi) (o.drew) λbj=>W ad (ck 32 #[bh,bj]) (o.drew) λbk ab=>aV ad (qH .not bk) λbl=>eV bl (bb (gd (aK U)) ab) (aV ad (dS .add 3 (m.getD 0 bS) (F H 1)) λbp=>bf [bp] ab)) (X [] o)) (X [] ar)) λ_ _ bq=>rr [(F H 0)] bq λbr p _ al=>ny (λao=>aV ad (dG .len #[23] #[A]) λbs=>aV ad (dS .lss 3 (p.getD 0 bS) bs) λbt=>eV bt (aV ad (dS .lss 3 (p.getD 0 bS) (F H 6)) λbv=>ao [bv] al) (ao [(aK U)] al)) λbw _ y=>eV (bw.getD 0 bS) (aV ad (fY 23 A (p.getD 0 bS)) λbz=>aZ ad (a4 54 bz) y λbB=>W ad (ck 14 #[af,h,bB]) y λ_ bD=>aV ad (dS .add 3 (p.getD 0 bS) (F H 1)) λbE=>br [bE] bD) (W ad (ck 13 #[az,(F H 0),(F H 20)]) y λbG em=>rr [bG] em λbI au _ ax=>aV ad (dS .gtr 3 (au.getD 0 bS) (F H 0)) λbJ=>eV bJ (aV ad (nw 59 #[(0,(F H 3))]) λcz=>W ad (ck 15 #[h,cz]) ax λ_ bx=>aV ad (dS .sub 3 (au.getD 0 bS) (F H 1)) λbK=>bI [bK] bx) (aV ad (dS .add 3 (ac.getD 1 bS) (F H 1)) λbL=>gU [(bn.getD 0 bS),bL] ax)))) (W ad (ck 17 #[]) aw λcm bM=>bb (gd cm) bM)))
def apP{fH a b c d}{w bb}(h:api C fH a b c d w bb):Calls C 8 #[fH,a,b,c,d] w bb:=Ac apO [fH,a,b,c,d] 5 Tryz.func8 K rfl h K
def Me:b2:=(.L .D (.L (.b9 (.br [0,1,2,3,4,5,6,7,8,9] .D) [0,1,0,4,15,31,63,63,127,511]) (.L (.bK [24] .D .D) .D)))
def Mf:b2:=(.L .D (.L .D (.L .D (.L .D (.L (.bK [28] (.b9 (.br [0,1,2,3,4,5,6,7,8,9,10,11] .D) [0,1,3,7,15,31,63,127,15,271,1023,2047]) .D) .D)))))
def Mg:b2:=(.L .D (.L .D (.L (.L .D (.aW (.cJ [5,6] (.L .D (.L (.aW (.L .D (.L (.L .D (.aW (.cJ [7,8] .D))) .D))) .D))))) .D)))
def Mh:b2:=(.L .D (.bK [6] (.b9 (.br [0,1,2,3,4,5,6,7,8,9] (.jo 10 (.br [] (.jo 11 (.br [12,13] .D) (.iD 12 (.br [11,13] .D)))) (.iD 12 (.br [10,11,13] .D)))) [0,0,2,6,14,30,0,64,192,448,960,2047,0,8191]) (.L (.bK [45] (.b9 (.br [0,1,2,3,4,5,6,7,8,9,10,11,12,13,14,15,16,17,18,19,20,21,22,23,24,25,26] .D) [0,1,3,7,0,16,63,127,255,511,1023,2047,4095,8191,511,16895,49663,115199,246271,511,524799,1573375,3670527,7864831,16761343,33554431,67108863]) .D) (.L (.b9 (.br [0,1,2,3,4,5,6] .D) [0,1,3,7,0,16,63]) .D))))
def rD:b2:=(.L .D (.L .D (.bK [] (.L .D (.aW (.L .D (.L (.L .D (.b9 (.br [0,1,2,3,4,5,6,7,8,9] .D) [0,0,0,4,2,18,62,0,128,511])) .D)))) .D)))
def Mi:b2:=(.L .D (.L (.L (.b9 (.br [0,1,2,3,4,5,6,7,8,9,10,11,12] .D) [0,1,0,4,12,28,0,64,192,448,960,2044,4095]) .D) (.L .D (.L (.L .D (.aW (.cJ [7,31] (.L .D (.L .D (.L (.aW (.L .D (.L .D (.L (.bK [74] .D .D) (.L (.L .D (.aW (.cJ [78] (.L .D (.L .D (.L (.aW (.L .D (.L (.b9 (.br [0,1,2,3,4,5,6,7,8,9] .D) [0,1,0,7,0,16,48,112,255,511]) (.bK [113] .D .D)))) .D)))))) .D))))) .D)))))) .D))))
def Mj:b2:=(.L .D (.L .D (.L .D (.L .D (.bK [5,6] .D (.L .D (.bK [] .D .D)))))))
def am8:b2:=(.L .D (.L .D (.L (.L .D (.aW (.cJ [5] (.L .D (.L (.aW (.L (.b9 (.br [0,1,2,3,4,5,6,7,8] .D) [0,0,3,7,0,0,48,112,255]) .D)) .D))))) .D)))
def apj:b2:=(.L .D (.L .D (.L (.L .D (.aW (.L .D (.L (.L (.b9 (.br [0,1,2,3,5,6,4,7,8,9,10] .D) [0,1,0,4,12,0,32,124,252,511,1023]) .D) (.L .D (.L .D (.L .D (.L (.L (.b9 (.br [0,1,3,4,5,6,8,9,2,7,10,11,12] .D) [0,1,3,0,8,0,32,103,0,256,999,2047,4095]) .D) (.L .D (.L (.L (.b9 (.br [0,1,2,3,5,6,4,7,8,9] .D) [0,1,0,4,12,0,32,124,255,511]) .D) .D)))))))))) (.L .D (.L (.b9 (.br [0,1,3,4,6,7,2,5,8,9,10,11] .D) [0,1,3,0,8,31,0,64,255,511,1023,2047]) (.bK [] .D .D))))))
def Mk:b2:=(.L .D (.L .D (.L .D (.L (.b9 (.br [0,1,2,3,4,5,6,7,8,9,10,11,12,13,14,15,16,17,18] .D) [0,1,3,7,0,16,48,112,0,256,768,1792,0,4096,12288,28672,65535,0,262143]) .D))))
def apk:b2:=(.L .D (.L .D (.L (.L .D (.aW (.bK [12] .D .D))) .D)))
def Ml:b2:=(.L .D (.L (.bK [14] .D .D) (.L .D (.L (.L .D (.aW (.cJ [21] .D))) .D))))
def Mm:b2:=(.L .D (.L .D (.bK [5] (.aW (.L .D (.L .D (.bK [19] (.b9 (.br [0,1,2,3,6,7,4,5,8,9,10] .D) [0,1,3,7,15,31,7,71,255,511,1023]) .D)))) .D)))
def Mn:b2:=(.L .D (.L .D (.L .D (.L (.b9 (.br [0,1,2,3,4,6,7,9,10,5,8,11,12,13,14,15] .D) [0,0,2,0,8,30,0,64,254,0,512,2046,4094,8190,16383,32767]) .D))))
def Mo:b2:=(.L .D (.L (.L .D (.aW (.cJ [6,7] (.L .D (.bK [] (.aW (.L .D (.L (.L .D (.L (.L (.b9 (.br [0,1,2,3,4,5,6] .D) [0,0,2,0,8,30,63]) .D) .D)) (.bK [10,11,12] (.b9 (.br [0,1,2,3,4] (.jo 5 (.br [6,7,8,9,10,11,12,13] .D) (.iD 10 (.br [5,6,7,8,9,11,12,13] .D)))) [0,1,3,7,0,31,63,127,127,127,0,1279,3583,8191]) .D)))) .D))))) .D))
def Mp:b2:=(.L (.L .D (.aW (.cJ [12] (.L .D (.L .D (.L (.aW (.L .D (.L .D (.aW (.cJ [16] (.L .D (.L .D (.bK [] (.aW (.L .D (.L .D (.L (.b9 (.br [0,1,2,3,4,5,6] .D) [0,1,3,7,0,16,63]) .D)))) .D)))))))) .D)))))) .D)
def Mq:b2:=(.L (.L .D (.aW (.cJ [12] (.L .D (.L .D (.L (.aW (.L .D (.L .D (.bK [6] .D .D)))) .D)))))) .D)
def Mr:b2:=(.L .D (.L .D (.L (.L .D (.L (.L (.b9 (.br [0,1,2,3,4,5,6,7,8,9] .D) [0,1,3,7,0,0,48,127,255,511]) .D) .D)) (.L (.L .D (.L (.L (.b9 (.br [0,1,2,3,4,5,6,7,8,9,10,11,12] .D) [0,1,3,7,0,0,32,96,224,496,1023,2047,4095]) .D) .D)) (.L (.L .D (.L (.L (.b9 (.br [0,1,2,3,4,5,6,7,8,9] .D) [0,1,3,7,0,0,48,127,255,511]) .D) .D)) (.L .D (.bK [7] (.bK [62] .D .D) (.L (.L .D (.L (.L (.b9 (.br [0,1,2,3,4,5,6,7,8,9] .D) [0,1,3,7,0,0,48,127,255,511]) .D) .D)) (.L (.b9 (.br [0,1,2,3,4,5,6,7,8,9,10,11,12,13,14,15] .D) [0,0,2,6,14,0,32,96,224,0,992,2016,4094,8191,16383,32767]) .D)))))))))
def Ms:b2:=(.L .D (.L .D (.L (.aW (.cJ [3] (.L (.bK [18] .D .D) .D))) .D)))
def Mt:b2:=(.L .D (.L (.bK [31] .D .D) (.L (.L .D (.aW (.cJ [32] .D))) .D)))
def Mu:b2:=(.L .D (.L .D (.bK [] .D (.L .D (.L .D (.bK [] (.bK [23] .D .D) (.L .D (.bK [] (.bK [35] .D .D) .D))))))))
def Mv:b2:=(.L .D (.L .D (.L .D (.L .D (.L .D (.L (.L .D (.aW (.cJ [8,28] (.L .D (.L .D (.bK [8] .D .D)))))) .D))))))
def Mw:b2:=(.L .D (.L .D (.L (.L .D (.aW (.cJ [14] (.L .D (.L .D (.L (.aW (.L .D (.L .D (.aW (.cJ [21] (.L .D (.L .D (.L (.aW (.L .D (.L .D (.bK [10] .D .D)))) .D)))))))) .D)))))) .D)))
def Mx:b2:=(.L .D (.L .D (.L .D (.L .D (.L (.L .D (.aW (.cJ [8,25] .D))) .D)))))
def apl:b2:=(.L .D (.L (.L .D (.aW (.L .D (.L .D (.L .D (.L (.L (.b9 (.br [0,1,2,4,5,7,8,3,6,9,10,11] .D) [0,0,2,6,0,16,62,0,128,510,1023,2047]) .D) (.L .D (.L (.L (.b9 (.br [0,1,2,4,5,7,8,3,6,9,10,11] .D) [0,0,2,6,0,16,62,0,128,510,1023,2047]) .D) (.bK [39] .D (.L (.L (.b9 (.br [0,1,2,4,5,7,8,10,11,15,16,3,6,9,12,13,14,17,18,19,20] .D) [0,0,2,6,0,16,62,0,128,510,0,1024,4094,8190,16382,0,32768,106494,237566,524287,1048575]) .D) .D)))))))))) .D))
def apm:b2:=(.L .D (.L .D (.L (.L .D (.aW (.cJ [5] (.L .D (.L (.aW (.L (.b9 (.br [0,1,2,3,4,5,6,7,8] .D) [0,0,3,7,0,0,48,112,255]) .D)) .D))))) .D)))
def My:b2:=(.L .D (.L (.b9 (.br [0,1,2,3,4,5,6,7,8,9,10,12,11,13,14,15,16] .D) [0,1,3,7,15,7,39,127,255,511,1023,2047,1023,8191,16383,32767,65535]) .D))
def Mz:b2:=(.L .D (.L .D (.L (.L .D (.aW (.cJ [3,10] (.L .D (.L .D (.bK [3] .D .D)))))) .D)))
def MA:b2:=(.L .D (.L (.L .D (.aW (.cJ [9] .D))) (.L (.L .D (.aW (.cJ [22] .D))) .D)))
def MB:b2:=(.L .D (.L (.L .D (.aW (.cJ [13] .D))) (.L (.L .D (.aW (.cJ [26] (.L .D (.L .D (.L (.aW (.L .D (.L (.b9 (.br [0,1,2,3,4,5,6,7] .D) [0,0,0,0,8,24,63,127]) .D))) .D)))))) (.L (.L .D (.aW (.cJ [42] .D))) .D))))
def MC:b2:=(.L .D (.L .D (.L (.aW (.cJ [0,4] (.L .D (.aW (.L .D (.L (.b9 (.br [0,1,2,3,4,5,6,7,8,9,10] .D) [0,1,3,7,0,16,48,112,240,511,1023]) (.L .D (.L .D (.L .D (.b9 (.br [0,1,4,5,6,7,2,3,8,9] .D) [0,0,2,7,0,0,32,112,15,511])))))))))) .D)))
def Z3:b2:=(.L .D (.L .D (.L (.L .D (.aW (.cJ [3,11] (.L .D (.L .D (.bK [3] .D .D)))))) (.L .D (.L (.L .D (.aW (.cJ [6,27] .D))) .D)))))
def MD(ad:ft)(fH:S)(w:aN)(bb:Ending->aN->Prop):Prop:=aV ad (dG .len #[183] #[fH]) λb=>rr [(F H 0),(F H 0)] w λc ag _ e=>aV ad (dS .lss 3 (ag.getD 1 bS) b) λaj=>eV aj (ny (λg=>aV ad (fY 183 fH (ag.getD 1 bS)) λh=>aZ ad (a4 52 h) e λi=>aV ad (dG .len #[52] #[i]) λj=>aV ad (dS .add 3 (ag.getD 0 bS) j) λk=>aV ad (dS .lss 3 k (F H 0)) λl=>eV l (aV ad (tx 9 (bO (eS #[108,101,110,32,111,117,116,32,111,102,32,114,97,110,103,101]))) λak=>W ad (ZW ak) e λ_ n=>g [k] n) (g [k] e)) λaf _ ah=>aV ad (dS .add 3 (ag.getD 1 bS) (F H 1)) λai=>c [(af.getD 0 bS),ai] ah) (W ad (ck 126 #[(T I 0 0),(ag.getD 0 bS)]) e λs t=>aV ad (dG .len #[183] #[fH]) λae=>rr [s,(F H 0)] t λaa x _ ap=>aV ad (dS .lss 3 (x.getD 1 bS) ae) λbm=>eV bm (aV ad (fY 183 fH (x.getD 1 bS)) λcs=>aZ ad (a4 52 cs) ap λan=>W ad (dG lp #[52,52] #[(x.getD 0 bS),an]) ap λcE aq=>aV ad (dS .add 3 (x.getD 1 bS) (F H 1)) λav=>aa [cE,av] aq) (bb (gd (x.getD 0 bS)) ap))
theorem Z4{fH}{w bb}(h:MD C fH w bb):Calls C 77 #[fH] w bb:=Ac Z3 [fH] 1 Tryz.func77 (by kernel_rfl) rfl h (by kernel_rfl)
def ME:b2:=(.L .D (.aW (.cJ [] (.aW (.L .D (.L .D (.L (.b9 (.br [0,1,2,3,4,5,6,7,8,9,10,11,12,13,14,15,16] .D) [0,1,3,7,15,31,63,0,128,384,896,1920,3968,8064,16256,32767,65535]) .D)))))))
def MF:b2:=(.L .D (.L .D (.L (.b9 (.br [0,1,2,3,4,5,6,7,8,9,10,11,12,13,14,15,16,17,18,19,20,21,22] .D) [0,1,3,7,0,16,48,112,240,511,0,1024,3072,7168,15360,32767,0,65536,196608,458752,983040,2097151,4194303]) (.L .D (.bK [5,6] (.b9 (.br [0,1,2,3,4,5] (.jo 6 (.br [7,8,9,10,11,12] .D) (.iD 10 (.br [6,7,8,9,11,12] .D)))) [0,1,3,7,0,16,63,127,255,255,0,1535,4095]) (.L .D (.bK [6] (.bK [61] .D .D) .D)))))))
def MG:b2:=(.L .D (.bK [4,5] (.b9 (.br [0,1,2,3,5,6,7,8] (.jo 4 (.br [9,10,11] .D) (.iD 9 (.br [4,10,11] .D)))) [0,1,3,7,15,0,32,96,224,0,543,2047]) (.L (.bK [29] .D .D) (.L .D (.L .D (.L .D (.bK [6,7] .D (.bK [] .D .D))))))))
def MH:b2:=(.L (.L .D (.aW (.cJ [9] (.L .D (.L .D (.bK [] .D .D)))))) .D)
def MI:b2:=(.L .D (.L (.b9 (.br [0,1,2,3,4,5,6,7] .D) [0,1,3,7,0,16,63,127]) .D))
def MJ:b2:=(.L .D (.L (.L .D (.aW (.bK [] (.aW (.aW (.aW (.L (.L .D (.L .D (.bK [8] .D .D))) .D)))) .D))) .D))
def MK:b2:=(.L .D (.L .D (.L (.L .D (.L (.L (.L .D (.aW (.cJ [23] .D))) .D) .D)) (.L (.b9 (.br [0,1,2,3,4,5,6,7,8,9] .D) [0,1,3,7,0,16,0,64,255,511]) (.L .D (.bK [] (.L .D (.aW (.L .D (.L (.L (.b9 (.br [0,1,2,3,4,5,6,7,8,9,10,11,12,13,14,15] .D) [0,1,3,7,0,16,0,64,0,256,1023,2047,4095,4095,8191,32767]) .D) .D)))) .D))))))
def ML:b2:=(.L .D (.L .D (.L .D (.L (.aW (.bK [18] .D .D)) .D))))
def MM:b2:=(.L .D (.L (.L .D (.L .D (.L (.L (.b9 (.br [0,1,2,3,4,5,6,7,8,9,10,11,12,13,14,15,16,17,18,19] .D) [0,1,3,7,15,31,63,0,128,384,896,1920,3968,8064,0,32640,65535,131071,262143,524287]) .D) .D))) (.L .D (.bK [] (.L .D (.aW (.cJ [45] .D))) (.L .D (.L .D (.L (.b9 (.br [0,1,2,3,4,5,6,7,8,9,10,11,12,13] .D) [0,1,3,7,0,16,48,112,255,511,1023,1023,2047,8191]) (.bK [] (.aW (.L .D (.L .D (.L .D (.L (.L .D (.aW (.cJ [103] (.L .D (.L .D (.L (.aW (.L .D (.b9 (.br [0,1,2,3,4,5,6,7,8,9,10,11,12,13,14,15,16,17] .D) [0,1,3,7,0,0,32,96,224,0,992,2016,4064,0,16352,32767,65535,131071]))) .D)))))) .D))))) .D))))))))
def MN:b2:=(.L .D (.L (.aW (.L .D (.L .D (.bK [18] .D .D)))) .D))
def Dh:b2:=(.L .D (.aW (.cJ [0] (.aW (.L .D (.L (.L .D (.bK [35] .D .D)) (.L .D (.aW (.L .D (.L .D (.L .D (.L (.L .D (.L (.L .D (.aW (.cJ [50] (.L .D (.L .D (.bK [] .D .D)))))) .D)) .D))))))))))))
def MO:b2:=(.L .D (.aW (.cJ [0] (.aW (.L (.bK [19] .D .D) (.L (.L .D (.bK [30] .D .D)) (.L .D (.aW (.L .D (.L .D (.L .D (.L (.L .D (.L (.L .D (.aW (.cJ [45] .D))) .D)) .D))))))))))))
def MP:b2:=(.L .D (.L .D (.L .D (.L .D (.L (.L (.b9 (.br [0,3,4,1,2,5] .D) [0,1,3,0,8,31]) .D) .D)))))
def MQ:b2:=(.L .D (.L .D (.L (.b9 (.br [0,1,2,3,4,5,6,7,8,9,10,11,12,13,14,15,16] .D) [0,1,3,7,0,16,48,112,0,511,1023,2047,2047,2047,4095,24575,65535]) .D)))
def MR:b2:=(.L .D (.L .D (.L (.L .D (.aW (.cJ [3,10] .D))) (.L .D (.bK [6] (.aW (.cJ [3,6] (.L .D (.aW (.L (.b9 (.br [0,1,2,3,4,5,6,7,8,9,10] .D) [0,1,3,7,0,16,48,112,240,511,1023]) (.L .D (.L (.bK [40] .D .D) .D))))))) .D)))))
def MS:b2:=(.L .D (.L .D (.L .D (.L .D (.L .D (.L .D (.L .D (.L .D (.L (.bK [51] .D .D) .D)))))))))
def MT:b2:=(.L .D (.L (.bK [22] .D .D) (.L .D (.L (.b9 (.br [0,1,2,3,4] .D) [0,0,2,7,15]) .D))))
def MU:b2:=(.L .D (.L .D (.bK [] (.L .D (.aW (.L .D (.L .D (.L .D (.L .D (.L .D (.L (.L .D (.aW (.cJ [36] (.L .D (.L .D (.L (.aW (.b9 (.br [0,1,2,3,4,5,6,7,8,9] .D) [0,1,0,0,8,28,60,127,255,511])) .D)))))) .D)))))))) .D)))
def MV:b2:=(.L .D (.L (.b9 (.br [1,2,3,4,5,6,7,8,9,10,11,12] (.jo 0 (.br [13,14,15,16,17,18] .D) (.iD 13 (.br [0,14,15,16,17,18] .D)))) [0,0,2,6,0,16,48,0,128,384,0,1024,3072,8190,16383,32767,32767,131071,262143]) .D))
def MW:b2:=(.L .D (.L .D (.L (.b9 (.br [0,1,3,2,4,5,6,7,8,9,10] .D) [0,1,3,0,15,31,63,127,127,255,1023]) .D)))
def MX:b2:=(.L .D (.L .D (.L .D (.L .D (.L (.L .D (.aW (.L .D (.L .D (.L .D (.L (.L (.b9 (.br [0,1,2,4,3,5,6,7,8] .D) [0,0,0,4,0,28,63,127,255]) .D) (.L .D (.L (.L (.b9 (.br [0,1,2,3,4,5,6] .D) [0,0,0,4,15,31,63]) .D) .D)))))))) .D)))))
def MY:b2:=(.L .D (.L .D (.L .D (.L .D (.L (.L .D (.aW (.cJ [7,28] (.L .D (.L .D (.L (.aW (.L .D (.L (.L (.b9 (.br [0,1,2,3,4,5,6] .D) [0,0,0,6,14,31,63]) .D) (.b9 (.br [0,1,2,3,4,5,6,7,8] .D) [0,0,0,0,12,28,62,127,255])))) .D)))))) .D)))))
def MZ:b2:=(.L (.L .D (.aW (.cJ [8] (.L .D (.L .D (.L (.aW (.L .D (.b9 (.br [0,1,2,3,4,5,6,7] .D) [0,1,3,7,0,0,63,127]))) .D)))))) .D)
def M0:b2:=(.L .D (.L (.bK [38] .D .D) (.L .D (.L .D (.L (.L .D (.aW (.cJ [58] (.L .D (.L .D (.L (.aW (.L .D (.L (.b9 (.br [0,1,2,3,5,6,7,8,4,9,10,11] .D) [0,0,0,0,12,0,0,96,224,508,1023,2047]) .D))) .D)))))) (.L (.L .D (.aW (.cJ [82] .D))) .D))))))
def M1:b2:=(.L .D (.L .D (.L .D (.L (.b9 (.br [0,1,2,3,4,5,6,7,8,9,10,11,12,13,14,15,16,17,18,19,20,21,22] .D) [0,1,3,7,0,16,48,112,0,256,768,1792,0,4096,12288,28672,0,65536,196608,458752,1048575,0,4194303]) (.L (.L .D (.aW (.cJ [46] (.L .D (.L .D (.L (.aW (.L .D (.L .D (.b9 (.br [0,1,2,3,4,5,6,7] .D) [0,1,0,4,12,31,63,127])))) .D)))))) .D)))))
def M2:b2:=(.L (.b9 (.br [0,1,2,3,4,5,6,7,8,9,10] .D) [0,1,3,7,0,16,48,112,240,511,1023]) (.b9 (.br [0,1,2,3,4,5,6,7,8,9,10,11,12,13,14,15,16,17,18,19] .D) [0,0,0,4,12,28,0,124,0,256,768,1792,0,7936,4093,20477,53245,131071,262143,524287]))
def M3:b2:=(.L .D (.bK [4,5] (.b9 (.br [0,1,2,3,5,6,7,8] (.jo 4 (.br [] (.jo 9 (.br [10,11,12] .D) (.iD 10 (.br [9,11,12] .D)))) (.iD 10 (.br [4,9,11,12] .D)))) [0,1,3,7,15,0,32,96,224,511,0,2047,4095]) (.L .D (.L (.L .D (.aW (.cJ [6,25] (.L .D (.L .D (.bK [6] (.aW (.L .D (.L (.L .D (.bK [40] .D .D)) .D))) .D)))))) .D))))
def M4:b2:=(.L .D (.bK [6,7] (.b9 (.br [0,1,2,3,5,6,7,8] (.jo 4 (.br [] (.jo 9 (.br [10,11,12] .D) (.iD 10 (.br [9,11,12] .D)))) (.iD 10 (.br [4,9,11,12] .D)))) [0,1,3,7,15,0,32,96,224,511,0,2047,4095]) (.L .D (.L .D (.L .D (.L (.L .D (.aW (.cJ [12,45] (.L .D (.L .D (.L (.aW (.L .D (.L .D (.aW (.cJ [12,51] (.L .D (.L .D (.bK [12] (.aW (.L .D (.L .D (.L (.b9 (.br [0,1,2,3,4,6,7,9,10,5,8,11,12,13,14,15,16] .D) [0,0,0,0,0,28,0,0,252,0,0,2047,4095,8191,8191,16383,65535]) .D)))) .D)))))))) .D)))))) .D))))))
def M5:b2:=(.L .D (.bK [6,7] (.b9 (.br [0,1,2,3,5,6,7,8] (.jo 4 (.br [] (.jo 9 (.br [10,11,12] .D) (.iD 10 (.br [9,11,12] .D)))) (.iD 10 (.br [4,9,11,12] .D)))) [0,1,3,7,15,0,32,96,224,511,0,2047,4095]) (.L .D (.L .D (.L .D (.L .D (.L .D (.L (.L .D (.aW (.cJ [12,54] (.L .D (.L .D (.bK [12] (.aW (.L .D (.L .D (.L (.b9 (.br [0,1,2,3,5,6,7,8,9,10,4,11,12,13,14,15,16] .D) [0,0,0,0,12,0,0,96,224,0,0,2047,4095,8191,8191,16383,65535]) .D)))) .D)))))) .D))))))))
def M6:b2:=(.L .D (.L .D (.L (.L .D (.aW (.cJ [3,12] (.L .D (.L .D (.bK [3] .D .D)))))) .D)))
def M7:b2:=(.L (.b9 (.br [0,1,2,3,4,5,6,7,8,9,10,11,12] .D) [0,1,3,7,0,0,32,96,224,0,992,2047,4095]) .D)
def M8:b2:=(.L .D (.L .D (.L (.L .D (.bK [25] .D .D)) (.L .D (.bK [8] .D (.L (.b9 (.br [0,1,2,3,4,5,6,8,7,9,10,11,12,13,14,15,16,17,18,19] .D) [0,1,3,7,15,31,63,127,63,511,1023,2047,4095,8191,16383,8191,40959,131071,262143,524287]) .D))))))
def M9:b2:=(.L .D (.L .D (.L (.L .D (.bK [33] .D .D)) (.bK [7] (.b9 (.br [0,1,2] (.jo 3 (.br [] (.jo 4 (.br [5,6] .D) (.iD 5 (.br [4,6] .D)))) (.iD 5 (.br [3,4,6] .D)))) [0,1,0,4,15,0,63]) (.bK [8] .D (.bK [9] .D .D))))))
def am9:b2:=(.L .D (.L .D (.L (.L .D (.aW (.cJ [3,13] .D))) .D)))
def Na:b2:=(.L .D (.L .D (.L .D (.L (.b9 (.br [0,1,2,3,4,5,6,7,8,9,10,11,12] .D) [0,1,3,7,0,16,48,112,0,496,1008,2047,4095]) .D))))
def Nb:b2:=(.L .D (.bK [7] (.b9 (.br [0,1,2,4] (.jo 3 (.br [] (.jo 5 (.br [6,7,8] .D) (.iD 7 (.br [5,6,8] .D)))) (.iD 7 (.br [3,5,6,8] .D)))) [0,1,0,4,0,28,63,0,255]) (.L .D (.L .D (.L .D (.bK [] (.L .D (.aW (.cJ [10,41] (.L .D (.L .D (.L (.aW (.L .D (.L .D (.L .D (.L (.bK [68] .D .D) .D))))) .D)))))) .D))))))
def Nc:b2:=(.L .D (.L .D (.L .D (.bK [9,10] (.b9 (.br [0,1,2,3,4,5,7,8,9,10,11] (.jo 6 (.br [] (.jo 12 (.br [13,14,15,16,17,18] .D) (.iD 16 (.br [12,13,14,15,17,18] .D)))) (.iD 16 (.br [6,12,13,14,15,17,18] .D)))) [0,0,0,4,12,28,60,0,128,384,896,1920,4095,8191,16383,16383,0,98303,262143]) (.L .D (.bK [] .D (.bK [] (.bK [62] .D (.L (.bK [12,13] (.b9 (.br [0,1,2,3,6] (.jo 4 (.br [] (.jo 5 (.br [] (.jo 7 (.br [8,9,10] .D) (.iD 8 (.br [7,9,10] .D)))) (.iD 8 (.br [5,7,9,10] .D)))) (.iD 8 (.br [4,5,7,9,10] .D)))) [0,1,3,7,15,31,0,127,0,511,1023]) .D) .D)) (.L (.b9 (.br [0,1,2,3,4,5,6,7,8,9,10,11,12,13] .D) [0,0,2,6,14,0,32,0,224,480,1022,2047,4095,8191]) .D))))))))
def Nd:b2:=(.L .D (.L .D (.L .D (.L (.L (.b9 (.br [0,1,2,3,4,5,6,7,8,9,10] .D) [0,1,3,7,0,16,48,112,240,496,1023]) .D) (.L (.L (.b9 (.br [0,1,2,3,4,5,6,7,8,9,10] .D) [0,1,3,7,0,16,48,112,0,511,1023]) .D) .D)))))
def Nf:b2:=(.L .D (.L .D (.L .D (.L (.L .D (.aW (.cJ [5,11] (.L .D (.L .D (.bK [5] (.aW (.L .D (.L .D (.bK [] (.bK [24] .D .D) (.bK [31] .D .D))))) .D)))))) (.L (.bK [48] .D .D) .D)))))
def Ng:b2:=(.L .D (.L .D (.L .D (.L (.L .D (.aW (.cJ [24] (.L .D (.L .D (.bK [] (.aW (.L .D (.L (.L (.b9 (.br [0,1,2,3,4,5,6,7,8,9,10,11,12,13,14,15] .D) [0,1,3,7,0,16,48,112,0,256,1023,2047,4095,4095,8191,32767]) .D) (.L (.b9 (.br [0,1,2,3,4,5,6,7,8,9,10,11,12,13,14,15] .D) [0,1,3,7,0,16,48,112,0,256,0,1024,0,4096,16383,32767]) .D)))) .D)))))) (.L (.L .D (.aW (.cJ [70] (.L .D (.L .D (.L (.aW (.L .D (.L (.b9 (.br [0,1,2,3,4,5,6,7,8,9,10,11,12,13,14,15,16] .D) [0,1,3,7,0,16,48,112,0,511,1023,2047,2047,2047,4095,24575,65535]) .D))) .D)))))) .D)))))
def Z5:b2:=(.L .D (.L .D (.L (.bK [34] (.b9 (.br [0,1,2,3,6,7,4,5,8,9] .D) [0,1,3,7,15,31,7,71,255,511]) .D) (.L .D (.L .D (.L .D (.L .D (.L .D (.L .D (.L .D (.L (.L .D (.aW (.cJ [14,85] .D))) .D)))))))))))
def Nh(ad:ft)(fH r a:S)(w:aN)(bb:Ending->aN->Prop):Prop:=W ad (rk 25 r) w λb c=>aZ ad (a4 25 b) c λag=>W ad (ck 174 #[fH,ag,a]) c λe aj=>aV ad (qH .not e) λg=>eV g (aV ad (tx 33 (F H 1)) λh=>W ad (ck 59 #[(bO (eS #[115,116,114,105,112,101,46,71,101,116])),a,h]) aj λi j=>bb (gd (bQ #[(T I 0 0),(F H 0),i])) j) (ny (λk=>W ad (ck 71 #[fH]) (aj.drew) λl ak=>eV l (k [(aK G)] ak) (aV ad (gB 25 b 1) λn=>aZ ad (a4 3 n) ak λaf=>W ad (ck 72 #[fH]) ak λah ai=>gu ad (a4 3 n) af ai<|aV ad (dG .len #[22] #[ah]) λs=>aV ad (dS .lss 3 s af) λt=>k [t] ai)) λae _ aa=>eV (ae.getD 0 bS) (aV ad (tx 33 (F H 7)) λx=>W ad (ck 59 #[(bO (eS #[115,116,114,105,112,101,46,71,101,116])),a,x]) aa λap bm=>bb (gd (bQ #[(T I 0 0),(F H 0),ap])) bm) (aZ ad (a4 25 b) aa λcs=>W ad (ck 212 #[fH,cs,a]) aa λan cE=>aV ad (gH an 0) λaq=>aV ad (gH an 1) λav=>aV ad (dG .len #[366] #[av]) λam=>aV ad (gB 25 b 1) λaD=>aZ ad (a4 3 aD) cE λams=>aV ad (dS .lss 3 am ams) λbH=>eV bH (aV ad (dG .len #[366] #[av]) λgU=>aV ad (gB 25 b 1) λac=>aZ ad (a4 3 ac) cE λaw=>aV ad (nw 215 #[(0,a),(1,gU),(2,aw)]) λbU=>aV ad (tx 215 bU) λdE=>W ad (ck 59 #[(bO (eS #[115,116,114,105,112,101,46,71,101,116])),a,dE]) cE λu bu=>bb (gd (bQ #[(T I 0 0),(F H 0),u])) bu) (aV ad (gB 25 b 1) λbn=>aZ ad (a4 3 bn) cE λar=>aV ad (gB 25 b 2) λv=>aZ ad (a4 3 v) cE λc0=>W ad (ck 213 #[ar,c0]) cE λbC aO=>aV ad (gH bC 0) λgf=>aV ad (gH bC 1) λaoq=>aZ ad (eE .neq 73 G aoq (cT)) aO λy=>eV y (W ad (ck 59 #[(bO (eS #[115,116,114,105,112,101,46,71,101,116])),a,aoq]) aO λz A=>bb (gd (bQ #[(T I 0 0),(F H 0),z])) A) (W ad (ck 214 #[gf,av]) aO λo f=>aV ad (gH o 0) λp=>aV ad (gH o 1) λq=>aZ ad (eE .neq 73 G q (cT)) f λB=>eV B (W ad (ck 59 #[(bO (eS #[115,116,114,105,112,101,46,71,101,116])),a,q]) f λD J=>bb (gd (bQ #[(T I 0 0),(F H 0),D])) J) (aV ad (dG .len #[183] #[p]) λK=>rr [(T I 0 0),(F H 0)] f λL d _ m=>aV ad (dS .lss 3 (d.getD 1 bS) K) λdI=>eV dI (aV ad (fY 183 p (d.getD 1 bS)) λN=>aZ ad (a4 52 N) m λO=>W ad (Ad 294 O) m λfT aou=>aZ ad (a4 294 fT) aou λP=>W ad (jR 211 1 #[(0,P)]) aou λb1 Q=>W ad (dG lp #[211,211] #[(d.getD 0 bS),b1]) Q λR V=>aV ad (dS .add 3 (d.getD 1 bS) (F H 1)) λiO=>L [R,iO] V) (bb (gd (bQ #[(d.getD 0 bS),aq,(cT)])) m))))))
theorem Z6{fH a b}{w bb}(h:Nh C fH a b w bb):Calls C 153 #[fH,a,b] w bb:=Ac Z5 [fH,a,b] 3 Tryz.func153 (by kernel_rfl) rfl h (by kernel_rfl)
def Ni:b2:=(.L .D (.L .D (.L .D (.L (.L .D (.aW (.bK [5] (.aW (.L (.aW (.L (.aW (.L (.aW (.L .D (.L (.L (.b9 (.br [2,0,1,3,4] .D) [0,1,0,7,15]) .D) .D))) .D)) (.L (.L (.b9 (.br [1,2,0,3,4] .D) [0,0,0,7,15]) .D) .D))) .D)) (.L (.L (.b9 (.br [0,2,3,1,4,5,6] .D) [0,0,0,0,14,31,63]) .D) .D)))) .D))))
def Nj:b2:=(.L .D (.L .D (.L .D (.bK [7] (.L .D (.aW (.bK [1,7] (.aW (.L (.aW (.L (.aW (.L (.aW (.L .D (.L (.b9 (.br [0,1,2,3,4,5,6,7,8,9,10,11,12,13,14,15,16,17] .D) [0,1,3,7,0,16,48,112,0,256,768,1792,15,4111,12543,28927,65535,131071]) .D))) .D)) (.L (.L (.b9 (.br [0,1,2,3,4,5,6,7,8,9,10,11] .D) [0,1,3,7,0,16,48,112,15,271,1023,2047]) .D) .D))) (.b9 (.br [0,1,2,3,4,5,6,7,8] .D) [0,1,3,7,0,16,15,79,255]))) (.L (.b9 (.br [0,1,2,3,4,5,6,7,8,9,10,11,12,13,14,15,16,17] .D) [0,1,3,7,0,16,48,112,0,256,768,1792,15,4111,12543,28927,65535,131071]) .D)))) .D))))
def Nk:b2:=(.L .D (.L .D (.L .D (.L (.aW (.L .D (.L .D (.L .D (.L (.L (.b9 (.br [0,1,2,3,4,5,6,7,8,9,10,11,12,13,14,15] .D) [0,0,2,6,14,0,32,0,128,0,512,0,2048,8190,16383,32767]) .D) (.L .D (.L (.L (.b9 (.br [0,1,2,3,4,5,6,7,8,9] .D) [0,0,2,6,14,0,32,126,255,511]) .D) .D))))))) .D))))
def Nl:b2:=(.L .D (.L (.bK [13] .D .D) (.L (.L .D (.aW (.bK [] (.aW (.L (.aW (.L .D (.L (.bK [3] .D .D) .D))) (.L (.bK [59] .D .D) .D))) .D))) .D)))
def Di:b2:=(.L .D (.L .D (.L (.L (.b9 (.br [0,1,2,3,4,5,6,7,8,9,10,11] .D) [0,1,3,7,15,0,32,96,224,511,0,2047]) .D) (.L .D (.L (.L (.b9 (.br [0,1,2,3,4,5,6,7,8,9,10,11,12,13,14,15,16] .D) [0,1,3,7,0,16,48,112,0,256,768,1792,0,7936,16383,32767,0]) (.aW (.cJ [9,48] .D))) (.L (.bK [71] .D .D) .D))))))
def Dj:b2:=(.L .D (.L .D (.bK [] (.bK [30] (.b9 (.br [0,1,2,3,4,5,6,7,8,9,10,11,12,13,14,15,16,17,18] .D) [0,1,3,7,15,31,63,127,255,511,1023,63,2111,6207,14399,32767,63,131071,262143]) .D) (.L .D (.L .D (.L (.b9 (.br [0,1,2,3,4,5,6,7,8,9,10,11,12,13,14,15,16] .D) [0,1,3,7,0,16,48,112,0,496,0,1024,3072,7168,16383,32767,65535]) .D))))))
def Nm:b2:=(.L .D (.L .D (.L (.L .D (.aW (.bK [3] (.aW (.L (.aW (.L .D (.L (.L (.b9 (.br [0,1,2,3,4,5,6,7,8,9,10,11,12] .D) [0,1,3,0,8,24,0,64,192,448,960,2047,4095]) .D) .D))) .D)) .D))) .D)))
def Nn:b2:=(.L .D (.L (.b9 (.br [0,1,2,3,4,5,6,7,8,9,10,11,12] .D) [0,1,3,0,8,24,0,64,192,448,7,1087,4095]) .D))
def No:b2:=(.L .D (.L (.L .D (.aW (.L .D (.L .D (.L .D (.L (.L (.b9 (.br [0,1,2,4,5,3,6,7] .D) [0,1,3,7,0,16,63,127]) .D) .D)))))) (.L .D (.L (.L .D (.aW (.cJ [5,33] .D))) .D))))
def Np:b2:=(.L .D (.bK [] (.aW (.L .D (.L .D (.bK [12] .D .D)))) .D))
def Nq:b2:=(.L .D (.L .D (.L (.b9 (.br [0,1,2,3,4,5,6,7] .D) [0,1,3,7,0,0,32,127]) .D)))
def Nr:b2:=(.L .D (.L .D (.L (.L .D (.aW (.cJ [] .D))) .D)))
def Ns:b2:=(.L .D (.L (.L .D (.aW (.cJ [19] (.L .D (.L .D (.L (.aW (.L .D (.L .D (.aW (.cJ [25] (.L .D (.L .D (.L (.aW (.L .D (.L (.b9 (.br [0,1,2,3,4,6,7,5,8,9,10,11] .D) [0,0,0,0,0,28,0,0,252,508,1023,2047]) .D))) .D)))))))) .D)))))) (.L (.L .D (.aW (.cJ [47] .D))) .D)))
def Z7:b2:=(.L .D (.L .D (.L .D (.L .D (.L (.L .D (.aW (.cJ [12,32] .D))) (.L .D (.L .D (.L .D (.L (.L .D (.aW (.cJ [16,52] .D))) .D)))))))))
def Nt(ad:ft)(fH d f a:S)(w:aN)(bb:Ending->aN->Prop):Prop:=W ad (rk 25 fH) w λb c=>aV ad (gB 25 b 1) λag=>aZ ad (a4 3 ag) c λe=>aV ad (gB 25 b 2) λaj=>aZ ad (a4 3 aj) c λg=>W ad (ck 213 #[e,g]) c λh i=>aV ad (gH h 0) λj=>aV ad (gH h 1) λk=>aZ ad (eE .neq 73 G k (cT)) i λl=>eV l (bb (gd (bQ #[(T I 0 0),k])) i) (aV ad (dG .len #[211] #[a]) λak=>rr [(T I 0 0),(F H 0)] i λn af _ ah=>aV ad (dS .lss 3 (af.getD 1 bS) ak) λai=>eV ai (aV ad (fY 211 a (af.getD 1 bS)) λs=>aZ ad (a4 294 s) ah λt=>W ad (hV 294) ah λae aa=>W ad (dC 294 ae t) aa λ_ x=>aV ad (l5 294 ae I I I) λap=>W ad (jR 183 1 #[(0,ap)]) x λbm cs=>W ad (dG lp #[183,183] #[(af.getD 0 bS),bm]) cs λan cE=>aV ad (dS .add 3 (af.getD 1 bS) (F H 1)) λaq=>n [an,aq] cE) (W ad (ck 227 #[j,(af.getD 0 bS)]) ah λav am=>aV ad (gH av 0) λaD=>aV ad (gH av 1) λams=>aZ ad (eE .neq 73 G ams (cT)) am λbH=>eV bH (bb (gd (bQ #[(T I 0 0),ams])) am) (aV ad (dG .len #[183] #[aD]) λgU=>rr [(T I 0 0),(F H 0)] am λac aw _ bU=>aV ad (dS .lss 3 (aw.getD 1 bS) gU) λdE=>eV dE (aV ad (fY 183 aD (aw.getD 1 bS)) λm=>aZ ad (a4 52 m) bU λbu=>W ad (Ad 294 bu) bU λbn ar=>aZ ad (a4 294 bn) ar λo=>aV ad (nw 317 #[(0,(F H 3)),(1,(aw.getD 1 bS)),(2,d),(3,f),(4,o)]) λc0=>W ad (jR 311 1 #[(0,c0)]) ar λbC aO=>W ad (dG lp #[311,311] #[(aw.getD 0 bS),bC]) aO λgf aoq=>aV ad (dS .add 3 (aw.getD 1 bS) (F H 1)) λp=>ac [gf,p] aoq) (bb (gd (bQ #[(aw.getD 0 bS),(cT)])) bU))))
theorem Z8{fH a b c}{w bb}(h:Nt C fH a b c w bb):Calls C 175 #[fH,a,b,c] w bb:=Ac Z7 [fH,a,b,c] 4 Tryz.func175 (by kernel_rfl) rfl h (by kernel_rfl)
def Nu:b2:=(.L .D (.L .D (.L .D (.L .D (.L (.b9 (.br [0,1,2,3,4,5] .D) [0,1,0,4,12,31]) (.L (.b9 (.br [0,1,2,3,4,5] .D) [0,1,0,4,12,31]) (.L (.b9 (.br [0,1,2,3,4] .D) [0,1,0,4,15]) (.L (.b9 (.br [0,1,3,4,2,5,6,7] .D) [0,1,0,0,8,28,60,127]) .D))))))))
def Nv:b2:=(.L .D (.L .D (.L (.L .D (.aW (.cJ [11] .D))) (.L (.L .D (.aW (.cJ [35] .D))) .D))))
def Nw:b2:=(.L .D (.L .D (.L (.L .D (.aW (.cJ [8] (.L .D (.L .D (.L (.aW (.L .D (.b9 (.br [0,1,2,3,4,5,6,7,8,9,10,11,12] .D) [0,1,0,0,12,28,0,64,192,508,1023,2047,4095]))) .D)))))) .D)))
def Nx:b2:=(.L .D (.L .D (.bK [] (.L .D (.aW (.L .D (.L (.b9 (.br [0,1,2,3,4,5,6,7,8,9,10,11,12,13,14,15,16,17,18,19,20,21,22,23] .D) [0,1,3,7,0,16,48,112,0,256,768,1792,0,4096,12288,28672,15,65551,196863,459007,987135,2035711,4194303,8388607]) (.L .D (.L (.b9 (.br [0,1,2,3,4,5,6,7,8,9,10,11,12,13,14,15,16,17] .D) [0,1,3,7,0,16,48,112,0,256,768,1792,15,4111,12543,28927,65535,131071]) (.L .D (.L (.b9 (.br [0,1,2,3,4,5,6,7,8,9,10,11,12,13,14,15,16,17] .D) [0,1,3,7,0,16,48,112,0,256,768,1792,15,4111,12543,28927,65535,131071]) .D)))))))) .D)))
def Ny:b2:=(.L .D (.L .D (.L (.L .D (.aW (.cJ [4,10] .D))) (.L (.b9 (.br [1,2,3,4,5,6,7,8,9,10,11,12,13,14,15,16,17] (.jo 0 (.br [18,19,20,21,22,23] .D) (.iD 18 (.br [0,19,20,21,22,23] .D)))) [0,0,2,6,0,16,48,0,128,384,0,1024,3072,0,8192,24576,0,65536,262142,524287,1048575,1048575,4194303,8388607]) .D))))
def Nz:b2:=(.L .D (.L .D (.L .D (.L .D (.L (.L .D (.aW (.cJ [37] (.L .D (.L .D (.L (.aW (.L .D (.b9 (.br [0,1,2,3,4,5,6,7,8,9,10,11,12,13] .D) [0,1,0,0,12,28,60,0,128,384,1020,2047,4095,8191]))) .D)))))) (.L (.bK [63] (.b9 (.br [0,1,2,3,4,5,6,7,8,9] .D) [0,1,3,7,15,15,15,111,255,511]) .D) .D))))))
def NA:b2:=(.L .D (.L .D (.L .D (.L .D (.L (.L .D (.aW (.cJ [10,11,29] (.L .D (.L .D (.L (.aW (.L .D (.L .D (.L .D (.L (.L .D (.aW (.cJ [10,48] .D))) .D))))) .D)))))) .D)))))
def NB:b2:=(.L .D (.L .D (.L (.L .D (.aW (.cJ [13] .D))) .D)))
def NC:b2:=(.L .D (.L .D (.L .D (.L .D (.L (.bK [56] .D .D) .D)))))
def ND:b2:=(.L .D (.L (.bK [21] .D .D) (.L .D (.L (.L .D (.aW (.cJ [6,7] .D))) .D))))
def NE:b2:=(.L .D (.L (.b9 (.br [0,1,2,3,4,5,6,7,8,9,10,11,12,13] .D) [0,1,3,7,0,16,0,64,255,511,1023,1023,2047,8191]) (.L .D (.L .D (.L (.bK [35] .D .D) .D)))))
def NF:b2:=(.L .D (.L .D (.L (.L .D (.aW (.cJ [] (.L .D (.L .D (.aW (.L .D (.L .D (.aW (.cJ [28] (.L .D (.L .D (.L (.aW (.L .D (.b9 (.br [0,1,2,3,4,5,6,7,8,9,10,11,12,14,15,13,16,17,18,19,20] .D) [0,1,3,7,0,0,32,96,224,0,992,0,2048,6144,0,16384,63488,129024,260096,524256,1048575]))) .D))))))))))))) .D)))
def NG:b2:=(.L .D (.L .D (.L (.L .D (.aW (.cJ [5,12] (.L .D (.L .D (.L (.aW (.L .D (.L (.bK [26] .D .D) .D))) .D)))))) (.L (.bK [49] .D .D) (.L .D (.L (.L .D (.aW (.cJ [5,55] .D))) .D))))))
def NH:b2:=(.L .D (.L .D (.L .D (.L (.b9 (.br [0,1,2,3,4,5,6,7,8,9,10,11,12,13,14,15,16] .D) [0,1,3,7,0,16,48,112,0,256,768,1792,0,0,16128,32767,65535]) (.bK [8] (.L .D (.L (.b9 (.br [0,1,2,3,4,5,6,7,8,9,10,11,12,13,14,15] .D) [0,1,3,7,0,16,48,112,0,0,512,1536,3584,0,16383,32767]) .D)) .D)))))
def NI:b2:=(.L .D (.L .D (.L (.L .D (.aW (.cJ [4,15] (.L .D (.L .D (.L (.aW (.L .D (.bK [6,7,8,9] (.b9 (.br [0,1,2,3,4,5,6,7,8] (.jo 9 (.br [10,11,12,13,14,15,16,17,18,19] .D) (.iD 15 (.br [9,10,11,12,13,14,16,17,18,19] .D)))) [0,1,3,7,0,16,48,112,0,511,1023,2047,2047,2047,2047,0,36863,106495,245759,524287]) (.L .D (.L .D (.bK [4,9] (.aW (.L .D (.L (.b9 (.br [0,1,2,3,4,5,6,7,8,9,10] .D) [0,1,3,7,0,16,48,112,0,511,1023]) (.L .D (.L (.L .D (.b9 (.br [0,1,2,3,4,5,6,7,8,9,10] .D) [0,1,3,7,0,16,48,112,0,511,1023])) .D))))) .D)))))) .D)))))) .D)))
def NJ:b2:=(.L .D (.L .D (.L .D (.L .D (.L (.L .D (.aW (.cJ [8,9,20] (.L .D (.L .D (.bK [8,9] (.aW (.L .D (.L .D (.L (.bK [46] .D .D) (.bK [8,9] .D .D))))) .D)))))) .D)))))
def Dk:b2:=(.L .D (.L (.bK [20] .D .D) (.L .D (.L (.L .D (.aW (.cJ [28] (.L .D (.L .D (.L (.aW (.L .D (.L .D (.L (.L .D (.aW (.cJ [35] (.L .D (.L .D (.bK [] .D .D)))))) .D)))) .D)))))) .D))))
def NK:b2:=(.L .D (.L (.L .D (.aW (.cJ [11] (.L .D (.L .D (.L (.aW (.L .D (.bK [39] (.b9 (.br [0,1,2,3,4,5,6,7,8,9,10,11,12,13,14,15,16,17,18,19,20,21,22,23] .D) [0,1,3,7,15,31,15,79,207,463,975,2047,4095,8191,16383,32767,65535,16383,147455,409599,933887,1982463,4194303,8388607]) .D))) .D)))))) .D))
def NL:b2:=(.L .D (.L (.L (.b9 (.br [0,1,2,3,4,5,6,7,8,9,10,11] .D) [0,1,3,7,0,16,63,127,255,255,511,2047]) .D) (.L .D (.L (.L .D (.aW (.cJ [7,33] .D))) (.L (.b9 (.br [0,1,2,3,4,5,6,7] .D) [0,1,3,7,0,16,0,127]) .D)))))
def NM:b2:=(.L .D (.L (.bK [33] .D .D) (.L .D (.L (.L (.b9 (.br [0,1,2,3,4,5,6,7,8,9,10] .D) [0,1,3,7,0,31,63,127,127,255,1023]) (.bK [59] .D .D)) (.L (.b9 (.br [0,1,2,3,4,5,6] .D) [0,1,3,7,0,0,63]) .D)))))
def NN:b2:=(.L .D (.L .D (.bK [] (.L .D (.L (.L .D (.b9 (.br [0,1,2,3,4,5,6,7,8,9,10] .D) [0,1,3,7,0,16,48,112,0,496,1023])) .D)) .D)))
def NO:b2:=(.L .D (.bK [10,11,12] (.b9 (.br [0,1,2,3,4,5,6,7] (.jo 8 (.br [9,10,11,12,13,14,15,16] .D) (.iD 13 (.br [8,9,10,11,12,14,15,16] .D)))) [0,1,3,7,0,16,0,64,255,511,1023,1023,1023,0,10239,28671,65535]) (.L .D (.L .D (.L .D (.L (.b9 (.br [0,1,2,3,4,5,6,7,8,9,10,11,12,13,14] .D) [0,1,3,7,0,0,32,0,0,511,1023,2047,2047,4095,16383]) (.L .D (.L (.b9 (.br [0,1,2,3,4,5,6,7,8,9,10,11] .D) [0,1,3,7,0,16,0,64,0,0,960,2047]) .D))))))))
def NP:b2:=(.L .D (.L .D (.L (.L .D (.aW (.cJ [11] .D))) .D)))
def NQ:b2:=(.L .D (.L (.bK [20] (.b9 (.br [0,1,2,3,4,5,6,7,8,9,10,11] .D) [0,1,0,4,12,28,63,127,255,255,1023,2047]) .D) (.L .D (.L (.L .D (.aW (.cJ [6,28] .D))) .D))))
def NR:b2:=(.L .D (.L .D (.L (.L .D (.aW (.cJ [7] (.L .D (.L .D (.L (.aW (.L .D (.L .D (.L (.L .D (.aW (.cJ [3,12] (.L .D (.L .D (.bK [3] .D .D)))))) .D)))) .D)))))) .D)))
def NS:b2:=(.L .D (.L .D (.L (.L .D (.aW (.cJ [8] .D))) .D)))
def NT:b2:=(.L .D (.L .D (.L (.L .D (.aW (.cJ [9,15] (.L .D (.L .D (.bK [9] .D .D)))))) .D)))
def NU:b2:=(.L .D (.L .D (.L (.L .D (.aW (.cJ [16] (.L .D (.L .D (.L (.aW (.L .D (.L .D (.L (.L .D (.aW (.cJ [9,23] (.L .D (.L .D (.bK [9] (.aW (.L .D (.L (.bK [44] .D .D) (.L (.b9 (.br [0,1,2,3,4] .D) [0,1,0,7,15]) .D)))) .D)))))) .D)))) .D)))))) .D)))
def NV:b2:=(.L .D (.L .D (.bK [4] (.b9 (.br [0,1,2,3,4,5,6,7,8,9,11,12] (.jo 10 (.br [] (.jo 13 (.br [14,15,16] .D) (.iD 15 (.br [13,14,16] .D)))) (.iD 15 (.br [10,13,14,16] .D)))) [0,1,3,7,0,16,48,112,0,256,768,0,2048,7936,16383,0,65535]) (.L (.b9 (.br [0,1,2,3,4] .D) [0,1,0,4,15]) .D))))
def NW:b2:=(.L .D (.L (.bK [12] .D .D) (.L (.bK [21] .D (.L (.L (.b9 (.br [0,1,2,4,5,3,6,7] .D) [0,0,2,7,0,16,63,127]) .D) .D)) .D)))
def NX:b2:=(.L .D (.L .D (.L (.L .D (.aW (.cJ [13] (.L .D (.L .D (.L (.aW (.L .D (.L (.b9 (.br [0,1,2,3,4,5,6,7,8] .D) [0,0,3,7,0,0,48,112,255]) .D))) .D)))))) .D)))
def NY:b2:=(.L .D (.L .D (.L (.b9 (.br [0,1,2,3,4,5,6,7,8,9,10,11] .D) [0,0,2,6,0,16,48,112,254,0,1023,2047]) .D)))
def NZ:b2:=(.L .D (.L (.b9 (.br [1,2,3,4,5,6,7,8,0,9,10,11] .D) [0,0,2,6,14,0,32,96,224,511,1023,2047]) (.L (.L .D (.aW (.cJ [21] (.L .D (.L .D (.L (.aW (.L .D (.b9 (.br [0,1,2,3,4,5,6,7,8,9,10] .D) [0,1,3,7,0,16,48,112,0,496,1023]))) .D)))))) .D)))
def N0:b2:=(.L .D (.L (.aW (.bK [10] .D (.L .D (.bK [33] .D (.L .D (.L (.b9 (.br [0,1,2,3,6,7,8,9,10,4,5,11,12] .D) [0,1,3,7,15,31,0,64,192,448,960,2047,4095]) .D)))))) (.L (.b9 (.br [0,1,2,3,4,5,6,7,8,9,10,11,12,13,14,15,16] .D) [0,1,3,7,0,16,48,112,0,511,1023,2047,2047,2047,4095,24575,65535]) .D)))
def N1:b2:=(.L .D (.L (.bK [40] .D .D) (.L (.b9 (.br [0,1,2,3,4,5,6,7,8,9,10,11,12] .D) [0,1,0,0,0,16,0,64,240,0,1020,2047,4095]) .D)))
def N2:b2:=(.L .D (.L .D (.L .D (.L .D (.L (.L .D (.aW (.cJ [2,10] (.L .D (.L .D (.bK [2] (.aW (.L .D (.L (.b9 (.br [0,1,2,3,4,5,6,7,8,9,10,11,13,14,12,15,16] .D) [0,0,0,0,8,0,32,0,128,1,513,1635,3683,4,8196,32767,65535]) .D))) .D)))))) .D)))))
def N3:b2:=(.L .D (.L .D (.L (.b9 (.br [0,1,2,3,4,5,6,7,8,9,10,11,12] .D) [0,0,0,2,10,30,62,126,1,257,1023,2047,4095]) .D)))
def N4:b2:=(.L .D (.L .D (.L .D (.L (.L .D (.aW (.cJ [5,11] (.L .D (.L .D (.bK [5] (.aW (.L .D (.L (.bK [28] .D .D) .D))) .D)))))) .D))))
def N5:b2:=(.L .D (.L .D (.L (.L .D (.aW (.cJ [5,6,15] (.L .D (.L .D (.L (.aW (.L .D (.b9 (.br [0,1,2,3,4,5,6,7,8,12,13,14,9,10,11,15,16,17,18,19] .D) [0,0,2,6,14,0,32,126,254,510,1022,2047,0,0,8192,28671,61439,131071,262143,524287]))) .D)))))) (.L (.L .D (.aW (.cJ [40] (.L .D (.L .D (.L (.aW (.L .D (.L .D (.L (.aW (.cJ [10] (.L (.bK [58] .D .D) .D))) (.L (.b9 (.br [0,1,2,3,4,5,6,7,8,9,10,11,12,13,14,15,16,17,18,19,20,21,22,23,24,25,26,27,28,29,30,31] .D) [0,0,0,0,0,0,0,0,0,0,768,1792,0,0,12288,28672,0,0,196608,458752,0,0,3145728,7340032,16776963,33554179,67108623,134217487,268435263,536870719,1073741823,2147483647]) (.L (.b9 (.br [0,1,2,3,4,5,6,7,8,9,10,11,12,13,14,15,16,17,18,19,20,21] .D) [0,0,0,6,14,0,0,96,224,0,512,1536,3584,0,0,24576,57344,0,253952,516096,1048064,2097151]) (.L .D (.aW (.cJ [113] (.L .D (.L .D (.bK [] (.aW (.L .D (.L .D (.bK [129] .D (.L (.L (.b9 (.br [0,1,2,3,4,5,6,7,8,9,10,11,12,13] .D) [0,1,3,7,0,0,48,112,0,0,768,1792,0,8191]) (.b9 (.br [0,1,2,3,4,5,6,7,8,9,10,11,12,13] .D) [0,1,3,7,0,0,48,112,0,0,768,1792,0,8191])) .D))))) .D)))))))))))) .D)))))) .D))))
def N6:b2:=(.L (.b9 (.br [0,1,2,3,4,5,6,7,8,9,10,11,12,13] .D) [0,1,3,7,0,16,48,112,240,0,512,2032,4095,8191]) (.L .D (.L .D (.aW (.cJ [28] .D)))))
def N7:b2:=(.L .D (.L .D (.L (.bK [28] .D .D) (.L .D (.L .D (.bK [11] .D (.L (.aW (.bK [46] .D .D)) .D)))))))
def N8:b2:=(.L .D (.L .D (.L (.b9 (.br [0,1,2,3,4,5,6] .D) [0,1,3,7,0,0,63]) .D)))
def N9:b2:=(.L .D (.L .D (.L (.L .D (.aW (.cJ [17] (.L .D (.L .D (.L (.aW (.L .D (.b9 (.br [0,1,2,3,4,5,6,7,8,9,10] .D) [0,1,3,7,0,0,0,96,224,0,1023]))) .D)))))) .D)))
def Oa:b2:=(.L .D (.L .D (.L (.L .D (.aW (.cJ [1,13] .D))) .D)))
def Ob:b2:=(.L .D (.L .D (.L (.L .D (.aW (.cJ [3,8] .D))) .D)))
def Oc:b2:=(.L .D (.L .D (.L (.aW (.cJ [5,6] .D)) .D)))
def Od:b2:=(.L .D (.L (.b9 (.br [0,1,2,3,4,5,6,7,8,9] .D) [0,1,3,7,0,31,63,0,255,511]) .D))
def Oe:b2:=(.L .D (.L (.b9 (.br [0,1,2,3,4,5,6,7,8,9,10] .D) [0,0,2,6,14,0,32,126,255,511,1023]) .D))
def Of:b2:=(.L .D (.L .D (.aW (.cJ [1,2,3,10,11] (.aW (.L .D (.L .D (.L .D (.bK [3] .D (.L .D (.bK [13,14] .D (.bK [] (.bK [75] .D .D) (.L (.bK [97] (.b9 (.br [0,1,2,3,4,5,6,7,8,9,10,11,12,13,14,15,16] .D) [0,1,3,7,7,7,39,119,247,7,7,1543,3591,8191,16383,32767,65535]) .D) .D)))))))))))))
def Og:b2:=(.L (.L .D (.aW (.cJ [12] (.L .D (.L .D (.L (.aW (.L .D (.b9 (.br [0,1,2,3,4,5,6,7,8,9,10,11,12,13] .D) [0,0,0,4,12,28,0,0,192,448,0,2044,4095,8191]))) .D)))))) (.L .D (.aW (.cJ [31] (.L .D (.L .D (.L (.aW (.L .D (.b9 (.br [0,1,2,3,4,5,6,7,8,9,10,11,12,13] .D) [0,0,0,4,12,28,0,0,192,448,0,2044,4095,8191]))) .D)))))))
def Oh:b2:=(.L .D (.aW (.cJ [14] (.L .D (.L .D (.L (.aW (.L .D (.b9 (.br [0,1,2,3,4,5,6,7,8,9,10,11,12,13] .D) [0,0,3,7,0,0,0,0,192,448,1008,2047,4095,8191]))) .D))))))
def Z9:b2:=(.L .D (.bK [0,2] .D (.bK [0,2] .D (.bK [0,2] .D .D))))
def Oi(ad:ft)(fH:S)(w:aN)(bb:Ending->aN->Prop):Prop:=ny (λb=>aV ad (dS .geq 173 fH (F hr 4294967296)) λc=>eV c (aV ad (dS .shr 173 fH (F hr 32)) λag=>b [ag,(F H 32)] w) (b [fH,(F H 0)] w)) λe _ aj=>ny (λg=>aV ad (dS .geq 173 (e.getD 0 bS) (F hr 65536)) λh=>eV h (aV ad (dS .shr 173 (e.getD 0 bS) (F hr 16)) λi=>aV ad (dS .add 3 (e.getD 1 bS) (F H 16)) λj=>g [i,j] aj) (g [(e.getD 0 bS),(e.getD 1 bS)] aj)) λk _ l=>ny (λak=>aV ad (dS .geq 173 (k.getD 0 bS) (F hr 256)) λn=>eV n (aV ad (dS .shr 173 (k.getD 0 bS) (F hr 8)) λaf=>aV ad (dS .add 3 (k.getD 1 bS) (F H 8)) λah=>ak [af,ah] l) (ak [(k.getD 0 bS),(k.getD 1 bS)] l)) λai _ s=>aV ad (rl 173 5 (ai.getD 0 bS)) λt=>aV ad (Ca 9 (bO (eS #[0,1,2,2,3,3,3,3,4,4,4,4,4,4,4,4,5,5,5,5,5,5,5,5,5,5,5,5,5,5,5,5,6,6,6,6,6,6,6,6,6,6,6,6,6,6,6,6,6,6,6,6,6,6,6,6,6,6,6,6,6,6,6,6,7,7,7,7,7,7,7,7,7,7,7,7,7,7,7,7,7,7,7,7,7,7,7,7,7,7,7,7,7,7,7,7,7,7,7,7,7,7,7,7,7,7,7,7,7,7,7,7,7,7,7,7,7,7,7,7,7,7,7,7,7,7,7,7,8,8,8,8,8,8,8,8,8,8,8,8,8,8,8,8,8,8,8,8,8,8,8,8,8,8,8,8,8,8,8,8,8,8,8,8,8,8,8,8,8,8,8,8,8,8,8,8,8,8,8,8,8,8,8,8,8,8,8,8,8,8,8,8,8,8,8,8,8,8,8,8,8,8,8,8,8,8,8,8,8,8,8,8,8,8,8,8,8,8,8,8,8,8,8,8,8,8,8,8,8,8,8,8,8,8,8,8,8,8,8,8,8,8,8,8,8,8,8,8,8,8,8,8,8,8,8,8])) t) λae=>aV ad (rl 5 3 ae) λaa=>aV ad (dS .add 3 (ai.getD 1 bS) aa) λx=>bb (gd x) s
theorem aaa{fH}{w bb}(h:Oi C fH w bb):Calls C 316 #[fH] w bb:=Ac Z9 [fH] 1 Tryz.func316 (by kernel_rfl) rfl h (by kernel_rfl)
def Oj:b2:=(.L .D (.L .D (.L (.b9 (.br [0,1,2,3,4,5,6,7,8,9,10,11,12,13,14,15,16,17] .D) [0,0,2,6,14,0,32,96,224,0,992,2016,4064,8160,16382,32767,65535,131071]) .D)))
def Ok:b2:=(.L .D (.aW (.cJ [8] (.L .D (.L (.aW (.L .D (.aW (.cJ [9] (.L (.bK [34] (.b9 (.br [0,1,2,3,4,5,6,7,8,9,10,11,12,13,14,15,16] .D) [0,0,3,7,15,15,15,111,239,15,15,1039,3599,7695,16383,32767,65535]) .D) (.L (.aW (.b9 (.br [0,1,2,3,4,5,6,7,8,9,10,11,12,13,14,15,16,17] .D) [0,0,0,0,8,0,0,64,224,480,0,0,3072,7168,16355,32739,65535,131071])) .D)))))) .D)))))
def Ol:b2:=(.L .D (.L (.bK [12] .D .D) (.L (.b9 (.br [0,1,2,3,4,5,6,7,8,9,10,11,12,13,14,15,16,17,18] .D) [0,0,0,2,10,30,62,0,0,128,640,1920,3968,8190,1,16385,65535,131071,262143]) .D)))
end Go.Proofs.YtepeilglbedgdaaGreatDoor
namespace Go.X
variable{w:aN}{a6 af b io n:Nat}{cf:List S}{aU:Type}{aa bm:S}{ac:S -> aN -> Prop}{ad:ft}{ar av pX:co}
section
open Go.RowKit Go.Lib
def aab(w:aN)(e:co)(s:ByteArray):Q [] w (bytesWorld w e s):=
 ⟨rfl,rfl,rfl,by rw[bytesWorld_size];omega,λk a _=>bytesWorld_at_old w e s k a⟩
def Om{bn aq:co}{s:ByteArray}(e:mF ad bn)(f:ad.underlying aq=E (.slice av))(g:ad.underlying av=E (.int cl))
  (k:∀a c,aT a bs (T (E ⟨w.heap.size,0,I⟩) s.size c) (eO s)->Q [] w a->ac (T (E ⟨w.heap.size,0,I⟩) s.size c) a):W ad (rl bn aq (bO s)) w ac:=by
 refine(j9 (aa:=T (E ⟨w.heap.size,0,I⟩) s.size (jz w s.size 0 av)) (a:=bytesWorld w av s) ?_).2 (k _ _ ?_ (aab w av s))
 ·unfold rl;exact gv ad _ w (Go.Lib.run_convert_string_bytes w bn aq av s e f g)
 ·have b:=oy s;refine⟨_,_,by rw[b],by rw[b];exact grownCap_ge w s.size 0 av,Z ⟨_,_,rfl,λj d=>?_⟩⟩;rw[kx e2,gA,b]at d;rw[gQ,bytesWorld_cell w av s j d,tK,e1];have:j<(eO s).length:=by rw[b];exact d
  rw[cr this];simp only[m1,eO,gp];have h:j<s.data.toList.length:=this;rw[cr h];rfl
end
section
open Go.RowKit
def On{aq bn:co}{be:aU->List S}{c:Nat}{p:S}{l:List aU}
  (z:gV ad aq av=G) (D:ep ad av 1=G) (e:aC w b pX cf) (an:af+l.length<=cf.length) (ao:aT w be p l) (J:∀x,(be x).length=1) (K:∀x,∀ae∈be x,ae.oneCell'=G) (L:l.length<=n)
  (k:∀a,aC a b pX (cf.take af++l.flatMap be++cf.drop (af+l.length))->Q [b] w a->a.heap.size=w.heap.size->ac (F H l.length) a):
  W ad (dG .copy #[aq,bn] #[T (E ⟨b,af,I⟩) n c,p]) w ac:=by
 have q:=o8 z;obtain⟨i,al,dI⟩:=tH D;have r:(ad.info? av).map (·.size)=E 1:=by rw[al];simp[dI]
 obtain⟨d,f,rfl,ap,N⟩:=ao;have g:(l.flatMap be).length=l.length:=by rw[kx J,gA]
 by_cases s:l=[]
 ·subst s;refine(j9 (aa:=F H 0) (a:=w) ?_).2 ?_
  ·show(do fh (fw (<-Builtin.copy_ #[aq,bn] 0 #[T (E ⟨b,af,I⟩) n c,T d 0 f])):Sem fD).run ad w=_;exact gv ad _ w (run_copy_none w aq bn 0 av _ d n c 0 f q r B)
  ·refine k w ?_ (Q.b0 _ _) rfl;simpa using e
 ·obtain⟨dB,h,rfl,O⟩:=N.resolve_left s;have R:(l.flatMap be).length=Nat.min l.length n:=by rw[g];exact(my L).symm
  have V:∀j aa,(l.flatMap be)[j]?=E aa->w.cell? ((⟨dB,h,I⟩:es).add j)=E aa:=λj aa m=>by rw[jC,O j (fi.1 m).1,m]
  have o:∀aa∈l.flatMap be,aa.oneCell'=G:=λaa X=>by obtain⟨x,_,ab⟩:=tm.1 X;exact K x aa ab
  have t:∀j,j<(l.flatMap be).length->(w.cell? ⟨b,af+j,I⟩).isSome=G:=λj m=>by rw[e.bh,cr A];rfl
  have u:∀j,j<(l.flatMap be).length->w.frozen? ⟨b,af+j,I⟩=U:=λj _=>e.Fz;have v:=run_copy_cells (P:=ad) w aq bn 0 av b af n c ⟨dB,h,I⟩ l.length f (l.flatMap be) q r R V t u o;have ag:cf=cf.take af++(cf.drop af).take l.length++cf.drop (af+l.length):=by rw[<-oq,gq,l3,l3]
  obtain⟨a,y,ah,ai,aj⟩:=x3 (ad:=ad) b af pX (l.flatMap be) (cf.take af) ((cf.drop af).take l.length) (cf.drop (af+l.length)) w 0 (ag▸e) (by rw[g,ea,e8];omega) o (by rw[ea];omega);have ak:=run_storeCells_cells (P:=ad) b af (l.flatMap be) 0 w (by simpa using t) (by simpa using u) o;rw[ak]at y;have am:w.setCells b af (l.flatMap be)=a:=by simpa using y
  refine(j9 (aa:=F H l.length) (a:=a) ?_).2 (k a ah ai aj);show(do fh (fw (<-Builtin.copy_ #[aq,bn] 0 #[T (E ⟨b,af,I⟩) n c,T (E ⟨dB,h,I⟩) l.length f])):Sem fD).run ad w=_;rw[am,g]at v;exact gv ad _ w v
section
variable{be:aU->List S}{l:List aU}
def Gz(b:hO ad ar av a6 io bm)(i:∀x,(be x).length=a6)(j:∀x,∀ae∈be x,ae.oneCell'=G)(m:aT w be aa l)(r:l.length*io<=140737488355328)(s:l.length<=d0)
  (k:∀ae a am,bP a av a6 ae l.length (l.flatMap be) am->(∀g∈am,w.heap.size<=g)->Q [] w a->ac ae a):
  W ad (jR ar 0 #[]) w λd aA=>W ad (dG lp #[ar,ar] #[d,aa]) aA λae a=>ac ae a:=by
 refine KR b λaA n c t=>tJ b n (sE.x7 (o8 b.cY) (m.V c) i j) (by rwa[gQ]) (by rwa[gQ]) λae ax cM e o p _=>?_;rw[gQ,m2]at e;refine k ae ax cM e (λg q=>?_) (c.R o (by intro k f;simp at f;subst f;exact Z (fF _)));rcases p g q with h|h
 ·simp at h;omega
 ·omega
end
end
end Go.X
namespace Go.Proofs.YtepeilglbedgdaaGreatDoor
open Go.X
attribute[local irreducible]Go.X.W
variable{w:aN}
section
open Go.RowKit
theorem p4:eH C 52 5 1 bs (λb:UInt8=>F cl b.toNat):=eH.aW fP el mb
def yp(n ay al:Int):Int:=ay+n%(al-ay+1)
def aac{n ay al:Int}(h:ay<=al):ay<=yp n ay al/\yp n ay al<=al:=by unfold yp;have a:=Int.emod_nonneg n (show al-ay+1≠0 by omega);have b:=Int.emod_lt_of_pos n (show 0<al-ay+1 by omega);omega
def aad{n ay al:Int}(m:-1152921504606846976<=ay)(o:ay<=al)(p:al<=4611686018427387904):
  a0 C 13 #[F H n,F H ay,F H al] w λaa a=>aa=F H (yp n ay al)/\w=a:=by
 refine a9 (.L .D (.L .D (.bK [0] .D .D))) 3 Tryz.func13 K rfl λa1 d=>?_;simp+decide only[↓a8,ba,Tryz.f13];subst d;have e:H.wrap (al-ay)=al-ay:=bq A A;have f:H.wrap (al-ay+1)=al-ay+1:=bq A A;simp only[tF,tE,e,f];apply(vE A).2;have q:=Int.tmod_lt_of_pos n (show 0<al-ay+1 by omega);have r:-(al-ay+1)<n.tmod (al-ay+1):=by have:=Int.lt_tmod_of_pos n (show 0<al-ay+1 by omega);omega
 have s:=Int.emod_nonneg n (show al-ay+1≠0 by omega);have t:=Int.emod_lt_of_pos n (show 0<al-ay+1 by omega);have g:∃k:Int,n.tmod (al-ay+1)-n%(al-ay+1)=k*(al-ay+1)/\(k=0\/k=-1):=by
  by_cases h:0<=n
  ·exact⟨0,by rw[Int.tmod_eq_emod_of_nonneg h];omega,Y rfl⟩
  ·have:=Int.tmod_eq_emod (a:=n) (b:=al-ay+1);rw[this];split
   ·exact⟨0,A,Y rfl⟩
   ·refine⟨-1,?_,Z rfl⟩;have:((al-ay+1).natAbs:Int)=al-ay+1:=A;rw[this];omega
 refine bT (λaF a=>aF=[F H (n%(al-ay+1))]/\a=w) ?_ ?_
 ·simp only[qN,bi];obtain⟨k,u,c⟩:=g;refine⟨λv=>?_,λx=>?_⟩
  ·simp only[tE,tF,and_true];have i:H.wrap (n.tmod (al-ay+1)+al)=n.tmod (al-ay+1)+al:=bq A A;have j:H.wrap (n.tmod (al-ay+1)+al-ay)=n.tmod (al-ay+1)+al-ay:=bq A A;have l:H.wrap (n.tmod (al-ay+1)+al-ay+1)=n.tmod (al-ay+1)+al-ay+1:=bq A A;rw[i,j,l];congr 2;rcases c with rfl|rfl<;>omega
  ·simp only[and_true];congr 2;rcases c with rfl|rfl<;>omega
 ·rintro _ _ _ ⟨rfl,rfl⟩;try simp only[M]
  rw[bq A A];exact⟨rfl,rfl⟩
end
end Go.Proofs.YtepeilglbedgdaaGreatDoor
namespace Go.Proofs.YtepeilglbedgdaaGreatDoor.fC
open Go.X
attribute[local irreducible]Go.X.W
variable{am bU:List Nat}{a w:aN}{a6 b g hM i k n:Nat}{aU:Type}{aa cA cB:S}
structure gZ where
 cu:Int
 md:Int
 mL:Int
 e4:Int
 yq:Int
deriving DecidableEq
def it(h:gZ):List S:=[F H h.cu,F H h.md,F H h.mL,F H h.e4,F H h.yq]
def pf(h:gZ):(it h).length=5:=rfl
def lt(h:gZ):S:=b6 (it h).toArray
variable{h:gZ}
def aae{t:Int}(d:aC w b 3 [F H t]):
  a0 C 245 #[lt h,aE (E ⟨b,0,I⟩)] w λaa a=>aa=aK (decide (t<=h.mL))/\Q [] w a:=by
 refine a9 .D 2 Tryz.func245 K rfl λa1 e=>?_;simp+decide only[↓a8,ba,Tryz.f245];subst e;unfold lt it;refine eA λaA f c ao=>?_;try simp only[M]
 refine(bl bZ f.bh).2 ((bl bZ (d.J c B).bh).2 ?_);try simp only[M]
 exact⟨rfl,c⟩
def aaf{af:Int}(e:aC w b 3 [F H af]):
  a0 C 291 #[lt h,aE (E ⟨b,0,I⟩)] w λaa a=>aa=aK (decide (H.wrap (af-h.cu)<h.md))/\Q [] w a:=by
 refine a9 .D 2 Tryz.func291 K rfl λa1 f=>?_;simp+decide only[↓a8,ba,Tryz.f291];subst f;unfold lt it;refine eA λaA c d ao=>?_;try simp only[M]
 refine(bl bZ (e.J d B).bh).2 ((bl bZ c.bh).2 ?_);try simp only[M]
 apply(bl bZ c.bh).2;try simp only[M]
 exact⟨rfl,d⟩
def aag{x e f:Nat}{af hM:Int}{g:S}{b:List Int}(j:aC w e 350 [aE (E ⟨x,0,I⟩)])(k:aC w f 3 [F H af])
  (l:aC w x 405 [F H hM,cB,g]) (m:aT w ew g b) (al:i<b.length):
  a0 C 290 #[F H i,aE (E ⟨e,0,I⟩),aE (E ⟨f,0,I⟩)] w λaa a=>aa=aK (decide (af<b[i]))/\Q [] w a:=by
 obtain⟨d,c,rfl,r,n⟩:=m;obtain⟨b8,s,rfl,o⟩:=n.resolve_left (by intro h;subst h;simp at al);refine a9 Od 3 Tryz.func290 K rfl λa1 p=>?_;simp+decide only[↓a8,ba,Od,Tryz.f290];subst p;apply(bl w6 (bD j).bh).2;try simp only[M]
 refine(bl Aj (bD l).bh).2 ((hP vL hl al).2 ?_);have q:=w1 Cw o (cr al);refine(bl bZ (Ct (Kp q))).2 ((bl bZ (bD k).bh).2 ?_);try simp only[M]
 exact⟨rfl,cD _ _⟩
variable{ao:List gZ}
def aah{bL:Array S}{ah:gZ->Bool}(o:bf C g=G)(p:aT w it aa ao)(D:ao.length<=9223372036854775806)
  (q:∀h∈ao,∀a,Q [] w a->a0 C g (#[]++#[lt h]++bL) a λae r=>ae=aK (ah h)/\Q [] a r):
  a0 C 288 #[aa,.func (.func g) #[] bL] w λae a=>ae=F H (if ao.findIdx ah<ao.length then(ao.findIdx ah:Int)else-1)/\Q [] w a:=by
 obtain⟨d,c,rfl,J,s⟩:=p;refine a9 (.L .D (.L (.L .D (.aW (.cJ [8] .D))) .D)) 2 Tryz.func288 K rfl λa1 t=>?_;simp+decide only[↓a8,ba,Tryz.f288];subst t;try simp only[M]
 apply c1 (λaF a=>∃k:Nat,aF=[F H k]/\k<=ao.length/\(∀j,j<k->∀h,ao[j]?=E h->ah h=U)/\Q [] w a) (λaF _=>match aF with|[F _ k]=>ao.length-k.toNat|_=>0) ⟨0,rfl,A,A,Q.b0 _ _⟩;rintro _ _ aA ⟨k,rfl,L,i,e⟩;simp only[M,bi];refine⟨λR=>?_,λV=>?_⟩
 ·have b:k<ao.length:=A;obtain⟨b8,W,rfl,u⟩:=s.resolve_left (by intro h;subst h;simp at b);apply(hP tO rB b).2;have v:=w1 pf (u.J e B) (cr b);refine(gC uL v).2 (x4 o (q ao[k] (dX b) aA e) ?_);rintro _ ax ⟨rfl,x⟩;have n:Q [] w ax:=e.R x B;simp only[cG];refine⟨λl=>?_,λl=>?_⟩
  ·have:ao.findIdx ah=k:=(List.findIdx_eq b).2 ⟨l,λj f=>i j f _ (cr A)⟩;refine⟨?_,n⟩;rw[this,if_pos b]
  ·refine⟨⟨k+1,?_,b,?_,n⟩,?_⟩
   ·rw[bq A A];rfl
   ·intro j f h m;by_cases y:j<k
    ·exact i j y h m
    ·obtain rfl:j=k:=A;rw[cr b]at m;cases m;exact l
   ·rw[bq A A];omega
 ·have:ao.findIdx ah=ao.length:=List.findIdx_eq_length_of_false (λh z=>by
   obtain⟨j,f,rfl⟩:=ns z;exact i j A _ (cr f))
  refine⟨?_,e⟩;rw[this,if_neg A]
def Oo{be:aU->List S}{d:Option es}{c:Nat}{l:List aU}(e:∀x,(be x).length=a6)(h:aT w be (T d l.length c) l)(m:k<=l.length):
  aT w be (T (if c=k then d else d.map (·.add (k*a6))) (l.length-k) (c-k)) (l.drop k):=by
 obtain⟨fl,n,f,o,g⟩:=h;cases f;refine⟨_,c-k,by rw[e8],by rw[e8];omega,?_⟩;by_cases a:l.drop k=[]
 ·exact Y a
 ·right;have i:k<l.length:=by
   rcases Nat.lt_or_ge k l.length with h|h
   ·exact h
   ·exact absurd (uu h) a
  obtain⟨b,af,rfl,j⟩:=g.resolve_left (by intro h;subst h;simp at i);refine⟨b,af+k*a6,by rw[if_neg A];simp[jC],?_⟩;rw[<-z1 e];exact j.vF _
def Oq{bL:Array S}{ah:gZ->Bool}{xT:Nat}{m:S}(n:bf C g=G)
  (f:aC w b 405 [cA,cB,m]) (i:aT w it cB ao) (y:ao.length<=9223372036854775806) (o:xT<=ao.length)
  (q:∀h∈ao,∀a,Q [] w a->a0 C g (#[]++#[lt h]++bL) a λae r=>ae=aK (ah h)/\Q [] a r):
  a0 C 244 #[aE (E ⟨b,0,I⟩),F H xT,.func (.func g) #[] bL] w λae a=>ae=F H (xT+(ao.drop xT).findIdx ah:Nat)/\Q [] w a:=by
 refine a9 .D 3 Tryz.func244 K rfl λa1 s=>?_;simp+decide only[↓a8,ba,Tryz.f244];subst s;try simp only[M]
 apply(bl sJ f.bh).2;have t:=i;obtain⟨d,c,rfl,z,D⟩:=i;apply(rs tO rB A A).2;rw[hf];have u:=Oo (k:=xT) pf t o;apply aH ZF (aah n u (by rw[e8];omega) (λh v a e=>q h (tr v) a e));rintro _ aA ⟨rfl,e⟩;simp only[qN,bi];have x:=List.findIdx_le_length (p:=ah) (xs:=ao.drop xT);rw[e8]at x;refine⟨λj=>?_,λl=>?_⟩
 ·try simp only[M]
  apply(bl sJ (f.J e B).bh).2;try simp only[M]
  refine⟨?_,e⟩;congr 1;rw[e8]at j;split at j<;>omega
 ·try simp only[M]
  refine⟨?_,e⟩;rw[e8]at l⊢;split at l
  ·rw[if_pos (by assumption),bq A A];rfl
  ·omega
def lM(w:aN)(b hM:Nat)(ao:List gZ)(am:List Nat):Prop:=
 ∃cB d c a fM,aC w b 405 [F H hM,cB,d]/\bP w 354 5 cB ao.length (ao.flatMap it) a/\bP w 3 1 d (c:List Int).length (c.flatMap ew) fM/\
  (∀i:Nat,c[i]?=(ao[i*hM]?).map gZ.cu)/\1<=hM/\hM<=9223372036854775807/\b∉a/\b∉fM/\(∀g∈a,g∉fM)/\am=b::a++fM
def lM.J(h:lM w b hM ao am)(c:Q bU w a)(d:∀g∈am,g∉bU):lM a b hM ao am:=by obtain⟨cB,f,i,j,fM,k,l,m,n,o,p,q,r,s,rfl⟩:=h;exact⟨cB,f,i,j,fM,k.J c (d b B),l.J c (λg e=>d g (by simp[e])),m.J c (λg e=>d g (by simp[e])),n,o,p,q,r,s,rfl⟩
def lM.aL(h:lM w b hM ao am):∀g∈am,g<w.heap.size:=by
 obtain⟨cB,f,i,j,fM,c,d,e,k,l,m,n,o,p,rfl⟩:=h;intro g a;simp only[jN,ce,b4]at a;rcases a with rfl|a|a
 ·exact c.aL
 ·exact d.aL g a
 ·exact e.aL g a
def Ot{n:Int}(e:-9223372036854775808<=n)(f:n<=9223372036854775807):
  a0 C 293 #[F H n] w λaa a=>aa=aE (E ⟨w.heap.size,0,I⟩)/\lM a w.heap.size (max n 1).toNat [] [w.heap.size]/\Q [] w a/\a.heap.size=w.heap.size+1:=by
 refine a9 .D 1 Tryz.func293 K rfl λa1 b=>?_;simp+decide only[↓a8,ba,Tryz.f293];subst b;try simp only[M]
 refine(bY (gT:=#[F H (max n 1),T I 0 0,T I 0 0]) K).2 (eA λaA c d ao=>⟨rfl,⟨T I 0 0,T I 0 0,[],[],[],?_,gJ _ _ _,gJ _ _ _,B,A,A,B,B,B,rfl⟩,d,ao⟩);have:((max n 1).toNat:Int)=max n 1:=A;rw[this];exact c
def aai(h:lM w b hM ao am):
  a0 C 201 #[aE (E ⟨b,0,I⟩)] w λaa a=>aa=F H ao.length/\Q [] w a:=by
 obtain⟨cB,i,j,k,fM,e,f,l,m,n,o,p,q,r,rfl⟩:=h;refine a9 .D 1 Tryz.func201 K rfl λa1 g=>?_;simp+decide only[↓a8,ba,Tryz.f201];subst g;try simp only[M]
 apply(bl sJ e.bh).2;obtain⟨d,c,rfl,_⟩:=f.jD;try simp only[M]
 exact⟨rfl,Q.b0 _ _⟩
def aaj{t:Int}(h:lM w b hM ao am)(d:ao.length<=9223372036854775806):
  a0 C 200 #[aE (E ⟨b,0,I⟩),F H t] w λaa a=>aa=F H (ao.findIdx λh=>decide (t<=h.mL):Nat)/\Q [] w a:=by
 obtain⟨cB,l,m,n,fM,e,f,o,p,q,r,s,u,v,rfl⟩:=h;refine a9 .D 2 Tryz.func200 K rfl λa1 g=>?_;simp+decide (maxSteps:=9999999)only[↓a8,ba,Tryz.f200];subst g;refine eA λaA i c x=>?_;try simp only[M]
 refine aH L5 (Oq (xT:=0) (ah:=λh=>decide (t<=h.mL)) Y9 (e.J c B) ((f.eF pf A).V c) d A (λh y a j=>aae (i.J j B))) ?_;rintro _ ax ⟨rfl,k⟩;refine⟨?_,c.R k B⟩;simp
def Dl(n ay al:Int):Int:=ay+n%(al-ay+1)
def amd{n ay al:Int}(h:ay<=al):ay<=Dl n ay al/\Dl n ay al<=al:=by unfold Dl;have a:=Int.emod_nonneg n (show al-ay+1≠0 by omega);have b:=Int.emod_lt_of_pos n (show 0<al-ay+1 by omega);omega
def ame{n ay al:Int}(m:-1152921504606846976<=ay)(o:ay<=al)(p:al<=4611686018427387904):
  a0 C 13 #[F H n,F H ay,F H al] w λaa a=>aa=F H (Dl n ay al)/\w=a:=by
 refine a9 (.L .D (.L .D (.bK [0] .D .D))) 3 Tryz.func13 K rfl λa1 d=>?_;simp+decide only[↓a8,ba,Tryz.f13];subst d;have e:H.wrap (al-ay)=al-ay:=bq A A;have f:H.wrap (al-ay+1)=al-ay+1:=bq A A;simp only[tF,tE,e,f];apply(vE A).2;have q:=Int.tmod_lt_of_pos n (show 0<al-ay+1 by omega);have r:-(al-ay+1)<n.tmod (al-ay+1):=by have:=Int.lt_tmod_of_pos n (show 0<al-ay+1 by omega);omega
 have s:=Int.emod_nonneg n (show al-ay+1≠0 by omega);have t:=Int.emod_lt_of_pos n (show 0<al-ay+1 by omega);have g:∃k:Int,n.tmod (al-ay+1)-n%(al-ay+1)=k*(al-ay+1)/\(k=0\/k=-1):=by
  by_cases h:0<=n
  ·exact⟨0,by rw[Int.tmod_eq_emod_of_nonneg h];omega,Y rfl⟩
  ·have:=Int.tmod_eq_emod (a:=n) (b:=al-ay+1);rw[this];split
   ·exact⟨0,A,Y rfl⟩
   ·refine⟨-1,?_,Z rfl⟩;have:((al-ay+1).natAbs:Int)=al-ay+1:=A;rw[this];omega
 refine bT (λaF a=>aF=[F H (n%(al-ay+1))]/\a=w) ?_ ?_
 ·simp only[qN,bi];obtain⟨k,u,c⟩:=g;refine⟨λv=>?_,λx=>?_⟩
  ·simp only[tE,tF,and_true];have i:H.wrap (n.tmod (al-ay+1)+al)=n.tmod (al-ay+1)+al:=bq A A;have j:H.wrap (n.tmod (al-ay+1)+al-ay)=n.tmod (al-ay+1)+al-ay:=bq A A;have l:H.wrap (n.tmod (al-ay+1)+al-ay+1)=n.tmod (al-ay+1)+al-ay+1:=bq A A;rw[i,j,l];congr 2;rcases c with rfl|rfl<;>omega
  ·simp only[and_true];congr 2;rcases c with rfl|rfl<;>omega
 ·rintro _ _ _ ⟨rfl,rfl⟩;try simp only[M]
  rw[bq A A];exact⟨rfl,rfl⟩
def aak{bL:Array S}{aj:Nat->Bool}(l:bf C g=G)(r:n<=4611686018427387904)
  (m:∀i,i<n->∀a,Q [] w a->a0 C g (#[]++#[F H i]++bL) a λae o=>ae=aK (aj i)/\Q [] a o):
  a0 C 289 #[F H n,.func (.func g) #[] bL] w λae a=>∃ak:Nat,ae=F H ak/\ak<=n/\(ak<n->aj ak=G)/\(0<ak->aj (ak-1)=U)/\Q [] w a:=by
 refine a9 Oc 2 Tryz.func289 K rfl λa1 p=>?_;simp+decide only[↓a8,ba,Oc,Tryz.f289];subst p;refine c1 (λaF a=>∃i j:Nat,aF=[F H i,F H j]/\i<=j/\j<=n/\(j<n->aj j=G)/\(0<i->aj (i-1)=U)/\Q [] w a)
  (λaF _=>match aF with|[F _ i,F _ j]=>(j-i).toNat|_=>0) ⟨0,n,rfl,A,A,A,A,Q.b0 _ _⟩ ?_
 rintro _ _ aA ⟨i,j,rfl,s,d,f,h,b⟩;simp only[M,bi];refine⟨λt=>?_,λu=>?_⟩
 ·rw[bq A A];apply(fv kd tP).2;rw[l8 A A];refine(nS A).2 ((fv tP kd).2 ?_);have e:((i:Int)+(j:Int))/2^min (Int.toNat 1) hr.bits=(((i+j)/2:Nat):Int):=by show((i:Int)+(j:Int))/2=_;omega
  rw[e,bq A A];apply x4 l (m ((i+j)/2) A aA b);rintro _ ax ⟨rfl,q⟩;have k:Q [] w ax:=b.R q B;try simp only[M]
  simp only[cG];refine⟨λc=>?_,λc=>?_⟩
  ·rw[bq A A];refine⟨⟨(i+j)/2+1,j,rfl,A,d,f,λ_=>?_,k⟩,?_⟩
   ·simpa using c
   ·omega
  ·refine⟨⟨i,(i+j)/2,rfl,A,A,λ_=>by simpa using c,h,k⟩,?_⟩;omega
 ·obtain rfl:i=j:=A;exact⟨i,rfl,d,f,h,b⟩
def Ou(ao:List gZ):Prop:=∀(i j:Nat)(al a:gZ),i<j->ao[i]?=E al->ao[j]?=E a->al.cu+al.md<=a.cu
def Ov(ao:List gZ):Prop:=∀h∈ao,0<=h.cu/\1<=h.md/\h.cu+h.md<=9223372036854775807
def me(af:Int)(h:gZ):Bool:=decide (af-h.cu<h.md)
def aal{ah:aU->Bool}(l:List aU)(k:Nat)(a:k<=l.length)(h:∀i x,i<k->l[i]?=E x->ah x=U):k+(l.drop k).findIdx ah=l.findIdx ah:=by
 induction k generalizing l with
 |zero=>simp
 |succ k b=>
  cases l with
  |nil=>simp at a
  |cons x l=>
   have c:=h 0 x A B;have:=b l (by simpa using a) (λi ap al d=>h (i+1) ap A (by simpa using d));rw[List.drop_succ_cons,List.findIdx_cons,c,<-this];simp;omega
def Ow{a:List Int}(d:∀i:Nat,a[i]?=(ao[i*hM]?).map gZ.cu)(e:1<=hM):a.length<=ao.length:=by
 rcases Nat.eq_zero_or_pos a.length with h|h
 ·omega
 ·have b:=d (a.length-1);rw[cr A]at b;cases c:ao[(a.length-1)*hM]? with
  |none=>rw[c]at b;simp at b
  |some x=>
   have:=(fi.1 c).1;have:(a.length-1)*1<=(a.length-1)*hM:=Nat.mul_le_mul_left _ e;omega
def Ox{af:Int}(h:lM w b hM ao am)(aD:ao.length<=1000000)(L:Ou ao)(R:Ov ao)(V:ao≠[]->0<=af/\af<=9223372036854775807):
  a0 C 246 #[aE (E ⟨b,0,I⟩),F H af] w λaa a=>aa=F H (ao.findIdx (me af):Nat)/\Q [] w a:=by
 obtain⟨cB,aF,t,aG,fM,c,W,X,q,ab,aI,aJ,aL,aM,rfl⟩:=h;have aO:=Ow q ab;refine a9 NY 2 Tryz.func246 K rfl λa1 ac=>?_;simp+decide only[↓a8,ba,NY,Tryz.f246];subst ac;refine eA λaA ad ae aP=>eA λax u v aQ=>?_;have r:Q [] w ax:=ae.R v B;have o:=ad.J v B;have ag:=c.J r B;apply(bl w6 o.bh).2;try simp only[M]
 apply(bl Aj ag.bh).2;have y:=X.eF Cw A;have ai:=y;obtain⟨aR,aS,rfl,_⟩:=y;try simp only[M]
 refine aH ZG (aak (aj:=λi=>decide (af<t.getD i 0)) ZH A (λi al a m=>?_)) ?_
 ·have d:Q [] w a:=r.R m B;refine(aag (o.J m B) (u.J m B) (c.J d B) (ai.V d) al).bw (λaa aT⟨e,k⟩=>⟨by rw[e];simp[al],k⟩)
 rintro _ an ⟨ak,rfl,aU,aV,aq,d⟩;have p:Q [] w an:=r.R d B;apply(bl w6 (bD (o.J d B)).bh).2;try simp only[M]
 rw[bq A A];apply(bl w6 (bD (o.J d B)).bh).2;try simp only[M]
 apply(bl bZ (bD (c.J p B)).bh).2;try simp only[M]
 have s:(ak-1)*hM<=ao.length:=by
  rcases Nat.eq_zero_or_pos ak with f|f
  ·subst f;simp
  ·have c:=q (ak-1);rw[cr A]at c;cases g:ao[(ak-1)*hM]? with
   |none=>rw[g]at c;simp at c
   |some x=>exact Nat.le_of_lt (fi.1 g).1
 have ar:max ((ak:Int)-1) 0=((ak-1:Nat):Int):=A;have au:(((ak-1:Nat):Int)*(hM:Int))=(((ak-1)*hM:Nat):Int):=B;rw[ar,au,bq A A];refine aH L5 (Oq (ah:=λh=>decide (H.wrap (af-h.cu)<h.md)) ZI (bD (c.J p B)) ((W.eF pf A).V p.h6) A s
  (λh aW a m=>aaf ((bD ((u.J d B))).J m B))) ?_
 rintro _ aX ⟨rfl,av⟩;refine⟨?_,p.h6.R av B⟩;by_cases z:ao=[]
 ·subst z;simp at s⊢;omega
 have aY:=V z;have aw:∀x∈ao,H.wrap (af-x.cu)=af-x.cu:=λx n=>by have:=R x n;exact bq A A
 have ay:∀l:List gZ,(∀x∈l,x∈ao)->l.findIdx (λh=>decide (H.wrap (af-h.cu)<h.md))=l.findIdx (me af):=by
  intro l;induction l with
  |nil=>intro _;rfl
  |cons x l az=>
   intro D;rw[List.findIdx_cons,List.findIdx_cons,az (λap aB=>D ap (ev _ aB))];unfold me;rw[aw x (D x fE)]
 rw[ay _ (λx n=>tr n)];congr 2;refine aal ao _ s (λi x al n=>?_);have aC:0<ak:=by
  rcases Nat.eq_zero_or_pos ak with f|f
  ·subst f;simp at al
  ·exact f
 have j:=q (ak-1);have J:=aq aC;rw[cr A]at j;cases g:ao[(ak-1)*hM]? with
 |none=>rw[g]at j;simp at j
 |some ap=>
  rw[g]at j;simp at j;have aZ:ap.cu<=af:=by simp only[gp,cr (show ak-1<t.length by omega),om,j]at J;simpa using J
  have:=L i _ x ap al n g;unfold me;simp;omega
def yr(h:gZ):∀ae∈it h,ae.oneCell'=G:=by intro ae a;simp[it]at a;rcases a with rfl|rfl|rfl|rfl|rfl<;>rfl
def aam{q:S}{c:List Int}{f e:List Nat}(j:aC w b 405 [F H hM,cB,q])(m:bP w 354 5 cB (ao++[h]).length ((ao++[h]).flatMap it) f)
  (V:bP w 3 1 q c.length (c.flatMap ew) e) (r:∀i:Nat,c[i]?=(ao[i*hM]?).map gZ.cu) (n:1<=hM) (W:hM<=9223372036854775807) (u:b∉f) (v:b∉e) (x:∀g∈f,g∉e) (aG:ao.length<=1000000):
  a0 C 318 #[aE (E ⟨b,0,I⟩)] w λaa a=>aa=bQ #[]/\∃az,lM a b hM (ao++[h]) az/\Q (b::e) w a/\(∀g∈az,g∈b::f++e\/w.heap.size<=g):=by
 have aH:=Ow r n;refine a9 Oj 1 Tryz.func318 K rfl λa1 y=>?_;simp+decide only[↓a8,ba,Oj,Tryz.f318];subst y;try simp only[M]
 apply(bl sJ j.bh).2;have ad:=m.eF pf A;obtain⟨aI,aJ,rfl,aL,aM⟩:=m.jD;try simp only[M]
 rw[bq B (by simp;omega)];refine(bl bZ j.bh).2 ((vE A).2 ?_);simp only[uJ,bi];have y:(((ao++[h]).length:Nat):Int)-1=(ao.length:Int):=B;rw[y,Int.tmod_eq_emod_of_nonneg A];have X:∀i:Nat,((ao++[h])[i*hM]?).map gZ.cu=if i*hM=ao.length then E h.cu else c[i]?:=by
  intro i;rw[r i];split
  ·rename_i o;rw[o];simp
  ·rename_i aO;by_cases z:i*hM<ao.length
   ·rw[pR z]
   ·rw[jy (by simp;omega),jy A]
 refine⟨λD=>?_,λD=>?_⟩
 ·
  refine(bl Aj (bD j).bh).2 ((bl sJ (bD j).bh).2 ?_);obtain⟨_,_,ae,_,af⟩:=ad;cases ae;obtain⟨bM,ay,rfl,ag⟩:=af.resolve_left B;apply(hP tO rB B).2;try simp only[M]
  have ah:(ao++[h])[ao.length]?=E h:=B;have o:=w1 pf ag ah;refine(bl bZ (Ct (Kp (o.Ko 1)))).2 (hw uM [F H h.cu] rfl rfl (by simp[bF]) A A λaA aj s aP=>(dz Aj ((bD j).J s B).bh).2 ?_);have ak:bP aA 3 1 q c.length (c.flatMap ew) e:=V.J s.Cr B;refine m8 uM ak (ip:=[F H h.cu]) aj.cy rfl (by simp[Value.oneCell']) A (by unfold d0;omega) A λdd ax cM am an ap aq=>?_;try simp only[M]
  have J:Q e w ax:=s.Cr.dP an B (λk l=>Y l);have ar:=j.J J v;refine eK CN ar B aq λaQ au L aR=>?_;have R:∀g∈cM,g∈e\/w.heap.size<=g:=λg d=>(ap g d).imp id (λh=>by have:=s.aI;simp at this;omega);have ab:b∉cM:=λav=>(R b av).elim v (λh=>by have:=j.aL;omega);refine⟨rfl,b::f++cM,⟨_,dd,c++[h.cu],f,cM,au,?_,?_,?_,n,W,u,ab,?_,rfl⟩,?_,?_⟩
  ·exact(m.J J x).J L (λg d p=>u (by simp at p;exact p▸d))
  ·have:=am.J L (λg d p=>ab (by simp at p;exact p▸d));simpa[ew]using this
  ·intro i;rw[X i];have aw:hM∣ao.length:=Int.natCast_dvd_natCast.1 (Int.dvd_of_emod_eq_zero D);obtain⟨ai,t⟩:=aw;have ac:c.length=ai:=by
    rcases ut c.length ai with z|o|aB
    ·have:=r c.length;rw[jy (fF _),cr (by rw[t,Nat.mul_comm];exact Nat.mul_lt_mul_of_pos_left z n)]at this;simp at this
    ·exact o
    ·have:=r ai;rw[cr aB,jy (by rw[t,Nat.mul_comm];exact fF _)]at this;simp at this
   by_cases al:i*hM=ao.length
   ·rw[if_pos al];have:i=ai:=by rw[t,Nat.mul_comm]at al;exact Nat.eq_of_mul_eq_mul_left n al
    rw[this,<-ac];simp
   ·rw[if_neg al];by_cases aD:i<c.length
    ·rw[pR aD]
    ·have:i≠c.length:=by intro h;rw[h,ac,Nat.mul_comm]at al;exact al t.symm
     rw[jy (by simp;omega),jy A]
  ·intro g d aF;rcases R g aF with h|h
   ·exact x g d h
   ·have:=m.aL g d;omega
  ·exact J.dP L (λk l=>Y (by simp[l])) (λk l=>Y (by simp at l;simp[l]))
  ·intro g d;simp only[jN,ce,b4]at d⊢;rcases d with h|h|h
   ·exact Y (Y h)
   ·exact Y (Z (Y h))
   ·exact(R g h).imp (λh=>Z (Z h)) id
 ·refine⟨rfl,b::f++e,⟨_,q,c,f,e,j,m,V,?_,n,W,u,v,x,rfl⟩,Q.b0 _ _,λg d=>Y d⟩;intro i;rw[X i,if_neg];intro al;apply D;rw[<-al];simp
def Ay(R:lM w b hM ao am)(V:ao.length<=1000000):
  a0 C 294 #[aE (E ⟨b,0,I⟩),lt h] w λaa a=>aa=bQ #[]/\∃az,lM a b hM (ao++[h]) az/\Q am w a/\(∀g∈az,g∈am\/w.heap.size<=g):=by
 obtain⟨cB,W,q,i,fM,j,X,r,ab,ac,ad,s,t,u,rfl⟩:=R;refine a9 Oe 2 Tryz.func294 K rfl λa1 ae=>?_;simp+decide only[↓a8,ba,Oe,Tryz.f294];subst ae;refine eA λaA af v aD=>?_;try simp only[M]
 have x:=j.J v B;refine(bl sJ (bD x).bh).2 ((gC (l:=it h) uL (bD af).cy).2 (hw C8 [lt h] rfl rfl (by simp[lt,it,bF]) A A λax ag y aF=>?_));have m:Q [] w ax:=v.dP y.Cr B B;refine(dz sJ ((bD x).J y B).bh).2 (m8 C8 (X.J m B) (ip:=it h) (ak:=1) (by have:=ag.cy;simpa[lt,bF]using this) rfl (yr h) A (by unfold d0;omega) A λdd ah e ai aj al an=>?_);try simp only[M]
 have z:Q i w ah:=m.dP aj B (λk c=>Y c);refine eK Ld (j.J z s) B an λn ap D aG=>?_;have o:∀g∈e,g∈i\/w.heap.size<=g:=λg d=>(al g d).imp id (λh=>by have:=m.aI;omega);have J:b∉e:=λaq=>(o b aq).elim s (λh=>by have:=j.aL;omega);have p:Q (b::i) w n:=z.dP D (λk c=>Y (by simp[c])) (λk c=>Y (by simp at c;simp[c]));have ar:bP n 354 5 dd (ao++[h]).length ((ao++[h]).flatMap it) e:=by have:=ai.J D (λg d f=>J (by simp at f;exact f▸d));simpa using this
 have au:bP n 3 1 W q.length (q.flatMap ew) fM:=r.J p (λg d f=>by
  rcases ce.1 f with rfl|av
  ·exact t d
  ·exact u g av d)
 have aw:∀g∈e,g∉fM:=λg d L=>(o g d).elim (λh=>u g h L) (λh=>by have:=r.aL g L;omega);apply aH ZR (aam (ao:=ao) (h:=h) ap ar au ab ac ad J t aw V);rintro _ aI ⟨rfl,az,ay,aB,aC⟩;refine⟨rfl,az,ay,p.dP aB (λk c=>Y (by simp at c⊢;rcases c with h|h<;>simp[h])) (λk c=>Y (by simp at c⊢;rcases c with h|h<;>simp[h])),λg d=>?_⟩;rcases aC g d with h|h
 ·simp only[jN,ce,b4]at h⊢;rcases h with h|h|h
  ·exact Y (Y h)
  ·exact(o g h).imp (λh=>Z (Y h)) id
  ·exact Y (Z (Z h))
 ·have:=p.aI;exact Z A
def aan{n:Int}(ac:lM w b hM ao am)(a2:ao.length<=1000000):
  a0 C 264 #[aE (E ⟨b,0,I⟩),F H n] w λaa a=>aa=bQ #[]/\∃az,lM a b hM (ao.drop n.toNat) az/\Q am w a/\(∀g∈az,g∈am\/w.heap.size<=g):=by
 obtain⟨cB,a3,a4,o,fM,v,p,a5,a6,ad,ae,J,a7,bb,rfl⟩:=ac;refine a9 N6 2 Tryz.func264 K rfl λa1 ag=>?_;simp+decide only[↓a8,ba,N6,Tryz.f264];subst ag;try simp only[M]
 refine(bl sJ (bD v).bh).2 ((bl sJ (bD v).bh).2 ?_);have ah:=p.eF pf A;obtain⟨r,q,rfl,bc,_⟩:=p.jD;have ai:=p.Vs _ _ _ rfl;try simp only[M]
 obtain⟨k,aj,ak,an⟩:∃k:Nat,min (ao.length:Int) (max n 0)=k/\k<=ao.length/\ao.drop n.toNat=ao.drop k:=by
  refine⟨min ao.length n.toNat,A,A,?_⟩;by_cases h:n.toNat<=ao.length
  ·rw[Nat.min_eq_right h]
  ·rw[my A,uu A,uu A]
 rw[aj,an];apply(rs tO rB A A).2;rw[hf];have L:=Oo (k:=k) pf ah ak;obtain⟨aw,x⟩:∃aw,ao.drop k=aw:=⟨_,rfl⟩;have R:ao.length-k=aw.length:=by rw[<-x,e8]
 have bd:aw.length<=1000000:=A;rw[x,R]at L;rw[x,R];have y:∀e af j c,T (if q=k then r else r.map (·.add (k*5))) aw.length (q-k)=T (E ⟨e,af,I⟩) j c->e∈o:=by
  intro e af j c d;rcases ai with rfl|⟨g,be,rfl,f⟩
  ·split at d<;>simp at d
  ·split at d
   ·simp at d;rw[<-d.1.1];exact f
   ·simp[jC]at d;rw[<-d.1.1];exact f
 generalize(if q=k then r else r.map (·.add (k*5)))=V at*;refine eK Ld (bD v) B rfl λaA ap aq ar=>?_;try simp only[M]
 refine eK CN ap B rfl λax au av aB=>?_;try simp only[M]
 have W:Q [b] w ax:=aq.Cr.R av B;have bf:ax.heap.size=w.heap.size:=by rw[aB,ar];rfl
 have aC:lM ax b hM [] [b]:=⟨T I 0 0,T I 0 0,[],[],[],by simpa using au,gJ _ _ _,gJ _ _ _,B,ad,ae,B,B,B,rfl⟩;have aD:aT ax it (T V aw.length (q-k)) aw:=L.J W (λe af j c d s=>J (by simp at s;exact s▸y e af j c d));refine c1 (λaF a=>∃(i:Nat)(az:List Nat),aF=[F H i]/\i<=aw.length/\lM a b hM (aw.take i) az/\Q (b::o++fM) w a/\(∀g∈az,g=b\/w.heap.size<=g)/\aT a it (T V aw.length (q-k)) aw)
  (λaF _=>match aF with|[F _ i]=>aw.length-i.toNat|_=>0) ⟨0,[b],rfl,A,by simpa using aC,W.bw B,B,aD⟩ ?_
 rintro _ _ aG ⟨i,az,rfl,al,z,D,t,X⟩;simp only[M,bi];refine⟨λbg=>?_,λbh=>?_⟩
 ·have m:i<aw.length:=A;have aI:=X;obtain⟨bj,bk,d,_,aJ⟩:=aI;cases d;obtain⟨bM,ay,rfl,aL⟩:=aJ.resolve_left (by intro h;rw[h]at m;simp at m);apply(hP tO rB m).2;have aM:=w1 pf aL (cr m);refine(gC (l:=it aw[i]) uL aM).2 (gI C1 λbm aO aP bn=>f0 (cv:=[]) (c5:=[F H 0,F H 0,F H 0,F H 0,F H 0]) (da:=[]) rB aO rfl rfl rfl (yr aw[i]) λaQ aR aS bo=>(gC (l:=it aw[i]) uL (by simpa[bF]using aR.cy)).2 ?_);have u:Q [] aG aQ:=aP.dP aS B B;apply aH Gx (Ay (h:=aw[i]) (z.J u B) (by rw[ea];omega));rintro _ aU ⟨rfl,aV,aW,ab,aX⟩;have bp:=D.aI;have br:=u.aI;have aY:Q (b::o++fM) w aU:=(D.R u B).R ab (λg f=>(t g f).imp (λh=>by simp[h]) id);have aZ:bM∈o:=y bM ay _ _ rfl;have bs:=p.aL bM aZ;rw[bq A A];refine⟨⟨i+1,aV,rfl,m,?_,aY,?_,?_⟩,?_⟩
  ·rw[jO m];exact aW
  ·intro g f;rcases aX g f with h|h
   ·exact t g h
   ·exact Z A
  ·refine(X.V u).J ab (λe af j c d s=>?_);have:e∈o:=y e af j c d;rcases t e s with h|h
   ·exact J (h▸this)
   ·have:=p.aL e this;omega
  ·omega
 ·obtain rfl:i=aw.length:=A;rw[j3]at z;exact⟨rfl,az,z,D,λg f=>(t g f).imp (λh=>by simp[h]) id⟩
def ys:gZ:=⟨0,0,0,0,0⟩
def aao{i:Int}(m:lM w b hM ao am):
  a0 C 202 #[aE (E ⟨b,0,I⟩),F H i] w λaa a=>aa=lt (if 0<=i/\i<ao.length then ao.getD i.toNat ys else ys)/\Q [] w a:=by
 obtain⟨cB,x,y,z,fM,n,g,D,J,L,R,V,W,X,rfl⟩:=m;refine a9 (.L .D (.L (.bK [15] .D .D) .D)) 2 Tryz.func202 K rfl λa1 o=>?_;simp+decide only[↓a8,ba,Tryz.f202];subst o;refine gI C1 λaA j c ab=>?_;have p:=g.eF pf A;obtain⟨ac,ad,rfl,ae,_⟩:=g.jD;have k:=n.J c B;refine bT (λaF a=>aF=[aK (decide (i<0\/(ao.length:Int)<=i))]/\a=aA) ?_ ?_
 ·simp only[M,bi];refine⟨λq=>⟨by simp[q],trivial⟩,λaf=>?_⟩;apply(bl sJ k.bh).2;try simp only[M]
  refine⟨?_,trivial⟩;simp;omega
 ·rintro _ _ _ ⟨rfl,rfl⟩;simp only[M,bi];refine⟨λag=>?_,λah=>?_⟩
  ·refine(bY (gT:=(it ys).toArray) K).2 (f0 (cv:=[]) (c5:=[F H 0,F H 0,F H 0,F H 0,F H 0]) (da:=[]) rB j rfl rfl rfl (yr ys) λax e f r=>(gC (l:=it ys) uL (by simpa[bF]using e.cy)).2 ⟨?_,c.dP f B B⟩);rw[if_neg A];rfl
  ·apply(bl sJ k.bh).2;have d:i.toNat<ao.length:=A;obtain⟨ai,aj,s,_,t⟩:=p;cases s;obtain⟨bM,ay,rfl,u⟩:=t.resolve_left (by intro h;rw[h]at d;simp at d);apply(sB tO rB A A).2;have v:=w1 pf (u.J c B) (cr d);refine(gC (l:=it ao[i.toNat]) uL v).2 (f0 (cv:=[]) (c5:=[F H 0,F H 0,F H 0,F H 0,F H 0]) (da:=[]) rB j rfl rfl rfl (yr _) λax e f r=>(gC (l:=it ao[i.toNat]) uL (by simpa[bF]using e.cy)).2 ⟨?_,c.dP f B B⟩);rw[if_pos A];simp[lt,d]
def aap{ac:S->Prop}:aV C (B9 354 (lt h) 0) ac↔ac (F H h.cu):=Cu (show z0 C 354 0 0=G by kernel_rfl) rfl
end Go.Proofs.YtepeilglbedgdaaGreatDoor.fC
namespace Go.Proofs.YtepeilglbedgdaaGreatDoor
open Go.X
attribute[local irreducible]Go.X.W
variable{bU:List Nat}{a w:aN}{b t:Nat}{aa gR:S}{ac:S -> aN -> Prop}{c8:Array S}{d5:ByteArray}
def amf:mF C 9:=by unfold mF;kernel_rfl
def dk:nU C 73=G:=K
def hY:sF C 33=G:=K
def aaq:sF C 224=G:=K
def qR(k:Int):S:=eZ 33 (F H k)
def vP(d5:ByteArray)(aQ:Int)(e:S):S:=eZ 224 (b6 #[bO d5,F H aQ,e])
def qS{aQ:Int}{t:co}{e:S}:a0 C 59 #[bO d5,F H aQ,eZ t e] w λae a=>ae=vP d5 aQ (eZ t e)/\w=a:=by refine a9 .D 3 Tryz.func59 K rfl λa1 b=>?_;simp+decide only[↓a8,ba,Tryz.f59];subst b;simp only[z7 dk,kN];refine(bY (gT:=#[bO d5,F H aQ,eZ t e]) K).2 ?_;refine(hk aaq).2 ?_;exact⟨rfl,rfl⟩
def GA{aQ:Int}:a0 C 59 #[bO d5,F H aQ,cT] w λae a=>ae=cT/\w=a:=by refine a9 .D 3 Tryz.func59 K rfl λa1 b=>?_;simp+decide only[↓a8,ba,Tryz.f59];subst b;simp only[ry dk,k9];exact⟨rfl,rfl⟩
section
open Go.Extern Go.RowKit
def hQ:ex->S
 |.dD k=>qR k
 |.lK d b c=>eZ 215 (b6 #[F H d,F H b,F H c])
 |.d2 d5 i e=>vP d5 i (hQ e)
def Dm{aQ:Int}{e:ex}:a0 C 59 #[bO d5,F H aQ,hQ e] w λae a=>ae=hQ (.d2 d5 aQ e)/\w=a:=by cases e<;>exact qS
def eu(ar:co):S:=aE (E ⟨4,ar,I⟩)
def iF(ar:co):S:=eZ 271 (b6 #[eu ar])
def ld(ar:co)(d:es)(aoG:Int):S:=b6 #[eu ar,aE (E d),F hr aoG]
def jf(w:aN):Prop:=w.cell? ⟨0,0,I⟩=E (iF 73)
def jf.aL(h:jf w):0<w.heap.size:=by unfold jf at h;simpa using block_lt_of_cell h
def jf.J(h:jf w)(b:Q bU w a)(c:0∉bU):jf a:=
 (World.cell?_of_block (b.nR _ h.aL c)).trans h
def jf.V(h:jf w)(b:Q [] w a):jf a:=h.J b B
def Oy(b:(ReflectliteValue.unpack (c8.getD 0 (bQ #[]))).run C w=bN aa a)(k:ac aa a):W C (ck 93 c8) w ac:=
 qQ (e:=λc8=>ReflectliteValue.unpack (c8.getD 0 (bQ #[]))) Tryz.func93 K K K K b k
def aar(b:(ReflectliteValue.methodAny (wG "reflectlite.Value.Type" 0) (λt _ _ _=>ReflectliteType.toType t) c8).run C w=bN aa a)(k:ac aa a):W C (ck 94 c8) w ac:=
 qQ (e:=ReflectliteValue.methodAny (wG "reflectlite.Value.Type" 0) (λt _ _ _=>ReflectliteType.toType t)) Tryz.func94 K K K K b k
def aas(b:(zH (wG "reflectlite.Value.IsNil" 0) ReflectliteValue.isNil c8).run C w=bN aa a)(k:ac aa a):W C (ck 95 c8) w ac:=
 qQ (e:=zH (wG "reflectlite.Value.IsNil" 0) ReflectliteValue.isNil) Tryz.func95 K K K K b k
def aat(b:(zH (wG "reflectlite.Value.Elem" 0) ReflectliteValue.elem c8).run C w=bN aa a)(k:ac aa a):W C (ck 149 c8) w ac:=
 qQ (e:=zH (wG "reflectlite.Value.Elem" 0) ReflectliteValue.elem) Tryz.func149 K K K K b k
def aau(b:(ReflectliteValue.set c8).run C w=bN aa a)(k:ac aa a):W C (ck 150 c8) w ac:=
 qQ (e:=ReflectliteValue.set) Tryz.func150 K K K K b k
def GB(b:(ReflectliteType.typeOf c8).run C w=bN aa a)(k:ac aa a):W C (ck 97 c8) w ac:=
 qQ (e:=ReflectliteType.typeOf) Tryz.func97 K K K K b k
def aav(b:((ReflectliteType.abiMethod λt=>do fh (F cl (<-Rtype.kind t))) c8).run C w=bN aa a)(k:ac aa a):W C (ck 362 c8) w ac:=
 qQ (e:=ReflectliteType.abiMethod λt=>do fh (F cl (<-Rtype.kind t))) Tryz.func362 K K K K b k
def aaw(b:(vs ReflectliteType.elem c8).run C w=bN aa a)(k:ac aa a):W C (ck 380 c8) w ac:=
 qQ (e:=vs ReflectliteType.elem) Tryz.func380 K K K K b k
def aax(b:(vt "Implements" ReflectliteType.implements_ c8).run C w=bN aa a)(k:ac aa a):W C (ck 381 c8) w ac:=
 qQ (e:=vt "Implements" ReflectliteType.implements_) Tryz.func381 K K K K b k
def aay(b:(vt "AssignableTo" B6 c8).run C w=bN aa a)(k:ac aa a):W C (ck 378 c8) w ac:=
 qQ (e:=vt "AssignableTo" B6) Tryz.func378 K K K K b k
def aaz(b:(vs (λt=>do Rtype.noPackHeld "Comparable" t;fh (aK (<-typeInfo t).comparable)) c8).run C w=bN aa a)(k:ac aa a):W C (ck 379 c8) w ac:=
 qQ (e:=vs (λt=>do Rtype.noPackHeld "Comparable" t;fh (aK (<-typeInfo t).comparable))) Tryz.func379 K K K K b k
def aaA(h:S)(w:aN):(Go.method (C.types.size+Made.depth) 271 (b6 #[h]) "Kind").run C w=bN (362,h) w:=K
def aaB(h:S)(w:aN):(Go.method (C.types.size+Made.depth) 271 (b6 #[h]) "Elem").run C w=bN (380,b6 #[h]) w:=K
def aaC(h:S)(w:aN):(Go.method (C.types.size+Made.depth) 271 (b6 #[h]) "Implements").run C w=bN (381,b6 #[h]) w:=K
def aaD(h:S)(w:aN):(Go.method (C.types.size+Made.depth) 271 (b6 #[h]) "AssignableTo").run C w=bN (378,b6 #[h]) w:=K
def aaE(h:S)(w:aN):(Go.method (C.types.size+Made.depth) 271 (b6 #[h]) "Comparable").run C w=bN (379,b6 #[h]) w:=K
def aaF(d b c:S)(w:aN):(Go.method (C.types.size+Made.depth) 224 (b6 #[d,b,c]) "Unwrap").run C w=bN (375,b6 #[d,b,c]) w:=K
def Oz(aa:S)(w:aN):(sn (eZ 224 aa) 73 275 G).run C w=bN (bQ #[cT,aK U]) w:=run_typeAssert_lacksB Tryz.underlying275 K K aa 73 w
def aaG(aa:S)(w:aN):(sn (eZ 33 aa) 73 278 G).run C w=bN (bQ #[cT,aK U]) w:=run_typeAssert_lacksB Tryz.underlying278 K K aa 73 w
def GC(aa:S)(w:aN):(sn (eZ 224 aa) 73 278 G).run C w=bN (bQ #[eZ 224 aa,aK G]) w:=run_typeAssert_hasB Tryz.underlying278 K aa 73 w
def aaH(aa:S)(w:aN):(sn (eZ 33 aa) 73 279 G).run C w=bN (bQ #[cT,aK U]) w:=run_typeAssert_lacksB Tryz.underlying279 K K aa 73 w
def aaI(aa:S)(w:aN):(ReflectliteType.typeOf #[eZ 33 aa]).run C w=bN (iF 33) w:=K
def aaJ(aa:S)(w:aN):(ReflectliteType.typeOf #[eZ 224 aa]).run C w=bN (iF 224) w:=K
def aaK{i:Int}{e:S}(g:e.oneCell'=G):a0 C 375 #[b6 #[bO d5,F H i,e]] w λae a=>ae=e/\Q [] w a:=by refine a9 .D 1 Tryz.func375 K rfl λa1 b=>?_;simp+decide only[↓a8,ba,Tryz.f375];subst b;refine eA λaA c d h=>?_;have f:aC aA w.heap.size 224 [bO d5,F H i,e]:=c;simp only[M];refine(bl FT (f.bh (af:=2))).2 ?_;exact⟨rfl,d⟩
def GD(e:ex):(hQ e).oneCell'=G:=by cases e<;>rfl
def g0.GE:ex->Prop
 |.dD _=>True
 |.lK _ _ _=>False
 |.d2 _ _ e=>g0.GE e
def aaL(t:es)(w:aN):(ReflectliteValue.unpack (eZ 128 (aE (E t)))).run C w=bN (ld 128 ⟨w.heap.size,0,I⟩ 150) (w.alloc (amv #[aE (E t)] 128)):=K
def aaM(n:Int)(w:aN):(ReflectliteValue.unpack (eZ 33 (F H n))).run C w=bN (ld 33 ⟨w.heap.size,0,I⟩ 130) (w.alloc (amv #[F H n] 33)):=K
def aaN(d:es)(w:aN):(ReflectliteValue.methodAny (wG "reflectlite.Value.Type" 0) (λt _ _ _=>ReflectliteType.toType t) #[ld 128 d 150]).run C w=bN (iF 128) w:=K
def aaO(w:aN):((ReflectliteType.abiMethod λt=>do fh (F cl (<-Rtype.kind t))) #[eu 128]).run C w=bN (F cl 22) w:=K
def aaP(w:aN):((ReflectliteType.abiMethod λt=>do fh (F cl (<-Rtype.kind t))) #[eu 33]).run C w=bN (F cl 2) w:=K
def OA(d:es)(w:aN):(vr (ld 128 d 150)).run C w=bN (E (128,d,150)) w:=K
def aaQ(d:es)(w:aN):(vr (ld 33 d 130)).run C w=bN (E (33,d,130)) w:=K
def aaR(d:es)(w:aN):(vr (ld 33 d 386)).run C w=bN (E (33,d,386)) w:=K
def aaS(w:aN):(vs ReflectliteType.elem #[b6 #[eu 128]]).run C w=bN (iF 33) w:=K
def aaT(w:aN):(vt "Implements" ReflectliteType.implements_ #[b6 #[eu 33],iF 73]).run C w=bN (aK G) w:=K
def OB(w:aN):(vt "AssignableTo" B6 #[b6 #[eu 33],iF 33]).run C w=bN (aK G) w:=K
def OC(w:aN):(vt "AssignableTo" B6 #[b6 #[eu 224],iF 33]).run C w=bN (aK U) w:=K
def aaU(w:aN):(Rtype.elem? 128).run C w=bN (E 33) w:=K
def aaV(ah:es)(w:aN):(ReflectliteValue.mk 33 ah ReflectliteValue.flagAddr).run C w=bN (ld 33 ah 386) w:=K
def aaW(w:aN):(Rtype.directlyAssignable 33 33).run C w=bN G w:=K
def OD:fZ C 128=G:=K
def aaX:nU C 20=G:=K
def aaY:sF C 128=G:=K
section
def OE{aO:co}{n:Int}(h:((ReflectliteType.abiMethod λt=>do fh (F cl (<-Rtype.kind t))) #[eu aO]).run C w=bN (F cl n) w)(k:ac (F cl n) w):W C (o6 "Kind" #[iF aO]) w ac:=
 CL (t:=271) (aa:=b6 #[eu aO]) (ab:=eu aO) (aj:=362) (aaA (eu aO) w) (aav (c8:=#[eu aO]) h k)
def aaZ{aO gf:co}(h:(vs ReflectliteType.elem #[b6 #[eu aO]]).run C w=bN (iF gf) w)(k:ac (iF gf) w):W C (o6 "Elem" #[iF aO]) w ac:=
 CL (t:=271) (aa:=b6 #[eu aO]) (ab:=b6 #[eu aO]) (aj:=380) (aaB (eu aO) w) (aaw (c8:=#[b6 #[eu aO]]) h k)
def aa0{aO gf:co}{b:Bool}(h:(vt "Implements" ReflectliteType.implements_ #[b6 #[eu aO],iF gf]).run C w=bN (aK b) w)(k:ac (aK b) w):W C (o6 "Implements" #[iF aO,iF gf]) w ac:=
 FO (t:=271) (aa:=b6 #[eu aO]) (ab:=b6 #[eu aO]) (d:=iF gf) (aj:=381) (aaC (eu aO) w) (aax (c8:=#[b6 #[eu aO],iF gf]) h k)
def Az{aO gf:co}{b:Bool}(h:(vt "AssignableTo" B6 #[b6 #[eu aO],iF gf]).run C w=bN (aK b) w)(k:ac (aK b) w):W C (o6 "AssignableTo" #[iF aO,iF gf]) w ac:=
 FO (t:=271) (aa:=b6 #[eu aO]) (ab:=b6 #[eu aO]) (d:=iF gf) (aj:=378) (aaD (eu aO) w) (aay (c8:=#[b6 #[eu aO],iF gf]) h k)
def GF{i:Int}{e:S}(b:e.oneCell'=G)(k:∀a,Q [] w a->ac e a):W C (o6 "Unwrap" #[vP d5 i e]) w ac:=
 CL (t:=224) (aa:=b6 #[bO d5,F H i,e]) (ab:=b6 #[bO d5,F H i,e]) (aj:=375) (aaF _ _ _ w) (aH ZV (aaK b) (λae a⟨c,d⟩=>by subst c;exact k a d))
def GG{n:Int}(k:ac (iF 33) w):W C (ck 97 #[qR n]) w ac:=GB (c8:=#[qR n]) (aaI (F H n) w) k
def OF{i:Int}{e:S}(k:ac (iF 224) w):W C (ck 97 #[vP d5 i e]) w ac:=GB (c8:=#[vP d5 i e]) (aaJ (b6 #[bO d5,F H i,e]) w) k
def aa1{t:es}(k:∀a,aC a w.heap.size 128 [aE (E t)]->Q [] w a->a.heap.size=w.heap.size+1->ac (ld 128 ⟨w.heap.size,0,I⟩ 150) a):W C (ck 93 #[eZ 128 (aE (E t))]) w ac:=
 Oy (c8:=#[eZ 128 (aE (E t))]) (aaL t w) (k _ (sz w 128 [aE (E t)]) (ox _ _ _) B)
def OG{n:Int}(k:∀a,aC a w.heap.size 33 [F H n]->Q [] w a->a.heap.size=w.heap.size+1->ac (ld 33 ⟨w.heap.size,0,I⟩ 130) a):W C (ck 93 #[qR n]) w ac:=
 Oy (c8:=#[qR n]) (aaM n w) (k _ (sz w 33 [F H n]) (ox _ _ _) B)
def aa2{d:es}(k:ac (iF 128) w):W C (ck 94 #[ld 128 d 150]) w ac:=aar (c8:=#[ld 128 d 150]) (aaN d w) k
def aa3{d ah:es}(a:w.cell? d=E (aE (E ah)))(k:ac (aK U) w):W C (ck 95 #[ld 128 d 150]) w ac:=
 aas (c8:=#[ld 128 d 150]) (VV (OA d w) (by decide) OD a) k
def OH{d ah:es}(a:w.cell? d=E (aE (E ah)))(k:ac (ld 33 ah 386) w):W C (ck 149 #[ld 128 d 150]) w ac:=
 aat (c8:=#[ld 128 d 150]) (VW (OA d w) (by decide) OD a (aaU w) (aaV ah w)) k
def OI{n:Int}(c:aC w t 33 [gR])(d:aC w b 33 [F H n])(k:∀a,aC a t 33 [F H n]->Q [t] w a->a.heap.size=w.heap.size->ac (bQ #[]) a):
  W C (ck 150 #[ld 33 ⟨t,0,I⟩ 386,ld 33 ⟨b,0,I⟩ 130]) w ac:=by
 obtain⟨e,f,g,h,i⟩:=Ku (ad:=C) (ar:=33) (aa:=F H n) (cv:=[]) (c5:=[gR]) (da:=[]) Al c rfl rfl rfl (by simp[bF];rfl);refine aau (c8:=#[ld 33 ⟨t,0,I⟩ 386,ld 33 ⟨b,0,I⟩ 130]) (VX (aaR ⟨t,0,I⟩ w) (aaQ ⟨b,0,I⟩ w) (by decide) (VY (FB Ak (d.bh (af:=0)))) (aaW w) (VZ f)) (k e (by simpa[bF]using g) h i)
end
def w9{e:ex}{ac:S->Prop}:aZ C (eE .eql 73 G (hQ e) cT) w ac↔ac (aK U):=by cases e<;>exact z7 dk
def aa4{e:ex}{ac:S->Prop}:aZ C (eE .neq 73 G (hQ e) cT) w ac↔ac (aK G):=by cases e<;>exact rz dk
noncomputable def yt:List S->Nat
 |[aa]=>SizeOf.sizeOf aa
 |_=>0
def GH(d5:ByteArray)(i:Int)(e:ex):yt [hQ e]<yt [hQ (.d2 d5 i e)]:=by simp only[yt,hQ,vP];simp;omega
def amg{e:ex}(o:g0.GE e){d:es}(p:aC w t 33 [gR])(q:w.cell? d=E (aE (E ⟨t,0,I⟩)))(r:d.block<w.heap.size)(L:d.block≠t):
  a0 C 96 #[hQ e,eZ 128 (aE (E ⟨t,0,I⟩)),ld 128 d 150,iF 33] w λae a=>ae=aK G/\aC a t 33 [F H e.a5]/\Q [t] w a:=by
 refine a9 Dh 4 Tryz.func96 K rfl λa1 s=>?_;simp+decide only[↓a8,ba,Dh,Tryz.f96];subst s;refine eA λaA u v R=>?_;have x:aC aA w.heap.size 190 [eu 128,aE (E d),F hr 150]:=u;apply c1 (λaF a=>∃gh:ex,aF=[hQ gh]/\g0.GE gh/\gh.a5=e.a5/\Q [] aA a) (λaF _=>yt aF) ⟨e,rfl,o,rfl,Q.b0 _ _⟩;rintro _ _ ax ⟨gh,rfl,m,n,g⟩;have h:Q [] w ax:=v.R g B;simp only[M];cases gh with
 |lK d b c=>exact m.elim
 |dD k=>
  refine GG (Az (OB ax) ?_);simp only[M];apply(gC (l:=[eu 128,aE (E d),F hr 150]) Ao (x.J g B).cy).2;have y:ax.cell? d=E (aE (E ⟨t,0,I⟩)):=(World.cell?_of_block (h.nR _ r B)).trans q;refine OH y (OG λz A f V=>OI ((p.J h B).J f B) A λW D J X=>⟨rfl,?_,((h.R f B).bw B).R J B⟩);rw[<-n];exact D
 |d2 d5 i j=>
  refine OF (Az (OC ax) ?_);simp only[M];refine(pd (Oz _)).2 ?_;simp only[cV,cX];refine l7 ?_;simp only[M];intro _;refine(pd (GC _)).2 ?_;simp only[cV,cX,M];refine GF (GD j) λz f=>w9.2 ?_;simp only[M];exact⟨⟨j,rfl,m,n,g.R f B⟩,GH d5 i j⟩
def GI{k:Int}:a0 C 55 #[cT,qR k] w λae a=>ae=aK U/\w=a:=by
 refine a9 (.L .D (.L (.bK [11] .D .D) .D)) 2 Tryz.func55 K rfl λa1 b=>?_;simp+decide only[↓a8,ba,Tryz.f55];subst b;refine l7 ((ry dk).2 ?_);try simp only[M]
 intro _;have:aZ C (eE .eql 73 U cT (qR k)) w (λaa=>o5 (λae a=>ae=aK U/\w=a) (gd aa) w):=by
  refine⟨aK U,?_,rfl,rfl⟩;unfold eE;apply gv C _ w;obtain⟨d,c⟩:=z6 dk;have h:∀ag:Nat,(lF (ag+1) 73 cT (qR k)).run C w=bN U w:=λag=>by unfold qR;simp only[lF,fx,fK c,f7];rfl
  simp only[fx,eqGuard,binOp,qR,Op.equal,Op.maxDepth,f7,k5];have:=h 9999;simp only[qR]at this;simp[this]
 exact this
end
section
open Go.RowKit
def ff:Option ex->S
 |none=>cT
 |some e=>hQ e
def AA{e:Option ex}{ac:S->Prop}:aZ C (eE .eql 73 G (ff e) cT) w ac↔ac (aK e.isNone):=by
 cases e with
 |none=>exact ry dk
 |some e=>exact w9
def oF{e:Option ex}{ac:S->Prop}:aZ C (eE .neq 73 G (ff e) cT) w ac↔ac (aK e.isSome):=by
 cases e with
 |none=>exact fp dk
 |some e=>exact aa4
end
end Go.Proofs.YtepeilglbedgdaaGreatDoor
