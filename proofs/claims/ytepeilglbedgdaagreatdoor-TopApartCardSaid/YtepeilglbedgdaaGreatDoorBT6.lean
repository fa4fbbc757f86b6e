import Derived.Test.YtepeilglbedgdaaGreatDoorCards
import Derived.Test.YtepeilglbedgdaaGreatDoorTie
import Derived.ChangeVars
import Derived.JoinedOf
import Derived.RowKit
import Derived.RowKitTokens
import Derived.LaidLaws
import Derived.LaidHandle
import Derived.Stop.Joined
import Derived.SevenTiedAt
import GoSem.PinnedTables
import Derived.OpenShut
import Derived.ShutString
import Derived.ChangeOld
import Derived.Below
import Derived.Test.YtepeilglbedgdaaGreatDoorBT5
/- A part of the proof of this claim: it states and proves what the walk through the program uses. Its names are short ones that a program gave. The last part proves the card: for every input the call returns true, and each argument reads behind the call as it read before. -/
set_option linter.defProp false
set_option linter.all false
set_option maxRecDepth 100000
set_option maxHeartbeats 2000000
open Array renaming getElem?_eq_getElem->ti,length_toList->tj
open Bool renaming and_eq_true->dA,false->U,false_eq_true->fc,or_eq_true->pP,true->G
open ByteArray renaming mk->eS,size->vv
open Except renaming error->b5,ok->bA
open Go renaming Addr->es,IntKind->iz,Next->fD,Program->ft,TypeId->co,Value->S,World->aN,grownCap->jz,maxLen->d0,run_underlying->fK,undef->bS
open Go.Builtin renaming append->lp,append_->pQ,zeroCells->nq
open Go.Ending renaming returned->gd
open Go.IntKind renaming i64->H,u32->hS,u64->hr,u8->cl
open Go.Next renaming value->fw
open Go.Proofs.Tryz renaming prog->C
open Go.Result renaming ok->bN
open Go.Value renaming agg->b6,bool->aK,cells->bF,iface->eZ,int->F,nilIface->cT,pointer->aE,slice->T,string->bO,tuple->bQ
open Go.Value.slice renaming injEq->zI
open Int renaming eq_ofNat_of_zero_le->nL,natCast_mul->uq,toNat_natCast->hf
open List renaming all_eq_true->pO,append_assoc->gq,append_nil->kJ,cons_append->jN,drop_drop->oq,drop_eq_getElem_cons->ot,eq_nil_of_length_eq_zero->rc,flatMap_append->hL,flatMap_cons->iA,getD_eq_getElem?_getD->gp,getElem?_append_left->pR,getElem?_append_right->nr,getElem?_drop->oo,getElem?_eq_getElem->cr,getElem?_eq_some_iff->fi,getElem?_map->e1,getElem_mem->dX,getElem_of_mem->ns,length->jm,length_append->di,length_cons->gF,length_drop->e8,length_map->dU,length_nil->tl,length_range->uw,length_replicate->tt,length_set->i9,length_singleton->nt,length_take->ea,map_append->g6,map_cons->ge,map_map->ts,map_nil->tp,mem_append->b4,mem_append_left->hg,mem_append_right->h3,mem_cons->ce,mem_cons_of_mem->ev,mem_cons_self->fE,mem_filter->ol,mem_flatMap->tm,mem_map->fS,mem_map_of_mem->mz,mem_of_getElem?->gP,mem_of_mem_drop->tr,mem_range->iK,mem_singleton->ku,nil_append->m2,not_mem_nil->iZ,range->c9,replicate->cN,set_append_right->sr,take_append_drop->l3,take_left->tk,take_length->j3,take_of_length_le->mv,take_succ_eq_append_getElem->jO
open Nat renaming add_assoc->sp,add_mul->iM,add_zero->qA,le_refl->fF,le_trans->gz,lt_of_lt_of_le->iL,mul_le_mul_right->mw,mul_one->gA,sub_self->k6,zero_add->gQ
open Option renaming bind_some->tg,getD_some->om,map_some->m1,none->I,some->E
open Option.some renaming inj->re,injEq->vq
open Or renaming inl->Y,inr->Z
open Pure renaming pure->fh
open UInt8 renaming ofNat->ed,toNat_ofNat'->mx
open Go
namespace Go.Proofs.YtepeilglbedgdaaGreatDoor
open Go.X
attribute[local irreducible]Go.X.W
variable{a ax bv w:aN}{aQ aX ab af ai ak b bu e9 hs i jP k n s t zJ:Nat}{aB cp dN qG:Nat -> Bool}{aD aO am az bU ci d6 eT fy:List Nat}{aa bc cA cB:S}{ac:S -> aN -> Prop}{ad:ft}{al ay:Nat -> Nat -> Bool}{an dO:cK}{gG gY:Int}{ar:co}{au:eW}{bo:List i8}{c:dR}{d:dl}{dm:List ByteArray}{l:List UInt8}{e:eG}{fz:kQ}{ri:List er}
section
open Go.ChangeShapes Go.WideShapes Go.RowKit
abbrev B3:List (String×DataW Unit):=[("unicode/utf8.acceptRanges",Rows.laid_unicode_utf8_acceptRanges),("errors.errorType",Rows.laid_errors_errorType),("unicode/utf8.first",Rows.laid_unicode_utf8_first)]
def alP:ownKnob C.godebug=I:=K
def alQ:C.globalNamed "errors.errorType"=E 0:=K
def alR:(C.cutTypes.find? (·.1== "internal/reflectlite.rtype")).map (·.2)=E 271:=K
def alS:((c9 542).filter λt=>C.rowNamed t [101,114,114,111,114])=[73]:=K
def alT:C.types.size=542:=K
def UZ:laidOutB C=G:=K
def alU{bE:aN}(h:laidMetH C B3 bE):jf bE:=by
 have c:laidMet C [("unicode/utf8.acceptRanges",Rows.laid_unicode_utf8_acceptRanges),("unicode/utf8.first",Rows.laid_unicode_utf8_first)] bE/\handlesMet C [("errors.errorType",Rows.laid_errors_errorType)] bE:=h
 obtain⟨name,ae,d,e,f,g,i,a⟩:=c.2 _ (ku.2 rfl)
 have j:name=[101,114,114,111,114]:=(re e).symm
 subst j
 obtain rfl:=re (alR.symm.trans f)
 have b:d∈(c9 542).filter λt=>C.rowNamed t [101,114,114,111,114]:=ol.2 ⟨iK.2 (by rw[<-alT];exact g),i⟩
 rw[alS]at b
 obtain rfl:=ku.1 b
 have k:typeHandle C 73=eu 73:=K
 rw[k]at a
 have:=World.var?_cell alQ a 0
 unfold jf iF
 simpa using this
def U0(l:List Nat):Array S:=(l.map λn:Nat=>F cl n).toArray
noncomputable def U1(rh:Os):aN:=
 let bv:=World.holding C rh ⟨#[],#[],[]⟩
 let put:=λ(h:Array Obj)(b:Nat)(d:Array S)=>h.modify b λ
  |.cells _ t a=>.cells d t a
  |af=>af
 {bv with heap:=put (put (put bv.heap 0 #[eZ 271 (b6 #[aE (E ⟨4,73,I⟩)])]) ((C.globalNamed "unicode/utf8.acceptRanges").getD 0) (U0 ([128,191,160,191,128,159,144,191,128,143]++cN 22 0))) ((C.globalNamed "unicode/utf8.first").getD 0) (U0 Pinned.utf8FirstZ)}
def alV(rh:Os)(c8:Array S):laidMetH C B3 ((U1 rh).forCall (λ_ _=>0) ⟨#[],c8,[]⟩).memory:=
 laidMetH_of_parts (laidMet_of_run' 8 K K) K
end
section
open Go.RowKit Go.ChangeShapes Go.WideShapes Go.Deep
section
def Fh(ad:ft)(ar:co)(l:List (Nat×co)):Prop:=ad.underlying ar=E (.struct (ad.fieldsOf ar))/\(ad.fieldsOf ar).toList.map (λaj=>(aj.offset,aj.type))=l
def B4{l:List (Nat×co)}(ao:Fh ad ar l){a:Type}{b:co×S->a}{d:Nat}{bo:List S}{x:DataW a×List MemPlace}
  (h:DataW.trod b ad w 0 (λ_=>G) G d ar bo=E x):bo.length=ad.cellsOf ar/\∀ai∈l,∃(n:Nat)(ap:DataW a×List MemPlace),DataW.trod b ad w 0 (λ_=>G) G n ai.2 ((bo.drop ai.1).take (ad.cellsOf ai.2))=E ap:=by
 obtain⟨e,rfl⟩:=ao
 obtain⟨b7,f,p,q,g,r,i⟩:=DataW.trod_struct e h
 refine⟨g,λai k=>?_⟩
 obtain⟨aj,m,rfl⟩:=fS.1 k
 obtain⟨j,c,rfl⟩:=ns m
 rw[tj]at c
 have o:=i j _ (ti c)
 simp only[Array.getElem_toList]
 exact⟨f,b7[j]'A,o.trans (cr A)⟩
def uo{l:List (Nat×co)}(ao:Fh ad ar l){a:Type}{d:co×S->a}{e:Nat}{bo:List S}{x:DataW a×List MemPlace}
  (h:DataW.trod d ad w 0 (λ_=>G) G e ar bo=E x) (f:(af,t)∈l) (g:ad.cellsOf t=1) (i:ad.underlying t=E (.int H)):∃n,bo[af]?=E (F H n)/\-9223372036854775808<=n/\n<=9223372036854775807:=by
 obtain⟨n,ap,b⟩:=(B4 ao h).2 _ f
 rw[g]at b
 obtain⟨bm,j,_,k⟩:=DataW.trod_int i b
 refine⟨bm,?_,Kz k⟩
 have c:((bo.drop af).take 1)[0]?=E (F H bm):=by rw[j];rfl
 rw[List.getElem?_take_of_lt A,oo]at c
 exact c
end
section
def U2(ag:JI):Prop:=∀n∈[ag.aJ,ag.g2,ag.sZ,ag.hH,ag.aR,ag.bk,ag.UI],-9223372036854775808<=n/\n<=(9223372036854775807:Int)
def wF:Fh C 51 [(0,3),(1,3),(2,3),(3,3),(4,3),(5,3),(6,3)]:=⟨K,K⟩
def U3:C.cellsOf 51=7:=K
def te:C.cellsOf 3=1:=K
def tf:C.underlying 3=E (.int H):=K
def alW:zf C w 51 JJ U2:=by
 intro J K L bo x a
 have h:=(B4 wF a).1
 rw[U3]at h
 obtain⟨s,i,M⟩:=uo wF a (af:=0) (t:=3) B te tf
 obtain⟨u,j,N⟩:=uo wF a (af:=1) (t:=3) B te tf
 obtain⟨v,k,O⟩:=uo wF a (af:=2) (t:=3) B te tf
 obtain⟨y,m,P⟩:=uo wF a (af:=3) (t:=3) B te tf
 obtain⟨z,o,Q⟩:=uo wF a (af:=4) (t:=3) B te tf
 obtain⟨A,p,R⟩:=uo wF a (af:=5) (t:=3) B te tf
 obtain⟨D,q,V⟩:=uo wF a (af:=6) (t:=3) B te tf
 clear a
 obtain⟨fH,b,c,d,e,f,g,rfl⟩:∃fH b c d e f g,bo=[fH,b,c,d,e,f,g]:=by
  rcases bo with _|⟨fH,_|⟨b,_|⟨c,_|⟨d,_|⟨e,_|⟨f,_|⟨g,_|⟨W,l⟩⟩⟩⟩⟩⟩⟩⟩<;>simp at h
  exact⟨_,_,_,_,_,_,_,rfl⟩
 simp at i j k m o p q
 subst i j k m o p q
 refine⟨⟨s,u,v,y,z,A,D⟩,rfl,?_⟩
 intro n r
 simp only[ce,List.mem_nil_iff,or_false]at r
 rcases r with rfl|rfl|rfl|rfl|rfl|rfl|rfl<;>assumption
def anc:C.underlying 76=E (.slice 51):=K
end
end
end Go.Proofs.YtepeilglbedgdaaGreatDoor
namespace Go.Proofs.YtepeilglbedgdaaGreatDoor.topApart
open Go.X
section
open Go.ChangeShapes Go.WideShapes Go.ChangeAt Go.RowKit Go.Proofs.YtepeilglbedgdaaGreatDoor
set_option maxRecDepth 100000 in
theorem al4 (rh:Os) (u:rh.Started) (v:Type) (be:co×S->v):
  ReturnsInHanded {} Tryz.checked rh 6 .any (λw c8=>(Rows.topApartSpec.pre be C Tryz.f6 [] U w c8/\laidMetH C B3 w)/\sizedMet be C Tryz.f6 (OpenSpec.ofChange Rows.topApartSpec) U w c8)
   (Rows.topApartSpec.post be C Tryz.f6 U G U U):=by
 refine returnsInHanded_of_change_and (C:=Tryz.checked) (X:=λw _=>laidMetH C B3 w) (λ_ _ _ y h=>h.of_heap y) alP u K Tryz.func6
  (ChangeSpec.witness_at (enc:=be) (C:=Tryz.checked) (os:=rh) (X:=λw _=>laidMetH C B3 w) U (U1 rh) #[F H 0,F H 0,T I 0 0,T I 0 0,aK U] 8 rfl K K K K K (alV rh _)) ?_
 intro bC z c8 B am an d f _ _ D _
 have a:∀(j:Nat) t aa,Tryz.f6.params[j]?=E t->c8[j]?=E aa->Value.okWide C bC .any z t aa:=d
 have J:=f
 obtain⟨ah,ai,g,L,rfl,ao,ap⟩:=f
 have i:DataW.TrodAll be C bC 0 (λ_=>G) G Tryz.f6.params.toList c8.toList B ah:=g
 rw[Tryz.params6]at i a
 obtain⟨k,aq,ar,au,U6,av,aw,rfl,rfl,M,N⟩:=trodAll_cons i
 obtain⟨l,ax,ay,az,aB,aC,rfl,rfl,rfl,O,P⟩:=trodAll_cons N
 obtain⟨m,aD,aF,aG,Q,aH,rfl,rfl,rfl,n,R⟩:=trodAll_cons P
 obtain⟨o,aI,aJ,aL,V,aM,rfl,rfl,rfl,p,W⟩:=trodAll_cons R
 obtain⟨q,aO,aP,aQ,aR,aS,rfl,rfl,rfl,ab,ac⟩:=trodAll_cons W
 obtain⟨rfl,rfl,rfl⟩:=trodAll_nil ac
 obtain rfl:c8=#[k,l,m,o,q]:=by cases c8;simp_all
 obtain⟨rfl,rfl⟩:=trodVars_none L
 obtain⟨fH,rfl,rfl,rfl,bv⟩:=open_int Tryz.underlying3 (a 0 3 k rfl rfl) M
 obtain⟨aT,rfl,rfl,rfl,aA⟩:=open_int Tryz.underlying3 (a 1 3 l rfl rfl) O
 have r:=n
 have ad:∀x∈Q,x.block<bC.heap.size:=by obtain⟨ak,b⟩:=r;exact DataW.trod_lt ak _ _ _ b
 obtain⟨c5,ae,aU,ou⟩:=Sl anc U3 (λ_=>rfl) A alW (a 2 76 m rfl rfl) n
 have s:=p
 have af:∀x∈V,x.block<bC.heap.size:=by obtain⟨ak,b⟩:=s;exact DataW.trod_lt ak _ _ _ b
 obtain⟨da,ag,aV,aW⟩:=Sl (be:=ew) Tryz.underlying22 te (λ_=>rfl) A (agj tf) (a 3 22 o rfl rfl) p
 obtain⟨aX,rfl,rfl,rfl⟩:=open_bool Tryz.underlying4 (a 4 4 q rfl rfl) ab
 have aj:=alU D
 clear g d
 refine(Go.X.a0.Vv (anb aj ae ag)).mono λe aY⟨al,c⟩=>?_
 subst al
 exact⟨_,rfl,_,_,_,[],_,[],J,trodAll_mk1 (shut_bool Tryz.underlying4 _),(trodAll_cons_mk (shut_int Tryz.underlying3 bv) (trodAll_cons_mk (shut_int Tryz.underlying3 aA) (trodAll_cons_mk (Below.trod UZ K (of_decide_eq_true K) r c ad) (trodAll_cons_mk (Below.trod UZ K (of_decide_eq_true K) s c af) (trodAll_cons_mk (shut_bool Tryz.underlying4 _) trodAll_mk0))))),rfl,c.frame _,λh=>by cases h⟩
theorem jl{d b:Bool}(h:d=G)(k:b=G):(d&&b)=G:=by rw[h,k];rfl
theorem U5:Tryz.pinned.checked.prog.funcNamed Rows.topApartRow.func=E 6:=K
theorem inst:Tryz.f6.isInstance Tryz.pinned.checked.prog Rows.topApartRow.origin Rows.topApartRow.targs:=of_decide_eq_true K
theorem al5:Tryz.f6.isWrapper Tryz.pinned.checked.prog Rows.topApartRow.wrapper Rows.topApartRow.mainSum:=by unfold Func.isWrapper;first|(rw[if_pos (by decide+kernel)];kernel_rfl)|(rw[if_neg (by decide+kernel)];exact⟨rfl,rfl⟩)
set_option maxHeartbeats 8000000 in
theorem al6:joinedFacts Tryz.pinned.checked.prog 6 Tryz.f6 Rows.topApartSpec Rows.topApartRow=G:=by
 unfold joinedFacts
 refine jl (jl (jl (jl (jl (jl (jl (jl (jl (jl (jl (jl (jl (jl (jl (jl (jl (jl (jl (jl (jl (jl (jl (jl (jl (jl (jl (jl (jl (jl (jl ?_ ?_) ?_) ?_) ?_) ?_) ?_) ?_) ?_) ?_) ?_) ?_) ?_) ?_) ?_) ?_) ?_) ?_) ?_) ?_) ?_) ?_) ?_) ?_) ?_) ?_) ?_) ?_) ?_) ?_) ?_) ?_
 all_goals decide+kernel
theorem ane:Rows.topApartRow.holds Tryz.pinned (OpenSpec.ofChange Rows.topApartSpec):=
 OpenClaim.holds_of_wide 6 Tryz.f6 rfl rfl rfl rfl rfl rfl rfl ⟨rfl,rfl,rfl,rfl,rfl⟩ rfl rfl rfl rfl rfl U5 Tryz.func6 al6
  inst al5
  (λrh a b be _=>al4 rh a b be)
theorem al8:U=Rows.topApartRow.goesBy Tryz.pinned.checked.prog:=K
theorem al9:Tryz.pinned.checked.prog.mainIs=E (G,((G, "0cb66b075be2326e287ec28bf4f90176a22813707f997a64b32bd5491fbd1b1a")).2.toList):=K
theorem ama:G=Tryz.pinned.checked.prog.looks []:=K
theorem amb:Tryz.f6.params.all (λt=>!C.wantsStandIn t)=G:=K
theorem proved:Rows.TopApartCardSaid:=
 Claim7.holds_tied_plain_at .later [] [.data,.handle,.pinned] G (G, "0cb66b075be2326e287ec28bf4f90176a22813707f997a64b32bd5491fbd1b1a") G
  ane (λ_ h=>by cases h) K (λ_ h=>by cases h) topApart_row_tie rfl ⟨rfl,rfl⟩ al9 rfl
  (λaj gr a b=>by
   obtain rfl:aj=6:=re (U5.symm.trans a)|>.symm
   obtain rfl:gr=Tryz.f6:=(re (Tryz.func6.symm.trans b)).symm
   exact⟨ama,λj t c=>by
    have d:=Array.all_eq_true_iff_forall_mem.1 amb t (Array.mem_of_getElem? c)
    have e:C.wantsStandIn t=U:=by simpa using d
    exact e⟩)
  al8
end
end Go.Proofs.YtepeilglbedgdaaGreatDoor.topApart
