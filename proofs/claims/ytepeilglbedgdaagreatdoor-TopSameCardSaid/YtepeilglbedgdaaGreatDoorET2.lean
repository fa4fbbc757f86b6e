import Derived.Maps.RangeRun
import Derived.Stop.BytesEq
import Derived.Test.YtepeilglbedgdaaGreatDoorET1
/- A part of the proof of this claim: it states and proves what the walk through the program uses. Its names are short ones that a program gave. The last part proves the card: for every input the call returns true, and each argument reads behind the call as it read before. -/
set_option linter.defProp false
set_option linter.all false
set_option maxRecDepth 100000
set_option maxHeartbeats 2000000
open Array renaming getElem?_eq_some_iff->so,length_toList->tj
open BitVec renaming ofInt->iN,toNat_ofInt->ur
open Bool renaming and_eq_true->dA,false->U,false_eq_true->fc,not_eq_false'->ux,not_eq_true'->lq,not_false->lE,not_true->hq,or_eq_true->pP,true->G,true_and->pV
open ByteArray renaming mk->eS,size->vv
open Except renaming error->b5,map->nM,ok->bA
open Go renaming Addr->es,IntKind->iz,Program->ft,TypeId->co,Value->S,World->aN,maxLen->d0,run_underlying->fK,undef->bS
open Go.Builtin renaming append->lp
open Go.ChangeMaps renaming setBlock->st
open Go.Ending renaming returned->gd
open Go.Extern.MapsClone renaming clone->B5
open Go.IntKind renaming i64->H,u32->hS,u64->hr,u8->cl
open Go.MapKept renaming run_getObj_map->pS
open Go.Op renaming bytesLess->amA,equalIn->lF
open Go.Proofs.Tryz renaming prog->C
open Go.Result renaming andThen->tn,andThen_ok->f7,ok->bN
open Go.Sem renaming run_bind->fx,run_pure->k5
open Go.Value renaming agg->b6,bool->aK,cells->bF,iface->eZ,int->F,map->eB,nilIface->cT,pointer->aE,slice->T,string->bO,tuple->bQ
open Int renaming eq_ofNat_of_zero_le->nL,natCast_mul->uq,toNat_natCast->hf
open List renaming append_assoc->gq,append_nil->kJ,cons_append->jN,drop_drop->oq,drop_eq_getElem_cons->ot,drop_eq_nil_of_le->uu,eq_nil_of_length_eq_zero->rc,ext_getElem?->qC,filter_cons->uv,flatMap_append->hL,flatMap_cons->iA,getD_cons_succ->up,getD_cons_zero->kt,getD_eq_getElem?_getD->gp,getElem?_append_left->pR,getElem?_append_right->nr,getElem?_drop->oo,getElem?_eq_getElem->cr,getElem?_eq_none->jy,getElem?_eq_some_iff->fi,getElem?_map->e1,getElem?_range->qD,getElem?_set->pT,getElem_map->ic,getElem_mem->dX,getElem_of_mem->ns,length->jm,length_append->di,length_cons->gF,length_drop->e8,length_map->dU,length_nil->tl,length_range->uw,length_replicate->tt,length_set->i9,length_singleton->nt,length_take->ea,map_append->g6,map_congr_left->amO,map_cons->ge,map_map->ts,map_nil->tp,map_set->qB,mem_append->b4,mem_append_left->hg,mem_append_right->h3,mem_cons->ce,mem_cons_of_mem->ev,mem_cons_self->fE,mem_filter->ol,mem_flatMap->tm,mem_map->fS,mem_map_of_mem->mz,mem_of_getElem?->gP,mem_of_mem_drop->tr,mem_range->iK,mem_singleton->ku,nil_append->m2,nodup_append->us,nodup_cons->ks,not_mem_nil->iZ,pairwise_iff_getElem->rd,range->c9,range_succ->nK,replicate->cN,set_append_right->sr,take_append_drop->l3,take_left->tk,take_length->j3,take_of_length_le->mv,take_succ_eq_append_getElem->jO
open List.cons renaming injEq->ss
open Nat renaming add_assoc->sp,add_mul->iM,add_zero->qA,le_refl->fF,le_trans->gz,lt_of_lt_of_le->iL,lt_trichotomy->ut,min_eq_left->my,mul_le_mul_right->mw,mul_one->gA,one_mul->sq,pow_le_pow_right->pU,sub_self->k6,xor_assoc->sv,xor_lt_two_pow->su,zero_add->gQ
open Option renaming bind_some->tg,getD_some->om,isSome_none->wH,isSome_some->vu,map_some->m1,none->I,some->E
open Option.some renaming inj->re,injEq->vq
open Or renaming inl->Y,inr->Z
open Pure renaming pure->fh
open UInt8 renaming ofNat->ed,toNat_inj->nN,toNat_ofNat'->mx,toNat_xor->tq
open Go
namespace Go.Proofs.YtepeilglbedgdaaGreatDoor.fC
open Go.X
attribute[local irreducible]Go.X.W
variable{am bU:List Nat}{a w:aN}{ah b hM i:Nat}{aa ae:S}{ac:S -> aN -> Prop}{ao:List gZ}{d5:ByteArray}{h:gZ}
structure eI where
 eC:List gZ
 hE:Int
 cS:Int
def uN(ao:List gZ)(i:Nat)(e:Int):Int:=match ao[i]? with
 |some h=>h.cu
 |none=>e
def lN(ao:List gZ)(e:Int):Prop:=(∀h∈ao,0<=h.cu/\1<=h.md)/\∀i h,ao[i]?=E h->h.cu+h.md=uN ao (i+1) e
def lN.D(e:Int):lN [] e:=⟨λh a=>(by simp at a),λi h al=>by simp at al⟩
def lN.vF{e:Int}(h:lN ao e)(k:Nat):lN (ao.drop k) e:=by refine⟨λx a=>h.1 x (tr a),λi x al=>?_⟩;rw[oo]at al;rw[h.2 _ x al];unfold uN;rw[oo,sp]
def lN.uO{e:Int}(h:lN ao e){x:gZ}(f:x.cu=e)(g:0<=e)(c:1<=x.md):lN (ao++[x]) (e+x.md):=by
 refine⟨λap a=>?_,λi ap al=>?_⟩
 ·rcases b4.1 a with a|a
  ·exact h.1 ap a
  ·simp at a;subst a;exact⟨A,c⟩
 ·unfold uN;rcases ut (i+1) ao.length with b|b|b
  ·rw[pR A]at al;rw[pR b,h.2 i ap al];unfold uN;rw[cr b]
  ·rw[pR A]at al;rw[nr A,show i+1-ao.length=0 by omega];have:=h.2 i ap al;unfold uN at this;rw[jy A]at this;simp only[List.getElem?_cons_zero];simp only at this;omega
  ·have d:i<(ao++[x]).length:=(fi.1 al).1;rw[di,nt]at d;rw[nr A,show i-ao.length=0 by omega]at al;simp at al;subst al;rw[jy (by rw[di,nt];omega)];simp only;omega
def lN.hm{e:Int}(h:lN ao e):∀(j i:Nat)(x ap:gZ),i<j->ao[i]?=E x->ao[j]?=E ap->x.cu+x.md<=ap.cu:=by
 intro j;induction j with
 |zero=>intro i x ap f;omega
 |succ j g=>
  intro i x ap f c d;have l:j+1<ao.length:=(fi.1 d).1;have a:ao[j]?=E ao[j]:=cr A;have b:=h.2 j _ a;unfold uN at b;rw[d]at b;simp only at b;rcases Nat.lt_or_ge i j with k|m
  ·have n:=g i x _ k c a;have o:=h.1 _ (gP a);omega
  ·have:i=j:=A;subst this;rw[c]at a;cases a;omega
def lN.cQ{e:Int}(h:lN ao e){x:gZ}(a:ao[ao.length-1]?=E x):x.cu+x.md=e:=by have b:=(fi.1 a).1;have:=h.2 _ x a;unfold uN at this;rw[jy A]at this;exact this
def lN.AB{e:Int}(h:lN ao e){x:gZ}(b:x∈ao):x.cu+x.md<=e:=by
 obtain⟨i,al,rfl⟩:=List.mem_iff_getElem.1 b;have a:ao[ao.length-1]?=E (ao[ao.length-1]'A):=cr _;have f:=h.cQ a;rcases Nat.lt_or_ge i (ao.length-1)with c|g
 ·have j:=h.hm _ i _ _ c (cr al) a;have k:=h.1 _ (gP a);omega
 ·have d:i=ao.length-1:=A;subst d;omega
def lN.OJ{e:Int}(h:lN ao e):Ou ao:=λi j x ap a b c=>h.hm j i x ap a b c
def lN.OK{e:Int}(h:lN ao e)(b:e<=9223372036854775807):Ov ao:=λx a=>by have:=h.1 x a;have:=h.AB a;omega
structure eI.bp(aw:eI):Prop where
 lu:0<=aw.hE
 vQ:aw.hE<=aw.cS
 vR:aw.cS<=9223372036854775807
 oG:lN aw.eC aw.cS
 D:aw.eC=[]->aw.hE=aw.cS
 hF:∀h,aw.eC[0]?=E h->h.cu<=aw.hE/\aw.hE<h.cu+h.md
def yu:ByteArray:=⟨#[112,108,111,103,46,65,100,100]⟩
def AC:ByteArray:=⟨#[112,108,111,103,46,70,114,111,109]⟩
def AD:ByteArray:=⟨#[112,108,111,103,46,84,114,105,109]⟩
def OL:ByteArray:=⟨#[112,108,111,103,46,78,101,119]⟩
def yv(d5:ByteArray)(k:Int):Option ex:=E (.d2 d5 0 (.dD k))
def yw(c t s e:Int):Bool:=decide (c<1\/8<c\/¬(0<=t/\t<=1125899906842624)\/s<0\/e<0)
def eI.mf(aw:eI)(c t s e:Int):Int:=if yw c t s e then 1 else if 9223372036854775807-aw.cS<c then 13 else 0
def eI.kM(aw:eI)(c t s e:Int):eI:=if aw.mf c t s e=0 then⟨aw.eC++[⟨aw.cS,c,t,s,e⟩],aw.hE,aw.cS+c⟩else aw
def eI.pg(aw:eI)(af:Int):List gZ:=aw.eC.drop (aw.eC.findIdx (me af))
def eI.mg(aw:eI)(af:Int):Int:=if af<aw.hE\/aw.cS<af then 13 else 0
def eI.jd(aw:eI)(af:Int):List gZ:=if aw.mg af=0 then aw.pg af else[]
def eI.ph(aw:eI)(af:Int):Int:=if 0<=af/\af<=aw.cS then 0 else 13
def eI.mM(aw:eI)(af:Int):eI:=if aw.ph af=0/\aw.hE<af then⟨aw.pg af,af,aw.cS⟩else aw
def pi(d5:ByteArray)(k:Int):Option ex:=if k=0 then I else yv d5 k
variable{aw:eI}
def eI.Ay(h:aw.bp)(c t s e:Int):(aw.kM c t s e).bp:=by
 unfold eI.kM;split
 ·rename_i b;unfold eI.mf at b;split at b
  ·cases b
  ·rename_i f;split at b
   ·cases b
   ·rename_i j;unfold yw at f;simp at f;have k:=h.lu;have l:=h.vQ;have m:=h.vR;refine⟨h.lu,by show aw.hE<=aw.cS+c;omega,by show aw.cS+c<=_;omega,h.oG.uO (x:=⟨aw.cS,c,t,s,e⟩) rfl A (by show 1<=c;omega),λi=>by simp at i,λx g=>?_⟩;cases d:aw.eC with
    |nil=>
     have a:(aw.eC++[⟨aw.cS,c,t,s,e⟩])[0]?=E x:=g;rw[d]at a;simp at a;subst a;have:=h.D d;show aw.cS<=aw.hE/\aw.hE<aw.cS+c;omega
    |cons ap b7=>
     have a:(aw.eC++[⟨aw.cS,c,t,s,e⟩])[0]?=E x:=g;rw[d]at a;simp at a;subst a;exact h.hF ap (by rw[d];rfl)
 ·exact h
def OM(h:aw.bp){af:Int}(i:aw.hE<=af){x:gZ}(a:(aw.pg af)[0]?=E x):x.cu<=af/\af<x.cu+x.md:=by
 unfold eI.pg at a;rw[oo,qA]at a;have f:=(fi.1 a).1;have c:=List.findIdx_getElem (w:=f);rw[(fi.1 a).2]at c;unfold me at c;simp at c;refine⟨?_,A⟩;rcases Nat.eq_zero_or_pos (aw.eC.findIdx (me af))with e|e
 ·rw[e]at a;have:=(h.hF x a).1;omega
 ·have d:me af (aw.eC[aw.eC.findIdx (me af)-1]'A)=U:=List.not_of_lt_findIdx A;have g:aw.eC[aw.eC.findIdx (me af)-1]?=E (aw.eC[aw.eC.findIdx (me af)-1]'A):=cr A;generalize(aw.eC[aw.eC.findIdx (me af)-1]'A)=ap at*;have b:=h.oG.2 _ _ g;unfold uN at b;rw[show aw.eC.findIdx (me af)-1+1=aw.eC.findIdx (me af)by omega,a]at b;have b:ap.cu+ap.md=x.cu:=b;unfold me at d;have d:=of_decide_eq_false d;omega
def ON(h:aw.bp){af:Int}(e:aw.hE<=af)(f:af<=aw.cS)(a:aw.pg af=[]):af=aw.cS:=by
 unfold eI.pg at a;rw[List.drop_eq_nil_iff]at a;cases b:aw.eC with
 |nil=>have:=h.D b;omega
 |cons ap b7=>
  have g:0<aw.eC.length:=by rw[b];simp
  have d:aw.eC[aw.eC.length-1]?=E (aw.eC[aw.eC.length-1]'A):=cr A;have i:=h.oG.cQ d;have c:me af (aw.eC[aw.eC.length-1]'A)=U:=List.not_of_lt_findIdx A;unfold me at c;simp at c;omega
def eI.GJ(h:aw.bp)(af:Int):(aw.mM af).bp:=by
 unfold eI.mM;split
 ·rename_i a;obtain⟨a,f⟩:=a;unfold eI.ph at a;split at a
  ·rename_i b;have g:=h.lu;have i:=h.vQ;have c:=h.vR;exact⟨b.1,b.2,c,h.oG.vF _,λd=>ON (af:=af) h A b.2 d,λx e=>OM (af:=af) h A e⟩
  ·cases a
 ·exact h
def kz(w:aN)(ah:Nat)(aw:eI)(am:List Nat):Prop:=∃b dQ,aC w ah 352 [aE (E ⟨b,0,I⟩),F H aw.hE,F H aw.cS]/\lM w b 4 aw.eC dQ/\ah∉dQ/\am=ah::dQ
def kz.J(h:kz w ah aw am)(c:Q bU w a)(d:∀g∈am,g∉bU):kz a ah aw am:=by obtain⟨b,dQ,e,f,i,rfl⟩:=h;exact⟨b,dQ,e.J c (d ah B),f.J c (λg j=>d g (by simp[j])),i,rfl⟩
def kz.V(h:kz w ah aw am)(b:Q [] w a):kz a ah aw am:=h.J b B
def kz.aL(h:kz w ah aw am):∀g∈am,g<w.heap.size:=by
 obtain⟨b,dQ,c,d,e,rfl⟩:=h;intro g a;rcases ce.1 a with rfl|a
 ·exact c.aL
 ·exact d.aL g a
def nW{s n:Int}(h:aC w ah 352 [aE (E ⟨b,0,I⟩),F H s,F H n]):
  (∀ac,aZ C (a4 350 (aE (E ⟨ah,0,I⟩))) w ac↔ac (aE (E ⟨b,0,I⟩)))/\(∀ac,aZ C (a4 3 (aE (E ⟨ah,1,I⟩))) w ac↔ac (F H s))/\(∀ac,aZ C (a4 3 (aE (E ⟨ah,2,I⟩))) w ac↔ac (F H n)):=
 ⟨λ_=>bl w6 (h.bh (af:=0)),λ_=>bl bZ (h.bh (af:=1)),λ_=>bl bZ (h.bh (af:=2))⟩
def OO{n ak:Int}:a0 C 263 #[F H n,F H ak] w λae a=>ae=aK (decide (0<=n/\n<=ak))/\w=a:=by refine a9 .D 2 Tryz.func263 K rfl λa1 b=>?_;simp+decide only[↓a8,ba,Tryz.f263];subst b;simp only[M,bi];exact⟨λh=>⟨by rw[decide_eq_decide.2 (show(n<=ak)↔(0<=n/\n<=ak)by omega)],rfl⟩,λh=>⟨by rw[decide_eq_false A],rfl⟩⟩
def AE{k:Int}(c:ac (ff (yv d5 k)) w):aV C (tx 33 (F H k)) λaa=>W C (ck 59 #[bO d5,F H 0,aa]) w ac:=by refine(hk hY).2 ?_;refine aH nz qS ?_;rintro _ _ ⟨rfl,rfl⟩;exact c
def aa5{n:Int}(j:-9223372036854775808<=n)(l:n<=9223372036854775807):a0 C 260 #[F H n] w λae a=>Q [] w a/\
  ((n<0/\ae=bQ #[aE I,ff (yv OL 1)])\/(0<=n/\∃ah am,ae=bQ #[aE (E ⟨ah,0,I⟩),cT]/\kz a ah ⟨[],n,n⟩ am/\∀g∈am,w.heap.size<=g)):=by
 refine a9 .D 1 Tryz.func260 K rfl λa1 e=>?_;simp+decide only[↓a8,ba,Tryz.f260];subst e;simp only[qN,bi];refine⟨λb=>?_,λb=>?_⟩
 ·exact AE (d5:=OL) (k:=1) ⟨Q.b0 _ _,Y ⟨b,rfl⟩⟩
 ·apply aH L9 (Ot A A);rintro _ aA ⟨rfl,f,h,m⟩;refine(bY (gT:=#[aE (E ⟨w.heap.size,0,I⟩),F H n,F H n]) K).2 (eA λax i c o=>⟨h.R c B,Z ⟨A,aA.heap.size,_,rfl,⟨w.heap.size,[w.heap.size],i,f.J c B,by simp;omega,rfl⟩,λg d=>?_⟩⟩);simp at d;rcases d with rfl|rfl<;>omega
def aa6{c t s e:Int}(h:kz w ah aw am)(p:aw.bp)(R:aw.eC.length<=1000000):
  a0 C 266 #[aE (E ⟨ah,0,I⟩),F H c,F H t,F H s,F H e] w λae a=>∃az,ae=bQ #[F H (if aw.mf c t s e=0 then aw.cS else 0),ff (pi yu (aw.mf c t s e))]/\kz a ah (aw.kM c t s e) az/\Q am w a/\∀g∈az,g∈am\/w.heap.size<=g:=by
 obtain⟨b,dQ,i,q,m,rfl⟩:=h;have ai:=p.lu;have aj:=p.vQ;have ak:=p.vR;refine a9 (.L .D (.L (.bK [31] .D .D) .D)) 5 Tryz.func266 K rfl λa1 V=>?_;simp+decide only[↓a8,ba,Tryz.f266];subst V;refine bT (λW a=>W=[aK (yw c t s e)]/\w=a) ?_ ?_
 ·simp only[qN,wX,bi];unfold yw;refine⟨λu=>⟨by rw[decide_eq_true (show _\/_ from Y u)],trivial⟩,λu=>⟨λv=>⟨by rw[decide_eq_true (show _\/_ from Z (Y v))],trivial⟩,λv=>?_⟩⟩;apply aH L7 OO;rintro _ _ ⟨rfl,rfl⟩;simp only[wW,cG,qN,bi];refine⟨λj=>⟨by rw[decide_eq_true (show _\/_ from Z (Z (Y (by simp only[lq,decide_eq_false_iff_not]at j;exact j))))],trivial⟩,λj=>⟨λx=>⟨by rw[decide_eq_true (show _\/_ from Z (Z (Z (Y x))))],trivial⟩,λx=>⟨?_,trivial⟩⟩⟩;have j:0<=t/\t<=1125899906842624:=by simpa using j
  rw[decide_eq_decide.2 (show(e<0)↔(c<1\/8<c\/¬(0<=t/\t<=1125899906842624)\/s<0\/e<0)by omega)]
 rintro _ _ _ ⟨rfl,rfl⟩;simp only[kt];cases n:yw c t s e with
 |true=>
  simp only[k9];apply AE (d5:=yu) (k:=1);have f:aw.mf c t s e=1:=by unfold eI.mf;rw[n];rfl
  have l:aw.kM c t s e=aw:=by unfold eI.kM;rw[f];rfl
  rw[f,l];exact⟨_,rfl,⟨b,dQ,i,q,m,rfl⟩,Q.b0 _ _,λg d=>Y d⟩
 |false=>
  obtain⟨X,al,aa⟩:=nW i;have an:¬(c<1\/8<c\/¬(0<=t/\t<=1125899906842624)\/s<0\/e<0):=of_decide_eq_false n;simp only[M,aa,X,kN,bi];rw[bq A A];refine⟨λab=>?_,λac=>?_⟩
  ·apply AE (d5:=yu) (k:=13);have f:aw.mf c t s e=13:=by unfold eI.mf;rw[n];simp only[fc,if_false];rw[if_pos ab]
   have l:aw.kM c t s e=aw:=by unfold eI.kM;rw[f];rfl
   rw[f,l];exact⟨_,rfl,⟨b,dQ,i,q,m,rfl⟩,Q.b0 _ _,λg d=>Y d⟩
  ·have f:aw.mf c t s e=0:=by unfold eI.mf;rw[n];simp only[fc,if_false];rw[if_neg ac]
   have l:aw.kM c t s e=⟨aw.eC++[⟨aw.cS,c,t,s,e⟩],aw.hE,aw.cS+c⟩:=by unfold eI.kM;rw[f];rfl
   refine(bY (gT:=(it ⟨aw.cS,c,t,s,e⟩).toArray) K).2 (aH Gx (Ay (h:=⟨aw.cS,c,t,s,e⟩) q R) ?_);rintro _ aA ⟨rfl,r,ad,y,z⟩;have D:=i.J y m;have ao:=i.aL;obtain⟨ap,aq,af⟩:=nW D;simp only[M,af];rw[bq A A];refine eK hl D B rfl λax ag J ar=>?_;have L:ah∉r:=λo=>(z ah o).elim m (λh=>A);rw[f,l];refine⟨ah::r,rfl,⟨b,r,by simpa using ag,ad.J J (λg d o=>by simp at o;subst o;exact L d),L,rfl⟩,(y.bw (λg d=>Y (ev _ d))).R J B,λg d=>?_⟩;rcases ce.1 d with rfl|d
   ·exact Y fE
   ·exact(z g d).imp (ev _) id
def aa7(h:kz w ah aw am):a0 C 203 #[aE (E ⟨ah,0,I⟩)] w λae a=>ae=F H aw.hE/\w=a:=by obtain⟨b,dQ,c,f,g,rfl⟩:=h;refine a9 .D 1 Tryz.func203 K rfl λa1 d=>?_;simp+decide only[↓a8,ba,Tryz.f203];subst d;obtain⟨i,e,j⟩:=nW c;simp only[M,e];exact⟨rfl,rfl⟩
def aa8(h:kz w ah aw am):a0 C 144 #[aE (E ⟨ah,0,I⟩)] w λae a=>ae=F H aw.cS/\w=a:=by obtain⟨b,dQ,c,f,g,rfl⟩:=h;refine a9 .D 1 Tryz.func144 K rfl λa1 d=>?_;simp+decide only[↓a8,ba,Tryz.f144];subst d;obtain⟨i,j,e⟩:=nW c;simp only[M,e];exact⟨rfl,rfl⟩
section
open Go.RowKit
def aa9(k:∀ae a,aT a it ae [h]->Q [] w a->ac ae a):W C (jR 356 1 #[(0,lt h)]) w ac:=
 hw C8 [lt h] rfl rfl (by intro aa b;simp at b;subst b;rfl) A A λa c d _=>k _ _ (p3 (l:=[h]) (by simpa[lt,bF]using c)) d
def aba{l c5:List gZ}(c:bP w 354 5 ae l.length (l.flatMap it) am)(d:aT w it aa c5)(j:l.length+c5.length<=1000000)
  (k:∀b a az,bP a 354 5 b (l++c5).length ((l++c5).flatMap it) az->(∀g∈az,g∈am\/w.heap.size<=g)->Q am w a->ac b a):W C (dG lp #[356,356] #[ae,aa]) w ac:=by
 refine tJ C8 c (sE.x7 (l:=c5) (gh:=354) K d pf yr) A (by unfold d0;omega) λe ax cM f h i _=>k e ax cM ?_ i h;rw[hL,di];exact f
def GK(c:lM w b hM ao am)(al:i<ao.length)(k:∀a,Q [] w a->ac (lt ao[i]) a):W C (ck 202 #[aE (E ⟨b,0,I⟩),F H i]) w ac:=by refine aH YD (aao c) ?_;rintro _ a ⟨rfl,d⟩;rw[if_pos ⟨A,A⟩,hf,gp,cr al];exact k a d
def GL(c:lM w b hM ao am)(k:∀a,Q [] w a->ac (F H ao.length) a):W C (ck 201 #[aE (E ⟨b,0,I⟩)]) w ac:=
 aH YC (aai c) (λae a⟨d,e⟩=>by subst d;exact k a e)
def abb{af:Int}(h:kz w ah aw am)(f:aw.bp)(aD:aw.eC.length<=100000):
  a0 C 204 #[aE (E ⟨ah,0,I⟩),F H af] w λae a=>∃q,ae=bQ #[q,ff (pi AC (aw.mg af))]/\aT a it q (aw.jd af)/\Q [] w a/\∀b af n c,q=T (E ⟨b,af,I⟩) n c->w.heap.size<=b:=by
 obtain⟨b,dQ,r,D,aF,rfl⟩:=h;have aG:=f.lu;have aI:=f.vQ;have R:=f.vR;obtain⟨V,W,X⟩:=nW r;refine a9 ND 2 Tryz.func204 K rfl λa1 aa=>?_;simp+decide only[↓a8,ba,ND,Tryz.f204];subst aa;refine bT (λj a=>j=[aK (decide (af<aw.hE\/aw.cS<af))]/\w=a) ?_ ?_
 ·simp only[M,W,X,bi];exact⟨λd=>⟨by rw[decide_eq_true (show _\/_ from Y d)],trivial⟩,λd=>⟨by rw[decide_eq_decide.2 (show(aw.cS<af)↔(af<aw.hE\/aw.cS<af)by omega)],trivial⟩⟩
 rintro _ _ _ ⟨rfl,rfl⟩;simp only[kt,bi];refine⟨λab=>?_,λac=>?_⟩
 ·apply AE (d5:=AC) (k:=13);have l:aw.mg af=13:=if_pos ab;have s:aw.jd af=[]:=by unfold eI.jd;rw[l];rfl
  rw[l,s];exact⟨_,rfl,aT.gW _ _,Q.b0 _ _,λb af n c t=>by cases t⟩
 ·have l:aw.mg af=0:=if_neg ac;have s:aw.jd af=aw.pg af:=by unfold eI.jd;rw[l];rfl
  rw[l,s];simp only[M,V];apply aH L6 (Ox D A f.oG.OJ (f.oG.OK R) (λ_=>⟨A,A⟩));rintro _ aA ⟨rfl,ad⟩;unfold eI.pg;have ag:aw.eC.findIdx (me af)<=aw.eC.length:=List.findIdx_le_length;generalize aw.eC.findIdx (me af)=k at*;refine c1 (λj a=>∃(i:Nat)(jn:S)(u:List Nat),j=[jn,F H i]/\k<=i/\i<=aw.eC.length/\bP a 354 5 jn ((aw.eC.drop k).take (i-k)).length (((aw.eC.drop k).take (i-k)).flatMap it) u/\(∀g∈u,w.heap.size<=g)/\Q [] w a)
   (λj _=>match j with|[_,F _ i]=>aw.eC.length-i.toNat|_=>0) ⟨k,T I 0 0,[],rfl,fF _,ag,by rw[k6,List.take_zero];exact gJ _ _ _,B,ad⟩ ?_
  rintro _ _ ax ⟨i,jn,u,rfl,aJ,aL,o,v,m⟩;have J:=D.J m B;obtain⟨ai,aM,aO⟩:=nW (r.J m B);simp only[M,ai];refine GL J λaP p=>?_;have L:=m.R p B;have aj:=J.J p B;obtain⟨ak,aQ,aR⟩:=nW (r.J L B);simp only[M,ak,bi];refine⟨λx=>?_,λaS=>?_⟩
  ·have x:i<aw.eC.length:=A;refine GK aj x λaU an=>aa9 λaV aW ao ap=>?_;have y:=(p.R an B).R ap B;refine aba (o.J y B) ao (by rw[ea,e8];simp;omega) λaq aX ar au av ay=>?_;rw[bq A A];have aY:=(m.R y B).aI;refine⟨⟨i+1,aq,ar,rfl,A,x,?_,λg z=>(av g z).elim (v g) (λaZ=>A),(m.R y B).R ay (λg z=>Z (v g z))⟩,A⟩;have e:(aw.eC.drop k).take (i+1-k)=(aw.eC.drop k).take (i-k)++[aw.eC[i]]:=by rw[show i+1-k=(i-k)+1 by omega,jO (by rw[e8];omega),List.getElem_drop];congr 2;simp only[show k+(i-k)=i by omega]
   rw[e];exact au
  ·have al:i=aw.eC.length:=A;subst al;rw[mv (by rw[e8];exact fF _)]at o;exact⟨jn,rfl,(o.eF pf A).V p,L,λaz aB n aC t=>v _ (o.rt az aB n aC t)⟩
def abc{af:Int}(h:kz w ah aw am)(d:aw.bp)(ak:aw.eC.length<=100000):
  a0 C 220 #[aE (E ⟨ah,0,I⟩),F H af] w λae a=>∃az,ae=ff (pi AD (aw.ph af))/\kz a ah (aw.mM af) az/\Q am w a/\∀g∈az,g∈am\/w.heap.size<=g:=by
 obtain⟨b,dQ,e,r,f,rfl⟩:=h;have al:=d.lu;have an:=d.vQ;have J:=d.vR;obtain⟨ao,L,R⟩:=nW e;refine a9 NN 2 Tryz.func220 K rfl λa1 V=>?_;simp+decide only[↓a8,ba,NN,Tryz.f220];subst V;simp only[M,R];apply aH L7 OO;rintro _ _ ⟨rfl,rfl⟩;by_cases l:0<=af/\af<=aw.cS
 ·have i:aw.ph af=0:=if_pos l;rw[decide_eq_true l];simp only[hq,kN,wW];refine bT (λap a=>∃az,kz a ah (aw.mM af) az/\Q (ah::dQ) w a/\∀g∈az,g∈ah::dQ\/w.heap.size<=g) ?_ ?_
  ·simp only[M,L,bi];refine⟨λW=>?_,λX=>?_⟩
   ·have j:aw.mM af=⟨aw.pg af,af,aw.cS⟩:=if_pos ⟨i,W⟩;refine eK hl e B rfl λaA m u aq=>?_;have m:aC aA ah 352 [aE (E ⟨b,0,I⟩),F H af,F H aw.cS]:=by simpa using m
    have v:=r.J u (λg c o=>by simp at o;subst o;exact f c);have s:=cD [] aA;have aa:=m.J s B;obtain⟨ab,ar,au⟩:=nW aa;simp only[M,ab];apply aH L6 (Ox (v.J s B) A d.oG.OJ (d.oG.OK J) (λ_=>⟨A,A⟩));rintro _ ax ⟨rfl,ac⟩;have p:=s.R ac B;have x:=m.J p B;refine(dz w6 (x.bh (af:=0))).2 (aH Zq (aan (n:=(aw.eC.findIdx (me af):Nat)) (v.J p B) A) ?_);rintro _ av ⟨rfl,t,y,z,D⟩;rw[hf]at y;rw[j];have ay:=p.aI;have aB:=e.aL;have ad:ah∉t:=λo=>(D ah o).elim f (λh=>A);refine⟨ah::t,⟨b,t,x.J z f,y,ad,rfl⟩,((u.bw B).R p B).R z (λg c=>Y (ev _ c)),λg c=>?_⟩;rcases ce.1 c with rfl|c
    ·exact Y fE
    ·exact(D g c).imp (ev _) (λh=>A)
   ·have j:aw.mM af=aw:=if_neg (λq=>X q.2);rw[j];exact⟨_,⟨b,dQ,e,r,f,rfl⟩,Q.b0 _ _,λg c=>Y c⟩
  rintro _ _ aA ⟨az,ag,ai,aj⟩;rw[i];exact⟨az,rfl,ag,ai,aj⟩
 ·have i:aw.ph af=13:=if_neg l;have j:aw.mM af=aw:=if_neg (λq=>by rw[i]at q;exact absurd q.1 (by decide));rw[decide_eq_false l];simp only[lE,k9,wW];apply AE (d5:=AD) (k:=13);rw[i,j];exact⟨_,rfl,⟨b,dQ,e,r,f,rfl⟩,Q.b0 _ _,λg c=>Y c⟩
def eI.Dn(aw:eI)(t:Int):Nat:=aw.eC.findIdx λh=>decide (t<=h.mL)
def eI.cy(aw:eI)(t:Int):Int:=match aw.eC[aw.Dn t]? with
 |some h=>max aw.hE h.cu
 |none=>aw.cS
def abd{t:Int}(h:kz w ah aw am)(v:aw.eC.length<=100000):
  a0 C 145 #[aE (E ⟨ah,0,I⟩),F H t] w λae a=>ae=F H (aw.cy t)/\Q [] w a:=by
 obtain⟨b,dQ,c,d,x,rfl⟩:=h;refine a9 Na 2 Tryz.func145 K rfl λa1 n=>?_;simp+decide only[↓a8,ba,Na,Tryz.f145];subst n;obtain⟨o,y,z⟩:=nW c;simp only[M,o];apply aH YB (aaj (t:=t) d A);rintro _ aA ⟨rfl,e⟩;obtain⟨p,D,J⟩:=nW (c.J e B);simp only[M,p];refine GL (d.J e B) λax q=>?_;have f:=e.R q B;have L:aw.Dn t<=aw.eC.length:=List.findIdx_le_length;have r:(aw.eC.findIdx λh=>decide (t<=h.mL))=aw.Dn t:=rfl;rw[r];simp only[M,bi];unfold eI.cy;refine⟨λR=>?_,λV=>?_⟩
 ·obtain⟨i,j,k⟩:=nW (c.J f B);simp only[M,k];refine⟨?_,f⟩;rw[jy A]
 ·have l:aw.Dn t<aw.eC.length:=A;have s:=cD [] ax;have g:=f.R s B;obtain⟨i,j,k⟩:=nW (c.J g B);simp only[M,i,j];refine GK (d.J g B) l λW u=>?_;have m:=g.R u B;refine(dz bZ ((c.J m B).bh (af:=1))).2 (aap.2 ?_);simp only[M];refine⟨?_,m⟩;rw[cr l]
end
end Go.Proofs.YtepeilglbedgdaaGreatDoor.fC
namespace Go.X
section
open Go.RowKit
structure hG where
 L:Int
 cu:Int
 bV:Int
 deriving DecidableEq
def oH(x:hG):List S:=[F H x.L,F H x.cu,F H x.bV]
def Do(x:hG):∀ae∈oH x,ae.oneCell'=G:=by intro ae a;simp[oH]at a;rcases a with rfl|rfl|rfl<;>rfl
def nX(x:hG):S:=b6 (oH x).toArray
def i2:hG:=⟨0,0,0⟩
def tS:ByteArray:=⟨#[100,101,100,117,112,46,65,115,107]⟩
def ke(ak:List (Int×hG))(ah s:Int):hG×Bool×Option ex:=
 if ah=0 then(i2,U,I)
 else if ah<0\/1048576<ah\/s<0\/1099511627776<s then(i2,U,E (.d2 tS ah (.dD 1)))
 else match fq ak ah with
  |some x=>if s=x.L then(x,G,I)else if s=H.wrap (x.L+1)then(i2,U,I)else(i2,U,E (.d2 tS ah (.dD 12)))
  |none=>if s=0 then(i2,U,I)else(i2,U,E (.d2 tS ah (.dD 12)))
def sK(ak:List (Int×hG))(ah:Int)(s:hG):List (Int×hG):=if ah=0 then ak else ka ak ah s
def abe{ak:List (Int×hG)}{ah s:Int}{x:hG}{b:Bool}{e:ex}(h:ke ak ah s=(x,b,E e)):∃k,e=.d2 tS ah (.dD k)/\(k=1\/k=12)/\x=i2/\b=U:=by
 unfold ke at h;split at h
 ·simp at h
 ·split at h
  ·simp at h;obtain⟨a,c,d⟩:=h;exact⟨1,d.symm,Y rfl,a.symm,c⟩
  ·split at h
   ·split at h
    ·simp at h
    ·split at h
     ·simp at h
     ·simp at h;obtain⟨a,c,d⟩:=h;exact⟨12,d.symm,Z rfl,a.symm,c⟩
   ·split at h
    ·simp at h
    ·simp at h;obtain⟨a,c,d⟩:=h;exact⟨12,d.symm,Z rfl,a.symm,c⟩
def yx(ah s:Int):Prop:=1<=ah/\ah<=1048576/\0<=s/\s<=1099511627776
def OP{ak:List (Int×hG)}{s:Int}:ke ak 0 s=(i2,U,I):=by unfold ke;rw[if_pos rfl]
def abf{ak:List (Int×hG)}{ah s:Int}(a:ah≠0)(h:ah<0\/1048576<ah\/s<0\/1099511627776<s):ke ak ah s=(i2,U,E (.d2 tS ah (.dD 1))):=by unfold ke;rw[if_neg a,if_pos h]
def OQ{ak:List (Int×hG)}{ah s:Int}(h:yx ah s)(a:fq ak ah=I):ke ak ah s=if s=0 then(i2,U,I)else(i2,U,E (.d2 tS ah (.dD 12))):=by unfold ke yx at*;rw[if_neg A,if_neg A,a]
def GM{ak:List (Int×hG)}{ah s:Int}{x:hG}(h:yx ah s)(a:fq ak ah=E x):ke ak ah s=if s=x.L then(x,G,I)else if s=H.wrap (x.L+1)then(i2,U,I)else(i2,U,E (.d2 tS ah (.dD 12))):=by unfold ke yx at*;rw[if_neg A,if_neg A,a]
end
end Go.X
namespace Go.Proofs.YtepeilglbedgdaaGreatDoor.gO
open Go.X
attribute[local irreducible]Go.X.W
variable{bU:List Nat}{a w:aN}{ab ag b:Nat}{ac:S -> aN -> Prop}
section
open Go.RowKit
def GN{x:hG}(h:aC w b 426 (oH x)):
  (∀ac,aZ C (a4 3 (aE (E ⟨b,0,I⟩))) w ac↔ac (F H x.L))/\(∀ac,aZ C (a4 426 (aE (E ⟨b,0,I⟩))) w ac↔ac (nX x)):=
 ⟨λ_=>bl bZ (h.bh (af:=0)),λ_=>gC (l:=oH x) WE h.cy⟩
def OR{x:hG}(k:∀a,aC a w.heap.size 426 (oH x)->Q [] w a->ac (aE (E ⟨w.heap.size,0,I⟩)) a):
  W C (hV 426) w λaa aA=>W C (dC 426 aa (nX x)) aA λ_ ax=>ac aa ax:=by
 exact gI F7 λaA b c f=>f0 (cv:=[]) (c5:=oH i2) (da:=[]) CW b rfl rfl rfl (Do x) λax d e g=>k ax (by simpa[nX,bF]using d) (c.dP e B B)
structure pj(w:aN)(ag ab:Nat)(ak:List (Int×hG)):Prop where
 bg:aC w ag 460 [eB (E ab)]
 gk:kb w ab nX ak
 g1:ag≠ab
def pj.J{ak:List (Int×hG)}(h:pj w ag ab ak)(b:Q bU w a)(c:ag∉bU)(d:ab∉bU):pj a ag ab ak:=⟨h.bg.J b c,h.gk.J b d,h.g1⟩
def pj.V{ak:List (Int×hG)}(h:pj w ag ab ak)(b:Q [] w a):pj a ag ab ak:=h.J b B B
def abg:a0 C 261 #[] w λae a=>∃ag ab,ae=aE (E ⟨ag,0,I⟩)/\pj a ag ab []/\w.heap.size<=ag/\w.heap.size<=ab/\Q [] w a:=by refine a9 .D 0 Tryz.func261 K rfl λa1 c=>?_;simp+decide only[↓a8,ba,Tryz.f261];subst c;refine Aa (bI:=nX) Gf (Y rfl) λaA d e g=>?_;refine(bY (gT:=#[eB (E w.heap.size)]) K).2 ?_;refine eA λax f b h=>?_;exact⟨_,_,rfl,⟨f,d.J b B,A⟩,A,fF _,e.R b B⟩
def abh{ak:List (Int×hG)}{ah:Int}{s:hG}(h:pj w ag ab ak):a0 C 267 #[aE (E ⟨ag,0,I⟩),F H ah,nX s] w λae a=>pj a ag ab (sK ak ah s)/\Q [ab] w a:=by
 refine a9 N8 3 Tryz.func267 K rfl λa1 f=>?_;simp+decide only[↓a8,ba,N8,Tryz.f267];subst f;refine eA λaA g b m=>?_;have i:aC aA w.heap.size 426 (oH s):=g;have d:=h.V b;have n:=h.gk.aL;simp only[M,bi];unfold sK;refine⟨λj=>?_,λo=>?_⟩
 ·rw[if_neg j];have k:Q [] aA aA.drew:=(Q.b0 _ _).h6;have c:=d.V k;exact(bl FZ (c.bg.bh (af:=0))).2 (((GN (bD i)).2 _).2 (Ab Gf c.gk rfl λp l e q=>⟨⟨c.bg.J e (by simp;exact h.g1),l,h.g1⟩,(b.h6.bw B).R e B⟩))
 ·rw[if_pos A];exact⟨d,b.bw B⟩
def OS{ak:List (Int×hG)}{ah s:Int}(h:pj w ag ab ak):a0 C 265 #[aE (E ⟨ag,0,I⟩),F H ah,F H s] w λae a=>
  ae=bQ #[nX (ke ak ah s).1,aK (ke ak ah s).2.1,ff (ke ak ah s).2.2]/\Q [] w a:=by
 refine a9 N7 3 Tryz.func265 K rfl λa1 z=>?_;simp+decide only[↓a8,ba,N7,Tryz.f265];subst z;refine gI F7 λaA A l ai=>?_;have n:aC aA w.heap.size 426 (oH i2):=A;have r:=h.V l;generalize aj:w.heap.size=an at*;have i:C.built 426 (#[]:Array (Nat×S)).toList=E (oH i2).toArray:=K;have eg:∀(x:hG)(b:Bool)(e:Option ex)(a:aN),Q [] w a->aC a an 426 (oH i2)->ke ak ah s=(x,b,e)->
   W C (dC 426 (aE (E ⟨an,0,I⟩)) (nX x)) a λ_ o=>aZ C (a4 426 (aE (E ⟨an,0,I⟩))) o λD=>
    o5 (λae a=>ae=bQ #[nX (ke ak ah s).1,aK (ke ak ah s).2.1,ff (ke ak ah s).2.2]/\Q [] w a) (gd (bQ #[D,aK b,ff e])) o:=by
  intro x b e a J L R;refine f0 (cv:=[]) (c5:=oH i2) (da:=[]) CW L rfl rfl rfl (Do x) λo V X al=>((GN (x:=x) (by simpa[nX,bF]using V)).2 _).2 ?_;rw[R];exact⟨rfl,J.R X (by simp;omega)⟩
 simp only[M,bi];refine⟨λp=>?_,λp=>?_⟩
 ·apply(bY i).2;subst p;exact eg i2 U I aA l n OP
 ·refine bT (λaF a=>aF=[aK (decide (ah<0\/1048576<ah\/s<0\/1099511627776<s))]/\aA=a) ?_ ?_
  ·simp only[bi];refine⟨λd=>⟨by simp[d],trivial⟩,λd=>⟨λb=>⟨by simp[b],trivial⟩,λb=>⟨λc=>⟨by simp[c],trivial⟩,λc=>⟨by simp[d,b,c],trivial⟩⟩⟩⟩
  rintro _ _ _ ⟨rfl,rfl⟩;simp only[M,bi];refine⟨λac=>?_,λam=>?_⟩
  ·apply(bY i).2;simp only[hk hY];apply aH nz qS;rintro _ _ ⟨rfl,rfl⟩;exact eg i2 U (E (.d2 tS ah (.dD 1))) aA l n (abf p ac)
  ·have t:yx ah s:=by unfold yx;omega
   refine(bl FZ (r.bg.bh (af:=0))).2 ((FJ Gf r.gk (bm:=nX i2) F7).2 ((qO (aa:=((fq ak ah).map nX).getD (nX i2)) rfl).2 ((qO (aa:=aK (fq ak ah).isSome) rfl).2 ?_)));cases u:fq ak ah with
   |none=>
    refine OR (x:=i2) λax v m=>?_;have j:=l.R m B;have k:=n.J m B;simp only[wH];apply l7;simp only[M];intro _;apply l7;simp only[M];intro _;simp only[M,bi];have f:=OQ t u;refine⟨λg=>?_,λg=>?_⟩
    ·apply(bY i).2;rw[if_pos g]at f;exact eg i2 U I ax j k f
    ·apply(bY i).2;simp only[hk hY];apply aH nz qS;rintro _ _ ⟨rfl,rfl⟩;rw[if_neg g]at f;exact eg i2 U (E (.d2 tS ah (.dD 12))) ax j k f
   |some x=>
    refine OR (x:=x) λax v m=>?_;have j:=l.R m B;have k:=n.J m B;obtain⟨y,ad⟩:=GN v;simp only[vu];apply l7;simp only[M,y];intro _;apply l7;simp only[M,y];intro _;simp only[M,bi];have f:=GM t u;refine⟨λg=>?_,λg=>⟨λq=>?_,λq=>?_⟩⟩
    ·simp only[ad];rw[if_pos g]at f;exact eg x G I ax j k f
    ·apply(bY i).2;rw[if_neg g,if_pos q]at f;exact eg i2 U I ax j k f
    ·apply(bY i).2;simp only[hk hY];apply aH nz qS;rintro _ _ ⟨rfl,rfl⟩;rw[if_neg g,if_neg q]at f;exact eg i2 U (E (.d2 tS ah (.dD 12))) ax j k f
end
end Go.Proofs.YtepeilglbedgdaaGreatDoor.gO
namespace Go.X
variable{aD aO am az bJ bU cM ez:List Nat}{a ax w:aN}{a2:List ca}{a6 ab b dj gt j k n:Nat}{aF:List e3}{aS:List S}{aU cU jA:Type}{aa ae bc bm:S}{ac:S -> aN -> Prop}{ad:ft}{aj:ca}{ar av:co}{bx:Array MapEntry}{ct:Prop}{dr l:List UInt8}{hT:List (Nat × Bool)}
section
open Go.RowKit
def OT(n:Int)(k:Nat):eU n (k+1)=ed (n%256).toNat::eU (n/256) k:=by
 unfold eU;rw[List.range_succ_eq_map,ge,ts];congr 1
 ·simp
 ·apply amO;intro i _;simp only[Function.comp];congr 2;rw[Int.ediv_ediv_of_nonneg A];congr 2;rw[show 8*(i+1)=8+8*i by omega,Int.pow_add];rfl
def OU:∀(l:List UInt8),eU (fe l:Nat) l.length=l
 |[]=>rfl
 |b::l=>by
  have d:=b.toNat_lt;rw[gF,OT];have a:(((fe (b::l):Nat):Int)%256).toNat=b.toNat:=by simp only[fe];omega
  have c:((fe (b::l):Nat):Int)/256=(fe l:Nat):=by simp only[fe];omega
  rw[a,c,OU l];simp
def uP:∀(k:Nat)(n:Nat),n<256^k->fe (eU n k)=n
 |0,n,h=>by simp at h;subst h;rfl
 |k+1,n,h=>by rw[OT];have a:(((n:Nat):Int)%256).toNat=n%256:=A;have b:((n:Nat):Int)/256=((n/256:Nat):Int):=A;rw[a,b];simp only[fe];rw[uP k (n/256) (by rw[Nat.pow_succ]at h;omega)];rw[mx];omega
def abi(l:List UInt8):eO ⟨l.toArray⟩=l:=rfl
def abj(s:ByteArray):(⟨(eO s).toArray⟩:ByteArray)=s:=by unfold eO;simp
def GO(l:List UInt8):(eS l.toArray).size=l.length:=by show l.toArray.size=_;simp
def GP{ay al n:Int}{ab:List UInt8}(a:0<=n)(e:n<256^dj)(f:ay<=n)(g:n<=al):kO dj ay al (eU n dj++ab)=bA (n,ab):=by
 obtain⟨ak,rfl⟩:=nL a;have b:ak<256^dj:=by have:((256^dj:Nat):Int)=256^dj:=B;omega
 unfold kO;rw[if_neg (by rw[di,jp];omega)];have c:(eU (ak:Int) dj++ab).take dj=eU ak dj:=by have:=tk (l₁:=eU (ak:Int) dj) (l₂:=ab);rwa[jp]at this
 have d:(eU (ak:Int) dj++ab).drop dj=ab:=by have:=List.drop_left (l₁:=eU (ak:Int) dj) (l₂:=ab);rwa[jp]at this
 rw[c,d,uP dj ak b,if_neg A]
def OV{ay al:Int}{s:ByteArray}{ab:List UInt8}(e:s.size<=65535)(a:ay<=s.size)(b:s.size<=al):o9 ay al (iR s++ab)=bA (s,ab):=by
 unfold o9 iR;rw[gq,GP A (by simp;omega) a b];simp only;rw[if_neg (by rw[di,oy];omega),hf];have c:(eO s++ab).take s.size=eO s:=by have:=tk (l₁:=eO s) (l₂:=ab);rwa[oy]at this
 have d:(eO s++ab).drop s.size=ab:=by have:=List.drop_left (l₁:=eO s) (l₂:=ab);rwa[oy]at this
 rw[c,d,abj]
def OW{gG:Int}{ab:List UInt8}:∀{l:List ByteArray},(∀s∈l,s.size<=65535/\(s.size:Int)<=gG)->nT gG l.length (l.flatMap iR++ab)=bA (l,ab)
 |[],_=>rfl
 |s::l,h=>by obtain⟨a,b⟩:=h s fE;rw[iA,gq];simp only[gF,nT];rw[OV a A b];simp only;rw[OW (λx c=>h x (ev _ c))]
def ca.OX(h:aj.bt=G)(a:aj.a5=1):(aj.aI=1\/aj.aI=2\/aj.aI=4\/aj.aI=8)/\0<=aj.iQ/\aj.iQ<=aj.gw/\aj.gK=0/\(aj.aI≠8->aj.gw/2^(8*aj.aI).toNat=0):=by unfold ca.bt at h;rw[if_pos a]at h;simp at h;omega
def ca.OY(h:aj.bt=G)(a:aj.a5=2):0<=aj.iQ/\aj.iQ<=aj.gw/\aj.gw<=65535:=by unfold ca.bt at h;simp[a]at h;omega
def ca.abk(h:aj.bt=G)(a:aj.a5=3):0<=aj.iQ/\aj.iQ<=aj.gw/\aj.gw<=255/\0<=aj.gK/\aj.gK<=65535:=by unfold ca.bt at h;simp[a]at h;omega
def ca.GQ(h:aj.bt=G):aj.a5=1\/aj.a5=2\/aj.a5=3:=by
 unfold ca.bt at h;by_cases a:aj.a5=1
 ·exact Y a
 ·by_cases b:aj.a5=3
  ·exact Z (Z b)
  ·by_cases c:aj.a5=2
   ·exact Z (Y c)
   ·simp[a,c,b]at h
def ca.abl(h:aj.bt=G)(b:aj.a5=1)(g:aj.gw<=9223372036854775807){n:Int}(i:0<=n)(j:n<=aj.gw):n<256^aj.aI.toNat:=by
 obtain⟨ao,l,m,_,c⟩:=ca.OX h b;have bz:∀k:Nat,aj.aI=k->(k=1\/k=2\/k=4)->n<256^k:=by
  intro k d f;have:=c A;rw[d]at this;rcases f with rfl|rfl|rfl
  ·have e:(2:Int)^((8:Int)*(1:Nat)).toNat=256:=by decide
   rw[e]at this;have a:(256:Int)^1=256:=by decide
   rw[a];omega
  ·have e:(2:Int)^((8:Int)*(2:Nat)).toNat=65536:=by decide
   rw[e]at this;have a:(256:Int)^2=65536:=by decide
   rw[a];omega
  ·have e:(2:Int)^((8:Int)*(4:Nat)).toNat=4294967296:=by decide
   rw[e]at this;have a:(256:Int)^4=4294967296:=by decide
   rw[a];omega
 rcases ao with ao|ao|ao|ao
 ·rw[ao];exact bz 1 A A
 ·rw[ao];exact bz 2 A A
 ·rw[ao];exact bz 4 A A
 ·rw[ao];have a:(256:Int)^(8:Int).toNat=18446744073709551616:=by decide
  rw[a];omega
def ca.p5{aa:e3}(a:aj.a5=1):aj.e0 aa=G↔aj.iQ<=aa.aR/\aa.aR<=aj.gw/\aa.cP=cg/\aa.df=[]:=by unfold ca.e0 ca.p2;simp[a,and_assoc]
def ca.vS{aa:e3}(a:aj.a5=2):aj.e0 aa=G↔aj.iQ<=aa.cP.size/\(aa.cP.size:Int)<=aj.gw/\aa.aR=0/\aa.df=[]:=by unfold ca.e0 ca.p2;simp[a,and_assoc]
def ca.uQ{aa:e3}(a:aj.a5=3):aj.e0 aa=G↔aj.iQ<=aa.df.length/\(aa.df.length:Int)<=aj.gw/\(∀s∈aa.df,(s.size:Int)<=aj.gK)/\aa.aR=0/\aa.cP=cg:=by unfold ca.e0 ca.p2;simp[a,and_assoc]
def abm{aa:e3}{ab:List UInt8}(h:aj.bt=G)(j:aj.gw<=9223372036854775807)(f:aj.e0 aa=G):aj.jT (aj.jS aa++ab)=bA (aa,ab):=by
 obtain⟨n,s,l⟩:=aa;unfold ca.jT ca.jS;rcases ca.GQ h with a|a|a
 ·obtain⟨c,b,d,e⟩:=(ca.p5 a).1 f;obtain⟨ao,i,_,_,_⟩:=ca.OX h a;rw[if_pos a,if_pos a];simp only at c b d e⊢;rw[GP A (ca.abl h a j A b) c b,d,e]
 ·obtain⟨c,b,d,e⟩:=(ca.vS a).1 f;obtain⟨i,_,g⟩:=ca.OY h a;rw[if_neg A,if_pos a,if_neg A,if_pos a];simp only at c b d e⊢;rw[OV A c b,d,e]
 ·obtain⟨c,b,d,e,g⟩:=(ca.uQ a).1 f;obtain⟨i,_,k,m,o⟩:=ca.abk h a;rw[if_neg A,if_neg A,if_neg A,if_neg A];simp only at c b d e g⊢;rw[gq,GP A (by simp;omega) c b];simp only[hf];rw[OW (λs ao=>by have:=d s ao;omega),e,g]
def GR{e:Except (Int×Int) aU}{g:aU->jA}{ap:jA}(h:e.map g=bA ap):∃x,e=bA x/\ap=g x:=by
 cases e with
 |error _=>cases h
 |ok x=>cases h;exact⟨x,rfl,rfl⟩
def OZ:∀{i:Nat}{aF:List e3}{b:List UInt8},aF.length=a2.length->lI i a2 aF=bA b->∀(j:Nat)(aj:ca)(aa:e3),a2[j]?=E aj->aF[j]?=E aa->aj.e0 aa=G:=by
 induction a2 with
 |nil=>intro i aF b _ _ j aj aa a;simp at a
 |cons aj a2 f=>
  intro i aF b e h j g dd a c;cases aF with
  |nil=>simp at e
  |cons aa aF=>
   simp only[lI]at h;by_cases d:aj.e0 aa=G
   ·rw[if_pos d]at h;obtain⟨x,k,rfl⟩:=GR h;cases j with
    |zero=>simp at a c;subst a;subst c;exact d
    |succ j=>exact f (by simpa using e) k j g dd (by simpa using a) (by simpa using c)
   ·rw[if_neg d]at h;cases h
def O0{n:Nat}:∀{a2:List ca}{i:Nat}{aF:List e3}{b ab:List UInt8},(∀aj∈a2,aj.bt=G/\aj.gw<=9223372036854775807)->aF.length=a2.length->lI i a2 aF=bA b->ir n a2 (b++ab)=(ir n [] ab).map (aF++·)
 |[],i,aF,b,ab,_,a,h=>by have:aF=[]:=rc (by simpa using a);subst this;cases h;rw[m2];cases ir n [] ab<;>rfl
 |aj::a2,i,[],b,ab,_,a,h=>by simp at a
 |aj::a2,i,aa::aF,b,ab,d,a,h=>by
  simp only[lI]at h;by_cases c:aj.e0 aa=G
  ·rw[if_pos c]at h;obtain⟨x,f,rfl⟩:=GR h;obtain⟨j,k⟩:=d aj fE;rw[gq];have e:ir n (aj::a2) (aj.jS aa++(x++ab))=(ir n a2 (x++ab)).map (aa::·):=by
    conv=>lhs;unfold ir
    rw[abm j k c]
   rw[e,O0 (λg l=>d g (ev _ l)) (by simpa using a) f];cases ir n [] ab<;>rfl
  ·rw[if_neg c]at h;cases h
def GS{ay al n:Int}{ab:List UInt8}(h:kO dj ay al ab=bA (n,dr)):ab=eU n dj++dr/\ay<=n/\n<=al/\0<=n/\n<256^dj:=by
 unfold kO at h;split at h
 ·cases h
 ·rename_i c;split at h
  ·cases h
  ·cases h;have e:(ab.take dj).length=dj:=by rw[ea];omega
   have a:=OU (ab.take dj);have b:=tL (ab.take dj);rw[e]at a b;rw[a,l3];refine⟨rfl,A,A,A,?_⟩;have:((256^dj:Nat):Int)=256^dj:=B;omega
def O1{ay al:Int}{s:ByteArray}{ab:List UInt8}(h:o9 ay al ab=bA (s,dr)):ab=iR s++dr/\ay<=s.size/\(s.size:Int)<=al:=by
 unfold o9 at h;split at h
 ·cases h
 ·rename_i n aow a;obtain⟨b,c,d,e,f⟩:=GS a;obtain⟨ak,rfl⟩:=nL e;split at h
  ·cases h
  ·cases h;rw[hf]at*;have ao:(eS (aow.take ak).toArray).size=ak:=by rw[GO,ea];omega
   unfold iR;rw[ao,abi,gq,l3];exact⟨b,c,d⟩
def O2{gG:Int}:∀{k:Nat}{ab dr:List UInt8}{l:List ByteArray},nT gG k ab=bA (l,dr)->ab=l.flatMap iR++dr/\l.length=k/\∀s∈l,(s.size:Int)<=gG
 |0,_,_,_,h=>by cases h;simp
 |k+1,ab,dr,l,h=>by
  unfold nT at h;split at h
  ·cases h
  ·rename_i s aow ao;split at h
   ·cases h
   ·rename_i b;cases h;obtain⟨c,i,d⟩:=O1 ao;obtain⟨e,f,g⟩:=O2 b;refine⟨by rw[c,e,iA,gq],by simp[f],λx a=>?_⟩;rcases ce.1 a with rfl|a
    ·exact d
    ·exact g x a
def abn{aa:e3}{ab:List UInt8}(i:aj.bt=G)(h:aj.jT ab=bA (aa,dr)):ab=aj.jS aa++dr/\aj.e0 aa=G:=by
 unfold ca.jT at h;unfold ca.jS;rcases ca.GQ i with a|a|a
 ·rw[if_pos a]at h;rw[if_pos a,ca.p5 a];split at h
  ·cases h
  ·rename_i b;cases h;obtain⟨c,d,f,g,j⟩:=GS b;exact⟨c,d,f,rfl,rfl⟩
 ·rw[if_neg A,if_pos a]at h;rw[if_neg A,if_pos a,ca.vS a];split at h
  ·cases h
  ·rename_i b;cases h;obtain⟨c,d,f⟩:=O1 b;exact⟨c,d,f,rfl,rfl⟩
 ·rw[if_neg A,if_neg A]at h;rw[if_neg A,if_neg A,ca.uQ a];split at h
  ·cases h
  ·rename_i k aow b;split at h
   ·cases h
   ·rename_i d;cases h;obtain⟨c,f,g,j,o⟩:=GS b;obtain⟨l,m,n⟩:=O2 d;have e:((k.toNat:Nat):Int)=k:=A;simp only;rw[m,e];refine⟨by rw[c,l,gq],f,g,n,?_⟩;simp
def O3{n:Nat}:∀{a2:List ca}{i:Nat}{aF:List e3}{b:List UInt8},(∀aj∈a2,aj.bt=G)->ir n a2 b=bA aF->lI i a2 aF=bA b
 |[],i,aF,b,_,h=>by
  unfold ir at h;split at h
  ·rename_i a;cases h;rw[List.isEmpty_iff]at a;subst a;rfl
  ·cases h
 |aj::a2,i,aF,b,c,h=>by
  unfold ir at h;split at h
  ·cases h
  ·rename_i aa dr d;obtain⟨x,e,rfl⟩:=GR h;obtain⟨f,j⟩:=abn (c aj fE) d;simp only[lI];rw[if_pos j,O3 (λg k=>c g (ev _ k)) e,f];rfl
def abo{b:List UInt8}(h:mG a2 b=bA aF):g9 a2 aF=bA b:=by obtain⟨a,c⟩:=Ah h;unfold g9;rw[if_neg,if_pos (FK a),O3 c a];intro d;have:=List.findIdx_getElem (w:=d);simp[c _ (dX d)]at this
def Dp{b:List UInt8}(h:g9 a2 aF=bA b):(∀aj∈a2,aj.bt=G)/\aF.length=a2.length/\lI 0 a2 aF=bA b:=by
 unfold g9 at h;split at h
 ·cases h
 ·rename_i a;split at h
  ·rename_i c;refine⟨λaj d=>?_,c,h⟩;cases e:aj.bt with
   |true=>rfl
   |false=>exact absurd (List.findIdx_lt_length_of_exists ⟨aj,d,by simp[e]⟩) a
  ·cases h
def Dq{b:List UInt8}(e:∀aj∈a2,aj.gw<=9223372036854775807)(h:g9 a2 aF=bA b):mG a2 b=bA aF:=by
 obtain⟨a,f,g⟩:=Dp h;unfold mG;rw[if_neg]
 ·have:=O0 (n:=b.length) (ab:=[]) (λaj c=>⟨a aj c,e aj c⟩) f g;rw[kJ]at this;rw[this];simp[ir,nM]
 intro d;have:=List.findIdx_getElem (w:=d);simp[a _ (dX d)]at this
structure dn.lv(ab:dn):Prop where
 dF:0<=ab.dF/\ab.dF<=4294967295
 iE:0<=ab.iE/\ab.iE<=255
 cu:0<=ab.cu/\ab.cu<=9223372036854775807
 cS:0<=ab.cS/\ab.cS<=9223372036854775807
 gj:ab.gj.length<=8/\∀s∈ab.gj,s.size<=24
 dY:ab.dY.length<=4/\∀ah∈ab.dY,ah.2.size<=600
def Dr(ab:dn):List UInt8:=eU ab.dF 4++(eU ab.iE 1++(eU ab.cu 8++(eU ab.cS 8++((eU ab.gj.length 1++ab.gj.flatMap iR)++((eU ab.dY.length 1++(ab.dY.map lL).flatMap iR)++[])))))
def abp:lc.findIdx (λaj=>!aj.bt)=6:=by decide+kernel
def AF(ah:Int×ByteArray):(lL ah).size=8+ah.2.size:=by unfold lL h7;rw[ByteArray.size_append,GO,jp]
def O4(dj al n:Int):ca.jS ⟨1,dj,0,al,0⟩ ⟨n,cg,[]⟩=eU n dj.toNat:=by unfold ca.jS;exact if_pos rfl
def abq(al gG:Int)(l:List ByteArray):ca.jS ⟨3,0,0,al,gG⟩ ⟨0,cg,l⟩=eU l.length 1++l.flatMap iR:=by unfold ca.jS;rw[if_neg (show¬(3:Int)=1 by decide),if_neg (show¬(3:Int)=2 by decide)]
def abr{ab:dn}:ab.lv↔(ca.e0 ⟨1,4,0,4294967295,0⟩ ⟨ab.dF,cg,[]⟩=G/\ca.e0 ⟨1,1,0,255,0⟩ ⟨ab.iE,cg,[]⟩=G/\ca.e0 ⟨1,8,0,9223372036854775807,0⟩ ⟨ab.cu,cg,[]⟩=G/\ca.e0 ⟨1,8,0,9223372036854775807,0⟩ ⟨ab.cS,cg,[]⟩=G/\
  ca.e0 ⟨3,0,0,8,24⟩ ⟨0,cg,ab.gj⟩=G/\ca.e0 ⟨3,0,0,4,608⟩ ⟨0,cg,ab.dY.map lL⟩=G):=by
 rw[ca.p5 rfl,ca.p5 rfl,ca.p5 rfl,ca.p5 rfl,ca.uQ rfl,ca.uQ rfl];constructor
 ·rintro⟨b,c,d,e,f,g⟩;refine⟨⟨b.1,b.2,rfl,rfl⟩,⟨c.1,c.2,rfl,rfl⟩,⟨d.1,d.2,rfl,rfl⟩,⟨e.1,e.2,rfl,rfl⟩,⟨B,by simp;omega,λs ao=>by have:=f.2 s ao;simp;omega,rfl,rfl⟩,⟨B,by simp;omega,λs ao=>?_,rfl,rfl⟩⟩;obtain⟨ah,a,rfl⟩:=fS.1 ao;have:=g.2 ah a;rw[AF];simp;omega
 ·rintro⟨⟨h,i,-,-⟩,⟨j,k,-,-⟩,⟨l,m,-,-⟩,⟨n,o,-,-⟩,⟨-,p,q,-,-⟩,⟨-,r,t,-,-⟩⟩;refine⟨⟨h,i⟩,⟨j,k⟩,⟨l,m⟩,⟨n,o⟩,⟨by simp at p;omega,λs ao=>by have:=q s ao;simp at this;omega⟩,⟨by simp at r;omega,λah a=>?_⟩⟩;have:=t _ (mz a);rw[AF]at this;simp at this;omega
def GT(ab:dn):(ab.lv->ab.dt=bA (Dr ab))/\(¬ab.lv->oA ab.dt=U):=by
 rw[abr];have e:ab.dt=lI 0 lc ab.h8:=by unfold dn.dt g9;rw[abp,if_neg (by simp[lc]),if_pos (by simp[dn.h8,lc])]
 rw[e];unfold lc dn.h8;constructor
 ·rintro⟨a,b,c,d,f,g⟩;simp only[lI,a,b,c,d,f,g,if_true,nM,O4,abq,dU,Int.reduceToNat];rfl
 ·intro h;simp only[lI];by_cases a:ca.e0 ⟨1,4,0,4294967295,0⟩ ⟨ab.dF,cg,[]⟩=G
  ·by_cases b:ca.e0 ⟨1,1,0,255,0⟩ ⟨ab.iE,cg,[]⟩=G
   ·by_cases c:ca.e0 ⟨1,8,0,9223372036854775807,0⟩ ⟨ab.cu,cg,[]⟩=G
    ·by_cases d:ca.e0 ⟨1,8,0,9223372036854775807,0⟩ ⟨ab.cS,cg,[]⟩=G
     ·by_cases f:ca.e0 ⟨3,0,0,8,24⟩ ⟨0,cg,ab.gj⟩=G
      ·by_cases g:ca.e0 ⟨3,0,0,4,608⟩ ⟨0,cg,ab.dY.map lL⟩=G
       ·exact absurd ⟨a,b,c,d,f,g⟩ h
       ·simp only[a,b,c,d,f,g,if_true,nM,fc,if_false];rfl
      ·simp only[a,b,c,d,f,if_true,nM,fc,if_false];rfl
     ·simp only[a,b,c,d,if_true,nM,fc,if_false];rfl
    ·simp only[a,b,c,if_true,nM,fc,if_false];rfl
   ·simp only[a,b,if_true,nM,fc,if_false];rfl
  ·simp only[a,fc,if_false];rfl
def Ds(ab:dn):ab.bt=G↔ab.lv/\∀ah∈ab.dY,0<=ah.1:=by
 unfold dn.bt;by_cases h:ab.lv
 ·rw[(GT ab).1 h];simp[oA,h]
 ·rw[(GT ab).2 h];simp[h]
def GU(ab:dn)(h:ab.bt=G):ab.ch=Dr ab:=by unfold dn.ch;rw[if_pos h,(GT ab).1 ((Ds ab).1 h).1];rfl
def GV(ab:dn)(h:ab.bt=U):ab.ch=[]:=by unfold dn.ch;rw[if_neg (by simp[h])]
def GW(ab:dn):(Dr ab).length=23+(ab.gj.flatMap iR).length+((ab.dY.map lL).flatMap iR).length:=by unfold Dr;simp only[di,jp,tl];omega
end
def abs(h:∀aj∈a2,aj.bt=G):¬a2.findIdx (λaj=>!aj.bt)<a2.length:=λa=>by have:=List.findIdx_getElem (w:=a);rw[h _ (dX a)]at this;cases this
section
open Go.RowKit
instance:DecidableEq e3:=λd b=>
 if a:d.aR=b.aR then
  if c:d.cP=b.cP then
   if e:d.df=b.df then .isTrue (by cases d;cases b;simp_all)
   else .isFalse (λh=>e (by rw[h]))
  else .isFalse (λh=>c (by rw[h]))
 else .isFalse (λh=>a (by rw[h]))
def O5(k:Nat)(s:ByteArray):ByteArray:=s.extract 0 k
def amh(aa:e3):e3:=⟨aa.aR,O5 40 aa.cP,(aa.df.take 4).map (O5 20)⟩
structure cw where
 g2:Int
 hH:Int
 cP:Int
 a7:List ByteArray
 deriving DecidableEq
def iS(b:cw)(bc:S):List S:=[F H b.g2,F H b.hH,F H b.cP,bc]
def jr(b:cw)(bc:S):S:=b6 (iS b bc).toArray
def yy{b:cw}(h:bc.oneCell'=G):∀ae∈iS b bc,ae.oneCell'=G:=by intro ae a;simp[iS]at a;rcases a with rfl|rfl|rfl|rfl<;>first|rfl|exact h
def kR:List ca:=[⟨1,8,0,1125899906842624,0⟩,⟨1,4,0,1048576,0⟩,⟨1,8,0,1099511627776,0⟩,⟨3,0,1,8,60⟩]
def cw.h8(b:cw):List e3:=[⟨b.g2,cg,[]⟩,⟨b.hH,cg,[]⟩,⟨b.cP,cg,[]⟩,⟨0,cg,b.a7⟩]
def cw.ei(b:cw):Bool:=decide ((0<=b.g2/\b.g2<=1125899906842624)/\(0<=b.hH/\b.hH<=1048576)/\(0<=b.cP/\b.cP<=1099511627776)/\(1<=b.a7.length/\b.a7.length<=8/\∀x∈b.a7,x.size<=60))
def cw.uR{b:cw}:b.ei=G↔((0<=b.g2/\b.g2<=1125899906842624)/\(0<=b.hH/\b.hH<=1048576)/\(0<=b.cP/\b.cP<=1099511627776)/\(1<=b.a7.length/\b.a7.length<=8/\∀x∈b.a7,x.size<=60)):=decide_eq_true_iff
def cw.bt(b:cw):Bool:=b.ei&&(decide (0<b.hH)||decide (b.cP=0))
def xa(b:cw):List UInt8:=eU b.g2 8++(eU b.hH 4++(eU b.cP 8++((eU b.a7.length 1++b.a7.flatMap iR)++[])))
def cw.ch(b:cw):List UInt8:=if b.bt then xa b else[]
def Dt:ByteArray:=⟨#[98,97,116,99,104,46,71,101,116]⟩
def oI(l:List UInt8):Except ex cw:=
 match mG kR l with
 |b5 (i,k)=>b5 (.d2 Dt 0 (.d2 vG i (.dD k)))
 |bA aF=>match aF with
  |[d,b,c,ag]=>if(⟨d.aR,b.aR,c.aR,ag.df⟩:cw).bt then bA ⟨d.aR,b.aR,c.aR,ag.df⟩else b5 (.d2 Dt 0 (.dD 2))
  |_=>b5 (.dD 0)
def abt:kR.findIdx (λaj=>!aj.bt)=4:=by decide+kernel
def O6:∀aj∈kR,aj.gw<=9223372036854775807:=by intro aj a;simp[kR]at a;rcases a with rfl|rfl|rfl|rfl<;>simp
def O7{b:cw}:b.ei=G↔(ca.e0 ⟨1,8,0,1125899906842624,0⟩ ⟨b.g2,cg,[]⟩=G/\ca.e0 ⟨1,4,0,1048576,0⟩ ⟨b.hH,cg,[]⟩=G/\ca.e0 ⟨1,8,0,1099511627776,0⟩ ⟨b.cP,cg,[]⟩=G/\ca.e0 ⟨3,0,1,8,60⟩ ⟨0,cg,b.a7⟩=G):=by
 rw[cw.uR,ca.p5 rfl,ca.p5 rfl,ca.p5 rfl,ca.uQ rfl];constructor
 ·rintro⟨a,c,d,o,p,e⟩;exact⟨⟨a.1,a.2,rfl,rfl⟩,⟨c.1,c.2,rfl,rfl⟩,⟨d.1,d.2,rfl,rfl⟩,⟨by simp;omega,by simp;omega,λs ao=>by have:=e s ao;simp;omega,rfl,rfl⟩⟩
 ·rintro⟨⟨f,g,-,-⟩,⟨h,i,-,-⟩,⟨j,k,-,-⟩,⟨l,m,n,-,-⟩⟩;exact⟨⟨f,g⟩,⟨h,i⟩,⟨j,k⟩,⟨by simp at l;omega,by simp at m;omega,λs ao=>by have:=n s ao;simp at this;omega⟩⟩
def abu(ay al gG:Int)(l:List ByteArray):ca.jS ⟨3,0,ay,al,gG⟩ ⟨0,cg,l⟩=eU l.length 1++l.flatMap iR:=by unfold ca.jS;rw[if_neg (show¬(3:Int)=1 by decide),if_neg (show¬(3:Int)=2 by decide)]
def GX{b:cw}(h:b.ei=G):g9 kR b.h8=bA (xa b):=by obtain⟨a,c,d,e⟩:=O7.1 h;unfold g9;rw[abt,if_neg (by simp[kR]),if_pos (by simp[cw.h8,kR])];unfold kR cw.h8;simp only[lI,a,c,d,e,if_true,nM,O4,abu,Int.reduceToNat];rfl
def abv{b:cw}(h:g9 kR b.h8=bA l):b.ei=G/\l=xa b:=by obtain⟨_,c,d⟩:=Dp h;have:=OZ c d;have a:b.ei=G:=O7.2 ⟨this 0 _ _ rfl rfl,this 1 _ _ rfl rfl,this 2 _ _ rfl rfl,this 3 _ _ rfl rfl⟩;rw[GX a]at h;cases h;exact⟨a,rfl⟩
def cw.vT{b:cw}(h:b.bt=G):b.ei=G:=by unfold cw.bt at h;rw[dA]at h;exact h.1
def cw.qT{b:cw}(h:b.bt=G):b.ch=xa b:=if_pos h
def cw.AG{b:cw}(h:b.bt=U):b.ch=[]:=by unfold cw.ch;rw[h];rfl
def O8{b:cw}(h:b.bt=G):g9 kR b.h8=bA b.ch:=by rw[cw.qT h];exact GX (cw.vT h)
def Du(b:cw):(xa b).length=21+(b.a7.flatMap iR).length:=by unfold xa;simp only[di,jp,tl];omega
def Dv{ak:Nat}:∀{l:List ByteArray},(∀s∈l,s.size<=ak)->(l.flatMap iR).length<=l.length*(2+ak)
 |[],_=>B
 |s::l,h=>by
  rw[iA,di,gF,Nat.succ_mul];have b:=Dv (λx a=>h x (ev _ a));have c:=h s fE;have:(iR s).length=2+s.size:=by unfold iR;rw[di,jp,oy]
  omega
def cw.O9(b:cw):b.ch.length<=1000:=by
 cases h:b.bt with
 |false=>rw[cw.AG h];simp
 |true=>
  rw[cw.qT h,Du];obtain⟨_,_,_,_,a,c⟩:=cw.uR.1 (cw.vT h);have:=Dv c;have:b.a7.length*(2+60)<=8*62:=mw _ a;omega
def cw.abw(b:cw):decide ((0:Int)<b.ch.length)=b.bt:=by
 cases h:b.bt with
 |false=>rw[cw.AG h];rfl
 |true=>rw[cw.qT h,Du];exact decide_eq_true A
def xb{b:cw}(h:b.bt=G):oI b.ch=bA b:=by have:=Dq O6 (O8 h);unfold oI;rw[this];simp only[cw.h8];exact if_pos h
def abx(h:mG kR l=bA aF):∃d b c ag,aF=[d,b,c,ag]:=by have a:=KM h;rcases aF with _|⟨d,_|⟨b,_|⟨c,_|⟨ag,_|⟨e,aF⟩⟩⟩⟩⟩<;>simp[kR]at a;exact⟨d,b,c,ag,rfl⟩
def jU(a2:List ca)(aF:List e3):List UInt8:=(a2.zip aF).flatMap λah=>ah.1.jS ah.2
def Pa:∀{a2:List ca}{i:Nat}{aF:List e3},aF.length=a2.length->(∀ah∈a2.zip aF,ah.1.e0 ah.2=G)->lI i a2 aF=bA (jU a2 aF)
 |[],i,aF,a,_=>by cases aF with
  |nil=>rfl
  |cons aa aF=>simp at a
 |aj::a2,i,[],a,_=>by simp at a
 |aj::a2,i,aa::aF,a,b=>by rw[List.zip_cons_cons]at b;simp only[lI];rw[if_pos (b (aj,aa) fE),Pa (by simpa using a) (λah c=>b ah (ev _ c))];rfl
def yz(b:∀aj∈a2,aj.bt=G)(a:aF.length=a2.length)(c:∀ah∈a2.zip aF,ah.1.e0 ah.2=G):g9 a2 aF=bA (jU a2 aF):=by unfold g9;rw[if_neg (abs b),if_pos a,Pa a c]
def Pb{b:List UInt8}(h:g9 a2 aF=bA b):(∀ah∈a2.zip aF,ah.1.e0 ah.2=G)/\b=jU a2 aF:=by
 obtain⟨e,a,f⟩:=Dp h;have c:∀ah∈a2.zip aF,ah.1.e0 ah.2=G:=λah g=>by obtain⟨i,al,d⟩:=ns g;rw[List.getElem_zip]at d;rw[List.length_zip]at al;rw[<-d];exact OZ a f i _ _ (cr A) (cr A)
 refine⟨c,?_⟩;rw[yz e a c]at h;cases h;rfl
def xc(c:∀aj∈a2,aj.bt=G)(d:aF.length=a2.length):oA (g9 a2 aF)=G↔∀ah∈a2.zip aF,ah.1.e0 ah.2=G:=by
 constructor
 ·intro h;cases a:g9 a2 aF with
  |error e=>rw[a]at h;cases h
  |ok b=>exact(Pb a).1
 ·intro h;rw[yz c d h];rfl
def pk(b:UInt8):Bool:=decide (97<=b.toNat/\b.toNat<=122)||decide (48<=b.toNat/\b.toNat<=57)||decide (b.toNat=45)||decide (b.toNat=46)
def jV(s:ByteArray):Bool:=decide (1<=s.size/\s.size<=24)&&(eO s).all pk
structure eG where
 a5:Int
 cI:ByteArray
 dg:ByteArray
 d9:Int
 ie:Int
 hF:Int
 cW:Int
 bk:cw
 deriving DecidableEq
def fr:cw:=⟨0,0,0,[]⟩
def tT:eG:=⟨0,cg,cg,0,0,0,0,fr⟩
def ha(e:eG)(bc:S):List S:=[F H e.a5,bO e.cI,bO e.dg,F H e.d9,F H e.ie,F H e.hF,F H e.cW,F H e.bk.g2,F H e.bk.hH,F H e.bk.cP,bc]
def jW(e:eG)(bc:S):S:=b6 (ha e bc).toArray
variable{e:eG}
def aby(h:bc.oneCell'=G):∀ae∈ha e bc,ae.oneCell'=G:=by intro ae a;simp[ha]at a;rcases a with rfl|rfl|rfl|rfl|rfl|rfl|rfl|rfl|rfl|rfl|rfl<;>first|rfl|exact h
def kf:ca:=⟨2,0,1,24,0⟩
def iT(s ay al:Int):ca:=⟨1,s,ay,al,0⟩
def hZ(n:Int):e3:=⟨n,cg,[]⟩
def ig(s:ByteArray):e3:=⟨0,s,[]⟩
def uS:Int:=9223372036854775807
def g3(k:Int):List ca:=
 if k=1 then[kf,iT 1 1 4,iT 8 0 uS]else if k=2 then[kf]else if k=3 then[kf,iT 1 0 3,⟨2,0,1,600,0⟩]
 else if k=4 then[kf,kf,iT 1 0 3,iT 8 0 uS]else if k=5 then[kf,iT 1 0 3,iT 8 0 uS]else[]
def fU(e:eG):List e3:=
 if e.a5=1 then[ig e.cI,hZ e.ie,hZ e.hF]else if e.a5=2 then[ig e.cI]else if e.a5=3 then[ig e.cI,hZ e.d9,ig (h7 e.bk.ch)]
 else if e.a5=4 then[ig e.dg,ig e.cI,hZ e.d9,hZ e.cW]else if e.a5=5 then[ig e.cI,hZ e.d9,hZ e.cW]else[]
def Pc:Except ex cw->cw
 |bA b=>b
 |b5 _=>fr
def Pd:Except ex cw->Option ex
 |bA _=>I
 |b5 e=>E e
def gl(aa:List e3)(i:Nat):e3:=aa.getD i (hZ 0)
def js(k:Int)(aa:List e3):eG:=
 if k=1 then⟨1,(gl aa 0).cP,cg,0,(gl aa 1).aR,(gl aa 2).aR,0,fr⟩else if k=2 then⟨2,(gl aa 0).cP,cg,0,0,0,0,fr⟩
 else if k=3 then⟨3,(gl aa 0).cP,cg,(gl aa 1).aR,0,0,0,Pc (oI (eO (gl aa 2).cP))⟩
 else if k=4 then⟨4,(gl aa 1).cP,(gl aa 0).cP,(gl aa 2).aR,0,0,(gl aa 3).aR,fr⟩else if k=5 then⟨5,(gl aa 0).cP,cg,(gl aa 1).aR,0,0,(gl aa 2).aR,fr⟩else⟨k,cg,cg,0,0,0,0,fr⟩
def nA(k:Int)(aa:List e3):Option ex:=if k=3 then Pd (oI (eO (gl aa 2).cP))else I
def eG.gj(e:eG):Bool:=jV e.cI&&(decide (e.a5≠4)||jV e.dg)
def eG.bt(e:eG):Bool:=(oA (g9 (g3 e.a5) (fU e))&&!(fU e).isEmpty)&&((nA e.a5 (fU e)).isNone&&e.gj&&decide (js e.a5 (fU e)=e))
def eG.ch(e:eG):List UInt8:=if e.bt then ed e.a5.toNat::Af (g9 (g3 e.a5) (fU e))else[]
def yA:ByteArray:=⟨#[101,110,116,114,121,46,71,101,116]⟩
def nB:List UInt8->Except ex eG
 |[]=>b5 (.d2 yA 0 (.dD 3))
 |k::ab=>if(g3 k.toNat).isEmpty then b5 (.d2 yA 0 (.dD 2))else match mG (g3 k.toNat) ab with
  |b5 (i,j)=>b5 (.d2 yA 0 (.d2 vG i (.dD j)))
  |bA aa=>if(nA k.toNat aa).isNone&&(js k.toNat aa).bt then bA (js k.toNat aa)else b5 (.d2 yA 0 (.dD 2))
structure eG.Dw(e:eG):Prop where
 cI:jV e.cI=G
 Pe:(e.a5=1/\e.dg=cg/\e.d9=0/\1<=e.ie/\e.ie<=4/\0<=e.hF/\e.hF<=9223372036854775807/\e.cW=0/\e.bk=fr)\/
  (e.a5=2/\e.dg=cg/\e.d9=0/\e.ie=0/\e.hF=0/\e.cW=0/\e.bk=fr)\/
  (e.a5=3/\e.dg=cg/\0<=e.d9/\e.d9<=3/\e.ie=0/\e.hF=0/\e.cW=0/\e.bk.bt=G)\/
  (e.a5=4/\jV e.dg=G/\0<=e.d9/\e.d9<=3/\e.ie=0/\e.hF=0/\0<=e.cW/\e.cW<=9223372036854775807/\e.bk=fr)\/
  (e.a5=5/\e.dg=cg/\0<=e.d9/\e.d9<=3/\e.ie=0/\e.hF=0/\0<=e.cW/\e.cW<=9223372036854775807/\e.bk=fr)
def GY(k:Int):∀aj∈g3 k,aj.bt=G:=by
 intro aj a;unfold g3 at a;repeat' split at a
 all_goals simp only[ce,iZ,or_false]at a
 all_goals first|exact a.elim|skip
 all_goals rcases a with rfl|rfl|rfl|rfl<;>decide+kernel
def Dx(k:Int):∀aj∈g3 k,aj.gw<=9223372036854775807:=by
 intro aj a;unfold g3 at a;repeat' split at a
 all_goals simp only[ce,iZ,or_false]at a
 all_goals first|exact a.elim|skip
 all_goals rcases a with rfl|rfl|rfl|rfl<;>decide+kernel
def yB(e:eG):(fU e).length=(g3 e.a5).length:=by
 unfold g3 fU;repeat' split
 all_goals rfl
def uT{s:ByteArray}:kf.e0 (ig s)=G↔1<=s.size/\s.size<=24:=by rw[ca.vS rfl];simp only[kf,ig,and_true];omega
def AH{s ay al n:Int}:(iT s ay al).e0 (hZ n)=G↔ay<=n/\n<=al:=by rw[ca.p5 rfl];simp[iT,hZ]
def abz{ay al:Int}{s:ByteArray}:ca.e0 ⟨2,0,ay,al,0⟩ (ig s)=G↔ay<=s.size/\(s.size:Int)<=al:=by rw[ca.vS rfl];simp[ig]
def oJ{s:ByteArray}(h:jV s=G):1<=s.size/\s.size<=24:=by unfold jV at h;rw[dA,decide_eq_true_iff]at h;exact h.1
def GZ(l:List UInt8):(h7 l).size=l.length:=GO l
def abA(l:List UInt8):eO (h7 l)=l:=rfl
def cw.Dy(b:cw):b.ch.length<=517:=by
 cases h:b.bt with
 |false=>rw[cw.AG h];simp
 |true=>
  rw[cw.qT h,Du];obtain⟨_,_,_,_,a,c⟩:=cw.uR.1 (cw.vT h);have:=Dv c;have:b.a7.length*(2+60)<=8*62:=mw _ a;omega
def cw.Pf{b:cw}:1<=b.ch.length↔b.bt=G:=by have:=cw.abw b;rw[<-this,decide_eq_true_iff];omega
def eG.rE:e.bt=G↔e.Dw:=by
 obtain⟨kind,u,v,part,i0,first,eM,b⟩:=e;unfold eG.bt eG.gj;rw[dA,dA,xc (GY _) (yB _),dA,dA,dA,decide_eq_true_iff];simp only;by_cases t:kind=1
 ·subst t;simp only[g3,fU,js,nA,if_true,List.zip_cons_cons,List.zip_nil_left,ce,iZ,or_false,forall_eq_or_imp,forall_eq,uT,AH];simp only[eG.mk.injEq,gl,ig,hZ,kt,up,uS];constructor
  ·rintro⟨⟨⟨t,f,j⟩,_⟩,⟨_,k,_⟩,_,_,n,s,_,_,q,l⟩;exact⟨k,Y ⟨rfl,n.symm,s.symm,f.1,f.2,j.1,j.2,q.symm,l.symm⟩⟩
  ·rintro⟨a,h|h|h|h|h⟩
   ·obtain⟨_,d,b,c,ag,e,aj,g,i⟩:=h;simp only at d b c ag e aj g i a;exact⟨⟨⟨oJ a,⟨c,ag⟩,⟨e,aj⟩⟩,rfl⟩,⟨rfl,a,B⟩,B,B,d.symm,b.symm,B,B,g.symm,i.symm⟩
   all_goals exact absurd h.1 B
 by_cases f:kind=2
 ·subst f;simp only[g3,fU,js,nA,if_true,Int.reduceEq,if_false,List.zip_cons_cons,List.zip_nil_left,ce,iZ,or_false,forall_eq_or_imp,forall_eq,uT,AH];simp only[eG.mk.injEq,gl,ig,hZ,kt,up];constructor
  ·rintro⟨_,⟨_,k,_⟩,_,_,n,s,o,p,q,l⟩;exact⟨k,Z (Y ⟨rfl,n.symm,s.symm,o.symm,p.symm,q.symm,l.symm⟩)⟩
  ·rintro⟨a,h|h|h|h|h⟩
   ·exact absurd h.1 B
   ·obtain⟨_,d,b,c,ag,e,aj⟩:=h;simp only at d b c ag e aj a;exact⟨⟨oJ a,rfl⟩,⟨rfl,a,B⟩,B,B,d.symm,b.symm,c.symm,ag.symm,e.symm,aj.symm⟩
   all_goals exact absurd h.1 B
 by_cases j:kind=3
 ·subst j;simp only[g3,fU,js,nA,if_true,Int.reduceEq,if_false,List.zip_cons_cons,List.zip_nil_left,ce,iZ,or_false,forall_eq_or_imp,forall_eq,uT,AH,abz,eG.mk.injEq,gl,kt,up];simp only[ig,hZ,GZ,abA];constructor
  ·rintro⟨⟨⟨_,f,j⟩,_⟩,⟨_,k,_⟩,_,_,n,_,o,p,q,l⟩;exact⟨k,Z (Z (Y ⟨rfl,n.symm,f.1,f.2,o.symm,p.symm,q.symm,(cw.Pf (b:=b)).1 A⟩))⟩
  ·rintro⟨a,h|h|h|h|h⟩
   ·exact absurd h.1 B
   ·exact absurd h.1 B
   ·obtain⟨_,d,m,c,ag,e,aj,g⟩:=h;simp only at d m c ag e aj g a;have s:=cw.Pf.2 g;have w:=b.Dy;refine⟨⟨⟨oJ a,⟨m,c⟩,⟨A,A⟩⟩,rfl⟩,⟨by rw[xb g];rfl,a,B⟩,B,B,d.symm,B,ag.symm,e.symm,aj.symm,by rw[xb g];rfl⟩
   all_goals exact absurd h.1 B
 by_cases k:kind=4
 ·subst k;simp only[g3,fU,js,nA,if_true,Int.reduceEq,if_false,List.zip_cons_cons,List.zip_nil_left,ce,iZ,or_false,forall_eq_or_imp,forall_eq,uT,AH];simp only[eG.mk.injEq,gl,ig,hZ,kt,up,uS];constructor
  ·rintro⟨⟨⟨_,_,f,j⟩,_⟩,⟨_,k,r⟩,_,_,_,_,o,p,_,l⟩;refine⟨k,Z (Z (Z (Y ⟨rfl,by simpa using r,f.1,f.2,o.symm,p.symm,j.1,j.2,l.symm⟩)))⟩
  ·rintro⟨a,h|h|h|h|h⟩
   ·exact absurd h.1 B
   ·exact absurd h.1 B
   ·exact absurd h.1 B
   ·obtain⟨_,d,m,c,ag,e,aj,g,i⟩:=h;simp only at d m c ag e aj g i a;exact⟨⟨⟨oJ d,oJ a,⟨m,c⟩,⟨aj,g⟩⟩,rfl⟩,⟨rfl,a,by simp[d]⟩,B,B,B,B,ag.symm,e.symm,B,i.symm⟩
   ·exact absurd h.1 B
 by_cases r:kind=5
 ·subst r;simp only[g3,fU,js,nA,if_true,Int.reduceEq,if_false,List.zip_cons_cons,List.zip_nil_left,ce,iZ,or_false,forall_eq_or_imp,forall_eq,uT,AH];simp only[eG.mk.injEq,gl,ig,hZ,kt,up,uS];constructor
  ·rintro⟨⟨⟨_,f,j⟩,_⟩,⟨_,k,r⟩,_,_,n,_,o,p,_,l⟩;refine⟨k,Z (Z (Z (Z ⟨rfl,n.symm,f.1,f.2,o.symm,p.symm,j.1,j.2,l.symm⟩)))⟩
  ·rintro⟨a,h|h|h|h|h⟩
   ·exact absurd h.1 B
   ·exact absurd h.1 B
   ·exact absurd h.1 B
   ·exact absurd h.1 B
   ·obtain⟨_,d,m,c,ag,e,aj,g,i⟩:=h;simp only at d m c ag e aj g i a;exact⟨⟨⟨oJ a,⟨m,c⟩,⟨aj,g⟩⟩,rfl⟩,⟨rfl,a,B⟩,B,B,d.symm,B,ag.symm,e.symm,B,i.symm⟩
 ·constructor
  ·rintro⟨⟨_,h⟩,_⟩;simp[fU,t,f,j,k,r]at h
  ·rintro⟨_,h⟩;simp only at h;omega
def eG.Dw.a5(h:eG.Dw e):1<=e.a5/\e.a5<=5:=by obtain⟨_,h⟩:=h;omega
def abB{k:Int}(h:1<=k/\k<=5):(g3 k).isEmpty=U:=by obtain rfl|rfl|rfl|rfl|rfl:k=1\/k=2\/k=3\/k=4\/k=5:=A;all_goals rfl
def eG.qT(h:e.bt=G):e.ch=ed e.a5.toNat::jU (g3 e.a5) (fU e)/\g9 (g3 e.a5) (fU e)=bA (jU (g3 e.a5) (fU e)):=by have b:=h;unfold eG.bt at h;rw[dA,dA]at h;have a:=yz (GY _) (yB e) ((xc (GY _) (yB _)).1 h.1.1);refine⟨?_,a⟩;unfold eG.ch;rw[if_pos b,a];rfl
def G0(h:e.bt=G):nB e.ch=bA e:=by
 obtain⟨a,b⟩:=eG.qT h;have c:=(eG.rE.1 h).a5;have d:((ed e.a5.toNat).toNat:Int)=e.a5:=by rw[mx];omega
 rw[a];simp only[nB,d];rw[if_neg (by rw[abB c];simp),Dq (Dx _) b];simp only;have f:=h;unfold eG.bt at h;rw[dA,dA,dA,dA,decide_eq_true_iff]at h;rw[h.2.2,h.2.1.1,f];rfl
def Dz(h:nB l=bA e):e.bt=G:=by
 cases l with
 |nil=>cases h
 |cons k ab=>
  simp only[nB]at h;split at h
  ·cases h
  ·split at h
   ·cases h
   ·split at h
    ·rename_i a;cases h;rw[dA]at a;exact a.2
    ·cases h
def DA(s:ByteArray):(iR s).length=2+s.size:=by unfold iR;rw[di,jp,oy]
def DB(aj:ca)(aa:e3)(a2:List ca)(aF:List e3):jU (aj::a2) (aa::aF)=aj.jS aa++jU a2 aF:=rfl
def AI:jU [] []=[]:=rfl
def DC(s:ByteArray):kf.jS (ig s)=iR s:=rfl
def DD(s ay al n:Int):(iT s ay al).jS (hZ n)=eU n s.toNat:=rfl
def abC(ay al:Int)(s:ByteArray):ca.jS ⟨2,0,ay,al,0⟩ (ig s)=iR s:=rfl
def eG.aI(e:eG):Nat:=if e.a5=1 then 11+e.cI.size else if e.a5=2 then 2+e.cI.size else if e.a5=3 then 5+e.cI.size+e.bk.ch.length else if e.a5=4 then 13+e.dg.size+e.cI.size else 11+e.cI.size
def Pg(h:e.bt=G):(jU (g3 e.a5) (fU e)).length=e.aI:=by
 have a:=(eG.rE.1 h).a5;unfold fU eG.aI;obtain h|h|h|h|h:e.a5=1\/e.a5=2\/e.a5=3\/e.a5=4\/e.a5=5:=A;all_goals simp[h,g3,DB,AI,DC,DD,abC,DA,jp,GZ]
 all_goals omega
def DE(h:e.bt=G):(jU (g3 e.a5) (fU e)).length<=600:=by
 rw[Pg h];have c:=e.bk.Dy;obtain⟨b,a⟩:=eG.rE.1 h;have b:=oJ b;have d:e.a5=4->e.dg.size<=24:=by
  intro f;rcases a with a|a|a|a|a
  ·omega
  ·omega
  ·omega
  ·exact(oJ a.2.1).2
  ·omega
 unfold eG.aI;repeat' split
 all_goals omega
def G1{b:List UInt8}(h:mG a2 b=bA aF):aF.length=a2.length/\∀aa∈aF,aa.cP.size<=65535:=by
 have d:=abo h;obtain⟨g,j,_⟩:=Dp d;have k:=(Pb d).1;refine⟨j,λaa l=>?_⟩;obtain⟨i,al,rfl⟩:=ns l;have m:i<a2.length:=A;have n:i<(a2.zip aF).length:=by rw[List.length_zip];omega
 have c:=k _ (dX n);rw[List.getElem_zip]at c;have e:=g _ (dX m);have f:cg.size=0:=rfl;rcases ca.GQ e with a|a|a
 ·rw[((ca.p5 a).1 c).2.2.1,f];omega
 ·have o:=(ca.vS a).1 c;have p:=ca.OY e a;simp only at o;omega
 ·rw[((ca.uQ a).1 c).2.2.2.2,f];omega
structure dl where
 dF:Int
 a5:Int
 cI:ByteArray
 dg:ByteArray
 d9:Int
 ie:Int
 hF:Int
 cW:Int
 gK:Int
 mL:Int
 bk:cw
 deriving DecidableEq
def jF:dl:=⟨0,0,cg,cg,0,0,0,0,0,0,fr⟩
def f1(d:dl)(bc:S):List S:=[F H d.dF,F H d.a5,bO d.cI,bO d.dg,F H d.d9,F H d.ie,F H d.hF,F H d.cW,F H d.gK,F H d.mL,F H d.bk.g2,F H d.bk.hH,F H d.bk.cP,bc]
def ho(d:dl)(bc:S):S:=b6 (f1 d bc).toArray
variable{d:dl}
def Ph(h:bc.oneCell'=G):∀ae∈f1 d bc,ae.oneCell'=G:=by intro ae a;simp[f1]at a;rcases a with rfl|rfl|rfl|rfl|rfl|rfl|rfl|rfl|rfl|rfl|rfl|rfl|rfl|rfl<;>first|rfl|exact h
def i3(k:Int):Bool:=decide (1<=k/\k<=5)
def dl.c2(d:dl):eG:=⟨d.a5,d.cI,d.dg,d.d9,d.ie,d.hF,d.cW,d.bk⟩
def uU(e:eG):dl:=⟨0,e.a5,e.cI,e.dg,e.d9,e.ie,e.hF,e.cW,0,0,e.bk⟩
def jG(k:Int):List ca:=
 if k=7 then[kf,iT 1 0 3,iT 8 0 uS,iT 4 0 1048576]else if k=8 then[kf,iT 1 0 3,iT 8 0 1125899906842624]else if k=9 then[kf,kf,iT 1 0 3]else[]
def rF(k:Int):Bool:=decide (6<=k/\k<=9)
def jg(d:dl):List e3:=
 if d.a5=7 then[ig d.cI,hZ d.d9,hZ d.cW,hZ d.gK]else if d.a5=8 then[ig d.cI,hZ d.d9,hZ d.mL]else if d.a5=9 then[ig d.dg,ig d.cI,hZ d.d9]else[]
def nC(k:Int)(aa:List e3):dl:=
 if k=7 then⟨0,7,(gl aa 0).cP,cg,(gl aa 1).aR,0,0,(gl aa 2).aR,(gl aa 3).aR,0,fr⟩else if k=8 then⟨0,8,(gl aa 0).cP,cg,(gl aa 1).aR,0,0,0,0,(gl aa 2).aR,fr⟩
 else if k=9 then⟨0,9,(gl aa 1).cP,(gl aa 0).cP,(gl aa 2).aR,0,0,0,0,0,fr⟩else⟨0,k,cg,cg,0,0,0,0,0,0,fr⟩
def dl.le(d:dl):Bool:=decide (d.ie=0/\d.hF=0/\d.bk.g2=0/\d.bk.hH=0/\d.bk.cP=0/\d.bk.a7.length=0)
def dl.lO(x d:dl):Bool:=decide (x.cI=d.cI/\x.dg=d.dg/\x.d9=d.d9/\x.cW=d.cW/\x.gK=d.gK/\x.mL=d.mL)
def dl.gj(d:dl):Bool:=(decide (d.a5=6)||jV d.cI)&&(decide (d.a5≠9)||jV d.dg)
def dl.p6(d:dl):Bool:=(rF d.a5&&oA (g9 (jG d.a5) (jg d))&&d.le)&&((nC d.a5 (jg d)).lO d&&d.gj)
def dl.bt(d:dl):Bool:=decide (0<=d.dF/\d.dF<=4294967295)&&if i3 d.a5 then decide (d.gK=0/\d.mL=0)&&d.c2.bt else d.p6
def dl.pl(d:dl):List UInt8:=1::ed d.a5.toNat::eU d.dF 4
def dl.ch(d:dl):List UInt8:=if d.bt then d.pl++(if i3 d.a5 then d.c2.ch.drop 1 else Af (g9 (jG d.a5) (jg d)))else[]
def yC:ByteArray:=⟨#[97,115,107,46,71,101,116]⟩
def oK(k:UInt8)(ab:List UInt8):Except ex dl:=
 if i3 k.toNat then match nB (k::ab)with
  |b5 e=>b5 e
  |bA e=>bA (uU e)
 else if rF k.toNat then match mG (jG k.toNat) ab with
  |b5 (i,j)=>b5 (.d2 vG i (.dD j))
  |bA aa=>bA (nC k.toNat aa)
 else b5 (.dD 2)
def dl.cy(d:dl)(gY:Int):dl:={d with dF:=gY}
def kS(b:List UInt8):dl×Option ex:=match b with
 |aa::k::a::c::f::g::ab=>
  let gY:Int:=fe [a,c,f,g]
  if aa≠1 then(jF.cy gY,E (.d2 yC 0 (.dD 14)))else match oK k ab with
   |b5 e=>(jF.cy gY,E (.d2 yC 0 e))
   |bA d=>if(d.cy gY).bt then(d.cy gY,I)else(jF.cy gY,E (.d2 yC 0 (.dD 2)))
 |_=>(jF,E (.d2 yC 0 (.dD 3)))
def vU(k:Int):∀aj∈jG k,aj.bt=G:=by
 intro aj a;unfold jG at a;repeat' split at a
 all_goals simp only[ce,iZ,or_false]at a
 all_goals first|exact a.elim|skip
 all_goals rcases a with rfl|rfl|rfl|rfl<;>decide+kernel
def DF(k:Int):∀aj∈jG k,aj.gw<=9223372036854775807:=by
 intro aj a;unfold jG at a;repeat' split at a
 all_goals simp only[ce,iZ,or_false]at a
 all_goals first|exact a.elim|skip
 all_goals rcases a with rfl|rfl|rfl|rfl<;>decide+kernel
def sL(d:dl):(jg d).length=(jG d.a5).length:=by
 unfold jG jg;repeat' split
 all_goals rfl
def abD{b:cw}(c:b.g2=0)(d:b.hH=0)(e:b.cP=0)(a:b.a7.length=0):b=fr:=by obtain⟨t,ah,s,aa⟩:=b;simp only at c d e a;subst c d e;rw[List.length_eq_zero_iff]at a;subst a;rfl
def dl.abE:d.le=G↔d.ie=0/\d.hF=0/\d.bk=fr:=by
 unfold dl.le;rw[decide_eq_true_iff];constructor
 ·rintro⟨a,b,c,e,f,g⟩;exact⟨a,b,abD c e f g⟩
 ·rintro⟨a,b,c⟩;rw[c];exact⟨a,b,rfl,rfl,rfl,rfl⟩
def dl.abF(h:d.p6=G):(nC d.a5 (jg d)).cy d.dF=d:=by
 unfold dl.p6 at h;rw[dA,dA,dA,dA,dl.abE]at h;obtain⟨⟨⟨a,_⟩,c,e,f⟩,ao,_⟩:=h;unfold dl.lO at ao;rw[decide_eq_true_iff]at ao;obtain⟨gY,kind,g,i,part,i0,first,eM,gG,j,b⟩:=d;simp only at a c e f ao;subst c e f;unfold rF at a;rw[decide_eq_true_iff]at a;obtain rfl|rfl|rfl|rfl:kind=6\/kind=7\/kind=8\/kind=9:=A;all_goals simp[nC,jg,gl,ig,hZ]at ao
 all_goals simp[dl.cy,nC,jg,gl,ig,hZ]
 all_goals exact ao
def abG(n:Int):∃d b c ag,eU n 4=[d,b,c,ag]:=⟨_,_,_,_,rfl⟩
def Pi(h:d.bt=G):kS d.ch=(d,I):=by
 have i:=h;unfold dl.bt at h;rw[dA,decide_eq_true_iff]at h;obtain⟨⟨r,v⟩,h⟩:=h;unfold dl.ch dl.pl;rw[if_pos i];obtain⟨n,s⟩:=nL r;have j:(fe (eU d.dF 4):Int)=d.dF:=by rw[s,uP 4 n A]
 obtain⟨w,x,y,z,t⟩:=abG d.dF;rw[t]at j⊢;cases a:i3 d.a5 with
 |true=>
  rw[a]at h;simp only[if_true,dA,decide_eq_true_iff]at h;obtain⟨⟨f,m⟩,o⟩:=h;obtain⟨p,B⟩:=eG.qT o;have c:=G0 o;rw[p]at c;unfold i3 at a;rw[decide_eq_true_iff]at a;have k:((ed d.a5.toNat).toNat:Int)=d.a5:=by rw[mx];omega
  have l:oK (ed d.a5.toNat) (jU (g3 d.c2.a5) (fU d.c2))=bA (uU d.c2):=by unfold oK;rw[k,if_pos (by unfold i3;exact decide_eq_true a)];have e:d.c2.a5=d.a5:=rfl;rw[e]at c;rw[e,c]
  have u:(uU d.c2).cy d.dF=d:=by obtain⟨gY,kind,D,J,part,i0,first,eM,gG,K,b⟩:=d;simp only at f m;subst f m;rfl
  rw[if_pos rfl,p];simp only[jN,m2,List.drop_succ_cons,List.drop_zero,kS,l,j,u,i,ne_eq,not_true_eq_false,if_false,if_true]
 |false=>
  rw[a]at h;simp only[fc,if_false]at h;have f:=dl.abF h;unfold dl.p6 at h;rw[dA,dA,dA]at h;obtain⟨⟨⟨g,c⟩,_⟩,_⟩:=h;have q:=yz (vU _) (sL d) ((xc (vU _) (sL _)).1 c);have L:6<=d.a5/\d.a5<=9:=by unfold rF at g;rw[decide_eq_true_iff]at g;exact g
  have k:((ed d.a5.toNat).toNat:Int)=d.a5:=by rw[mx];omega
  have l:oK (ed d.a5.toNat) (jU (jG d.a5) (jg d))=bA (nC d.a5 (jg d)):=by unfold oK;rw[k,a,g,Dq (DF _) q];rfl
  simp only[fc,if_false];rw[q];simp only[Af,jN,m2,kS,l,j,f,i,ne_eq,not_true_eq_false,if_false,if_true]
def G2(h:e.bt=G):e.cI.size<=24/\e.dg.size<=24/\e.bk.a7.length<=8:=by
 obtain⟨d,a⟩:=eG.rE.1 h;have d:=oJ d;have b:cg.size=0:=rfl;have c:fr.a7.length=0:=rfl;rcases a with a|a|a|a|a
 ·rw[a.2.1,a.2.2.2.2.2.2.2.2,b,c];omega
 ·rw[a.2.1,a.2.2.2.2.2.2,b,c];omega
 ·have:=(cw.uR.1 (cw.vT a.2.2.2.2.2.2.2)).2.2.2.2.1;rw[a.2.1,b];omega
 ·have:=oJ a.2.1;rw[a.2.2.2.2.2.2.2.2,c];omega
 ·rw[a.2.1,a.2.2.2.2.2.2.2.2,b,c];omega
def abH(h:∀aa∈aF,aa.cP.size<=65535)(i:Nat):(gl aF i).cP.size<=65535:=by
 unfold gl;rw[gp];cases a:aF[i]? with
 |none=>simp[hZ,cg,vv]
 |some aa=>exact h aa (gP a)
def Pj{k:Int}(h:∀aa∈aF,aa.cP.size<=65535):(nC k aF).cI.size<=65535/\(nC k aF).dg.size<=65535/\(nC k aF).bk=fr:=by
 have a:=abH h;have b:cg.size<=65535:=by simp[cg,vv]
 unfold nC;repeat' split
 all_goals exact⟨by first|exact a _|exact b,by first|exact a _|exact b,rfl⟩
def Pk{k:UInt8}{ab:List UInt8}(h:oK k ab=bA d):d.cI.size<=65535/\d.dg.size<=65535/\d.bk.a7.length<=8:=by
 unfold oK at h;split at h
 ·split at h
  ·cases h
  ·rename_i e a;cases h;have:=G2 (Dz a);exact⟨by simp only[uU];omega,by simp only[uU];omega,this.2.2⟩
 ·split at h
  ·split at h
   ·cases h
   ·rename_i aa b;cases h;have:=Pj (k:=k.toNat) (G1 b).2;exact⟨this.1,this.2.1,by rw[this.2.2];simp[fr]⟩
  ·cases h
def abI(b:List UInt8):(kS b).1.cI.size<=65535/\(kS b).1.dg.size<=65535/\(kS b).1.bk.a7.length<=8:=by
 have a:∀n,(jF.cy n).cI.size<=65535/\(jF.cy n).dg.size<=65535/\(jF.cy n).bk.a7.length<=8:=λn=>by simp[jF,dl.cy,cg,vv,fr]
 unfold kS;split
 ·simp only;split
  ·exact a _
  ·split
   ·exact a _
   ·rename_i d c;split
    ·have:=Pk c;exact this
    ·exact a _
 ·exact a 0
def tU(h:d.bt=G)(a:i3 d.a5=G):d.c2.bt=G:=by unfold dl.bt at h;rw[a]at h;simp only[if_true,dA]at h;exact h.2.2
def abJ(n:Int):eU n 4=[ed (n%256).toNat,ed (n/2^8%256).toNat,ed (n/2^16%256).toNat,ed (n/2^24%256).toNat]:=by simp[eU,c9,List.range.loop]
def Pl(h:d.p6=G):(jU (jG d.a5) (jg d)).length<=100:=by
 have e:=h;unfold dl.p6 at h;rw[dA,dA,dA,dA]at h;obtain⟨⟨⟨b,c⟩,_⟩,_,f⟩:=h;have a:=(xc (vU _) (sL d)).1 c;unfold rF at b;rw[decide_eq_true_iff]at b;unfold jg jG at a⊢;obtain h|h|h|h:d.a5=6\/d.a5=7\/d.a5=8\/d.a5=9:=A
 ·simp[h,AI]
 ·simp only[h,if_true,List.zip_cons_cons,List.zip_nil_left,ce,iZ,or_false,forall_eq_or_imp,forall_eq,uT]at a;simp[h,DB,AI,DC,DD,DA,jp];omega
 ·simp only[h,Int.reduceEq,if_false,if_true,List.zip_cons_cons,List.zip_nil_left,ce,iZ,or_false,forall_eq_or_imp,forall_eq,uT]at a;simp[h,DB,AI,DC,DD,DA,jp];omega
 ·simp only[h,Int.reduceEq,if_false,if_true,List.zip_cons_cons,List.zip_nil_left,ce,iZ,or_false,forall_eq_or_imp,forall_eq,uT]at a;simp[h,DB,AI,DC,DD,DA,jp];omega
def Pm(h:d.bt=G)(a:i3 d.a5=U):d.p6=G:=by unfold dl.bt at h;rw[a]at h;simp only[fc,if_false,dA]at h;exact h.2
section
variable[DecidableEq cU]
def dv:List (cU×aU)->cU->Option aU
 |[],_=>I
 |ah::l,k=>if ah.1=k then E ah.2 else dv l k
def kT:List (cU×aU)->cU->Option (Nat×aU)
 |[],_=>I
 |ah::l,k=>if ah.1=k then E (0,ah.2)else(kT l k).map λj=>(j.1+1,j.2)
def hb:List (cU×aU)->cU->aU->List (cU×aU)
 |[],k,aa=>[(k,aa)]
 |ah::l,k,aa=>if ah.1=k then(k,aa)::l else ah::hb l k aa
def mh(l:List (cU×aU))(k:cU):List (cU×aU):=l.filter λah=>decide (ah.1≠k)
def DG(l:List (cU×aU))(k:cU):dv l k=(kT l k).map (·.2):=by
 induction l with
 |nil=>rfl
 |cons ah l a=>
  simp only[dv,kT];split
  ·rfl
  ·rw[a];cases kT l k<;>rfl
def G3{l:List (cU×aU)}{k:cU}{aa:aU}(h:kT l k=E (j,aa)):l[j]?=E (k,aa):=by
 induction l generalizing j with
 |nil=>cases h
 |cons ah l e=>
  simp only[kT]at h;split at h
  ·rename_i c;cases h;obtain⟨d,b⟩:=ah;simp only at c;subst c;rfl
  ·cases a:kT l k with
   |none=>rw[a]at h;cases h
   |some ai=>
    rw[a]at h;cases h;exact e a
def DH{l:List (cU×aU)}{k:cU}:dv l k=I↔k∉l.map (·.1):=by
 induction l with
 |nil=>simp[dv]
 |cons ah l b=>
  simp only[dv,ge,ce,not_or];split
  ·rename_i h;simp[h]
  ·rename_i h;rw[b];exact⟨λa=>⟨Ne.symm h,a⟩,λa=>a.2⟩
def vV{l:List (cU×aU)}{k:cU}{aa:aU}(h:dv l k=E aa):(k,aa)∈l:=by
 induction l with
 |nil=>cases h
 |cons ah l a=>
  simp only[dv]at h;split at h
  ·rename_i b;cases h;subst b;exact fE
  ·exact ev _ (a h)
def DI{l:List (cU×aU)}(a:(l.map (·.1)).Nodup){k:cU}{aa:aU}(h:(k,aa)∈l):dv l k=E aa:=by
 induction l with
 |nil=>cases h
 |cons ah l b=>
  simp only[ge,ks]at a;simp only[dv];rcases ce.1 h with rfl|h
  ·simp
  ·rw[if_neg (λe=>a.1 (by rw[e];exact mz (f:=(·.1)) h))];exact b a.2 h
def Pn{l dK:List (cU×aU)}(b:(l.map (·.1)).Nodup)(a:dK.Perm l)(k:cU):dv dK k=dv l k:=by
 have c:(dK.map (·.1)).Nodup:=((a.map _).nodup_iff).2 b;cases h:dv l k with
 |none=>rw[DH]at h⊢;exactλd=>h ((a.map _).mem_iff.1 d)
 |some aa=>exact DI c (a.mem_iff.2 (vV h))
def DJ(l:List (cU×aU))(k hC:cU)(aa:aU):dv (hb l k aa) hC=if k=hC then E aa else dv l hC:=by
 induction l with
 |nil=>simp[hb,dv]
 |cons ah l c=>
  simp only[hb];by_cases b:ah.1=k
  ·rw[if_pos b];simp only[dv,b];split<;>rfl
  ·rw[if_neg b];simp only[dv];rw[c];by_cases a:ah.1=hC
   ·rw[if_pos a,if_pos a,if_neg (λe=>b (a.trans e.symm))]
   ·rw[if_neg a,if_neg a]
def Po(l:List (cU×aU))(k:cU)(aa:aU):(hb l k aa).map (·.1)=if(dv l k).isSome then l.map (·.1)else l.map (·.1)++[k]:=by
 induction l with
 |nil=>rfl
 |cons ah l b=>
  by_cases a:ah.1=k
  ·simp[hb,dv,a]
  ·simp only[hb,dv,a,if_false,ge,b];split<;>simp
def xd{l:List (cU×aU)}{k:cU}{aa:aU}(h:(l.map (·.1)).Nodup):((hb l k aa).map (·.1)).Nodup:=by
 rw[Po];split
 ·exact h
 ·rename_i c;refine us.2 ⟨h,B,λd f b a e=>?_⟩;simp only[ku]at a;subst a;subst e;exact(DH.1 (by simpa using c)) f
def G4(l:List (cU×aU))(k:cU)(aa:aU):(hb l k aa).length=if(dv l k).isSome then l.length else l.length+1:=by have:=congrArg jm (Po l k aa);rw[dU]at this;rw[this];split<;>simp
def DK{l:List (cU×aU)}{k:cU}{aa:aU}(h:dv l k=I):hb l k aa=l++[(k,aa)]:=by
 induction l with
 |nil=>rfl
 |cons ah l a=>
  simp only[dv]at h;split at h
  ·cases h
  ·rename_i b;simp only[hb];rw[if_neg b,a h];rfl
def Pp{l:List (cU×aU)}{k:cU}{ae aa:aU}(h:kT l k=E (j,ae)):hb l k aa=l.set j (k,aa):=by
 induction l generalizing j with
 |nil=>cases h
 |cons ah l c=>
  simp only[kT]at h;simp only[hb];by_cases b:ah.1=k
  ·rw[if_pos b]at h⊢;cases h;rfl
  ·rw[if_neg b]at h⊢;cases a:kT l k with
   |none=>rw[a]at h;cases h
   |some ai=>
    rw[a]at h;cases h;rw[c a];rfl
def Pq{l:List (cU×aU)}(h:(l.map (·.1)).Nodup):l.Nodup:=by
 induction l with
 |nil=>simp
 |cons ah l a=>
  simp only[ge,ks]at h⊢;exact⟨λb=>h.1 (mz (f:=(·.1)) b),a h.2⟩
def Pr{jA:Type}:∀{l dK:List jA},l.Nodup->dK.Nodup->(∀d,d∈l↔d∈dK)->l.Perm dK
 |[],dK,_,_,h=>by
  cases dK with
  |nil=>exact .refl _
  |cons d dK=>exact absurd ((h d).2 fE) B
 |ah::l,dK,e,i,h=>by
  obtain⟨d,b,rfl⟩:=List.append_of_mem ((h ah).1 fE);have f:(ah::(d++b)).Nodup:=(List.perm_middle.nodup_iff).1 i;rw[ks]at e f;refine(List.Perm.cons ah (Pr e.2 f.2 λx=>?_)).trans List.perm_middle.symm;have g:=h x;simp only[ce,b4]at g⊢;constructor
  ·intro a;rcases g.1 (Z a)with c|rfl|c
   ·exact Y c
   ·exact absurd a e.1
   ·exact Z c
  ·intro a;rcases g.2 (a.elim Y (λai=>Z (Z ai)))with rfl|c
   ·exact absurd (by simpa using a) f.1
   ·exact c
def abK{l dK:List (cU×aU)}(b:(l.map (·.1)).Nodup)(c:(dK.map (·.1)).Nodup)(h:∀k,dv l k=dv dK k):l.Perm dK:=
 Pr (Pq b) (Pq c) λ⟨k,aa⟩=>⟨λa=>vV ((h k).symm.trans (DI b a)),λa=>vV ((h k).trans (DI c a))⟩
def abL{l dK:List (cU×aU)}(a:(l.map (·.1)).Nodup)(b:dK.Perm l)(k:cU)(aa:aU):(hb dK k aa).Perm (hb l k aa):=
 abK (xd (((b.map _).nodup_iff).2 a)) (xd a) λx=>by rw[DJ,DJ,Pn a b]
def G5{l:List (cU×aU)}{k:cU}(h:(l.map (·.1)).Nodup):((mh l k).map (·.1)).Nodup:=h.sublist ((List.filter_sublist).map _)
def abM{l:List (cU×aU)}(c:(l.map (·.1)).Nodup){k:cU}{ae:aU}(h:kT l k=E (j,ae)):mh l k=l.eraseIdx j:=by
 induction l generalizing j with
 |nil=>cases h
 |cons ah l d=>
  simp only[ge,ks]at c;simp only[kT]at h;unfold mh at d⊢;rw[uv];by_cases a:ah.1=k
  ·rw[if_pos a]at h;cases h;rw[if_neg (by simpa using a),List.eraseIdx_cons_zero];refine List.filter_eq_self.2 λai b=>?_;have:ai.1≠k:=λe=>c.1 (by rw[a,<-e];exact mz (f:=(·.1)) b);simpa using this
  ·rw[if_neg a]at h;cases b:kT l k with
   |none=>rw[b]at h;cases h
   |some ai=>
    rw[b]at h;cases h;rw[if_pos (by simpa using a),d c.2 b];rfl
def abN{l:List (cU×aU)}{k:cU}(h:dv l k=I):mh l k=l:=by refine List.filter_eq_self.2 λai a=>?_;have:ai.1≠k:=λe=>DH.1 h (by rw[<-e];exact mz (f:=(·.1)) a);simpa using this
structure pm(ad:ft)(ar:co)(bz:cU->S):Prop where
 inj:∀d b,bz d=bz b->d=b
 vW:∀(b:Bool) d w,(Instr.checkKey b 10000 ar (bz d)).run ad w=bN () w
 eq:∀d b w,(Op.equal ar (bz d) (bz b)).run ad w=bN (decide (d=b)) w
 G6:∃ag,ad.underlying ar=E ag/\((∀d b,Instr.sameNow ag (bz d) (bz b)=E (decide (d=b)))\/(∀d b,Instr.sameNow ag (bz d) (bz b)=I))
 sM:∀d,Instr.sameBits 10000 (bz d) (bz d)=G
def kg(bz:cU->S)(bI:aU->S)(ah:cU×aU):S×S:=(bz ah.1,bI ah.2)
def hx(w:aN)(ab:Nat)(bz:cU->S)(bI:aU->S)(l:List (cU×aU)):Prop:=
 ∃(bx:Array MapEntry)(a:Nat)(dK:List (cU×aU)),w.heap[ab]?=E (.map bx a)/\(∀x∈bx.toList,x.born<a)/\(bx.toList.map (·.born)).Nodup/\bx.toList.map hW=dK.map (kg bz bI)/\dK.Perm l/\(l.map (·.1)).Nodup
def oL(ad:ft)(ar k av:co):Prop:=ad.underlying ar=E (.map k av)
variable{bz:cU->S}{bI:aU->S}{l dK:List (cU×aU)}{gS:co}
def hx.aL(h:hx w ab bz bI l):ab<w.heap.size:=by obtain⟨bx,c,dK,h,_⟩:=h;exact(so.1 h).1
def hx.Ps(h:hx w ab bz bI l):(l.map (·.1)).Nodup:=by obtain⟨bx,c,dK,_,_,_,_,_,h⟩:=h;exact h
def hx.J(h:hx w ab bz bI l)(b:Q bU w a)(d:ab∉bU):hx a ab bz bI l:=by have e:=h.aL;obtain⟨bx,c,dK,h,f⟩:=h;exact⟨bx,c,dK,(b.nR ab e d).trans h,f⟩
def hx.V(h:hx w ab bz bI l)(b:Q [] w a):hx a ab bz bI l:=h.J b B
def hx.G7(h:hx w ab bz bI l)(a:l.Perm dK):hx w ab bz bI dK:=by obtain⟨bx,c,b,d,e,f,g,i,j⟩:=h;exact⟨bx,c,b,d,e,f,g,i.trans a,((a.map _).nodup_iff).1 j⟩
def G8(h:bx.toList.map hW=l.map (kg bz bI)):bx.size=l.length:=by have:=congrArg jm h;simpa using this
def Pt(b:pm ad gS bz)(k:cU):∀(bx:List MapEntry)(l:List (cU×aU))(i:Nat),bx.map hW=l.map (kg bz bI)->
  (Instr.findAsking gS (bz k) bx i).run ad w=bN ((kT l k).map λj=>(i+j.1,bI j.2)) w
 |[],[],i,_=>rfl
 |[],ah::l,i,h=>by cases h
 |e::bx,[],i,h=>by cases h
 |e::bx,ah::l,i,h=>by
  simp only[ge,ss]at h;obtain⟨c,d⟩:=h;have f:e.key=bz ah.1:=congrArg (·.1) c;have g:e.val=bI ah.2:=congrArg (·.2) c;simp only[Instr.findAsking,f,fx,b.eq k ah.1 w,f7,kT];by_cases a:ah.1=k
  ·rw[if_pos a,decide_eq_true a.symm];simp[g]
  ·rw[if_neg a,decide_eq_false (λe=>a e.symm)];simp only[fc,if_false];rw[Pt b k bx l (i+1) d];cases kT l k with
   |none=>rfl
   |some j=>simp;omega
def Pu{ag:TypeDesc}(ao:∀d b,Instr.sameNow ag (bz d) (bz b)=E (decide (d=b)))(k:cU):∀(bx:List MapEntry)(l:List (cU×aU))(i:Nat),bx.map hW=l.map (kg bz bI)->
  Instr.findNow ag (bz k) bx i=E ((kT l k).map λj=>(i+j.1,bI j.2))
 |[],[],i,_=>rfl
 |[],ah::l,i,h=>by cases h
 |e::bx,[],i,h=>by cases h
 |e::bx,ah::l,i,h=>by
  simp only[ge,ss]at h;obtain⟨c,f⟩:=h;have g:e.key=bz ah.1:=congrArg (·.1) c;have m:e.val=bI ah.2:=congrArg (·.2) c;simp only[Instr.findNow,g,ao,kT];by_cases a:ah.1=k
  ·rw[if_pos a,decide_eq_true a.symm];simp[m]
  ·rw[if_neg a,decide_eq_false (λe=>a e.symm)];simp only;rw[Pu ao k bx l (i+1) f];cases kT l k with
   |none=>rfl
   |some j=>simp;omega
def abO{ag:TypeDesc}(ao:∀d b,Instr.sameNow ag (bz d) (bz b)=I)(k:cU):∀(bx:List MapEntry)(l:List (cU×aU))(i:Nat),bx.map hW=l.map (kg bz bI)->
  Instr.findNow ag (bz k) bx i=I\/(bx=[]/\Instr.findNow ag (bz k) bx i=E I)
 |[],_,i,_=>Z ⟨rfl,rfl⟩
 |e::bx,[],i,h=>by cases h
 |e::bx,ah::l,i,h=>by simp only[ge,ss]at h;obtain⟨a,f⟩:=h;have c:e.key=bz ah.1:=congrArg (·.1) a;left;simp only[Instr.findNow,c,ao]
def G9(b:pm ad gS bz)(k:cU)(bx:List MapEntry)(l:List (cU×aU))(h:bx.map hW=l.map (kg bz bI)):
  (Instr.findKey gS (bz k) bx).run ad w=bN ((kT l k).map λj=>(j.1,bI j.2)) w:=by
 obtain⟨ag,c,ao⟩:=b.G6;simp only[Instr.findKey,fx,fK c,f7];rcases ao with ao|ao
 ·rw[Pu ao k bx l 0 h];simp only[k5,gQ]
 ·rcases abO ao k bx l 0 h with a|⟨rfl,a⟩
  ·rw[a];simp only;rw[Pt b k bx l 0 h];simp
  ·rw[a];cases l with
   |nil=>rfl
   |cons ah l=>cases h
def Ha(a:oL ad ar gS av)(d:pm ad gS bz)(h:hx w ab bz bI l)(g:du ad av bm)(k:cU)(d8:Bool):
  (Instr.lookup ar (eB (E ab)) (bz k) d8).run ad w=bN (if d8 then bQ #[((dv l k).map bI).getD bm,aK (dv l k).isSome]else((dv l k).map bI).getD bm) w:=by
 obtain⟨bx,c,dK,e,_,_,i,m,n⟩:=h;have b:=G9 (w:=w) d k bx.toList dK i;have o:=FC (w:=w) g;have a:ad.underlying ar=E (.map gS av):=a;rw[<-Pn n m,DG];cases f:kT dK k with
 |none=>
  rw[f]at b;cases d8<;>simp[Instr.lookup,fK a,pS e,d.vW,b,o,tn]
 |some j=>
  rw[f]at b;cases d8<;>simp[Instr.lookup,fK a,pS e,d.vW,b,tn]
def Pv{ac:S->Prop}(a:oL ad ar gS av)(b:pm ad gS bz)(h:hx w ab bz bI l)(c:du ad av bm){k:cU}:
  aZ ad (qI ar (eB (E ab)) (bz k) U) w ac↔ac (((dv l k).map bI).getD bm):=j8 (by
 unfold qI;apply gv ad _ w;rw[Ha a b h c];rfl)
def DL{ac:S->Prop}(a:oL ad ar gS av)(b:pm ad gS bz)(h:hx w ab bz bI l)(c:du ad av bm){k:cU}:
  aZ ad (qI ar (eB (E ab)) (bz k) G) w ac↔ac (bQ #[((dv l k).map bI).getD bm,aK (dv l k).isSome]):=j8 (by
 unfold qI;apply gv ad _ w;rw[Ha a b h c];rfl)
def abP(a:oL ad ar gS av)(b:pm ad gS bz)(h:hx w ab bz bI l)(c:du ad av bm){k:cU}:
  gu ad (qI ar (eB (E ab)) (bz k) U) (((dv l k).map bI).getD bm) w ct↔ct:=Fx (by
 unfold qI;apply gv ad _ w;rw[Ha a b h c];rfl)
def DM{ac:S->Prop}(a:oL ad ar gS av)(h:hx w ab bz bI l):aZ ad (dG .len #[ar] #[eB (E ab)]) w ac↔ac (F H l.length):=j8 (by
 obtain⟨bx,c,dK,b,_,_,d,e,_⟩:=h;have a:ad.underlying ar=E (.map gS av):=a;unfold dG;simp[builtin,Builtin.len_,fK a,pS b,goInt,G8 d,e.length_eq])
def abQ(w:aN)(bz:cU->S)(bI:aU->S):hx (w.alloc (.map #[] 0)) w.heap.size bz bI []:=⟨#[],0,[],heap_alloc_new w _,B,B,rfl,.refl _,B⟩
def Hb(bz:cU->S)(bI:aU->S)(b:oL ad ar gS av){c:Option S}(d:c=I\/∃k n,c=E (F k n))(k:∀a,hx a w.heap.size bz bI []->Q [] w a->a.heap.size=w.heap.size+1->ac (eB (E w.heap.size)) a):W ad (uz ar c) w ac:=by
 have b:ad.underlying ar=E (.map gS av):=b;refine(j9 (aa:=eB (E w.heap.size)) (a:=w.alloc (.map #[] 0)) ?_).2 (k _ (abQ w bz bI) (ox _ _ _) B);unfold uz;apply gv ad _ w;rcases d with rfl|⟨ai,n,rfl⟩
 ·simp[Instr.makeMap]
 ·simp[Instr.makeMap,fK b,asInt,asIntOf]
def abR(p:oL ad ar gS av)(q:pm ad gS bz)(h:hx w ab bz bI l)(k:cU)(aa:aU):∃a,(Instr.mapUpdate ar (eB (E ab)) (bz k) (bI aa)).run ad w=bN () a/\hx a ab bz bI (hb l k aa)/\Q [ab] w a/\a.heap.size=w.heap.size:=by
 obtain⟨bx,c,dK,g,r,u,m,J,t⟩:=h;have p:ad.underlying ar=E (.map gS av):=p;have n:=G9 (w:=w) q k bx.toList dK m;have K:=G8 m;have v:=abL t J k aa;cases o:kT dK k with
 |none=>
  rw[o]at n;have L:dv dK k=I:=by rw[DG,o];rfl
  refine⟨_,by simp[Instr.mapUpdate,fK p,pS g,q.vW,n,MapKept.run_setObj_map _ g,tn];rfl,?_,x9 g _,B⟩;refine⟨bx.push {key:=bz k,val:=bI aa,born:=c},c+1,hb dK k aa,ChangeMaps.heap_setBlock_same g _,?_,?_,?_,v,xd t⟩
  ·intro x f;simp only[Array.toList_push,b4,ku]at f;rcases f with f|rfl
   ·exact Nat.lt_succ_of_lt (r x f)
   ·exact Nat.lt_succ_self _
  ·simp only[Array.toList_push,g6,ge,tp];refine us.2 ⟨u,B,?_⟩;intro d dI b y;simp only[ku]at y;subst y;obtain⟨x,f,rfl⟩:=fS.1 dI;exact Nat.ne_of_lt (r x f)
  ·rw[DK L];simp[m,hW,kg]
 |some ai=>
  obtain⟨j,ae⟩:=ai;rw[o]at n;simp only[m1]at n;have z:=G3 o;have A:j<bx.size:=by rw[K];exact(fi.1 z).1
  have N:bx[j].key=bz k:=by
   have s:(bx.toList.map hW)[j]?=E (kg bz bI (k,ae)):=by rw[m,e1,z];rfl
   rw[e1]at s;have O:bx.toList[j]?=E bx[j]:=B;rw[O]at s;simp[hW,kg]at s;exact s.1
  have P:(Instr.keyThatStays (bz k) (bz k)).run ad w=bN (bz k) w:=by unfold Instr.keyThatStays;rw[q.sM];rfl
  refine⟨_,by simp[Instr.mapUpdate,fK p,pS g,q.vW,n,A,N,P,MapKept.run_setObj_map _ g,tn];rfl,?_,x9 g _,B⟩;refine⟨_,c,hb dK k aa,ChangeMaps.heap_setBlock_same g _,?_,?_,?_,v,xd t⟩
  ·intro x f;simp only[Array.toList_modify]at f;obtain⟨i,al,rfl⟩:=ns f;have D:i<bx.toList.length:=by simpa using al
   rw[List.getElem_modify];split
   ·exact r bx.toList[i] (dX D)
   ·exact r bx.toList[i] (dX D)
  ·have:(bx.modify j λe=>{e with key:=bz k,val:=bI aa}).toList.map (·.born)=bx.toList.map (·.born):=by
    apply qC;intro i;simp only[e1,Array.getElem?_toList,Array.getElem?_modify];split
    ·cases bx[i]?<;>rfl
    ·rfl
   rw[this];exact u
  ·rw[Pp o];have:(bx.modify j λe=>{e with key:=bz k,val:=bI aa}).toList.map hW=(bx.toList.map hW).set j (kg bz bI (k,aa)):=by
    apply qC;intro i;simp only[e1,Array.getElem?_toList,Array.getElem?_modify,pT,dU,tj];split
    ·rename_i R;subst R;simp[A,hW,kg]
    ·rfl
   rw[this,m,qB]
def Hc(b:oL ad ar gS av)(c:pm ad gS bz)(h:hx w ab bz bI l){k:cU}{aa:aU}(d:ae=bI aa)
  (e:∀a,hx a ab bz bI (hb l k aa)->Q [ab] w a->a.heap.size=w.heap.size->ac bS a):W ad (wL ar (eB (E ab)) (bz k) ae) w ac:=by
 subst d;obtain⟨a,f,g,i,j⟩:=abR b c h k aa;refine(Fw (a:=a) ?_).2 (e a g i j);unfold wL;simp[f]
def abS(t:co)(h:hx w ab bz bI l):
  ∃a,(B5 #[eZ t (eB (E ab))]).run ad w=bN (eZ t (eB (E w.heap.size))) a/\hx a w.heap.size bz bI l/\Q [] w a/\a.heap.size=w.heap.size+1:=by
 obtain⟨bx,b,dK,c,d⟩:=h;have e:B5 #[eZ t (eB (E ab))]=(getObj ab>>=λaf=>match af with
   |.map f b=>(newObj (.map f b)>>=λn=>fh (eZ t (eB (E n))))
   |_=>stuck "maps.clone: a map expected"):=rfl
 refine⟨w.alloc (.map bx b),?_,⟨bx,b,dK,heap_alloc_new w _,d⟩,ox _ _ _,B⟩;rw[e];simp[pS c,tn]
def Pw{f:Type}{aj:jA->f}{ct an:List f}(h:ct.Perm an):∀{b7:List jA},b7.map aj=an->∃l:List jA,l.Perm b7/\l.map aj=ct:=by
 induction h with
 |nil=>
  intro b7 e;exact⟨[],by rw[List.map_eq_nil_iff.1 e],rfl⟩
 |cons x _ g=>
  intro b7 e;cases b7 with
  |nil=>cases e
  |cons ap b7=>
   simp only[ge,ss]at e;obtain⟨l,a,b⟩:=g e.2;exact⟨ap::l,a.cons ap,by rw[ge,b,e.1]⟩
 |swap x ap l=>
  intro b7 e;cases b7 with
  |nil=>cases e
  |cons d b7=>
   cases b7 with
   |nil=>simp at e
   |cons c b7=>
    simp only[ge,ss]at e;exact⟨c::d::b7,.swap _ _ _,by rw[ge,ge,e.1,e.2.1,e.2.2]⟩
 |trans _ _ i j=>
  intro b7 e;obtain⟨l,a,b⟩:=j e;obtain⟨c5,k,m⟩:=i b;exact⟨c5,k.trans a,m⟩
omit[DecidableEq cU]in
def hx.hu {b7:List (cU×aU)} (h:hx w ab bz bI l) (a:b7.map (kg bz bI)=l.map (kg bz bI)) (b:b7.map (·.1)=l.map (·.1)):hx w ab bz bI b7:=by obtain⟨bx,c,dK,d,e,f,g,i,j⟩:=h;obtain⟨c5,k,m⟩:=Pw (aj:=kg bz bI) (i.map (kg bz bI)) a;exact⟨bx,c,c5,d,e,f,by rw[g,m],k,by rw[b];exact j⟩
def p7(w:aN)(gt ab:Nat)(bz:cU->S)(bI:aU->S)(l d:List (cU×aU)):Prop:=
 ∃(bx:Array MapEntry)(a:Nat)(dK:List (cU×aU))(b:Nat)(ec:Array Nat)(c:Nat)(ja:List (cU×aU)),w.heap[ab]?=E (.map bx a)/\(∀x∈bx.toList,x.born<a)/\(bx.toList.map (·.born)).Nodup/\bx.toList.map hW=dK.map (kg bz bI)/\dK.Perm l/\(l.map (·.1)).Nodup/\
  w.heap[gt]?=E (.mapIter (E ab) b ec c)/\b=a/\c=a/\(leftOf bx ec).toList.map hW=ja.map (kg bz bI)/\ja.Perm d
def p7.gk{a:List (cU×aU)}(h:p7 w gt ab bz bI l a):hx w ab bz bI l:=by obtain⟨bx,c,dK,j,ec,k,ja,b,d,e,f,g,i,_⟩:=h;exact⟨bx,c,dK,b,d,e,f,g,i⟩
def p7.J{b:List (cU×aU)}(h:p7 w gt ab bz bI l b)(d:Q bU w a)(f:ab∉bU)(g:gt∉bU):p7 a gt ab bz bI l b:=by obtain⟨bx,c,dK,i,ec,j,ja,e,k,m,n,o,p,al,q⟩:=h;have r:=d.nR ab (so.1 e).1 f;have s:=d.nR gt (so.1 al).1 g;exact⟨bx,c,dK,i,ec,j,ja,r.trans e,k,m,n,o,p,s.trans al,q⟩
def abT(bx:Array MapEntry):leftOf bx #[]=bx:=by unfold leftOf;rw[Array.filter_eq_self];intro x _;simp
def Px(b:oL ad ar gS av)(h:hx w ab bz bI l)(k:∀a,p7 a w.heap.size ab bz bI l l->Q [] w a->a.heap.size=w.heap.size+1->ac (aE (E ⟨w.heap.size,0,I⟩)) a):W ad (zL ar (eB (E ab))) w ac:=by
 have g:=h.aL;obtain⟨bx,c,dK,d,i,j,e,f,m⟩:=h;have b:ad.underlying ar=E (.map gS av):=b;refine(j9 (aa:=aE (E ⟨w.heap.size,0,I⟩)) (a:=w.alloc (.mapIter (E ab) c #[] c)) ?_).2 (k _ ⟨bx,c,dK,c,#[],c,dK,?_,i,j,e,f,m,heap_alloc_new w _,rfl,rfl,by rw[abT];exact e,f⟩ (ox _ _ _) B)
 ·unfold zL;exact gv ad _ w (run_range_map w ar gS av ab bx c b d)
 ·rw[@heap_alloc_old w _ _ g];exact d
def abU{a:Array Nat}{e:MapEntry}(b:(bx.toList.map (·.born)).Nodup)(c:e∈bx.toList):(leftOf bx (a.push e.born)).toList=(leftOf bx a).toList.filter λx=>!(x.born==e.born):=by unfold leftOf;rw[Array.toList_filter,Array.toList_filter,List.filter_filter];refine List.filter_congr λx d=>?_;rw[contains_push];simp[Bool.and_comm,Bool.not_or]
def yD{jA a:Type}(aj:jA->a):∀(l:List jA)(i:Nat),(l.eraseIdx i).map aj=(l.map aj).eraseIdx i
 |[],i=>B
 |x::l,0=>rfl
 |x::l,i+1=>by simp only[List.eraseIdx_cons_succ,ge,yD aj l i]
def DN{af a:Obj}(h:w.heap[b]?=E af):(st w b a).heap[b]?=E a:=by have c:=(so.1 h).1;show(w.heap.setIfInBounds b a)[b]?=E a;rw[Array.getElem?_setIfInBounds_self_of_lt c]
def DO{a:Obj}(c:k≠b):(st w b a).heap[k]?=w.heap[k]?:=by show(w.heap.setIfInBounds b a)[k]?=w.heap[k]?;rw[Array.getElem?_setIfInBounds_ne (Ne.symm c)]
def sN(w:aN)(gt ab:Nat):Nat:=match w.heap[gt]?,w.heap[ab]? with
 |some (.mapIter _ _ ec _),E (.map bx _)=>(leftOf bx ec).size
 |_,_=>0
omit[DecidableEq cU]in
def p7.AJ {a:List (cU×aU)} (h:p7 w gt ab bz bI l a):sN w gt ab=a.length:=by obtain⟨bx,c,dK,f,ec,g,ja,b,i,j,k,m,n,al,o,p,d,e⟩:=h;unfold sN;rw[b,al];have:=congrArg jm d;simp only[dU,tj]at this;simp only;rw[this,e.length_eq]
def Py{p:List (cU×aU)}{t:co}(h:p7 w gt ab bz bI l p)
  (af:p=[]->ac (bQ #[aK U]) w)
  (ag:∀(ah:cU×aU)(u:List (cU×aU)) a,p.Perm (ah::u)->p7 a gt ab bz bI l u->Q [gt] w a->a.heap.size=w.heap.size->(∀q:S->Prop,aZ ad (zM (aE (E ⟨gt,0,I⟩))) a q↔q (bQ #[bz ah.1,bI ah.2]))->ac (bQ #[aK G,bz ah.1,bI ah.2]) a):W ad (wM (aE (E ⟨gt,0,I⟩)) U t) w ac:=by
 obtain⟨bx,ax,dK,ay,ec,b,ja,n,v,o,aj,ak,g,al,rfl,rfl,m,y⟩:=h;have z:gt≠ab:=λe=>by subst e;rw[n]at al;cases al
 rcases run_next_at (P:=ad) w t gt ab b b ec bx b al n v (fF _)with⟨am,r⟩|⟨e,D,aA,an,r⟩
 ·refine(j9 (aa:=bQ #[aK U]) (a:=w) ?_).2 (af ?_)
  ·unfold wM;exact gv ad _ w r
  ·have:(leftOf bx ec).toList=[]:=by rw[<-List.length_eq_zero_iff];simpa using am
   rw[this]at m;cases ja with
   |nil=>exact y.symm.eq_nil
   |cons ai ja=>cases m
 ·have J:=mem_left D;have ao:((leftOf bx ec).toList.map (·.born)).Nodup:=by unfold leftOf;rw[Array.toList_filter];exact o.sublist (List.filter_sublist.map _)
  obtain⟨i,K,L⟩:=ns D;have az:ja.length=(leftOf bx ec).toList.length:=by have:=congrArg jm m;simpa using this.symm
  have dI:i<ja.length:=A;have N:hW e=kg bz bI ja[i]:=by
   have O:((leftOf bx ec).toList.map hW)[i]?=(ja.map (kg bz bI))[i]?:=by rw[m]
   rw[e1,e1,cr K,cr dI,L]at O;simpa using O
  have R:e.key=bz ja[i].1:=congrArg (·.1) N;have V:e.val=bI ja[i].2:=congrArg (·.2) N;have c:aA.heap=w.heap/\aA.os=w.os/\aA.tape=w.tape/\aA.output=w.output:=by rcases an with rfl|rfl<;>exact⟨rfl,rfl,rfl,rfl⟩
  have aq:(leftOf bx (ec.push e.born)).toList=(leftOf bx ec).toList.eraseIdx i:=by
   rw[abU o J.1];have ar:∀(aw:List MapEntry)(j:Nat)(d:j<aw.length),(aw.map (·.born)).Nodup->(aw.filter λx=>!(x.born==(aw[j]).born))=aw.eraseIdx j:=by
    intro aw;induction aw with
    |nil=>intro j d;simp at d
    |cons x aw s=>
     intro j d g;simp only[ge,ks]at g;cases j with
     |zero=>
      rw[uv,List.getElem_cons_zero,if_neg B,List.eraseIdx_cons_zero];refine List.filter_eq_self.2 λap au=>?_;have:ap.born≠x.born:=λai=>g.1 (by rw[<-ai];exact mz (f:=(·.born)) au);simpa using this
     |succ j=>
      have X:j<aw.length:=by simpa using d
      have:x.born≠aw[j].born:=λai=>g.1 (by rw[ai];exact mz (f:=(·.born)) (dX X));rw[uv,List.getElem_cons_succ,if_pos (by simpa using this),List.eraseIdx_cons_succ,s j X g.2]
   rw[<-L];exact ar _ i K ao
  refine(j9 (aa:=bQ #[aK G,e.key,e.val]) (a:=st aA gt (.mapIter (E ab) b (ec.push e.born) b)) ?_).2 ?_
  ·unfold wM;exact gv ad _ w r
  ·rw[R,V];have ae:aA.heap[gt]?=E (.mapIter (E ab) b ec b):=by rw[c.1];exact al
   refine ag ja[i] (ja.eraseIdx i) _ (y.symm.trans ?_) ⟨bx,b,dK,b,ec.push e.born,b,ja.eraseIdx i,?_,v,o,aj,ak,g,?_,rfl,rfl,?_,.refl _⟩ ?_ ?_ ?_
   ·have:∀(aw:List (cU×aU))(j:Nat)(d:j<aw.length),aw.Perm (aw[j]::aw.eraseIdx j):=by
     intro aw;induction aw with
     |nil=>intro j d;simp at d
     |cons x aw s=>
      intro j d;cases j with
      |zero=>exact .refl _
      |succ j=>exact(List.Perm.cons x (s j (by simpa using d))).trans (List.Perm.swap _ _ _)
    exact this ja i dI
   ·rw[show(st aA gt (.mapIter (E ab) b (ec.push e.born) b)).heap[ab]?=aA.heap[ab]? from DO (Ne.symm z),c.1];exact n
   ·exact DN ae
   ·rw[aq,yD,m,<-yD]
   ·refine⟨c.2.1,c.2.2.1,c.2.2.2,by rw[<-c.1];simp[st],λk aB g=>?_⟩;rw[show(st aA gt (.mapIter (E ab) b (ec.push e.born) b)).heap[k]?=aA.heap[k]? from DO (by simpa using g),c.1]
   ·rw[<-c.1];simp[st]
   ·intro q;apply j8;unfold zM;apply gv ad _ _;have av:(st aA gt (.mapIter (E ab) b (ec.push e.born) b)).heap[ab]?=E (.map bx b):=by rw[DO (Ne.symm z),c.1];exact n
    rw[run_entry_at _ gt ab b ec bx b e (DN ae) av J.1 o,R,V]
def Pz{jA:Type}{ah:jA->Bool}:∀{aw:List jA}{j:Nat}{x:jA},aw[j]?=E x->ah x=U->(aw.eraseIdx j).filter ah=aw.filter ah
 |[],j,x,h,_=>by simp at h
 |ap::aw,0,x,h,a=>by simp only[List.getElem?_cons_zero,vq]at h;subst h;rw[List.eraseIdx_cons_zero,uv,if_neg (by rw[a];simp)]
 |ap::aw,j+1,x,h,a=>by rw[List.getElem?_cons_succ]at h;rw[List.eraseIdx_cons_succ,uv,uv,Pz h a]
def PA{l dK:List (cU×aU)}(a:dK.Perm l)(k:cU):(mh dK k).Perm (mh l k):=a.filter _
def PB(h:(bx.toList.map (·.born)).Nodup):((bx.eraseIdxIfInBounds j).toList.map (·.born)).Nodup:=by rw[Array.toList_eraseIdxIfInBounds,yD];exact h.sublist (List.eraseIdx_sublist _ _)
def PC(c:oL ad ar gS av)(f:pm ad gS bz){h:Nat}{dK:List (cU×aU)}(d:w.heap[ab]?=E (.map bx h))(e:bx.toList.map hW=dK.map (kg bz bI))(l:(dK.map (·.1)).Nodup)(k:cU):
  ∃g,(Builtin.delete_ #[ar,gS] 0 #[eB (E ab),bz k]).run ad w=bN (bQ #[]) (st w ab (.map g h))/\g.toList.map hW=(mh dK k).map (kg bz bI)/\∃aj:Option Nat,(∀j,aj=E j->∃x aa,bx.toList[j]?=E x/\dK[j]?=E (k,aa))/\g=match aj with|none=>bx|some j=>bx.eraseIdxIfInBounds j:=by
 have c:ad.underlying ar=E (.map gS av):=c;have a:=G9 (w:=w) f k bx.toList dK e;have m:=G8 e;cases b:kT dK k with
 |none=>
  rw[b]at a;have n:dv dK k=I:=by rw[DG,b];rfl
  refine⟨bx,?_,by rw[abN n];exact e,I,B,rfl⟩;simp[Builtin.delete_,fK c,pS d,f.vW,a,MapKept.run_setObj_map _ d,tn];rfl
 |some ai=>
  obtain⟨j,ae⟩:=ai;rw[b]at a;simp only[m1]at a;have i:=G3 b;have o:j<bx.toList.length:=by rw[tj,m];exact(fi.1 i).1
  refine⟨bx.eraseIdxIfInBounds j,?_,?_,E j,?_,rfl⟩
  ·simp[Builtin.delete_,fK c,pS d,f.vW,a,MapKept.run_setObj_map _ d,tn];rfl
  ·rw[Array.toList_eraseIdxIfInBounds,yD,e,<-yD,abM l b]
  ·rintro _ ⟨⟩;exact⟨_,ae,cr o,i⟩
def abV(o:oL ad ar gS av)(p:pm ad gS bz)(h:hx w ab bz bI l){k:cU}
  (q:∀a,hx a ab bz bI (mh l k)->Q [ab] w a->a.heap.size=w.heap.size->ac (bQ #[]) a):W ad (dG .delete #[ar,gS] #[eB (E ab),bz k]) w ac:=by
 obtain⟨bx,c,dK,b,d,e,r,f,g⟩:=h;have s:(dK.map (·.1)).Nodup:=((f.map _).nodup_iff).2 g;obtain⟨i,t,u,aj,v,m⟩:=PC (w:=w) o p b r s k;refine(j9 (aa:=bQ #[]) (a:=st w ab (.map i c)) ?_).2 (q _ ?_ (x9 b _) (by simp[st]))
 ·unfold dG;show(builtin .delete #[ar,gS] 0 #[] #[eB (E ab),bz k]).run ad w=_;unfold builtin;exact gv ad _ w t
 ·refine⟨i,c,mh dK k,DN b,?_,?_,u,PA f k,G5 g⟩
  ·subst m;cases aj with
   |none=>exact d
   |some j=>
    intro x n;simp only[Array.toList_eraseIdxIfInBounds]at n;exact d x ((List.eraseIdx_sublist _ _).mem n)
  ·subst m;cases aj with
   |none=>exact e
   |some j=>exact PB e
def abW{g:List (cU×aU)}(z:oL ad ar gS av)(n:pm ad gS bz)(h:p7 w gt ab bz bI l g){k:cU}(A:k∉g.map (·.1))
  (B:∀a,p7 a gt ab bz bI (mh l k) g->Q [ab] w a->a.heap.size=w.heap.size->ac (bQ #[]) a):W ad (dG .delete #[ar,gS] #[eB (E ab),bz k]) w ac:=by
 obtain⟨bx,af,dK,ag,ec,c,ja,d,o,p,q,r,s,al,rfl,rfl,i,t⟩:=h;have D:gt≠ab:=λe=>by subst e;rw[d]at al;cases al
 have J:(dK.map (·.1)).Nodup:=((r.map _).nodup_iff).2 s;obtain⟨u,K,L,aj,dI,m⟩:=PC (w:=w) z n d q J k;refine(j9 (aa:=bQ #[]) (a:=st w ab (.map u c)) ?_).2 (B _ ?_ (x9 d _) (by simp[st]))
 ·unfold dG;show(builtin .delete #[ar,gS] 0 #[] #[eB (E ab),bz k]).run ad w=_;unfold builtin;exact gv ad _ w K
 ·refine⟨u,c,mh dK k,c,ec,c,ja,DN d,?_,?_,L,PA r k,G5 s,?_,rfl,rfl,?_,t⟩
  ·subst m;cases aj with
   |none=>exact o
   |some j=>
    intro x b;simp only[Array.toList_eraseIdxIfInBounds]at b;exact o x ((List.eraseIdx_sublist _ _).mem b)
  ·subst m;cases aj with
   |none=>exact p
   |some j=>exact PB p
  ·rw[DO D];exact al
  ·subst m;cases aj with
   |none=>exact i
   |some j=>
    obtain⟨x,aa,b,N⟩:=dI j rfl;rw[<-i];congr 1;unfold leftOf;rw[Array.toList_filter,Array.toList_filter,Array.toList_eraseIdxIfInBounds];have O:(!ec.contains x.born)=U:=by
     cases ao:(!ec.contains x.born)with
     |false=>rfl
     |true=>
      exfalso;have P:x∈(leftOf bx ec).toList:=by unfold leftOf;rw[Array.toList_filter,ol];exact⟨gP b,ao⟩
      have R:hW x∈ja.map (kg bz bI):=by rw[<-i];exact mz P
      obtain⟨ah,V,v⟩:=fS.1 R;have X:hW x=kg bz bI (k,aa):=by
       have y:(bx.toList.map hW)[j]?=(dK.map (kg bz bI))[j]?:=by rw[q]
       rw[e1,e1,b,N]at y;exact re y
      rw[X]at v;have ae:ah.1=k:=n.inj _ _ (congrArg (·.1) v);exact A (by rw[<-ae];exact mz (f:=(·.1)) (t.mem_iff.1 V))
    exact Pz b O
def Hd(d b:ByteArray):(d==b)=decide (d=b):=by
 rcases d with⟨d⟩;rcases b with⟨b⟩;show(d==b)=_;by_cases h:d=b
 ·subst h;simp
 ·simp[h]
def abX(h:ad.underlying gS=E .string):pm ad gS (λs:ByteArray=>bO s)where
 inj d b e:=by cases e;rfl
 vW b d w:=by
  have e:∀ag,(Instr.checkKey b (ag+1) gS (bO d)).run ad w=bN () w:=λag=>by simp only[Instr.checkKey,fx,fK h,f7];rfl
  exact e 9999
 eq d b w:=by have:=run_equalIn_string w 9999 gS d b h;rw[z3]at this;exact this
 G6:=⟨.string,h,Y λd b=>by
  simp only[Instr.sameNow,Hd]⟩
 sM d:=by simp[Instr.sameBits,Hd]
def abY{aS:Array S}{b:Bool}(k:yb ad gS hT)(h:∀s∈hT,nV aS s)(ag:Nat):(Instr.checkKey b (ag+2) gS (b6 aS)).run ad w=bN () w:=by
 obtain⟨l,n,o,c⟩:=k;rw[show ag+2=(ag+1)+1 from rfl];simp only[Instr.checkKey,fx,fK l,f7];rw[<-Array.forIn_toList];generalize(ad.fieldsOf gS).toList=a2 at c;induction a2 generalizing hT with
 |nil=>rfl
 |cons aj a2 f=>
  cases hT with
  |nil=>cases c
  |cons s hT=>
   simp only[ge,ss]at c;obtain⟨i,g,a⟩:=FM c.1;have j:=h s fE;have f:=f (λt m=>h t (ev _ m)) c.2;obtain⟨af,ai⟩:=s;simp only at g;rcases a with⟨d,a⟩|⟨d,a⟩
   ·simp only at d;subst d;obtain⟨ak,e⟩:=j;simp only at e;simp only[List.forIn_cons,i,ne_eq,not_false_eq_true,if_true,fx,part,Cz a,f7,fc,if_false,g,e,k5,Instr.checkKey,fK a];exact f
   ·simp only at d;subst d;obtain⟨ak,e⟩:=j;simp only at e;simp only[List.forIn_cons,i,ne_eq,not_false_eq_true,if_true,fx,part,FN a,f7,fc,if_false,g,e,k5,Instr.checkKey,fK a];exact f
def abZ{be:cU->List S}(c:yb ad gS hT)(f:∀d,∀s∈hT,nV (be d).toArray s)(g:∀d b,(hT.all λs=>m9 (be d).toArray[s.1]? (be b).toArray[s.1]?)=decide (d=b))(i:∀d,Instr.sameBits 10000 (b6 (be d).toArray) (b6 (be d).toArray)=G):pm ad gS (λd:cU=>b6 (be d).toArray)where
 inj d b e:=by
  have h:=g d d;have a:=g d b;have e:(be d).toArray=(be b).toArray:=by injection e
  rw[<-e,h]at a;simpa using a.symm
 vW b d w:=abY (w:=w) (b:=b) c (f d) 9998
 eq d b w:=by obtain⟨h,a,k,j⟩:=c;have:=run_equalIn_struct w 9999 gS (be d).toArray (be b).toArray h a;rw[eqFields_flat 9998 _ _ j (λs ao=>⟨f d s ao,f b s ao⟩),g]at this;exact this
 G6:=⟨_,c.1,Z λd b=>rfl⟩
 sM:=i
end
end
structure bX(am az:List Nat)(w a:aN):Prop where
 J:Q am w a
 cq:∀g∈az,g∈am\/w.heap.size<=g
def bX.b0(am:List Nat)(w:aN):bX am am w w:=⟨Q.b0 _ _,λ_ h=>Y h⟩
def bX.iu(h:Q [] w a):bX am am w a:=⟨h.bw B,λ_ h=>Y h⟩
def bX.dP(h:bX am az w a)(b:bX az cM a ax):bX am cM w ax:=
 ⟨h.J.R b.J h.cq,λg c=>(b.cq g c).elim (h.cq g) λd=>Z (gz h.J.aI d)⟩
def bX.oM(h:bX am az w a)(b:Q [] a ax):bX am az w ax:=h.dP (.iu b)
def bX.mN(h:Q [] w a)(b:bX am az a ax):bX am az w ax:=(bX.iu h).dP b
def bX.pn(h:bX am az w a)(c:∀g∈aO,g∉am)(d:∀g∈aO,g<w.heap.size):∀g∈aO,g∉az:=λg b e=>
 (h.cq g e).elim (c g b) (λf=>by have:=d g b;omega)
def gx(an:Nat)(aa:S):Prop:=∀b af n c,aa=T (E ⟨b,af,I⟩) n c->an<=b
def gx.cW{an:Nat}(h:gx an aa)(a:∀g∈am,g<an):∀b af n c,aa=T (E ⟨b,af,I⟩) n c->b∉am:=λb af n c e d=>by have:=h b af n c e;have:=a b d;omega
def gx.bw{an cE:Nat}(h:gx an aa)(a:cE<=an):gx cE aa:=λb af n c e=>gz a (h b af n c e)
def gx.c4{an:Nat}(h:bP w av a6 aa n aS am)(a:∀g∈am,an<=g):gx an aa:=λb af ak c e=>a b (h.rt b af ak c e)
def bR(am aD:List Nat):Prop:=∀g∈am,g∉aD
def bR.nc(h:bR am aD):bR aD am:=λg a b=>h g b a
def bR.p8{ams:List Nat}(h:bR am ams)(a:bR aD ams):bR (am++aD) ams:=λg b=>(b4.1 b).elim (h g) (a g)
def bR.tV{ams:List Nat}(h:bR am aD)(b:bR am ams):bR am (aD++ams):=λg a c=>(b4.1 c).elim (h g a) (b g a)
def bR.D(am:List Nat):bR am []:=λ_ _=>B
def bR.PD(am:List Nat):bR [] am:=λ_ h=>by simp at h
def bR.d1(h:bR am aD)(a:∀g∈az,g∈am)(b:∀g∈ez,g∈aD):bR az ez:=λg c d=>h g (a g c) (b g d)
def bR.de(h:bR am aD)(d:bX am az w a)(e:∀g∈aD,g<w.heap.size):bR az aD:=λg f b=>(d.cq g f).elim (λc=>h g c b) (λc=>by have:=e g b;omega)
def bX.PE(h:bX am az w a):bX (am++aD) (az++aD) w a:=
 ⟨h.J.bw (λg b=>Y (hg _ b)),λg b=>(b4.1 b).elim (λc=>(h.cq g c).imp (λai=>hg _ ai) id) (λc=>Y (h3 _ c))⟩
def bX.He(h:bX am az w a):bX (aD++am) (aD++az) w a:=
 ⟨h.J.bw (λg b=>Y (h3 _ b)),λg b=>(b4.1 b).elim (λc=>Y (hg _ c)) (λc=>(h.cq g c).imp (λai=>h3 _ ai) id)⟩
section
variable{bH:aN->aU->List Nat->Prop}{aS b7:List aU}{x ap:aU}
def hc(bH:aN->aU->List Nat->Prop)(w:aN):List aU->List Nat->Prop
 |[],am=>am=[]
 |x::aS,am=>∃bJ cM,am=bJ++cM/\bR bJ cM/\bH w x bJ/\hc bH w aS cM
structure vX(bH:aN->aU->List Nat->Prop):Prop where
 J:∀{w a:aN}{x:aU}{am bU:List Nat},bH w x am->Q bU w a->bR am bU->bH a x am
 aL:∀{w:aN}{x:aU}{am:List Nat},bH w x am->∀g∈am,g<w.heap.size
def hc.aL(a:vX bH):∀{aS:List aU}{am:List Nat},hc bH w aS am->∀g∈am,g<w.heap.size
 |[],am,h=>by cases h;simp
 |x::aS,am,h=>by obtain⟨bJ,cM,rfl,e,b,c⟩:=h;intro g d;exact(b4.1 d).elim (a.aL b g) (hc.aL a c g)
def hc.J(c:vX bH)(d:Q bU w a):∀{aS:List aU}{am:List Nat},hc bH w aS am->bR am bU->hc bH a aS am
 |[],am,h,_=>h
 |x::aS,am,h,e=>by obtain⟨bJ,cM,rfl,f,i,j⟩:=h;exact⟨bJ,cM,rfl,f,c.J i d (e.d1 (λg b=>hg _ b) λ_ h=>h),hc.J c d j (e.d1 (λg b=>h3 _ b) λ_ h=>h)⟩
def hc.V(b:vX bH)(h:hc bH w aS am)(c:Q [] w a):hc bH a aS am:=h.J b c (bR.D _)
def hc.uO(d:vX bH):∀{aS:List aU}{am:List Nat},hc bH w aS am->bH w x bJ->bR am bJ->hc bH w (aS++[x]) (am++bJ)
 |[],am,h,a,b=>by cases h;exact⟨bJ,[],B,bR.D _,a,rfl⟩
 |ap::aS,am,h,a,b=>by obtain⟨e,cM,rfl,f,i,j⟩:=h;exact⟨e,cM++bJ,by rw[gq],f.tV (b.d1 (λg c=>hg _ c) λ_ h=>h),i,hc.uO d j a (b.d1 (λg c=>h3 _ c) λ_ h=>h)⟩
def hc.ek(c:vX bH):∀{aS:List aU}{am:List Nat}{i:Nat},hc bH w aS am->(al:i<aS.length)->∃bJ,bH w aS[i] bJ/\(∀g∈bJ,g∈am)/\∀(ap:aU)(fy:List Nat)(a:aN),bH a ap fy->bX bJ fy w a->∃az,hc bH a (aS.set i ap) az/\bX am az w a
 |[],am,i,_,al=>by simp at al
 |x::aS,am,0,h,al=>by obtain⟨bJ,cM,rfl,d,e,f⟩:=h;refine⟨bJ,e,λg j=>hg _ j,λap fy a k b=>⟨fy++cM,⟨fy,cM,rfl,d.de b (hc.aL c f),k,f.J c b.J d.nc⟩,b.PE⟩⟩
 |x::aS,am,i+1,h,al=>by obtain⟨bJ,cM,rfl,d,e,f⟩:=h;obtain⟨n,o,l,p⟩:=hc.ek c f (i:=i) (by simpa using al);refine⟨n,o,λg j=>h3 _ (l g j),λap fy a k b=>?_⟩;obtain⟨az,q,m⟩:=p ap fy a k b;exact⟨bJ++az,⟨bJ,az,rfl,(d.nc.de m (c.aL e)).nc,c.J e b.J (d.d1 (λ_ h=>h) l),q⟩,m.He⟩
def hc.G7:∀{aS b7:List aU},aS.Perm b7->∀{am:List Nat},hc bH w aS am->∃az,hc bH w b7 az/\∀g,g∈az↔g∈am:=by
 intro aS b7 k;induction k with
 |nil=>intro am h;exact⟨am,h,λ_=>.rfl⟩
 |cons x _ m=>
  rintro am ⟨bJ,cM,rfl,e,b,f⟩;obtain⟨az,c,a⟩:=m f;exact⟨bJ++az,⟨bJ,az,rfl,e.d1 (λ_ h=>h) (λg d=>(a g).1 d),b,c⟩,λg=>by rw[b4,b4,a]⟩
 |swap x ap l=>
  rintro am ⟨bJ,cM,rfl,e,b,j,i,rfl,n,c,a⟩;refine⟨j++(bJ++i),⟨j,bJ++i,rfl,bR.tV ?_ n,c,bJ,i,rfl,?_,b,a⟩,λg=>by simp only[b4];exact⟨λh=>by rcases h with h|h|h<;>simp[h],λh=>by rcases h with h|h|h<;>simp[h]⟩⟩
  ·exact(e.d1 (λ_ h=>h) λg d=>hg _ d).nc
  ·exact e.d1 (λ_ h=>h) λg d=>h3 _ d
 |trans _ _ o p=>
  intro am h;obtain⟨az,b,f⟩:=o h;obtain⟨q,c,a⟩:=p b;exact⟨q,c,λg=>(a g).trans (f g)⟩
def hc.PF(ah:aU->Bool):∀{aS:List aU}{am:List Nat},hc bH w aS am->∃az,hc bH w (aS.filter ah) az/\∀g∈az,g∈am
 |[],am,h=>⟨am,h,λ_ h=>h⟩
 |x::aS,am,h=>by
  obtain⟨bJ,cM,rfl,d,e,f⟩:=h;obtain⟨az,c,a⟩:=hc.PF ah f;rw[uv];split
  ·exact⟨bJ++az,⟨bJ,az,rfl,d.d1 (λ_ h=>h) a,e,c⟩,λg b=>(b4.1 b).elim (λai=>hg _ ai) (λai=>h3 _ (a g ai))⟩
  ·exact⟨az,c,λg b=>h3 _ (a g b)⟩
end
end Go.X
namespace Go.Proofs.YtepeilglbedgdaaGreatDoor
open Go.X
attribute[local irreducible]Go.X.W
variable{dE:Nat}{aU cU:Type}{e:eG}
section
open Go.RowKit fC gO
structure gM where
 dw:eI
 jX:List (Int×hG)
structure rG where
 dg:ByteArray
 cI:ByteArray
 d9:Int
 deriving DecidableEq
structure c3 where
 fs:List (ByteArray×List gM)
 kA:List (rG×Int)
structure nY where
 cu:Int
 bV:Int
 vY:Bool
def nD:c3:=⟨[],[]⟩
def i4:nY:=⟨0,0,U⟩
def c3.aP(s:c3)(t:ByteArray)(n:Int):Option gM:=(dv s.fs t).bind λl=>if n<0 then I else l[n.toNat]?
def c3.dt(s:c3)(t:ByteArray)(n:Int)(ah:gM):c3:=⟨match dv s.fs t with
 |none=>s.fs
 |some l=>hb s.fs t (l.set n.toNat ah),s.kA⟩
def gM.cq(first:Int):gM:=⟨⟨[],first,first⟩,[]⟩
def gM.po(ah:gM)(b:cw)(a aQ:Int):Except Int (gM×nY):=
 match ke ah.jX b.hH b.cP with
 |(_,_,E e)=>b5 e.a5
 |(x,G,I)=>bA (ah,⟨x.cu,x.bV,G⟩)
 |(_,U,I)=>if ah.dw.mf b.a7.length b.g2 a aQ=0 then bA (⟨ah.dw.kM b.a7.length b.g2 a aQ,sK ah.jX b.hH ⟨b.cP,ah.dw.cS,b.a7.length⟩⟩,⟨ah.dw.cS,b.a7.length,U⟩)else b5 (ah.dw.mf b.a7.length b.g2 a aQ)
def c3.xe(s:c3)(t:ByteArray)(i0 first:Int):Except Int c3:=
 if(dv s.fs t).isSome then b5 9 else if 8<=s.fs.length then b5 8 else bA ⟨hb s.fs t (cN i0.toNat (gM.cq first)),s.kA⟩
def c3.yE(s:c3)(t:ByteArray):Except Int c3:=
 if(dv s.fs t).isSome then bA ⟨mh s.fs t,s.kA.filter λak=>decide (ak.1.cI≠t)⟩else b5 10
def c3.AK(s:c3)(k:rG)(af:Int):Except Int c3:=
 if(dv s.kA k).isNone/\32<=s.kA.length then b5 8 else bA ⟨s.fs,hb s.kA k af⟩
def le(e:Except Int c3):Except Int (c3×nY):=match e with
 |b5 k=>b5 k
 |bA s=>bA (s,i4)
def c3.h9(s:c3)(e:eG)(a aQ:Int):Except Int (c3×nY):=
 if e.a5=1 then le (s.xe e.cI e.ie e.hF)else if e.a5=2 then le (s.yE e.cI)else match s.aP e.cI e.d9 with
 |none=>b5 10
 |some ah=>if e.a5=4 then le (s.AK ⟨e.dg,e.cI,e.d9⟩ e.cW)
  else if e.a5=5 then(if ah.dw.ph e.cW=0 then bA (s.dt e.cI e.d9 ⟨ah.dw.mM e.cW,ah.jX⟩,i4)else b5 (ah.dw.ph e.cW))
  else match ah.po e.bk a aQ with
  |b5 k=>b5 k
  |bA (jB,ag)=>bA (s.dt e.cI e.d9 jB,ag)
def DP(ak:List (Int×hG)):Prop:=∀ai∈ak,0<=ai.2.cu/\0<=ai.2.bV/\ai.2.cu+ai.2.bV<=9223372036854775807
structure gM.bp(dE:Nat)(ah:gM):Prop where
 dw:ah.dw.bp
 dT:ah.dw.eC.length<=dE
 jX:DP ah.jX
structure c3.bp(dE:Nat)(s:c3):Prop where
 yF:(s.fs.map (·.1)).Nodup
 AL:(s.kA.map (·.1)).Nodup
 fs:s.fs.length<=8
 kA:s.kA.length<=32
 kU:∀ai∈s.fs,jV ai.1=G/\1<=ai.2.length/\ai.2.length<=4/\∀ah∈ai.2,ah.bp dE
 yG:∀ak∈s.kA,0<=ak.2/\ak.2<=9223372036854775807
section
variable{s:c3}{t:ByteArray}{n:Int}{ah:gM}{ag:nY}{l:List gM}
def PG:nD.bp dE:=⟨by simp[nD],by simp[nD],by simp[nD],by simp[nD],by simp[nD],by simp[nD]⟩
def gM.bp.bw{bU:Nat}(h:ah.bp dE)(a:dE<=bU):ah.bp bU:=⟨h.dw,gz h.dT a,h.jX⟩
def c3.bp.bw{bU:Nat}(h:s.bp dE)(b:dE<=bU):s.bp bU:=⟨h.yF,h.AL,h.fs,h.kA,λai a=>⟨(h.kU ai a).1,(h.kU ai a).2.1,(h.kU ai a).2.2.1,λah c=>((h.kU ai a).2.2.2 ah c).bw b⟩,h.yG⟩
def c3.Hf(h:s.aP t n=E ah):∃l,dv s.fs t=E l/\0<=n/\n.toNat<l.length/\l[n.toNat]?=E ah:=by
 unfold c3.aP at h;cases a:dv s.fs t with
 |none=>rw[a]at h;cases h
 |some l=>
  rw[a]at h;simp only[tg]at h;split at h
  ·cases h
  ·exact⟨l,rfl,A,(fi.1 h).1,h⟩
def c3.bp.aP(h:s.bp dE)(a:s.aP t n=E ah):ah.bp dE:=by obtain⟨l,b,_,_,c⟩:=c3.Hf a;exact(h.kU _ (vV b)).2.2.2 ah (gP c)
def AM[DecidableEq cU]{l:List (cU×aU)}{k:cU}{aa:aU}{ai:cU×aU}(h:ai∈hb l k aa):ai=(k,aa)\/ai∈l:=by
 induction l with
 |nil=>simp[hb]at h;exact Y h
 |cons ah l a=>
  simp only[hb]at h;split at h
  ·rcases ce.1 h with h|h
   ·exact Y h
   ·exact Z (ev _ h)
  ·rcases ce.1 h with h|h
   ·exact Z (by rw[h];exact fE)
   ·exact(a h).imp id (ev _)
def gM.ab0(a:0<=n)(b:n<=9223372036854775807):(gM.cq n).bp dE:=
 ⟨⟨a,Int.le_refl _,b,lN.D _,λ_=>rfl,λh c=>by simp[gM.cq]at c⟩,by simp[gM.cq],by simp[gM.cq,DP]⟩
def c3.PH(h:s.bp dE){bU:Nat}(d:dE<=bU)(g:ah.bp bU):(s.dt t n ah).bp bU:=by
 have e:=h.bw d;unfold c3.dt;cases f:dv s.fs t with
 |none=>exact e
 |some l=>
  have a:=h.kU _ (vV f);refine⟨xd h.yF,h.AL,?_,h.kA,λai b=>?_,h.yG⟩
  ·show(hb s.fs t _).length<=8;rw[G4,f];exact h.fs
  ·rcases AM b with rfl|b
   ·refine⟨a.1,by simp only[i9];exact a.2.1,by simp only[i9];exact a.2.2.1,λx c=>?_⟩;rcases List.mem_or_eq_of_mem_set c with c|rfl
    ·exact(a.2.2.2 x c).bw d
    ·exact g
   ·exact e.kU ai b
def ab1{ak:List (Int×hG)}{ai:Int}{x:hG}(h:DP ak)(c:0<=x.cu)(d:0<=x.bV)(e:x.cu+x.bV<=9223372036854775807):DP (sK ak ai x):=by
 unfold sK;split
 ·exact h
 ·intro ap b;have bz:∀(l:List (Int×hG)),ap∈ka l ai x->ap=(ai,x)\/ap∈l:=by
   intro l;induction l with
   |nil=>intro a;simp[ka]at a;exact Y a
   |cons ah l f=>
    intro a;simp only[ka]at a;split at a
    ·rcases ce.1 a with a|a
     ·exact Y a
     ·exact Z (ev _ a)
    ·rcases ce.1 a with a|a
     ·exact Z (by rw[a];exact fE)
     ·exact(f a).imp id (ev _)
  rcases bz ak b with rfl|b
  ·exact⟨c,d,e⟩
  ·exact h ap b
variable{jB:gM}
def gM.Hg{b:cw}{i k:Int}(h:ah.bp dE)(c:ah.po b i k=bA (jB,ag)):jB.bp (dE+1)/\0<=ag.cu/\0<=ag.bV/\ag.cu+ag.bV<=9223372036854775807:=by
 unfold gM.po at c;split at c
 ·cases c
 ·rename_i x a;cases c;refine⟨h.bw A,?_⟩;unfold ke at a;split at a
  ·cases a
  ·split at a
   ·cases a
   ·split at a
    ·rename_i ap m;split at a
     ·cases a;have bz:∀(l:List (Int×hG)),fq l b.hH=E x->∃ai∈l,ai.2=x:=by
       intro l;induction l with
       |nil=>intro d;cases d
       |cons ah l n=>
        intro d;simp only[fq]at d;split at d
        ·cases d;exact⟨ah,fE,rfl⟩
        ·obtain⟨ai,f,o⟩:=n d;exact⟨ai,ev _ f,o⟩
      obtain⟨ai,f,rfl⟩:=bz _ m;exact h.jX ai f
     ·split at a<;>cases a
    ·split at a<;>cases a
 ·split at c
  ·rename_i j;cases c;have e:=h.dw;have p:=e.lu;have q:=e.vQ;have r:=e.vR;have g:=j;unfold eI.mf at g;split at g
   ·omega
   ·split at g
    ·omega
    ·refine⟨⟨eI.Ay e _ _ _ _,?_,ab1 h.jX (by simp only;omega) (by simp only;omega) (by simp only;omega)⟩,by simp only;omega,by simp only;omega,by simp only;omega⟩;have s:=h.dT;unfold eI.kM;rw[if_pos j];simp only[di,nt];omega
  ·cases c
def DQ:0<=i4.cu/\0<=i4.bV/\i4.cu+i4.bV<=9223372036854775807:=by simp[i4]
variable{gs:c3}
def c3.DR{i k:Int}(h:s.bp dE)(j:e.bt=G)(a:s.h9 e i k=bA (gs,ag)):gs.bp (dE+1)/\0<=ag.cu/\0<=ag.bV/\ag.cu+ag.bV<=9223372036854775807:=by
 have b:=eG.rE.1 j;have g:=h.bw (Nat.le_succ dE);unfold c3.h9 at a;split at a
 ·rename_i r;obtain⟨l,b⟩:=b;have b:1<=e.ie/\e.ie<=4/\0<=e.hF/\e.hF<=9223372036854775807:=A;unfold c3.xe at a;split at a
  ·cases a
  ·rename_i t;split at a
   ·cases a
   ·rename_i u;cases a;refine⟨⟨xd h.yF,h.AL,?_,h.kA,λai d=>?_,h.yG⟩,DQ⟩
    ·show(hb s.fs e.cI _).length<=8;rw[G4];split<;>omega
    ·rcases AM d with rfl|d
     ·refine⟨l,by simp;omega,by simp;omega,λx m=>?_⟩;rw[List.eq_of_mem_replicate m];exact gM.ab0 b.2.2.1 b.2.2.2
     ·exact g.kU ai d
 ·split at a
  ·unfold c3.yE at a;split at a
   ·cases a;refine⟨⟨G5 h.yF,h.AL.sublist (List.filter_sublist.map _),gz (List.length_filter_le _ _) h.fs,gz (List.length_filter_le _ _) h.kA,λai d=>g.kU ai ((ol.1 d).1),λak c=>h.yG ak ((ol.1 c).1)⟩,DQ⟩
   ·cases a
  ·split at a
   ·cases a
   ·rename_i ah n;have f:=h.aP n;split at a
    ·rename_i v;obtain⟨_,b⟩:=b;have b:0<=e.cW/\e.cW<=9223372036854775807:=A;unfold c3.AK at a;split at a
     ·cases a
     ·rename_i o;cases a;refine⟨⟨h.yF,xd h.AL,h.fs,?_,g.kU,λak c=>?_⟩,DQ⟩
      ·show(hb s.kA _ _).length<=32;have c:=h.kA;rw[G4];split
       ·exact c
       ·rename_i ao;simp only[Option.not_isSome_iff_eq_none]at ao;have:¬32<=s.kA.length:=λp=>o ⟨by rw[ao];rfl,p⟩;omega
      ·rcases AM c with rfl|c
       ·exact b
       ·exact h.yG ak c
    ·split at a
     ·split at a
      ·cases a;refine⟨c3.PH h (Nat.le_succ dE) ⟨eI.GJ f.dw _,?_,f.jX⟩,DQ⟩;have w:=f.dT;unfold eI.mM;split
       ·unfold eI.pg;simp only[e8];omega
       ·show ah.dw.eC.length<=dE+1;omega
      ·cases a
     ·split at a
      ·cases a
      ·rename_i jB y q;cases a;have:=gM.Hg f q;exact⟨c3.PH h (Nat.le_succ dE) this.1,this.2⟩
def lP(s:c3)(i:Nat):Nat->List (List UInt8)->Option c3
 |_,[]=>E s
 |k,x::l=>match nB x with
  |b5 _=>I
  |bA e=>match s.h9 e i k with
   |b5 _=>I
   |bA (gs,_)=>lP gs i (k+1) l
def lQ(s:c3):Nat->List (List (List UInt8))->Option c3
 |_,[]=>E s
 |i,l::av=>match lP s i 0 l with
  |none=>I
  |some gs=>lQ gs (i+1) av
def PI{i:Nat}{c5:List (List UInt8)}:∀{l:List (List UInt8)}{s:c3}{k:Nat},lP s i k (l++c5)=(lP s i k l).bind λgs=>lP gs i (k+l.length) c5
 |[],s,k=>rfl
 |x::l,s,k=>by
  simp only[jN,lP];split
  ·rfl
  ·split
   ·rfl
   ·rw[PI];simp only[gF,show k+1+l.length=k+(l.length+1)by omega]
def PJ{l:List (List UInt8)}:∀{av:List (List (List UInt8))}{s:c3}{i:Nat},lQ s i (av++[l])=(lQ s i av).bind λgs=>lP gs (i+av.length) 0 l
 |[],s,i=>by simp only[m2,lQ,tg,tl,qA];cases lP s i 0 l<;>rfl
 |x::av,s,i=>by
  simp only[jN,lQ];split
  ·rfl
  ·rw[PJ];simp only[gF,show i+1+av.length=i+(av.length+1)by omega]
def Hh{i:Nat}:∀{l:List (List UInt8)}{s gs:c3}{k dE:Nat},s.bp dE->lP s i k l=E gs->gs.bp (dE+l.length)
 |[],s,gs,k,dE,h,a=>by cases a;exact h
 |x::l,s,gs,k,dE,h,a=>by
  simp only[lP]at a;split at a
  ·cases a
  ·rename_i e b;split at a
   ·cases a
   ·rename_i d ag c;have:=Hh (c3.DR h (Dz b) c).1 a;rwa[gF,show dE+(l.length+1)=dE+1+l.length by omega]
def AN(av:List (List (List UInt8))):Nat:=(av.map jm).sum
def PK:∀{av:List (List (List UInt8))}{s gs:c3}{i dE:Nat},s.bp dE->lQ s i av=E gs->gs.bp (dE+AN av)
 |[],s,gs,i,dE,h,a=>by cases a;exact h
 |l::av,s,gs,i,dE,h,a=>by
  simp only[lQ]at a;split at a
  ·cases a
  ·rename_i c b;have:=PK (Hh h b) a;unfold AN at this⊢;rwa[ge,List.sum_cons,<-sp]
end
end
end Go.Proofs.YtepeilglbedgdaaGreatDoor
namespace Go.X
variable{aQ ak b i k n:Nat}{l:List UInt8}
def ab2(d b:ByteArray):Bool:=amA d.toList b.toList
def anb:∀(x:List UInt8),amA x x=U
 |[]=>rfl
 |d::x=>by simp[amA,anb x]
def anc:∀{x ap bm:List UInt8},amA x ap=G->amA ap bm=G->amA x bm=G
 |_,[],_,h,_=>by simp[amA]at h
 |_,_::_,[],_,h=>by simp[amA]at h
 |[],b::ap,c::bm,_,_=>rfl
 |d::x,b::ap,c::bm,e,a=>by
  simp only[amA,pP,dA,decide_eq_true_eq,beq_iff_eq]at e a⊢;rcases e with e|⟨rfl,e⟩
  ·rcases a with a|⟨rfl,a⟩
   ·exact Y (UInt8.lt_trans e a)
   ·exact Y e
  ·rcases a with a|⟨rfl,a⟩
   ·exact Y a
   ·exact Z ⟨rfl,anc e a⟩
def ane:∀{x ap:List UInt8},amA x ap=U->amA ap x=U->x=ap
 |[],[],_,_=>rfl
 |[],b::ap,h,_=>by simp[amA]at h
 |d::x,[],_,h=>by simp[amA]at h
 |d::x,b::ap,a,c=>by
  simp only[amA,Bool.or_eq_false_iff,Bool.and_eq_false_iff,decide_eq_false_iff_not,beq_eq_false_iff_ne]at a c;have e:d=b:=by have f:=UInt8.not_lt.1 a.1;have g:=UInt8.not_lt.1 c.1;exact UInt8.le_antisymm g f
  subst e;have i:amA x ap=U:=by simpa using a.2
  have j:amA ap x=U:=by simpa using c.2
  rw[ane i j]
def anG{d b:ByteArray}(h:d.toList=b.toList):d=b:=by have:=z3 d b;rw[h]at this;simpa using this
def anH(d:ByteArray):ab2 d d=U:=anb _
def anf{d b c:ByteArray}(h:ab2 d b=G)(a:ab2 b c=G):ab2 d c=G:=anc h a
def anI{d b:ByteArray}(h:ab2 d b=U)(a:ab2 b d=U):d=b:=anG (ane h a)
def anJ{d b:ByteArray}(h:ab2 d b=G):ab2 b d=U:=by
 cases a:ab2 b d with
 |false=>rfl
 |true=>have:=anf h a;rw[anH]at this;cases this
def amC(l:List ByteArray):Prop:=l.Pairwise λd b=>ab2 b d=U
def PL(x:ByteArray):List ByteArray->List ByteArray
 |[]=>[x]
 |ap::l=>if ab2 x ap then x::ap::l else ap::PL x l
def ab3(l:List ByteArray):List ByteArray:=l.foldr PL []
def amY(x:ByteArray):∀l:List ByteArray,(PL x l).Perm (x::l)
 |[]=>.refl _
 |ap::l=>by
  unfold PL;split
  ·exact .refl _
  ·exact(List.Perm.cons ap (amY x l)).trans (List.Perm.swap _ _ _)
def amK:∀l:List ByteArray,(ab3 l).Perm l
 |[]=>.refl _
 |x::l=>(amY x _).trans (List.Perm.cons x (amK l))
def ang{x:ByteArray}:∀{l:List ByteArray},amC l->amC (PL x l)
 |[],_=>by simp[PL,amC]
 |ap::l,h=>by
  unfold amC at h⊢;rw[List.pairwise_cons]at h;unfold PL;split
  ·rename_i b;refine List.pairwise_cons.2 ⟨λbm a=>?_,List.pairwise_cons.2 h⟩;rcases ce.1 a with rfl|a
   ·exact anJ b
   ·cases d:ab2 bm x with
    |false=>rfl
    |true=>have c:=h.1 bm a;rw[anf d b]at c;cases c
  ·rename_i b;refine List.pairwise_cons.2 ⟨λbm a=>?_,ang h.2⟩;rcases ce.1 ((amY x l).mem_iff.1 a)with rfl|a
   ·simpa using b
   ·exact h.1 bm a
def anh:∀l:List ByteArray,amC (ab3 l)
 |[]=>by simp[ab3,amC]
 |x::l=>ang (anh l)
def ani:∀{l ak:List ByteArray},amC l->amC ak->l.Perm ak->l=ak
 |[],ak,_,_,b=>b.symm.eq_nil.symm
 |x::l,[],_,_,b=>b.eq_nil
 |x::l,ap::ak,c,d,b=>by
  unfold amC at c d;rw[List.pairwise_cons]at c d;have f:x=ap:=by
   rcases ce.1 (b.mem_iff.1 (fE (a:=x) (l:=l)))with h|h
   ·exact h
   ·rcases ce.1 (b.mem_iff.2 (fE (a:=ap) (l:=ak)))with e|e
    ·exact e.symm
    ·exact anI (d.1 x h) (c.1 ap e)
  subst f;rw[ani c.2 d.2 b.cons_inv]
def anj{l ak:List ByteArray}(h:amC l)(a:l.Perm ak):l=ab3 ak:=ani h (anh ak) (a.trans (amK ak).symm)
def xf:Nat:=2197175160
def p9(c:Nat):Nat:=if c%2=1 then(c/2)^^^xf else c/2
def i5:Nat->Nat->Nat
 |0,c=>c
 |k+1,c=>i5 k (p9 c)
def yH(c x:Nat):Nat:=i5 8 ((c^^^x)%256)^^^(c/256)
def nd(c:Nat)(b:List UInt8):Nat:=b.foldl (λc x=>yH c x.toNat) c
def rH(b:List UInt8):Nat:=4294967295^^^nd 4294967295 b
def ab4(d b:Nat):(d^^^b)/2=d/2^^^b/2:=by apply Nat.eq_of_testBit_eq;intro i;rw[Nat.testBit_xor,Nat.testBit_div_two,Nat.testBit_div_two,Nat.testBit_div_two,Nat.testBit_xor]
def ab5(d b:Nat):(d^^^b)%2=(d%2+b%2)%2:=by have h:=Nat.testBit_xor (x:=d) (y:=b) (i:=0);simp only[Nat.testBit_zero]at h;rcases Nat.mod_two_eq_zero_or_one (d^^^b)with a|a<;>rcases Nat.mod_two_eq_zero_or_one d with c|c<;>rcases Nat.mod_two_eq_zero_or_one b with e|e<;>rw[c,e,a]at h<;>(rw[c,e,a];first|done|exact absurd h (by decide))
def PM{c:Nat}(h:c<4294967296):p9 c<4294967296:=by
 unfold p9;split
 ·exact su (n:=32) A (by decide)
 ·omega
def DS:∀(k:Nat){c:Nat},c<4294967296->i5 k c<4294967296
 |0,_,h=>h
 |k+1,_,h=>DS k (PM h)
def ab6(d b:Nat):p9 (d^^^b)=p9 d^^^p9 b:=by
 unfold p9;rw[ab5,ab4];rcases Nat.mod_two_eq_zero_or_one d with a|a<;>rcases Nat.mod_two_eq_zero_or_one b with c|c<;>rw[a,c]<;>simp
 ·rw[sv]
 ·rw[sv,sv,Nat.xor_comm xf]
 ·rw[sv,<-sv xf,Nat.xor_comm xf,sv,Nat.xor_self,Nat.xor_zero]
def DT:∀(k d b:Nat),i5 k (d^^^b)=i5 k d^^^i5 k b
 |0,_,_=>rfl
 |k+1,d,b=>by rw[i5,ab6,DT k];rfl
def ab7{c:Nat}(h:c<4294967296)(a:p9 c=0):c=0:=by
 unfold p9 at a;split at a
 ·have b:c/2=xf:=by have:=congrArg (·^^^xf) a;simpa[sv]using this
  unfold xf at b;omega
 ·omega
def PN:∀(k:Nat){c:Nat},c<4294967296->i5 k c=0->c=0
 |0,_,_,h=>h
 |k+1,_,h,a=>ab7 h (PN k (PM h) a)
def ab8{d:Nat}(h:d^^^b=0):d=b:=by have:=congrArg (·^^^b) h;simpa[sv]using this
def PO{d:Nat}(a:d<4294967296)(c:b<4294967296)(h:i5 k d=i5 k b):d=b:=by refine ab8 (PN k (su (n:=32) a c) ?_);rw[DT,h,Nat.xor_self]
def Hi:∀(k ae:Nat),i5 k (2^k*ae)=ae
 |0,ae=>by simp[i5]
 |k+1,ae=>by
  have e:2^(k+1)*ae=2*(2^k*ae):=by rw[Nat.pow_succ,Nat.mul_comm (2^k) 2,Nat.mul_assoc]
  rw[i5,e];have:p9 (2*(2^k*ae))=2^k*ae:=by unfold p9;rw[if_neg A];omega
  rw[this,Hi k]
def ab9(n:Nat):n=(n%256)^^^(256*(n/256)):=by
 apply Nat.eq_of_testBit_eq;intro i;rw[Nat.testBit_xor,show(256:Nat)=2^8 from rfl,Nat.testBit_mod_two_pow,Nat.testBit_two_pow_mul,Nat.testBit_div_two_pow];by_cases h:i<8
 ·have a:¬i>=8:=A;simp[h,a]
 ·have a:i>=8:=A;simp[h,a]
def PP{c x:Nat}(a:x<256):(c^^^x)/256=c/256:=by apply Nat.eq_of_testBit_eq;intro i;rw[show(256:Nat)=2^8 from rfl,Nat.testBit_div_two_pow,Nat.testBit_div_two_pow,Nat.testBit_xor,Nat.testBit_lt_two_pow (x:=x) (iL a (by rw[show(256:Nat)=2^8 from rfl];exact pU (by decide) A))];simp
def DU{c x:Nat}(a:x<256):yH c x=i5 8 (c^^^x):=by
 unfold yH;conv=>rhs;rw[ab9 (c^^^x),DT,show(256:Nat)=2^8 from rfl,Hi]
 rw[show(2:Nat)^8=256 from rfl,PP a]
def Hj{c x:Nat}(a:c<4294967296)(b:x<256):yH c x<4294967296:=by rw[DU b];exact DS 8 (su (n:=32) a A)
def vZ(x:UInt8):x.toNat<256:=x.toNat_lt
def yI:∀(b:List UInt8){c:Nat},c<4294967296->nd c b<4294967296
 |[],_,h=>h
 |x::b,_,h=>yI b (Hj h (vZ x))
def Hk(b:List UInt8):rH b<4294967296:=su (n:=32) (by decide) (yI b (by decide))
def AO(c:Nat)(d b:List UInt8):nd c (d++b)=nd (nd c d) b:=by simp[nd]
def PQ:∀(b:List UInt8){c ag:Nat},c<4294967296->ag<4294967296->nd c b=nd ag b->c=ag
 |[],_,_,_,_,h=>h
 |x::b,c,ag,a,d,h=>by have e:=PQ b (Hj a (vZ x)) (Hj d (vZ x)) h;have f:=vZ x;rw[DU f,DU f]at e;have g:=PO (su (n:=32) a A) (su (n:=32) d A) e;have:=congrArg (·^^^x.toNat) g;simpa[sv]using this
def nZ:List UInt8->Nat
 |[]=>0
 |x::l=>x.toNat^^^(256*nZ l)
def PR:∀(l:List UInt8),nZ l<2^(8*l.length)
 |[]=>by simp[nZ]
 |x::l=>by
  have h:=PR l;have a:=vZ x;have e:2^(8*(x::l).length)=256*2^(8*l.length):=by rw[gF,Nat.mul_add,Nat.pow_add,Nat.mul_comm]
  refine su (x:=x.toNat) ?_ ?_
  ·rw[e];have:=Nat.one_le_two_pow (n:=8*l.length);omega
  ·rw[e];omega
def Hl:∀(l:List UInt8)(c:Nat),nd c l=i5 (8*l.length) (c^^^nZ l)
 |[],c=>by simp[nd,i5,nZ]
 |x::l,c=>by
  have h:nd c (x::l)=nd (yH c x.toNat) l:=rfl;have add:∀(ak k c:Nat),i5 (k+ak) c=i5 k (i5 ak c):=by
   intro ak;induction ak with
   |zero=>intro k c;rfl
   |succ ak a=>intro k c;rw[<-sp,i5,a];rfl
  rw[h,Hl l,DU (vZ x),gF,Nat.mul_add,add];congr 1;show _=i5 8 (c^^^nZ (x::l));rw[nZ,<-sv,DT 8 (c^^^x.toNat)];congr 1;exact(Hi 8 (nZ l)).symm
def PS:∀(d b:List UInt8),d.length=b.length->nZ d=nZ b->d=b
 |[],[],_,_=>rfl
 |[],_::_,h,_=>by simp at h
 |_::_,[],h,_=>by simp at h
 |x::d,ap::b,h,c=>by
  rw[nZ,nZ]at c;have a:∀(x:UInt8)(ae:Nat),(x.toNat^^^(256*ae))%256=x.toNat/\(x.toNat^^^(256*ae))/256=ae:=by
   intro x ae;have e:=vZ x;constructor
   ·apply Nat.eq_of_testBit_eq;intro i;rw[show(256:Nat)=2^8 from rfl,Nat.testBit_mod_two_pow,Nat.testBit_xor,Nat.testBit_two_pow_mul];by_cases al:i<8
    ·have j:¬i>=8:=A;simp[al,j]
    ·rw[Nat.testBit_lt_two_pow (x:=x.toNat) (iL e (by rw[show(256:Nat)=2^8 from rfl];exact pU (by decide) A))];simp[al]
   ·rw[Nat.xor_comm,PP e];omega
  have f:=(a x (nZ d)).1;rw[c,(a ap (nZ b)).1]at f;have g:=(a x (nZ d)).2;rw[c,(a ap (nZ b)).2]at g;rw[nN.1 f,PS d b (by simpa using h) g.symm]
def aca{ah x ap s:List UInt8}(a:x.length=ap.length)(d:x.length<=4)(h:rH (ah++x++s)=rH (ah++ap++s)):x=ap:=by
 have e:nd 4294967295 (ah++x++s)=nd 4294967295 (ah++ap++s):=by have:=congrArg (4294967295^^^·) h;unfold rH at this;simpa only[<-sv,Nat.xor_self,Nat.zero_xor]using this
 rw[AO,AO,AO _ (ah++ap),AO _ ah ap]at e;have b:=yI ah (c:=4294967295) (by decide);have f:=PQ s (yI x b) (yI ap b) e;rw[Hl x,Hl ap,a]at f;have qm:∀l:List UInt8,l.length<=4->nZ l<4294967296:=λl a=>iL (PR l) (by
  have:2^(8*l.length)<=2^32:=pU (by decide) A;simpa using this)
 have g:=PO (su (n:=32) b (qm x d)) (su (n:=32) b (qm ap (a▸d))) f;apply PS x ap a;have:=congrArg (nd 4294967295 ah^^^·) g;simpa only[<-sv,Nat.xor_self,Nat.zero_xor]using this
def fV(k n:Nat):List UInt8:=eU (n:Nat) k
def nE(k n:Nat):(fV k n).length=k:=jp _ _
def acb(k:Nat)(a:n<256^k)(b:ak<256^k)(h:fV k n=fV k ak):n=ak:=by rw[<-uP k n a,<-uP k ak b];exact congrArg fe h
structure dQ where
 a5:Int
 lw:Int
 e4:Int
 g4:Int
 hy:List UInt8
deriving DecidableEq
structure dQ.bp(aj:dQ):Prop where
 kh:1<=aj.a5
 jY:aj.a5<=3
 lR:0<=aj.lw
 jZ:aj.lw<=7
 Hm:0<=aj.e4
 Hn:aj.e4<=63
 v0:0<=aj.g4
 Ho:aj.g4<=1152921504606846976
 dT:aj.hy.length=108
def dQ.br(aj:dQ):List UInt8:=[83,84,ed aj.a5.toNat,ed aj.lw.toNat]++fV 4 aj.e4.toNat++fV 8 aj.g4.toNat++aj.hy
def dQ.e5(aj:dQ):List UInt8:=aj.br++fV 4 (rH aj.br)
def dQ.bp.xg{aj:dQ}(h:aj.bp):aj.br.length=124:=by simp[dQ.br,nE,h.dT]
def dQ.bp.xh{aj:dQ}(h:aj.bp):aj.e5.length=128:=by simp[dQ.e5,nE,h.xg]
def xi(b:List UInt8):Prop:=∀aj:dQ,aj.bp->aj.e5≠b
def PT{b:List UInt8}(h:¬(b[0]?=E 83/\b[1]?=E 84)):xi b:=by intro aj c a;subst a;exact h ⟨rfl,rfl⟩
def acc{aj:dQ}(a:aj.bp){b:List UInt8}(r:aQ<=120)(s:b.length=128)(h:∀i,i<aQ\/aQ+4<=i->b[i]?=aj.e5[i]?)(n:b≠aj.e5):xi b:=by
 intro g c o;subst o;have p:=a.xh;have bz:∀(ae:dQ),ae.bp->ae.e5.take 124=ae.br/\ae.e5.drop 124=fV 4 (rH ae.br):=by intro ae d;have:=d.xg;unfold dQ.e5;exact⟨by rw[<-this,tk],by rw[<-this,List.drop_left]⟩
 have j:g.e5.take aQ=aj.e5.take aQ:=by
  apply qC;intro i;by_cases al:i<aQ
  ·rw[List.getElem?_take_of_lt al,List.getElem?_take_of_lt al,h i (Y al)]
  ·rw[List.getElem?_take_eq_none A,List.getElem?_take_eq_none A]
 have f:g.e5.drop (aQ+4)=aj.e5.drop (aQ+4):=by apply qC;intro i;rw[oo,oo,h _ (Z A)]
 have k:g.e5.drop 124=aj.e5.drop 124:=by have:=congrArg (List.drop (120-aQ)) f;rw[oq,oq,show aQ+4+(120-aQ)=124 by omega]at this;exact this
 rw[(bz g c).2,(bz aj a).2]at k;have l:=acb 4 (by have:=Hk g.br;omega) (by have:=Hk aj.br;omega) k;have m:∀(ae:dQ),ae.bp->ae.br=ae.e5.take aQ++(ae.e5.drop aQ).take 4++(ae.e5.drop (aQ+4)).take (120-aQ):=by
  intro ae d;rw[<-(bz ae d).1];have e:ae.e5.take 124=ae.e5.take (aQ+4+(120-aQ)):=by congr 1;omega
  rw[e,List.take_add,List.take_add]
 rw[m g c,m aj a,j,f]at l;have q:=aca (by simp[c.xh,p]) (by simp;omega) l;apply n;rw[<-l3 aQ g.e5,<-l3 aQ aj.e5,j];congr 1;rw[<-l3 4 (g.e5.drop aQ),<-l3 4 (aj.e5.drop aQ),q];congr 1;rw[oq,oq,f]
def dQ.n0(aj:dQ):Prop:=(1<=aj.a5/\aj.a5<=3)/\(0<=aj.lw/\aj.lw<=7)/\(0<=aj.e4/\aj.e4<=63)/\0<=aj.g4/\aj.g4<=1152921504606846976
instance(aj:dQ):Decidable aj.n0:=by unfold dQ.n0;exact inferInstance
def DV{aj:dQ}(a:aj.hy.length=108):aj.n0↔aj.bp:=⟨λ⟨⟨d,b⟩,⟨c,ag⟩,⟨e,g⟩,i,j⟩=>⟨d,b,c,ag,e,g,i,j,a⟩,λh=>⟨⟨h.kh,h.jY⟩,⟨h.lR,h.jZ⟩,⟨h.Hm,h.Hn⟩,h.v0,h.Ho⟩⟩
def ga(n:Nat):List UInt8:=[ed n,ed (n/256)]
def g5(l:List (List UInt8)):List UInt8:=l.flatMap λx=>ga x.length++x
def uV:Nat->List UInt8->List (List UInt8)
 |0,_=>[]
 |_+1,[]=>[]
 |_+1,[_]=>[]
 |aj+1,x::ap::t=>if x.toNat+256*ap.toNat=0\/t.length<x.toNat+256*ap.toNat then[]else t.take (x.toNat+256*ap.toNat)::uV aj (t.drop (x.toNat+256*ap.toNat))
def PU:∀(aj g:Nat)(b:List UInt8),b.length<=aj->b.length<=g->uV aj b=uV g b
 |0,0,_,_,_=>rfl
 |0,g+1,b,h,_=>by obtain rfl:=rc (by omega:b.length=0);rfl
 |aj+1,0,b,_,h=>by obtain rfl:=rc (by omega:b.length=0);rfl
 |aj+1,g+1,[],_,_=>rfl
 |aj+1,g+1,[_],_,_=>rfl
 |aj+1,g+1,x::ap::t,a,c=>by simp only[gF]at a c;unfold uV;rw[PU aj g _ (by rw[e8];omega) (by rw[e8];omega)]
def tW(b:List UInt8):List (List UInt8):=uV b.length b
def acd{b:List UInt8}(h:b.length<2):tW b=[]:=by
 match b,h with
 |[],_=>rfl
 |[_],_=>rfl
def Hp(x ap:UInt8)(t:List UInt8):tW (x::ap::t)=if x.toNat+256*ap.toNat=0\/t.length<x.toNat+256*ap.toNat then[]else t.take (x.toNat+256*ap.toNat)::tW (t.drop (x.toNat+256*ap.toNat)):=by show(if _ then[]else _::uV (t.length+1) _)=_;rw[PU (t.length+1) (t.drop (x.toNat+256*ap.toNat)).length _ (by rw[e8];omega) (fF _)];rfl
def ace(h:n<65536):(ed n).toNat+256*(ed (n/256)).toNat=n:=by simp only[mx];omega
def PV:∀(l:List (List UInt8))(ak:Nat),(∀x∈l,x≠[]/\x.length<65536)->tW (g5 l++cN ak 0)=l
 |[],ak,_=>by
  show tW (cN ak 0)=[]
  match ak with
  |0=>rfl
  |1=>rfl
  |ak+2=>
   rw[List.replicate_succ,List.replicate_succ,Hp,if_pos (Y (by rfl))]
 |x::l,ak,h=>by
  obtain⟨a,b⟩:=h x (fE);have d:0<x.length:=List.length_pos_iff.2 a;have e:g5 (x::l)++cN ak 0=ed x.length::ed (x.length/256)::(x++(g5 l++cN ak 0)):=by simp[g5,ga]
  rw[e,Hp,ace b,if_neg (by rw[di];omega),tk,List.drop_left,PV l ak λap c=>h ap (ev _ c)]
def acf(l:List (List UInt8))(x:List UInt8):g5 (l++[x])=g5 l++ga x.length++x:=by simp[g5]
def xj(n:Nat)(l:List UInt8):List UInt8:=l++cN (n-l.length) 0
def Hq(h:l.length<=n):(xj n l).length=n:=by simp[xj];omega
def jh(s:Nat):Nat->List UInt8->List (List UInt8)
 |0,_=>[]
 |k+1,b=>xj s (b.take s)::jh s k (b.drop s)
def acg(s:Nat):∀(k:Nat)(b:List UInt8),(jh s k b).length=k
 |0,_=>rfl
 |k+1,b=>by rw[jh,gF,acg s k]
def ach(s:Nat):∀(k:Nat)(b:List UInt8),∀x∈jh s k b,x.length=s
 |0,_,x,h=>by cases h
 |k+1,b,x,h=>by
  rcases ce.1 h with rfl|h
  ·exact Hq (by rw[ea];omega)
  ·exact ach s k _ x h
def PW(s:Nat):∀(k:Nat)(b:List UInt8),b.length<=k*s->(jh s k b).flatten=b++cN (k*s-b.length) 0
 |0,b,h=>by rw[Nat.zero_mul]at h;obtain rfl:=rc (by omega:b.length=0);simp[jh]
 |k+1,b,h=>by
  rw[iM,sq]at h⊢;rw[jh,List.flatten_cons,PW s k (b.drop s) (by rw[e8];omega)];unfold xj;by_cases a:s<=b.length
  ·rw[ea,my a,k6,List.replicate_zero,kJ,<-gq,l3,e8];congr 2;omega
  ·rw[mv A,uu A,m2,gq,List.replicate_append_replicate];congr 2;simp;omega
def PX(s:Nat):∀(k:Nat)(b:List UInt8),(jh s (k+1) b).flatten=(jh s k b).flatten++xj s ((b.drop (k*s)).take s)
 |0,b=>by simp[jh]
 |k+1,b=>by rw[jh,List.flatten_cons,PX s k (b.drop s),jh,List.flatten_cons,gq,oq];rw[show s+k*s=(k+1)*s by rw[iM,sq,Nat.add_comm]]
def PY(s k:Nat)(b:List UInt8):(jh s k b).flatten.length=k*s:=by
 induction k generalizing b with
 |zero=>simp[jh]
 |succ k a=>
  rw[jh,List.flatten_cons,di,a,Hq (by rw[ea];omega),iM,sq,Nat.add_comm]
def lf(k:Nat)(l:List (List UInt8)):Bool:=!l.isEmpty&&l.all (λx=>!x.isEmpty)&&decide ((g5 l).length<=k*108)
def AP:∀{l:List (List UInt8)}{x:List UInt8},x∈l->x.length+2<=(g5 l).length
 |ap::l,x,h=>by
  have e:(g5 (ap::l)).length=2+ap.length+(g5 l).length:=by simp[g5,ga];omega
  rcases ce.1 h with rfl|h
  ·omega
  ·have:=AP h;omega
def aci{l:List (List UInt8)}(h:i<l.length):g5 (l.take (i+1))=g5 (l.take i)++ga l[i].length++l[i]:=by rw[jO h,acf]
def xk{l:List (List UInt8)}:lf k l=G↔l≠[]/\(∀x∈l,x≠[])/\(g5 l).length<=k*108:=by simp[lf,and_assoc]
end Go.X
namespace Go.Proofs.YtepeilglbedgdaaGreatDoor
open Go.X
attribute[local irreducible]Go.X.W
variable{aX ak i k k7 n t:Nat}{cp:Nat -> Bool}{d:dl}{e:eG}{gs:c3}{jB:gM}
section
open Go.RowKit fC gO
abbrev ji:=List (List (List UInt8))
structure cK where
 cx:ji
 bd:c3
 cn:List (Nat×dl)
 cQ:Nat
def ki(d:dl)(k:Int):dn:=⟨max 0 (min d.dF 4294967295),k,0,0,[],[]⟩
def pp(av:ji)(cp:Nat->Bool)(h:gZ):Option (List UInt8):=
 if cp h.e4.toNat then I else match(av.getD h.e4.toNat [])[h.yq.toNat]? with
 |none=>I
 |some x=>match nB x with
  |b5 _=>I
  |bA e=>if e.a5=3 then E e.bk.ch else I
def rI(av:ji)(cp:Nat->Bool)(gG:Int):Nat->List (Int×ByteArray)->List gZ->Option (List (Int×ByteArray))
 |_,dM,[]=>E dM
 |dj,dM,h::ao=>match pp av cp h with
  |none=>if dM.isEmpty then I else E dM
  |some ag=>if dM.isEmpty=U/\gG<(dj+ag.length:Nat)then E dM else rI av cp gG (dj+ag.length) (dM++[(h.cu,h7 ag)]) ao
def mO(av:ji)(cp:Nat->Bool)(d:dl)(aw:eI):dn:=
 if aw.mg d.cW=0 then(match rI av cp d.gK 0 [] ((aw.jd d.cW).take 4)with
 |none=>ki d 6
 |some l=>⟨d.dF,0,aw.hE,aw.cS,[],l⟩)
 else⟨d.dF,aw.mg d.cW,aw.hE,aw.cS,[],[]⟩
def mi(av:ji)(cp:Nat->Bool)(s:c3)(d:dl):dn:=
 if d.a5=6 then⟨d.dF,0,0,0,ab3 (s.fs.map (·.1)),[]⟩else match s.aP d.cI d.d9 with
 |none=>ki d 10
 |some ah=>if d.a5=9 then(match dv s.kA ⟨d.dg,d.cI,d.d9⟩with
  |none=>ki d 10
  |some af=>⟨d.dF,0,af,ah.dw.cS,[],[]⟩)
  else if d.a5=8 then⟨d.dF,0,ah.dw.cy d.mL,ah.dw.cS,[],[]⟩else mO av cp d ah.dw
def cK.kV(b:cK)(cp:Nat->Bool)(d:dl):cK×Option dn:=
 if d.bt then(if i3 d.a5 then(if 16<=b.cn.length then({b with cQ:=b.cQ+1},E (ki d 8))else({b with cQ:=b.cQ+1,cn:=b.cn++[(b.cQ+1,d)]},I))
  else({b with cQ:=b.cQ+1},E (mi b.cx cp b.bd d)))
 else({b with cQ:=b.cQ+1},E (ki d 1))
structure fM where
 bd:c3
 f2:List (List UInt8)
 fW:List (Nat×dn)
def lS(k k7:Nat)(g:fM)(t:Nat)(d:dl):Option fM:=match g.bd.h9 d.c2 k7 g.f2.length with
 |b5 x=>E ⟨g.bd,g.f2,g.fW++[(t,ki d x)]⟩
 |bA (gs,ag)=>if ag.vY then E ⟨g.bd,g.f2,g.fW++[(t,⟨d.dF,0,ag.cu,ag.cu+ag.bV,[],[]⟩)]⟩
  else if lf k [d.c2.ch]=U then E ⟨g.bd,g.f2,g.fW++[(t,ki d 11)]⟩
  else if lf k (g.f2++[d.c2.ch])=U then I
  else E ⟨gs,g.f2++[d.c2.ch],g.fW++[(t,⟨d.dF,0,ag.cu,ag.cu+ag.bV,[],[]⟩)]⟩
def mP(k k7:Nat):fM->List (Nat×dl)->fM
 |g,[]=>g
 |g,w::ef=>match lS k k7 g w.1 w.2 with
  |none=>g
  |some a=>mP k k7 a ef
def cK.dg(b:cK)(k aX:Nat):cK×List (Nat×dn):=
 let g:=mP k b.cx.length ⟨b.bd,[],[]⟩ b.cn
 if g.f2.isEmpty then({b with cn:=b.cn.drop g.fW.length},g.fW)
 else if b.cx.length<aX then({b with cx:=b.cx++[g.f2],bd:=g.bd,cn:=b.cn.drop g.fW.length},g.fW)
 else({b with cn:=b.cn.drop g.fW.length},(g.fW.zip b.cn).map λai=>(ai.1.1,ki ai.2.2 8))
def ne(k aX:Nat):Nat->cK->cK×List (Nat×dn)
 |0,b=>(b,[])
 |n+1,b=>if b.cn.isEmpty then(b,[])else((ne k aX n (b.dg k aX).1).1,(b.dg k aX).2++(ne k aX n (b.dg k aX).1).2)
def cK.j0(b:cK)(k aX:Nat):cK×List (Nat×dn):=ne k aX b.cn.length b
structure cK.bp(b:cK)(aX:Nat):Prop where
 nf:lQ nD 0 b.cx=E b.bd
 dT:b.cx.length<=aX
 n1:∀l∈b.cx,l.length<=16
 iG:b.cn.length<=16
 jU:∀w∈b.cn,w.2.bt=G/\i3 w.2.a5=G
def acj{av:ji}(h:∀l∈av,l.length<=16):AN av<=16*av.length:=by
 induction av with
 |nil=>simp[AN]
 |cons l av a=>
  have:=a λx b=>h x (ev _ b);have:=h l fE;unfold AN at*;rw[ge,List.sum_cons,gF];omega
def cK.bp.bd{b:cK}(h:b.bp n)(a:n<=64):b.bd.bp 1024:=by have:=PK (dE:=0) PG h.nf;refine this.bw ?_;have:=acj h.n1;have:=h.dT;omega
structure fM.bp(g:fM)(s:c3)(k7 ak:Nat):Prop where
 nf:lP s k7 0 g.f2=E g.bd
 hm:g.f2.length<=g.fW.length
 dT:g.fW.length=ak
def ack(h:e.bt=G):e.ch≠[]:=by rw[(eG.qT h).1];simp
def Hr{g c:fM}{s:c3}(h:g.bp s k7 ak)(e:d.c2.bt=G)(a:lS k k7 g t d=E c):c.bp s k7 (ak+1):=by
 obtain⟨b,i,j⟩:=h;unfold lS at a;split at a
 ·cases a;exact⟨b,by simp only[di,nt];omega,by simp only[di,nt];omega⟩
 ·rename_i gs ag f;split at a
  ·cases a;exact⟨b,by simp only[di,nt];omega,by simp only[di,nt];omega⟩
  ·split at a
   ·cases a;exact⟨b,by simp only[di,nt];omega,by simp only[di,nt];omega⟩
   ·split at a
    ·cases a
    ·cases a;refine⟨?_,by simp only[di,nt];omega,by simp only[di,nt];omega⟩;show lP s k7 0 (g.f2++[d.c2.ch])=E gs;rw[PI,b];simp only[tg,lP,G0 e,gQ,f]
def PZ{k k7:Nat}{s:c3}:∀{ef:List (Nat×dl)}{ak:Nat}{g:fM},g.bp s k7 ak->(∀w∈ef,w.2.c2.bt=G)->∃a,(mP k k7 g ef).bp s k7 a/\ak<=a/\a<=ak+ef.length
 |[],ak,g,h,_=>⟨ak,h,fF _,fF _⟩
 |w::ef,ak,g,h,b=>by
  unfold mP;split
  ·exact⟨ak,h,fF _,A⟩
  ·rename_i f c;obtain⟨a,d,i,j⟩:=PZ (Hr h (b w fE) c) (λx e=>b x (ev _ e));exact⟨a,d,A,by rw[gF];omega⟩
def acl{s:c3}(ar:List (Nat×dn)):∃a,lS k k7 ⟨s,[],ar⟩ t d=E a:=by
 unfold lS;split
 ·exact⟨_,rfl⟩
 ·split
  ·exact⟨_,rfl⟩
  ·split
   ·exact⟨_,rfl⟩
   ·rename_i b;rw[if_neg (by simpa using b)];exact⟨_,rfl⟩
def Hs(b:cK)(k aX:Nat)(h:b.bp n)(a:b.cn≠[]):∃ak,(mP k b.cx.length ⟨b.bd,[],[]⟩ b.cn).bp b.bd b.cx.length ak/\1<=ak/\ak<=b.cn.length:=by
 have c:∀w∈b.cn,w.2.c2.bt=G:=λw a=>tU (h.jU w a).1 (h.jU w a).2;have g:(⟨b.bd,[],[]⟩:fM).bp b.bd b.cx.length 0:=⟨rfl,fF _,rfl⟩;cases e:b.cn with
 |nil=>exact absurd e a
 |cons w ef=>
  rw[e]at c;obtain⟨l,f⟩:=acl (k:=k) (k7:=b.cx.length) (t:=w.1) (s:=b.bd) (d:=w.2) [];obtain⟨ak,i,m,o⟩:=PZ (k:=k) (Hr g (c w fE) f) (ef:=ef) (λx j=>c x (ev _ j));refine⟨ak,?_,A,by rw[gF];omega⟩;unfold mP;rw[f];exact i
def cK.v1{b:cK}(h:b.bp aX)(c:b.cn≠[]):(b.dg k aX).1.bp aX/\(b.dg k aX).1.cn.length<b.cn.length:=by
 obtain⟨ak,⟨f,i,j⟩,m,n⟩:=Hs b k aX h c;have o:=h.iG;have d:(b.cn.drop (mP k b.cx.length ⟨b.bd,[],[]⟩ b.cn).fW.length).length<b.cn.length:=by rw[e8];omega
 have e:∀w∈b.cn.drop (mP k b.cx.length ⟨b.bd,[],[]⟩ b.cn).fW.length,w.2.bt=G/\i3 w.2.a5=G:=λw c=>h.jU w (tr c);unfold cK.dg;simp only;generalize mP k b.cx.length ⟨b.bd,[],[]⟩ b.cn=g at*;split
 ·exact⟨⟨h.nf,h.dT,h.n1,by simp only;omega,e⟩,d⟩
 ·split
  ·rename_i p;refine⟨⟨?_,by simp only[di,nt];omega,λl a=>?_,by simp only;omega,e⟩,d⟩
   ·show lQ nD 0 (b.cx++[g.f2])=E g.bd;rw[PJ,h.nf];simp only[tg,gQ];exact f
   ·rcases b4.1 a with a|a
    ·exact h.n1 l a
    ·simp only[ku]at a;subst a;omega
  ·exact⟨⟨h.nf,h.dT,h.n1,by simp only;omega,e⟩,d⟩
def P0{k aX:Nat}:∀{n:Nat}{b:cK},b.bp aX->b.cn.length<=n->(ne k aX n b).1.bp aX/\(ne k aX n b).1.cn=[]
 |0,b,h,c=>⟨h,List.length_eq_zero_iff.1 (by show b.cn.length=0;omega)⟩
 |n+1,b,h,c=>by
  unfold ne;split
  ·rename_i a;exact⟨h,by simpa using a⟩
  ·rename_i a;have:=cK.v1 (k:=k) h (by simpa using a);exact P0 this.1 A
def cK.Ht{b:cK}(h:b.bp aX):(b.j0 k aX).1.bp aX/\(b.j0 k aX).1.cn=[]:=P0 h (fF _)
def cK.DW{b:cK}(h:b.bp aX):(b.kV cp d).1.bp aX:=by
 unfold cK.kV;split
 ·rename_i c;split
  ·rename_i e;split
   ·exact⟨h.nf,h.dT,h.n1,h.iG,h.jU⟩
   ·refine⟨h.nf,h.dT,h.n1,by simp only[di,nt];omega,λw a=>?_⟩;rcases b4.1 a with a|a
    ·exact h.jU w a
    ·simp only[ku]at a;subst a;exact⟨c,e⟩
  ·exact⟨h.nf,h.dT,h.n1,h.iG,h.jU⟩
 ·exact⟨h.nf,h.dT,h.n1,h.iG,h.jU⟩
def sO(av:ji)(t i:Nat):Option (List UInt8):=av[t]?.bind λl=>l[i]?
structure xl(av:ji)(h:gZ):Prop where
 gm:∃(t i:Nat)(x:List UInt8)(e:eG),h.e4=t/\h.yq=i/\sO av t i=E x/\nB x=bA e/\e.a5=3/\h.md=e.bk.a7.length
def ng(av:ji)(s:c3):Prop:=∀ai∈s.fs,∀ah∈ai.2,∀h∈ah.dw.eC,xl av h
section
variable{av:ji}{s:c3}{t:ByteArray}{n:Int}{ah:gM}{ag:nY}
def acm:ng av nD:=λai a=>by simp[nD]at a
def ng.aP(h:ng av s)(a:s.aP t n=E ah):∀x∈ah.dw.eC,xl av x:=by obtain⟨l,b,d,e,c⟩:=c3.Hf a;exact h _ (vV b) ah (gP c)
def ng.dt(h:ng av s)(c:∀x∈ah.dw.eC,xl av x):ng av (s.dt t n ah):=by
 unfold c3.dt;cases d:dv s.fs t with
 |none=>exact h
 |some l=>
  intro ai a;rcases AM a with rfl|a
  ·intro ap b;rcases List.mem_or_eq_of_mem_set b with b|rfl
   ·exact h _ (vV d) ap b
   ·exact c
  ·exact h ai a
def acn{x:List UInt8}{l:List (List UInt8)}{t:Nat}(h:sO av t i=E x):sO (av++[l]) t i=E x:=by
 unfold sO at*;cases a:av[t]? with
 |none=>rw[a]at h;cases h
 |some ap=>
  rw[a]at h;have:=(fi.1 a).1;rw[pR this,a];exact h
def aco{b:cw}{i k:Int}(c:ah.po b i k=bA (jB,ag)):∀x∈jB.dw.eC,x∈ah.dw.eC\/(x.e4=i/\x.yq=k/\x.md=b.a7.length):=by
 unfold gM.po at c;split at c
 ·cases c
 ·cases c;exactλx a=>Y a
 ·split at c
  ·rename_i d;cases c;intro x a;simp only[eI.kM,if_pos d]at a;rcases b4.1 a with a|a
   ·exact Y a
   ·rw[ku.1 a];exact Z ⟨rfl,rfl,rfl⟩
  ·cases c
def ng.h9{x:List UInt8}(h:ng av s)(j:sO av i k=E x)(d:nB x=bA e)(a:s.h9 e i k=bA (gs,ag)):ng av gs:=by
 have l:=Dz d;unfold c3.h9 at a;split at a
 ·unfold c3.xe le at a;split at a
  ·cases a
  ·rename_i f ao;cases a;split at ao
   ·cases ao
   ·split at ao
    ·cases ao
    ·cases ao;intro ai c;rcases AM c with rfl|c
     ·intro ap b;rw[List.eq_of_mem_replicate b];simp[gM.cq]
     ·exact h ai c
 ·split at a
  ·unfold c3.yE le at a;split at a
   ·cases a
   ·rename_i f ao;cases a;split at ao
    ·cases ao;exactλai c=>h ai (ol.1 c).1
    ·cases ao
  ·split at a
   ·cases a
   ·rename_i ah m;have g:=h.aP m;split at a
    ·unfold c3.AK le at a;split at a
     ·cases a
     ·rename_i f ao;cases a;split at ao
      ·cases ao
      ·cases ao;exact h
    ·split at a
     ·split at a
      ·cases a;refine h.dt λap b=>g ap ?_;unfold eI.mM at b;split at b
       ·exact tr b
       ·exact b
      ·cases a
     ·split at a
      ·cases a
      ·rename_i jB r n;cases a;refine h.dt λap b=>?_;rcases aco n ap b with b|⟨o,p,q⟩
       ·exact g ap b
       ·refine⟨i,k,x,e,o,p,j,d,?_,q⟩;obtain⟨_,h|h|h|h|h⟩:=eG.rE.1 l<;>first|exact h.1|exact absurd h.1 (by assumption)
def ng.lP{i:Nat}:∀{l:List (List UInt8)}{s gs:c3}{k:Nat},ng av s->(∀j,j<l.length->sO av i (k+j)=l[j]?)->lP s i k l=E gs->ng av gs
 |[],s,gs,k,h,_,a=>by cases a;exact h
 |x::l,s,gs,k,h,b,a=>by
  simp only[Go.Proofs.YtepeilglbedgdaaGreatDoor.lP]at a;split at a
  ·cases a
  ·rename_i e c;split at a
   ·cases a
   ·rename_i g ag d;refine ng.lP (h.h9 (by simpa using b 0 B) c d) (λj f=>?_) a;have:=b (j+1) (by simpa using f);rw[show k+1+j=k+(j+1)by omega,this];simp
def ng.lQ:∀{aw:ji}{s gs:c3}{i:Nat},ng av s->(∀j,j<aw.length->av[i+j]?=aw[j]?)->lQ s i aw=E gs->ng av gs
 |[],s,gs,i,h,_,a=>by cases a;exact h
 |l::aw,s,gs,i,h,b,a=>by
  simp only[Go.Proofs.YtepeilglbedgdaaGreatDoor.lQ]at a;split at a
  ·cases a
  ·rename_i f d;have e:av[i]?=E l:=by simpa using b 0 B
   refine ng.lQ (h.lP (λj c=>?_) d) (λj c=>?_) a
   ·unfold sO;rw[e];simp
   ·have:=b (j+1) (by simpa using c);rw[show i+1+j=i+(j+1)by omega,this];simp
def cK.bp.DX{b:cK}{n:Nat}(h:b.bp n):ng b.cx b.bd:=acm.lQ (λj _=>B) h.nf
end
end
end Go.Proofs.YtepeilglbedgdaaGreatDoor
namespace Go.Proofs.YtepeilglbedgdaaGreatDoor.ey
open Go.X
attribute[local irreducible]Go.X.W
variable{am bU:List Nat}{a aA w:aN}{af ah bL bM db eD i j k n:Nat}{cE:List S}{aU jA:Type}{aa b1 ou pY:S}{ac:S -> aN -> Prop}{ad:ft}{ar av:co}{d5:ByteArray}
section
open Go.RowKit
structure b3 where
 d3:List (List UInt8)
 dp:Nat->Option (List UInt8)
 lg:Nat->Bool
 dW:Bool
def jH:List UInt8:=cN 128 0
def b3.sP(aq:b3)(aB:Bool):b3:=⟨cN aq.d3.length jH,λ_=>I,λ_=>U,aB⟩
def b3.cq(n:Nat):b3:=⟨cN n jH,λ_=>I,λ_=>U,U⟩
def b3.rJ(aq:b3)(s:Nat->Bool):b3:=⟨aq.d3.zipIdx.map λai=>if s ai.2 then(aq.dp ai.2).getD ai.1 else ai.1,λ_=>I,λj=>if s j then U else aq.lg j,aq.dW⟩
def b3.kW(aq:b3)(i:Nat)(b:List UInt8):b3:={aq with dp:=λj=>if j=i then E b else aq.dp j}
def b3.kj(aq:b3)(i:Int)(a:Bool):Int:=if aq.dW then 5 else if a\/i<0\/(aq.d3.length:Int)<=i then 1 else 0
def b3.j5(aq:b3)(i:Nat):List UInt8:=(aq.dp i).getD (aq.d3.getD i [])
def b3.iG(aq:b3):List Nat:=(c9 aq.d3.length).filter λi=>(aq.dp i).isSome
def b3.bV(aq:b3)(i:Nat):Nat:=((c9 i).filter λi=>(aq.dp i).isSome).length
def qa(x:Int)(k:Nat):Bool:=decide (hr.wrap ((iN 64 (x/2^min k 64)&&&iN 64 1).toNat:Nat)=1)
def b3.AQ(aq:b3)(bits:Int)(j:Nat):Bool:=(aq.dp j).isSome&&qa bits (aq.bV j%64)
def sQ(c:Int)(k:Nat):UInt8:=ed (c/2^min (8*k) 32%256).toNat
def mQ(x:List UInt8)(aQ:Nat)(c:Int):Nat->List UInt8
 |0=>x
 |k+1=>(mQ x aQ c k).set (aQ+k) ((mQ x aQ c k).getD (aQ+k) 0^^^sQ c k)
def b3.n2(aq:b3)(i aQ c:Int):Bool:=!decide (aq.kj i (decide (aQ<0\/124<aQ\/c=0))=0)||aq.lg i.toNat
def b3.yJ(aq:b3)(i aQ:Nat)(c:Int):b3:={aq with d3:=aq.d3.set i (mQ (aq.d3.getD i []) aQ c 4),lg:=λj=>if j=i then G else aq.lg j}
def v2(d5:ByteArray)(i k:Int):Option ex:=if k=0 then I else E (.d2 d5 i (.dD k))
def yK(x:List UInt8)(d:Nat)(c:Int):∀k,(mQ x d c k).length=x.length
 |0=>rfl
 |k+1=>by rw[mQ,i9,yK x d c k]
def acp(aq:b3)(s:Nat->Bool):(aq.rJ s).d3.length=aq.d3.length:=by simp[b3.rJ]
def P1(aq:b3)(s:Nat->Bool)(i:Nat):(aq.rJ s).d3[i]?=(aq.d3[i]?).map λx=>if s i then(aq.dp i).getD x else x:=by simp only[b3.rJ,e1,List.getElem?_zipIdx,gQ];cases aq.d3[i]?<;>rfl
def DY{i k:Int}:(v2 d5 i k).isSome=!decide (k=0):=by
 unfold v2;split
 ·rename_i h;rw[decide_eq_true h];rfl
 ·rename_i h;rw[decide_eq_false h];rfl
structure eq where
 a7:S
 bk:Nat
 c6:List UInt8
structure eq.bp(w:aN)(ab:eq):Prop where
 c4:bP w 5 1 ab.a7 128 (ab.c6.flatMap bs) [ab.bk]
 dT:ab.c6.length=128
def eq.bp.J{ab:eq}(h:ab.bp w)(b:Q bU w a)(c:ab.bk∉bU):ab.bp a:=⟨h.c4.J b (by simpa using c),h.dT⟩
def eq.bp.aL{ab:eq}(h:ab.bp w):ab.bk<w.heap.size:=h.c4.aL _ B
def eq.bp.eF{ab:eq}(h:ab.bp w):aT w bs ab.a7 ab.c6:=by have:=h.c4;rw[<-h.dT]at this;exact this.eF e2 A
def eq.bp.aW{ab:eq}(h:ab.bp w):ab.a7.oneCell'=G:=h.eF.aW
def eq.bp.yL{ab:eq}(h:ab.bp w):∃af c,ab.a7=T (E ⟨ab.bk,af,I⟩) 128 c:=by
 rcases h.c4.2 with⟨_,b,_⟩|⟨g,af,bL,cf,e,a,_⟩
 ·omega
 ·simp at a;exact⟨af,bL,by rw[e,a]⟩
def Hu:jH.length=128:=by simp[jH]
def acq:jH.flatMap bs=cN 128 (F cl 0):=K
def P2(k:∀(ab:eq)(a:aN),ab.bp a->ab.bk=w.heap.size->ab.c6=jH->Q [] w a->a.heap.size=w.heap.size+1->ac ab.a7 a):W C (uA 52 (F H 128) (F H 128)) w ac:=by refine x6 ky (l:=128) A (by unfold d0;omega) λaA b c d=>?_;refine k ⟨T (E ⟨w.heap.size,0,I⟩) 128 128,w.heap.size,jH⟩ aA ⟨?_,Hu⟩ rfl rfl c d;rw[acq];exact x5 b B (by unfold d0;omega)
def Hv{ac:S->Prop}{d:es}{c:Nat}(h:ad.underlying ar=E (.slice av)):aZ ad (eE .eql ar G (T (E d) n c) (T I 0 0)) w ac↔ac (aK U):=by
 apply j8;unfold eE;apply gv ad _ w;have:eqGuard .eql ar (bif G then .const bS else .tmp 0) (.tmp 0) (T (E d) n c) (T I 0 0)=fh ():=rfl;rw[this];simp only[pure_bind];have e:∀ag:Nat,(lF (ag+1) ar (T (E d) n c) (T I 0 0)).run ad w=bN U w:=λag=>by simp[lF,fK h]
 have:=e 9999;simp[binOp,Op.equal,Op.maxDepth,this]
def acr:C.underlying 52=E (.slice 5):=K
def acs{x:List UInt8}(h:aT w bs aa x)(c:x.length=128)(k:∀(ab:eq)(a:aN),ab.bp a->w.heap.size<=ab.bk->ab.c6=x->Q [] w a->ac ab.a7 a):
  W C (jR 52 0 #[]) w λd aA=>W C (dG lp #[52,52] #[d,aa]) aA λae a=>ac ae a:=by
 refine Gz ky e2 z5 h A (by unfold d0;omega) λae a am b i j=>?_;rw[c]at b;rcases b.2 with⟨_,l,_⟩|⟨g,af,bL,cf,e,f,m⟩
 ·omega
 ·exact k ⟨ae,g,x⟩ a ⟨f▸b,c⟩ (i g (by rw[f];simp)) rfl j
def Hw{x:List UInt8}(h:aT w bs aa x)(e:x.length=128):a0 C 67 #[aa] w λae a=>∃ab:eq,ae=ab.a7/\ab.bp a/\w.heap.size<=ab.bk/\ab.c6=x/\Q [] w a:=by refine a9 .D 1 Tryz.func67 K rfl λa1 f=>?_;simp+decide only[↓a8,ba,Tryz.f67];subst f;obtain⟨d,c,rfl,g,i⟩:=h;obtain⟨b,af,rfl,j⟩:=i.resolve_left (by intro h;subst h;simp at e);refine(Hv acr).2 ?_;simp only[kN];refine acs ⟨_,c,rfl,g,Z ⟨b,af,rfl,j⟩⟩ e λab a k l m n=>?_;exact⟨ab,rfl,k,l,m,n⟩
def fB(ah bM eD db:Nat)(bn:List eq)(bE:List (Int×eq)):List Nat:=ah::bM::eD::db::(bn.map eq.bk++bE.map λai=>ai.2.bk)
structure iv(ar:co)(w:aN)(ah bM af bL eD db:Nat)(bn:List eq)(bE:List (Int×eq))(bb:List (Int×Bool))(cE:List S)(aB:Bool):Prop where
 bg:aC w ah ar [T (E ⟨bM,af,I⟩) bn.length bL,eB (E eD),eB (E db),aK aB]
 c4:bP w 52 1 (T (E ⟨bM,af,I⟩) bn.length bL) bn.length cE [bM]
 qU:kb w eD (λab:eq=>ab.a7) bE
 sR:kb w db aK bb
 pq:∀ab∈bn,ab.bp w
 lx:∀ai∈bE,ai.2.bp w/\0<=ai.1/\ai.1<(bn.length:Int)
 hj:(fB ah bM eD db bn bE).Nodup
 lH:0<bn.length
 hm:bn.length<=128
def P3(bn:List eq)(bE:List (Int×eq))(bb:List (Int×Bool))(aq:b3):Prop:=bn.map eq.c6=aq.d3/\(∀i:Nat,(fq bE (i:Int)).map eq.c6=aq.dp i)/\∀i:Nat,(fq bb (i:Int)).getD U=aq.lg i
def hI(ar:co)(w:aN)(ah:Nat)(aq:b3)(am:List Nat):Prop:=∃bM af bL eD db bn bC bb,iv ar w ah bM af bL eD db bn bC bb (bn.map eq.a7) aq.dW/\P3 bn bC bb aq/\am=fB ah bM eD db bn bC
section
variable{bb:List (Int×Bool)}{aB:Bool}
variable{bE:List (Int × eq)}{bn:List eq}
def iv.J(h:iv ar w ah bM af bL eD db bn bE bb cE aB)(b:Q bU w a)(c:∀g∈fB ah bM eD db bn bE,g∉bU):iv ar a ah bM af bL eD db bn bE bb cE aB:=
 ⟨h.bg.J b (c ah (by simp[fB])),h.c4.J b (λg e=>c g (by simp at e;subst e;simp[fB])),h.qU.J b (c eD (by simp[fB])),h.sR.J b (c db (by simp[fB])),
  λab f=>(h.pq ab f).J b (c ab.bk (by unfold fB;exact ev _ (ev _ (ev _ (ev _ (hg _ (mz f))))))),
  λai d=>⟨(h.lx ai d).1.J b (c ai.2.bk (by unfold fB;exact ev _ (ev _ (ev _ (ev _ (h3 _ (fS.2 ⟨ai,d,rfl⟩))))))),(h.lx ai d).2⟩,
  h.hj,h.lH,h.hm⟩
def iv.V(h:iv ar w ah bM af bL eD db bn bE bb cE aB)(b:Q [] w a):iv ar a ah bM af bL eD db bn bE bb cE aB:=h.J b B
def iv.aL(h:iv ar w ah bM af bL eD db bn bE bb cE aB):∀g∈fB ah bM eD db bn bE,g<w.heap.size:=by
 intro g a;unfold fB at a;simp only[ce,b4,fS]at a;rcases a with rfl|rfl|rfl|rfl|⟨ab,b,rfl⟩|⟨ai,c,rfl⟩
 ·exact h.bg.aL
 ·exact h.c4.aL _ B
 ·exact h.qU.aL
 ·exact h.sR.aL
 ·exact(h.pq ab b).aL
 ·exact(h.lx ai c).1.aL
def iv.kB(h:iv ar w ah bM af bL eD db bn bE bb cE aB):
  (∀ac,aZ C (a4 183 (aE (E ⟨ah,0,I⟩))) w ac↔ac (T (E ⟨bM,af,I⟩) bn.length bL))/\(∀ac,aZ C (a4 184 (aE (E ⟨ah,1,I⟩))) w ac↔ac (eB (E eD)))/\
  (∀ac,aZ C (a4 30 (aE (E ⟨ah,2,I⟩))) w ac↔ac (eB (E db)))/\(∀ac,aZ C (a4 4 (aE (E ⟨ah,3,I⟩))) w ac↔ac (aK aB)):=
 ⟨λ_=>bl rA (h.bg.bh (af:=0)),λ_=>bl Lb (h.bg.bh (af:=1)),λ_=>bl CO (h.bg.bh (af:=2)),λ_=>bl Ai (h.bg.bh (af:=3))⟩
def iv.P4(h:iv ar w ah bM af bL eD db bn bE bb cE aB):cE.length=bn.length:=by have:=h.c4.1;omega
def iv.sH(h:iv ar w ah bM af bL eD db bn bE bb cE aB)(al:cE[i]?=E aa){ac:S->Prop}:(aV C (fY 183 (T (E ⟨bM,af,I⟩) bn.length bL) (F H i)) λae=>aZ C (a4 52 ae) w ac)↔ac aa:=by
 have b:=(fi.1 al).1;rw[h.P4]at b;rw[hP pe mJ b,gA];have c:fu w bM af cE:=by
  rcases h.c4.2 with⟨a,_,_⟩|⟨g,f,j,cf,a,k,d,l,m,ao,e⟩
  ·cases a
  ·cases a;rw[<-e];have:=d.cy.d1 af (bn.length*1);rwa[gQ]at this
 exact bl nb (la c al)
def rK:(fB ah bM eD db bn bE).Nodup↔(ah≠bM/\ah≠eD/\ah≠db/\bM≠eD/\bM≠db/\eD≠db)/\(∀b∈[ah,bM,eD,db],(∀ab∈bn,ab.bk≠b)/\∀ai∈bE,ai.2.bk≠b)/\(bn.map eq.bk).Nodup/\(bE.map λai=>ai.2.bk).Nodup/\∀ab∈bn,∀ai∈bE,ab.bk≠ai.2.bk:=by
 unfold fB;simp only[ks,us,ce,b4,fS,not_or,iZ,or_false,forall_eq_or_imp,forall_eq];constructor
 ·rintro⟨⟨d,f,g,h,i⟩,⟨j,k,l,m⟩,⟨n,o,p⟩,⟨q,r⟩,s,t,u⟩;refine⟨⟨d,f,g,j,k,n⟩,⟨⟨λab a e=>h ⟨ab,a,e⟩,λai c e=>i ⟨ai,c,e⟩⟩,⟨λab a e=>l ⟨ab,a,e⟩,λai c e=>m ⟨ai,c,e⟩⟩,⟨λab a e=>o ⟨ab,a,e⟩,λai c e=>p ⟨ai,c,e⟩⟩,⟨λab a e=>q ⟨ab,a,e⟩,λai c e=>r ⟨ai,c,e⟩⟩⟩,s,t,λab a ai c=>u _ ⟨ab,a,rfl⟩ _ ⟨ai,c,rfl⟩⟩
 ·rintro⟨⟨d,f,g,j,k,n⟩,⟨⟨h,i⟩,⟨l,m⟩,⟨o,p⟩,⟨q,r⟩⟩,s,t,u⟩;refine⟨⟨d,f,g,λ⟨ab,a,e⟩=>h ab a e,λ⟨ai,c,e⟩=>i ai c e⟩,⟨j,k,λ⟨ab,a,e⟩=>l ab a e,λ⟨ai,c,e⟩=>m ai c e⟩,⟨n,λ⟨ab,a,e⟩=>o ab a e,λ⟨ai,c,e⟩=>p ai c e⟩,⟨λ⟨ab,a,e⟩=>q ab a e,λ⟨ai,c,e⟩=>r ai c e⟩,s,t,?_⟩;rintro _ ⟨ab,a,rfl⟩ _ ⟨ai,c,rfl⟩;exact u ab a ai c
end
variable{aq:b3}
def hI.J(h:hI ar w ah aq am)(b:Q bU w a)(c:∀g∈am,g∉bU):hI ar a ah aq am:=by obtain⟨bM,af,bL,eD,db,bn,bC,bb,d,e,rfl⟩:=h;exact⟨bM,af,bL,eD,db,bn,bC,bb,d.J b c,e,rfl⟩
def hI.V(h:hI ar w ah aq am)(b:Q [] w a):hI ar a ah aq am:=h.J b B
def hI.aL(h:hI ar w ah aq am):∀g∈am,g<w.heap.size:=by obtain⟨bM,af,bL,eD,db,bn,bC,bb,a,b,rfl⟩:=h;exact a.aL
def hI.e6(h:hI ar w ah aq am):0<aq.d3.length/\aq.d3.length<=128/\∀x∈aq.d3,x.length=128:=by obtain⟨bM,af,bL,eD,db,bn,bC,bb,a,b,rfl⟩:=h;rw[<-b.1,dU];refine⟨a.lH,a.hm,λx c=>?_⟩;obtain⟨ab,d,rfl⟩:=fS.1 c;exact(a.pq ab d).dT
def hI.cn(h:hI ar w ah aq am):∀i x,aq.dp i=E x->i<aq.d3.length/\x.length=128:=by
 obtain⟨bM,af,bL,eD,db,bn,bC,bb,d,c,rfl⟩:=h;intro i x e;rw[<-c.1,dU];have:=c.2.1 i;rw[e]at this;cases a:fq bC (i:Int)with
 |none=>rw[a]at this;cases this
 |some ab=>
  rw[a]at this;simp at this;rw[CH]at a;cases b:lJ bC (i:Int)with
  |none=>rw[b]at a;cases a
  |some ai=>
   obtain⟨j,dr⟩:=ai;rw[b]at a;simp at a;subst a;have f:=gP (CI b);obtain⟨g,l,k⟩:=d.lx _ f;exact⟨by simp at k;omega,by rw[<-this];exact g.dT⟩
def act:ByteArray:=⟨#[100,105,115,107,46,78,101,119]⟩
def acu:ByteArray:=⟨#[100,105,115,107,46,87,114,105,116,101]⟩
def acv:ByteArray:=⟨#[100,105,115,107,46,82,101,97,100]⟩
def acw:ByteArray:=⟨#[100,105,115,107,46,70,108,117,115,104]⟩
def acx:ByteArray:=⟨#[100,105,115,107,46,82,111,116]⟩
def Hx{i k:Int}(c:ac (hQ (.d2 d5 i (.dD k))) w):aV C (tx 33 (F H k)) λaa=>W C (ck 59 #[bO d5,F H i,aa]) w ac:=by refine(hk hY).2 ?_;refine aH nz qS ?_;rintro _ _ ⟨rfl,rfl⟩;exact c
def acy{i:Int}{b:Bool}(h:hI 186 w ah aq am):
  a0 C 92 #[aE (E ⟨ah,0,I⟩),bO d5,F H i,aK b] w λae a=>ae=ff (v2 d5 i (aq.kj i b))/\w=a:=by
 obtain⟨bM,af,bL,eD,db,bn,bC,bb,d,e,rfl⟩:=h;have f:bn.length=aq.d3.length:=by rw[<-e.1,dU]
 obtain⟨g,o,p,j⟩:=d.kB;refine a9 MN 4 Tryz.func92 K rfl λa1 k=>?_;simp+decide only[↓a8,ba,MN,Tryz.f92];subst k;simp only[M,j];unfold b3.kj;cases aq.dW with
 |true=>
  simp only[k9,if_true];exact Hx ⟨rfl,rfl⟩
 |false=>
  simp only[kN,fc,if_false];refine bT (λl a=>l=[aK (decide (b=G\/i<0\/(aq.d3.length:Int)<=i))]/\w=a) ?_ ?_
  ·rw[cG];refine⟨λc=>⟨by rw[decide_eq_true (Y c)],rfl⟩,λc=>?_⟩;simp only[M,g,bi];refine⟨λal=>⟨by rw[decide_eq_true (Z (Y al))],trivial⟩,λal=>⟨?_,trivial⟩⟩;rw[f,decide_eq_decide.2 (show((aq.d3.length:Int)<=i)↔(b=G\/i<0\/(aq.d3.length:Int)<=i)by subst c;simp;omega)]
  rintro _ _ _ ⟨rfl,rfl⟩;simp only[kt,bi];refine⟨λm=>?_,λn=>?_⟩
  ·rw[if_pos m];exact Hx ⟨rfl,rfl⟩
  ·rw[if_neg n];exact⟨rfl,rfl⟩
def DZ{i:Int}{b:Bool}(h:hI 186 w ah aq am)(k:ac (ff (v2 d5 i (aq.kj i b))) w):
  W C (ck 92 #[aE (E ⟨ah,0,I⟩),bO d5,F H i,aK b]) w ac:=
 aH XN (acy h) (λae a⟨e,gh⟩=>by subst e;subst gh;exact k)
def acz(h:hI 186 w ah aq am):a0 C 168 #[aE (E ⟨ah,0,I⟩)] w λae a=>ae=aK aq.dW/\w=a:=by obtain⟨bM,af,bL,eD,db,bn,bC,bb,b,e,rfl⟩:=h;obtain⟨f,g,i,c⟩:=b.kB;refine a9 .D 1 Tryz.func168 K rfl λa1 d=>?_;simp+decide only[↓a8,ba,Tryz.f168];subst d;simp only[M,c];exact⟨rfl,rfl⟩
def acA(h:hI 186 w ah aq am):a0 C 167 #[aE (E ⟨ah,0,I⟩)] w λae a=>ae=F H aq.d3.length/\w=a:=by
 obtain⟨bM,af,bL,eD,db,bn,bC,bb,b,c,rfl⟩:=h;have d:bn.length=aq.d3.length:=by rw[<-c.1,dU]
 obtain⟨e,g,i,j⟩:=b.kB;refine a9 .D 1 Tryz.func167 K rfl λa1 f=>?_;simp+decide only[↓a8,ba,Tryz.f167];subst f;simp only[M,e];exact⟨by rw[d],rfl⟩
structure rL(ar:co)(w:aN)(ah bM af bL n:Nat)(pY ou:S)(cE:List S)(aB:Bool):Prop where
 bg:aC w ah ar [T (E ⟨bM,af,I⟩) n bL,pY,ou,aK aB]
 c4:bP w 52 1 (T (E ⟨bM,af,I⟩) n bL) n cE [bM]
 g1:ah≠bM
 lH:0<n
 hm:n<=128
def rL.J{aB:Bool}(h:rL ar w ah bM af bL n pY ou cE aB)(b:Q bU w a)(c:ah∉bU)(d:bM∉bU):rL ar a ah bM af bL n pY ou cE aB:=
 ⟨h.bg.J b c,h.c4.J b (by simpa using d),h.g1,h.lH,h.hm⟩
def rL.kB{aB:Bool}(h:rL ar w ah bM af bL n pY ou cE aB):
 (∀ac,aZ C (a4 183 (aE (E ⟨ah,0,I⟩))) w ac↔ac (T (E ⟨bM,af,I⟩) n bL)):=λ_=>bl rA (h.bg.bh (af:=0))
variable{bE:List (Int × eq)}{bn:List eq}
def iv.P5{bb:List (Int×Bool)}{aB:Bool}(h:iv ar w ah bM af bL eD db bn bE bb cE aB):rL ar w ah bM af bL bn.length (eB (E eD)) (eB (E db)) cE aB:=
 ⟨h.bg,h.c4,(rK.1 h.hj).1.1,h.lH,h.hm⟩
def Hy(n:Nat):List (List UInt8):=cN n jH
def P6(ar:co)(ah bM:Nat)(n:Nat)(aB:Bool)(w a:aN):Prop:=∃az,hI ar a ah ⟨Hy n,λ_=>I,λ_=>U,aB⟩ az/\Q [ah,bM] w a/\∀g∈az,g=ah\/g=bM\/w.heap.size<=g
section
variable{aB:Bool}
def acB{ac:aN->Prop}(h:rL ar aA ah bM af bL n pY ou (bn.map eq.a7++cE.drop i) aB)(g:Q [bM] w aA)(R:ah<w.heap.size)(V:bM<w.heap.size)(al:i<n)(s:bn.length=i)(X:cE.length=n)(j:∀ab∈bn,ab.bp aA/\w.heap.size<=ab.bk/\ab.c6=jH)(t:(bn.map eq.bk).Nodup)
  (k:∀ax ab,rL ar ax ah bM af bL n pY ou ((bn++[ab]).map eq.a7++cE.drop (i+1)) aB->Q [bM] w ax->(∀dr∈bn++[ab],dr.bp ax/\w.heap.size<=dr.bk/\dr.c6=jH)->((bn++[ab]).map eq.bk).Nodup->ac ax):
  aZ C (a4 183 (aE (E ⟨ah,0,I⟩))) aA.drew λl=>W C (uA 52 (F H 128) (F H 128)) aA.drew λu m=>gu C (a4 183 (aE (E ⟨ah,0,I⟩))) l m<|
   aV C (fY 183 l (F H i)) λv=>W C (dC 52 v u) m λ_ x=>ac x:=by
 have o:=cD [] aA;have y:=h.J o B B;rw[y.kB];refine P2 λab ax p aa z D ad=>?_;have f:=o.R D B;have c:=h.J f B B;refine(dz rA (c.bg.bh (af:=0))).2 ((hP pe mJ al).2 ?_);rw[gA];have ae:=g.aI;have ag:aA.drew.heap.size=aA.heap.size:=rfl;refine vI mJ c.c4 (by have:=c.c4.1;omega) p.aW λJ q e ai=>?_;have K:(bn.map eq.a7++cE.drop i).set i ab.a7=(bn++[ab]).map eq.a7++cE.drop (i+1):=by rw[sr _ _ (by simp;omega),dU,s,k6,g6,gq];congr 1;rw[ot A];rfl
 rw[K]at q;have L:Q [bM] w ax:=g.R f B;refine k J ab ⟨c.bg.J e (by simp;exact h.g1),q,h.g1,h.lH,h.hm⟩ (L.R e B) (λdr a=>?_) ?_
 ·rcases b4.1 a with a|a
  ·obtain⟨dI,N,O⟩:=j dr a;exact⟨(dI.J f B).J e (by simp;omega),N,O⟩
  ·simp at a;subst a;exact⟨p.J e (by simp;omega),A,z⟩
 ·rw[g6];refine us.2 ⟨t,B,λd P b r=>?_⟩;simp at r;subst r;obtain⟨dr,a,rfl⟩:=fS.1 P;have:=(j dr a).1.aL;omega
def acC{ac:aN->Prop}(h:rL ar aA ah bM af bL n pY ou (bn.map eq.a7) aB)(l:Q [bM] w aA)(ak:ah<w.heap.size)(al:bM<w.heap.size)(c:bn.length=n)(d:∀ab∈bn,ab.bp aA/\w.heap.size<=ab.bk/\ab.c6=jH)(t:(bn.map eq.bk).Nodup)
  (k:∀ax,P6 ar ah bM n aB w ax->ac ax):
  W C (uz 184 I) aA λu v=>W C (uz 30 I) v λy z=>W C (dC 184 (aE (E ⟨ah,1,I⟩)) u) z λ_ D=>W C (dC 30 (aE (E ⟨ah,2,I⟩)) y) D λ_ J=>ac J:=by
 refine Aa (bI:=λab:eq=>ab.a7) w7 (Y rfl) λax K L am=>Aa (bI:=aK) vO (Y rfl) λdI N m an=>?_;have o:=L.R m B;have p:=h.J o B B;have O:=l.aI;refine eK Lc p.bg B rfl λao P R ap=>eK V7 P B rfl λf V X aq=>?_;have i:Q [ah] dI f:=R.R X B;have q:Q [ah] aA f:=(o.bw B).R i B;have aa:∀ab∈bn,ab.bp f:=λab a=>by obtain⟨r,ad,ae⟩:=d ab a;exact r.J q (by simp;omega)
 refine k f ⟨_,⟨bM,af,bL,aA.heap.size,ax.heap.size,bn,[],[],⟨by simpa[c]using V,?_,(K.J m B).J i (by simp;omega),N.J i (by simp;omega),aa,B,?_,by rw[c];exact h.lH,by rw[c];exact h.hm⟩,⟨?_,λ_=>rfl,λ_=>rfl⟩,rfl⟩,?_,?_⟩
 ·rw[c];exact p.c4.J i (by have:=h.g1;simp;omega)
 ·have ag:=h.g1;have ai:∀ab∈bn,ab.bk<aA.heap.size:=λab a=>(d ab a).1.aL;refine rK.2 ⟨⟨ag,A,A,A,A,A⟩,?_,t,B,B⟩;intro b s;refine⟨λab a e=>?_,B⟩;obtain⟨r,ad,ae⟩:=d ab a;have:=ai ab a;simp at s;rcases s with rfl|rfl|rfl|rfl<;>omega
 ·show bn.map eq.c6=Hy n;rw[Hy,List.eq_replicate_iff];refine⟨by simp[c],λx aj=>?_⟩;obtain⟨ab,a,rfl⟩:=fS.1 aj;exact(d ab a).2.2
 ·exact(l.bw B).R q B
 ·intro g j;unfold fB at j;simp at j;rcases j with rfl|rfl|rfl|rfl|⟨ab,a,rfl⟩
  ·exact Y rfl
  ·exact Z (Y rfl)
  ·exact Z (Z O)
  ·exact Z (Z A)
  ·exact Z (Z (d ab a).2.1)
end
def Hz{aB:Bool}(h:rL 186 w ah bM af bL n pY ou cE aB):
  a0 C 114 #[aE (E ⟨ah,0,I⟩)] w λ_ a=>P6 186 ah bM n aB w a:=by
 have l:cE.length=n:=by have:=h.c4.1;omega
 have e:=h.bg.aL;have f:=h.c4.aL bM B;have t:=h.hm;refine a9 MZ 1 Tryz.func114 K rfl λa1 m=>?_;simp+decide only[↓a8,ba,MZ,Tryz.f114];subst m;simp only[M,h.kB];refine c1 (λb a=>∃(i:Nat)(bn:List eq),b=[F H i]/\i<=n/\bn.length=i/\rL 186 a ah bM af bL n pY ou (bn.map eq.a7++cE.drop i) aB/\Q [bM] w a/\(∀ab∈bn,ab.bp a/\w.heap.size<=ab.bk/\ab.c6=jH)/\(bn.map eq.bk).Nodup)
  (λb _=>match b with|[F _ i]=>n-i.toNat|_=>0) ⟨0,[],rfl,A,rfl,h,Q.b0 _ _,B,B⟩ ?_
 rintro _ _ aA ⟨i,bn,rfl,al,c,d,g,j,k⟩;simp only[M,bi];refine⟨λu=>?_,λv=>?_⟩
 ·refine acB d g e f A c l j k λax ab o p q r=>?_;rw[bq A A];exact⟨⟨i+1,bn++[ab],rfl,A,by simp[c],o,p,q,r⟩,A⟩
 ·obtain rfl:i=n:=A;rw[uu A,kJ]at d;exact acC d g e f c j k λax s=>s
def acD{n:Int}:a0 C 69 #[F H n] w λae a=>Q [] w a/\
  ((¬(1<=n/\n<=128)/\ae=bQ #[aE I,ff (v2 act n 1)])\/(1<=n/\n<=128/\∃ah am,ae=bQ #[aE (E ⟨ah,0,I⟩),cT]/\hI 186 a ah (b3.cq n.toNat) am/\∀g∈am,w.heap.size<=g)):=by
 refine a9 (.L .D (.L (.bK [10] .D .D) .D)) 1 Tryz.func69 K rfl λa1 c=>?_;simp+decide only[↓a8,ba,Tryz.f69];subst c;refine bT (λe a=>e=[aK (decide (¬(1<=n/\n<=128)))]/\w=a) ?_ ?_
 ·simp only[qN,wX,bi];exact⟨λd=>⟨by rw[decide_eq_true (show¬(1<=n/\n<=128)by omega)],trivial⟩,λd=>⟨by rw[decide_eq_decide.2 (show(128<n)↔¬(1<=n/\n<=128)by omega)],trivial⟩⟩
 rintro _ _ _ ⟨rfl,rfl⟩;simp only[kt,bi];refine⟨λf=>?_,λs=>?_⟩
 ·refine Hx ⟨Q.b0 _ _,Y ⟨f,rfl⟩⟩
 ·obtain⟨ak,rfl⟩:=nL (show 0<=n by omega);refine x6 mK (l:=ak) A (by unfold d0;omega) λaA i j t=>(bY (gT:=#[T (E ⟨w.heap.size,0,I⟩) ak ak,eB I,eB I,aK U]) K).2 (eA λax k b u=>?_);have m:rL 186 ax aA.heap.size w.heap.size 0 ak ak (eB I) (eB I) _ U:=⟨k,x5 (i.J b B) B (by unfold d0;omega),A,A,A⟩;apply aH Gn (Hz m);rintro _ v ⟨az,o,p,q⟩;refine⟨(j.R b B).R p (by simp;omega),Z ⟨A,A,_,az,rfl,o,λg r=>?_⟩⟩;rcases q g r with rfl|rfl|h<;>omega
def acE(h:hI 186 w ah aq am):a0 C 84 #[aE (E ⟨ah,0,I⟩)] w λ_ a=>∃az,hI 186 a ah (aq.sP G) az/\Q am w a/\∀g∈az,g∈am\/w.heap.size<=g:=by
 obtain⟨bM,af,bL,eD,db,bn,bC,bb,o,p,rfl⟩:=h;have q:bn.length=aq.d3.length:=by rw[<-p.1,dU]
 refine a9 .D 1 Tryz.func84 K rfl λa1 r=>?_;simp+decide only[↓a8,ba,Tryz.f84];subst r;apply aH Gn (Hz o.P5);rintro _ aA ⟨az,⟨i,s,t,j,k,l,m,u,et,gb,rfl⟩,v,x⟩;simp only[M];refine eK yd et.bg B rfl λax y c z=>?_;have d:=(rK.1 et.hj);refine⟨fB ah i j k l m,⟨i,s,t,j,k,l,m,u,⟨by simpa[b3.sP]using y,et.c4.J c (by simp;exactλe=>d.1.1 e.symm),et.qU.J c (by simp;exactλe=>d.1.2.1 e.symm),et.sR.J c (by simp;exactλe=>d.1.2.2.1 e.symm),λab n=>(et.pq ab n).J c (by simp;exact(d.2.1 ah B).1 ab n),λai f=>⟨(et.lx ai f).1.J c (by simp;exact(d.2.1 ah B).2 ai f),(et.lx ai f).2⟩,et.hj,et.lH,et.hm⟩,?_,rfl⟩,?_,?_⟩
 ·unfold b3.sP;rw[<-q];exact gb
 ·exact(v.bw (λg b=>Y (by simp at b;rcases b with rfl|rfl<;>simp[fB]))).R c (λg b=>Y (by simp at b;subst b;simp[fB]))
 ·intro g b;rcases x g b with rfl|rfl|h
  ·exact Y (by simp[fB])
  ·exact Y (by simp[fB])
  ·exact Z h
def acF(h:hI 186 w ah aq am):a0 C 85 #[aE (E ⟨ah,0,I⟩)] w λ_ a=>∃az,hI 186 a ah (aq.sP U) az/\Q am w a/\∀g∈az,g∈am\/w.heap.size<=g:=by
 obtain⟨bM,af,bL,eD,db,bn,bC,bb,o,p,rfl⟩:=h;have q:bn.length=aq.d3.length:=by rw[<-p.1,dU]
 refine a9 .D 1 Tryz.func85 K rfl λa1 r=>?_;simp+decide only[↓a8,ba,Tryz.f85];subst r;apply aH Gn (Hz o.P5);rintro _ aA ⟨az,⟨i,s,t,j,k,l,m,u,et,gb,rfl⟩,v,x⟩;simp only[M];refine eK yd et.bg B rfl λax y c z=>?_;have d:=(rK.1 et.hj);refine⟨fB ah i j k l m,⟨i,s,t,j,k,l,m,u,⟨by simpa[b3.sP]using y,et.c4.J c (by simp;exactλe=>d.1.1 e.symm),et.qU.J c (by simp;exactλe=>d.1.2.1 e.symm),et.sR.J c (by simp;exactλe=>d.1.2.2.1 e.symm),λab n=>(et.pq ab n).J c (by simp;exact(d.2.1 ah B).1 ab n),λai f=>⟨(et.lx ai f).1.J c (by simp;exact(d.2.1 ah B).2 ai f),(et.lx ai f).2⟩,et.hj,et.lH,et.hm⟩,?_,rfl⟩,?_,?_⟩
 ·unfold b3.sP;rw[<-q];exact gb
 ·exact(v.bw (λg b=>Y (by simp at b;rcases b with rfl|rfl<;>simp[fB]))).R c (λg b=>Y (by simp at b;subst b;simp[fB]))
 ·intro g b;rcases x g b with rfl|rfl|h
  ·exact Y (by simp[fB])
  ·exact Y (by simp[fB])
  ·exact Z h
section
def rM{l:List (Int×aU)}{k:Int}{aa:aU}(h:fq l k=E aa):(k,aa)∈l:=by
 rw[CH]at h;cases a:lJ l k with
 |none=>rw[a]at h;cases h
 |some ai=>
  obtain⟨j,ae⟩:=ai;rw[a]at h;simp at h;subst h;exact gP (CI a)
def AR{l:List (Int×aU)}{k:Int}{aa:aU}:∀{ai:Int×aU},ai∈ka l k aa->ai=(k,aa)\/ai∈l:=by
 induction l with
 |nil=>intro ai h;simp[ka]at h;exact Y h
 |cons ah l a=>
  intro ai h;simp only[ka]at h;split at h
  ·rcases ce.1 h with rfl|h
   ·exact Y rfl
   ·exact Z (ev _ h)
  ·rcases ce.1 h with rfl|h
   ·exact Z fE
   ·exact(a h).imp id (ev _)
def acG{aj:Int×aU->jA}{l:List (Int×aU)}{k:Int}{aa:aU}(h:(l.map aj).Nodup)(a:aj (k,aa)∉l.map aj):((ka l k aa).map aj).Nodup:=by
 induction l with
 |nil=>simp[ka]
 |cons ah l e=>
  rw[ge]at h a;obtain⟨f,c⟩:=ks.1 h;rw[ce,not_or]at a;simp only[ka];split
  ·rw[ge];exact ks.2 ⟨a.2,c⟩
  ·rw[ge];refine ks.2 ⟨λg=>?_,e c a.2⟩;obtain⟨ai,b,d⟩:=fS.1 g;rcases AR b with rfl|b
   ·exact a.1 d
   ·exact f (d▸fS.2 ⟨ai,b,rfl⟩)
end
def n3(bn:List eq)(bE:List (Int×eq))(s:Nat->Bool):List eq:=bn.zipIdx.map λai=>if s ai.2 then(fq bE (ai.2:Int)).getD ai.1 else ai.1
def xm(bn:List eq)(bE:List (Int×eq))(s:Nat->Bool):(n3 bn bE s).length=bn.length:=by simp[n3]
def xn(bn:List eq)(bE:List (Int×eq))(s:Nat->Bool)(i:Nat):(n3 bn bE s)[i]?=(bn[i]?).map λab=>if s i then(fq bE (i:Int)).getD ab else ab:=by simp only[n3,e1,List.getElem?_zipIdx,gQ];cases bn[i]?<;>rfl
def P7(bn:List eq)(bE:List (Int×eq)):n3 bn bE (λ_=>U)=bn:=by apply qC;intro i;rw[xn];cases bn[i]?<;>rfl
def P8{s:Nat->Bool}{ab:eq}(c:fq bE (i:Int)=E ab):((n3 bn bE s).map eq.a7).set i ab.a7=(n3 bn bE λj=>s j||decide (j=i)).map eq.a7:=by
 apply qC;intro j;rw[pT,e1,e1,xn,xn,dU,xm];by_cases b:i=j
 ·subst b;rw[if_pos rfl];by_cases a:i<bn.length
  ·rw[if_pos a,cr a];simp[c]
  ·rw[if_neg a,jy A];rfl
 ·rw[if_neg b];have:decide (j=i)=U:=by simp;omega
  rw[this,Bool.or_false]
def yM{s:Nat->Bool}{ab:eq}(h:ab∈n3 bn bE s):ab∈bn\/∃ai∈bE,ai.2=ab:=by
 obtain⟨i,al,rfl⟩:=List.mem_iff_getElem.1 h;have a:i<bn.length:=by rw[xm]at al;exact al
 have:=xn bn bE s i;rw[cr al,cr a]at this;simp only[m1,vq]at this;rw[this];split
 ·cases b:fq bE (i:Int)with
  |none=>exact Y (dX a)
  |some dr=>exact Z ⟨_,rM b,rfl⟩
 ·exact Y (dX a)
def acH{s:Nat->Bool}(v:(bn.map eq.bk).Nodup)(q:(bE.map λai=>ai.2.bk).Nodup)(h:∀ab∈bn,∀ai∈bE,ab.bk≠ai.2.bk):((n3 bn bE s).map eq.bk).Nodup:=by
 have bz:∀(i j:Nat)(d b:eq),i<j->(n3 bn bE s)[i]?=E d->(n3 bn bE s)[j]?=E b->d.bk≠b.bk:=by
  intro i j d b n f a;have c:j<bn.length:=by have:=(fi.1 a).1;rwa[xm]at this
  have al:i<bn.length:=A;rw[xn,cr al]at f;rw[xn,cr c]at a;simp only[m1,vq]at f a;have k:(bn[i]).bk≠(bn[j]).bk:=by have:=rd.1 v i j (by simpa using al) (by simpa using c) n;rwa[ic,ic]at this
  have w:∀d b,fq bE (i:Int)=E d->fq bE (j:Int)=E b->d.bk≠b.bk:=by
   intro d b f a r;obtain⟨x,t,o⟩:=List.mem_iff_getElem.1 (rM f);obtain⟨ap,u,l⟩:=List.mem_iff_getElem.1 (rM a);have y:x=ap:=by
    rcases ut x ap with p|z|p
    ·refine absurd ?_ (rd.1 q x ap (by simpa using t) (by simpa using u) p);rw[ic,ic,o,l];exact r
    ·exact z
    ·refine absurd ?_ (rd.1 q ap x (by simpa using u) (by simpa using t) p);rw[ic,ic,o,l];exact r.symm
   subst y;rw[o]at l;have:(i:Int)=j:=congrArg (·.1) l;omega
  subst f;subst a;split
  ·split
   ·cases m:fq bE (i:Int)with
    |none=>cases g:fq bE (j:Int)with
     |none=>exact k
     |some dr=>exact h _ (dX al) _ (rM g)
    |some ab=>cases g:fq bE (j:Int)with
     |none=>exactλe=>h _ (dX c) _ (rM m) e.symm
     |some dr=>exact w _ _ m g
   ·cases m:fq bE (i:Int)with
    |none=>exact k
    |some ab=>exactλe=>h _ (dX c) _ (rM m) e.symm
  ·split
   ·cases g:fq bE (j:Int)with
    |none=>exact k
    |some dr=>exact h _ (dX al) _ (rM g)
   ·exact k
 refine rd.2 λi j al c n=>?_;rw[ic,ic];exact bz i j _ _ n (cr (by simpa using al)) (cr (by simpa using c))
def acI:du C 4 (aK U):=by unfold du;kernel_rfl
section
variable{bb:List (Int×Bool)}{aB:Bool}{s:Nat->Bool}{a1:List (Int×Bool)}
def iv.dt(h:iv ar w ah bM af bL eD db bn bE bb cE aB)(al:i<bn.length)(g:aa.oneCell'=G){ac:aN->Prop}(k:∀a,iv ar a ah bM af bL eD db bn bE bb (cE.set i aa) aB->Q [bM] w a->ac a):
  aV C (fY 183 (T (E ⟨bM,af,I⟩) bn.length bL) (F H i)) λae=>W C (dC 52 ae aa) w λ_ a=>ac a:=by
 apply(hP pe mJ al).2;rw[gA];have c:=rK.1 h.hj;refine vI mJ h.c4 (by rw[h.P4];exact al) g λaA j b l=>k aA ⟨h.bg.J b (by simp;exact c.1.1),j,h.qU.J b (by simp;exactλe=>c.1.2.2.2.1 e.symm),h.sR.J b (by simp;exactλe=>c.1.2.2.2.2.1 e.symm),λab f=>(h.pq ab f).J b (by simp;exact(c.2.1 bM B).1 ab f),λai d=>⟨(h.lx ai d).1.J b (by simp;exact(c.2.1 bM B).2 ai d),(h.lx ai d).2⟩,h.hj,h.lH,h.hm⟩ b
def iv.P9(h:iv ar w ah bM af bL eD db bn bE bb cE aB){e:List (Int×Bool)}(g:kb a db aK e)(b:Q [db] w a):iv ar a ah bM af bL eD db bn bE e cE aB:=by have c:=rK.1 h.hj;exact⟨h.bg.J b (by simp;exact c.1.2.2.1),h.c4.J b (by simp;exact c.1.2.2.2.2.1),h.qU.J b (by simp;exact c.1.2.2.2.2.2),g,λab f=>(h.pq ab f).J b (by simp;exact(c.2.1 db B).1 ab f),λai d=>⟨(h.lx ai d).1.J b (by simp;exact(c.2.1 db B).2 ai d),(h.lx ai d).2⟩,h.hj,h.lH,h.hm⟩
def iv.Qa(h:iv ar w ah bM af bL eD db bn bE bb ((n3 bn bE s).map eq.a7) aB)(q:P3 bn bE a1 aq)(t:aB=aq.dW)(u:∀j:Nat,(fq bb (j:Int)).getD U=if s j then U else aq.lg j){ac:aN->Prop}
  (k:∀a az,hI ar a ah (aq.rJ s) az->Q [ah] w a->(∀g∈az,g∈fB ah bM eD db bn bE\/w.heap.size<=g)->ac a):
  W C (uz 184 I) w λv x=>W C (dC 184 (aE (E ⟨ah,1,I⟩)) v) x λ_ y=>ac y:=by
 refine Aa (bI:=λab:eq=>ab.a7) w7 (Y rfl) λaA z r J=>?_;have n:=h.V r;refine eK Lc n.bg B rfl λax D m K=>?_;have d:=rK.1 h.hj;have o:=h.aL;have L:=o ah (by simp[fB]);refine k ax (fB ah bM w.heap.size db (n3 bn bE s) []) ⟨bM,af,bL,w.heap.size,db,n3 bn bE s,[],bb,⟨?_,?_,z.J m (by simp;omega),n.sR.J m (by simp;exactλe=>d.1.2.2.1 e.symm),λab c=>?_,B,?_,by rw[xm];exact h.lH,by rw[xm];exact h.hm⟩,⟨?_,λ_=>rfl,λj=>?_⟩,rfl⟩ (r.bw B|>.R m B) (λg p=>?_)
 ·rw[xm];show aC ax ah ar [_,_,_,aK aq.dW];rw[<-t];simpa using D
 ·rw[xm];exact n.c4.J m (by simp;exactλe=>d.1.1 e.symm)
 ·rcases yM c with c|⟨ai,f,rfl⟩
  ·exact(n.pq ab c).J m (by simp;exact(d.2.1 ah B).1 ab c)
  ·exact(n.lx ai f).1.J m (by simp;exact(d.2.1 ah B).2 ai f)
 ·have dI:=o bM (by simp[fB]);have N:=o db (by simp[fB]);refine rK.2 ⟨⟨d.1.1,A,d.1.2.2.1,A,d.1.2.2.2.2.1,A⟩,λb l=>⟨λab c=>?_,B⟩,acH d.2.2.1 d.2.2.2.1 d.2.2.2.2,B,B⟩;have O:ab.bk<w.heap.size:=by
   rcases yM c with c|⟨ai,f,rfl⟩
   ·exact(h.pq ab c).aL
   ·exact(h.lx ai f).1.aL
  simp at l;rcases l with l|l|l|l
  ·subst l;rcases yM c with c|⟨ai,f,rfl⟩
   ·exact(d.2.1 b B).1 ab c
   ·exact(d.2.1 b B).2 ai f
  ·subst l;rcases yM c with c|⟨ai,f,rfl⟩
   ·exact(d.2.1 b B).1 ab c
   ·exact(d.2.1 b B).2 ai f
  ·omega
  ·subst l;rcases yM c with c|⟨ai,f,rfl⟩
   ·exact(d.2.1 b B).1 ab c
   ·exact(d.2.1 b B).2 ai f
 ·apply qC;intro i;rw[e1,xn,P1,<-q.1,e1,<-q.2.1 i];cases bn[i]? with
  |none=>rfl
  |some ab=>
   simp only[m1,vq];split
   ·cases fq bE (i:Int)<;>rfl
   ·rfl
 ·exact u j
 ·unfold fB at p;simp only[ce,b4,fS,iZ,tp,or_false]at p;rcases p with rfl|rfl|rfl|rfl|⟨ab,c,rfl⟩
  ·exact Y (by simp[fB])
  ·exact Y (by simp[fB])
  ·exact Z (fF _)
  ·exact Y (by simp[fB])
  ·rcases yM c with c|⟨ai,f,rfl⟩
   ·exact Y (by unfold fB;simp;exact Z (Z (Z (Z (Y ⟨ab,c,rfl⟩)))))
   ·exact Y (by unfold fB;simp;exact Z (Z (Z (Z (Z ⟨_,_,f,rfl⟩)))))
end
def Qb{bb:List (Int×Bool)}{aB:Bool}(h:iv 186 w ah bM af bL eD db bn bE bb cE aB){ab:eq}(c:fq bE (i:Int)=E ab):
  a0 C 138 #[aE (E ⟨ah,0,I⟩),F H i] w λ_ a=>iv 186 a ah bM af bL eD db bn bE (ka bb (i:Int) U) (cE.set i ab.a7) aB/\Q [bM,db] w a:=by
 have g:=h.lx _ (rM c);have al:i<bn.length:=by have:=g.2.2;simp at this;omega
 have e:=cD [] w;have b:=h.V e;obtain⟨j,k,p,q⟩:=b.kB;refine a9 M7 2 Tryz.func138 K rfl λa1 l=>?_;simp+decide only[↓a8,ba,M7,Tryz.f138];subst l;simp only[M,j,k];apply(FI w7 b.qU CZ).2;rw[c];simp only[m1,om];refine b.dt al (b.lx _ (rM c)).1.aW λax d m=>?_;obtain⟨r,s,n,t⟩:=d.kB;simp only[M,n];exact Ab vO d.sR (aa:=U) rfl λu o f v=>⟨d.P9 o f,((e.bw B).R m B).R f B⟩
def acJ{n:Int}(k:∀ae a,aT a ew ae [n]->Q [] w a->ac ae a):W C (jR 22 1 #[(0,F H n)]) w ac:=
 hw uM [F H n] rfl rfl (by intro aa b;simp at b;subst b;rfl) A A λa c d _=>k _ _ (p3 (l:=[n]) (by simpa[bF,ew]using c)) d
def dZ(l:List Nat):List Int:=l.map λ(i:Nat)=>(i:Int)
def acK(h:hI 186 w ah aq am):a0 C 137 #[aE (E ⟨ah,0,I⟩)] w λae a=>aT a ew ae (dZ aq.iG)/\(∀b af n c,ae=T (E ⟨b,af,I⟩) n c->w.heap.size<=b)/\Q [] w a:=by
 obtain⟨bM,af,bL,eD,db,bn,bC,bb,p,r,rfl⟩:=h;have t:bn.length=aq.d3.length:=by rw[<-r.1,dU]
 have ai:=p.hm;obtain⟨u,aj,ak,an⟩:=p.kB;refine a9 M6 1 Tryz.func137 K rfl λa1 v=>?_;simp+decide only[↓a8,ba,M6,Tryz.f137];subst v;simp only[M,u];refine c1 (λd a=>∃(i:Nat)(aa:S)(aD:List Nat),d=[aa,F H i]/\i<=bn.length/\bP a 3 1 aa (dZ ((c9 i).filter λi=>(aq.dp i).isSome)).length ((dZ ((c9 i).filter λi=>(aq.dp i).isSome)).flatMap ew) aD/\(∀g∈aD,w.heap.size<=g)/\Q [] w a)
  (λd _=>match d with|[_,F _ i]=>bn.length-i.toNat|_=>0) ⟨0,T I 0 0,[],rfl,A,by simp only[List.range_zero,List.filter_nil];exact gJ _ _ _,B,Q.b0 _ _⟩ ?_
 rintro _ _ aA ⟨i,aa,aD,rfl,al,k,m,f⟩;simp only[M,bi];refine⟨λao=>?_,λap=>?_⟩
 ·have s:=p.V f;obtain⟨ar,y,au,av⟩:=s.kB;have aw:((c9 i).filter λi=>(aq.dp i).isSome).length<=i:=by have:=List.length_filter_le (λi=>(aq.dp i).isSome) (c9 i);rwa[uw]at this
  refine bT (λd a=>∃(aa:S)(aD:List Nat),d=[aa]/\bP a 3 1 aa (dZ ((c9 (i+1)).filter λi=>(aq.dp i).isSome)).length ((dZ ((c9 (i+1)).filter λi=>(aq.dp i).isSome)).flatMap ew) aD/\(∀g∈aD,w.heap.size<=g)/\Q [] w a) ?_ ?_
  ·simp only[M,y];apply(FJ w7 s.qU CZ).2;simp only[cV,cX];have z:(fq bC (i:Int)).isSome=(aq.dp i).isSome:=by rw[<-r.2.1 i];cases fq bC (i:Int)<;>rfl
   rw[z,cG,nK,List.filter_append];refine⟨λD=>?_,λJ=>?_⟩
   ·refine acJ λae ax o j=>tJ uM (k.J j B) (sE.x7 (l:=[(i:Int)]) (gh:=3) K o Cw (λx ae o=>by simp[ew]at o;subst o;rfl)) (by simp[dZ];omega) (by unfold d0;simp[dZ];omega) λL ay R V W X _=>?_;have az:=(f.R j B).aI;refine⟨L,R,rfl,?_,λg q=>(X g q).elim (m g) (λh=>A),(f.R j B).R W (λg q=>Z (m g q))⟩;have e:dZ ((c9 i).filter (λi=>(aq.dp i).isSome)++[i].filter λi=>(aq.dp i).isSome)=dZ ((c9 i).filter λi=>(aq.dp i).isSome)++[(i:Int)]:=by simp[dZ,D]
    rw[e,hL,di];exact V
   ·refine⟨aa,aD,rfl,?_,m,f⟩;have e:[i].filter (λi=>(aq.dp i).isSome)=[]:=by simp[J]
    rw[e,kJ];exact k
  rintro _ _ ax ⟨ab,ac,rfl,ad,ag,j⟩;simp only[M];rw[bq A A];exact⟨⟨i+1,ab,ac,rfl,A,ad,ag,j⟩,A⟩
 ·obtain rfl:i=bn.length:=A;unfold b3.iG;rw[<-t];exact⟨k.eF Cw A,λb af n c e=>m b (k.rt b af n c e),f⟩
def acL{i:Int}{b:List UInt8}(h:hI 186 w ah aq am)(u:aT w bs b1 b):
  a0 C 170 #[aE (E ⟨ah,0,I⟩),F H i,b1] w λae a=>∃az,ae=ff (v2 acu i (aq.kj i (decide (b.length≠128))))/\hI 186 a ah (if aq.kj i (decide (b.length≠128))=0 then aq.kW i.toNat b else aq) az/\Q am w a/\∀g∈az,g∈am\/w.heap.size<=g:=by
 refine a9 Nq 3 Tryz.func170 K rfl λa1 V=>?_;simp+decide only[↓a8,ba,Nq,Tryz.f170];subst V;obtain⟨y,z,rfl,W,X⟩:=u;have u:aT w bs (T y b.length z) b:=⟨y,z,rfl,W,X⟩;simp only[M];rw[show decide (((b.length:Nat):Int)≠128)=decide (b.length≠128)from decide_eq_decide.2 A];refine DZ h (oF.2 ?_);rw[DY];by_cases q:aq.kj i (decide (b.length≠128))=0
 ·rw[q,if_pos rfl];simp only[decide_true,hq,kN];have o:=q;unfold b3.kj at o;split at o
  ·cases o
  ·split at o
   ·cases o
   ·rename_i f ac;have ad:b.length=128:=by
     rcases Nat.decEq b.length 128 with ag|v
     ·exact absurd (Y (decide_eq_true ag)) ac
     ·exact v
    obtain⟨n,rfl⟩:=nL (show 0<=i by omega);rw[hf];have D:=h.aL;obtain⟨bM,af,bL,eD,db,bn,bC,bb,m,r,rfl⟩:=h;have ap:bn.length=aq.d3.length:=by rw[<-r.1,dU]
    have x:=cD [] w;have J:=m.V x;obtain⟨ar,aj,au,av⟩:=J.kB;simp only[M,aj];apply aH w8 (Hw (u.V x) ad);rintro _ ax ⟨ab,rfl,ak,aw,al,L⟩;have k:=J.V L;refine(dz Lb (k.bg.bh (af:=1))).2 (Ab w7 k.qU (aa:=ab) rfl λay an l aA=>?_);have f:=rK.1 m.hj;have aB:w.drew.heap.size=w.heap.size:=rfl;have aC:=D eD (by simp[fB]);refine⟨fB ah bM eD db bn (ka bC (n:Int) ab),rfl,⟨bM,af,bL,eD,db,bn,ka bC (n:Int) ab,bb,⟨k.bg.J l (by simp;exact f.1.2.1),k.c4.J l (by simp;exact f.1.2.2.2.1),an,k.sR.J l (by simp;exactλe=>f.1.2.2.2.2.2 e.symm),λdr p=>(k.pq dr p).J l (by simp;exact(f.2.1 eD B).1 dr p),λai c=>?_,?_,m.lH,m.hm⟩,⟨r.1,λj=>?_,r.2.2⟩,rfl⟩,?_,λg d=>?_⟩
    ·rcases AR c with rfl|c
     ·exact⟨ak.J l (by simp;omega),B,by simp;omega⟩
     ·exact⟨(k.lx ai c).1.J l (by simp;exact(f.2.1 eD B).2 ai c),(k.lx ai c).2⟩
    ·refine rK.2 ⟨f.1,λs t=>⟨(f.2.1 s t).1,λai c=>?_⟩,f.2.2.1,acG f.2.2.2.1 ?_,λdr p ai c=>?_⟩
     ·rcases AR c with rfl|c
      ·have:=D s (by simp at t;rcases t with rfl|rfl|rfl|rfl<;>simp[fB]);show ab.bk≠s;omega
      ·exact(f.2.1 s t).2 ai c
     ·intro ao;obtain⟨ai,c,v⟩:=fS.1 ao;have:=(m.lx ai c).1.aL;simp at v;omega
     ·rcases AR c with rfl|c
      ·have:=(m.pq dr p).aL;show dr.bk≠ab.bk;omega
      ·exact f.2.2.2.2 dr p ai c
    ·rw[x8];unfold b3.kW;simp only;by_cases R:j=n
     ·subst R;rw[if_pos rfl,if_pos rfl];simp[al]
     ·rw[if_neg A,if_neg R];exact r.2.1 j
    ·exact((x.R L B).bw B).R l (λg d=>Y (by simp at d;subst d;simp[fB]))
    ·unfold fB at d⊢;simp only[ce,b4,fS]at d⊢;rcases d with d|d|d|d|d|⟨ai,c,rfl⟩
     ·exact Y (Y d)
     ·exact Y (Z (Y d))
     ·exact Y (Z (Z (Y d)))
     ·exact Y (Z (Z (Z (Y d))))
     ·exact Y (Z (Z (Z (Z (Y d)))))
     ·rcases AR c with rfl|c
      ·exact Z (by show w.heap.size<=ab.bk;omega)
      ·exact Y (Z (Z (Z (Z (Z ⟨ai,c,rfl⟩)))))
 ·rw[decide_eq_false q,if_neg q];simp only[lE,k9];exact⟨am,rfl,h,Q.b0 _ _,λg d=>Y d⟩
def acM{i:Int}(h:hI 186 w ah aq am):
  a0 C 275 #[aE (E ⟨ah,0,I⟩),F H i] w λae a=>∃aa,ae=bQ #[aa,ff (v2 acv i (aq.kj i U))]/\aT a bs aa (if aq.kj i U=0 then aq.j5 i.toNat else[])/\Q [] w a/\∀b af n c,aa=T (E ⟨b,af,I⟩) n c->w.heap.size<=b:=by
 refine a9 .D 2 Tryz.func275 K rfl λa1 r=>?_;simp+decide only[↓a8,ba,Tryz.f275];subst r;refine DZ h (oF.2 ?_);rw[DY];by_cases k:aq.kj i U=0
 ·rw[k,if_pos rfl];simp only[decide_true,hq,kN];have d:=k;unfold b3.kj at d;split at d
  ·cases d
  ·split at d
   ·cases d
   ·rename_i D J;obtain⟨n,rfl⟩:=nL (show 0<=i by omega);rw[hf];obtain⟨bM,af,bL,eD,db,bn,bC,bb,f,l,rfl⟩:=h;have L:bn.length=aq.d3.length:=by rw[<-l.1,dU]
    have m:n<bn.length:=A;obtain⟨s,t,R,V⟩:=f.kB;simp only[M,t];apply(FJ w7 f.qU CZ).2;simp only[cV,cX];have u:=l.2.1 n;unfold b3.j5;rw[<-u];cases v:fq bC (n:Int)with
    |some ab=>
     simp only[vu,k9,m1,om];have g:=(f.lx _ (rM v)).1;apply aH w8 (Hw g.eF g.dT);rintro _ ax ⟨dr,rfl,j,o,p,q⟩;refine⟨dr.a7,rfl,by rw[<-p];exact j.eF,q,λb af n c e=>?_⟩;obtain⟨x,y,gh⟩:=j.yL;rw[gh]at e;cases e;exact o
    |none=>
     simp only[wH,kN,Option.map_none,Option.getD_none,s];have z:(bn.map eq.a7)[n]?=E (bn[n]).a7:=by rw[e1,cr m];rfl
     apply(f.sH z).2;have g:=f.pq _ (dX m);have B:aq.d3.getD n []=(bn[n]).c6:=by rw[<-l.1,gp,e1,cr m];rfl
     apply aH w8 (Hw g.eF g.dT);rintro _ ax ⟨dr,rfl,j,o,p,q⟩;refine⟨dr.a7,rfl,by rw[B,<-p];exact j.eF,q,λb af n c e=>?_⟩;obtain⟨x,y,gh⟩:=j.yL;rw[gh]at e;cases e;exact o
 ·rw[decide_eq_false k,if_neg k];simp only[lE,k9];exact⟨_,rfl,aT.gW _ _,Q.b0 _ _,λb af n c e=>by cases e⟩
def Qc:∀{l ak:List Int},l.Nodup->(∀x∈l,x∈ak)->l.length<=ak.length
 |[],ak,_,_=>B
 |x::l,ak,h,ao=>by obtain⟨c,d⟩:=ks.1 h;have a:=ao x fE;have f:=Qc (ak:=ak.erase x) d (λap b=>(List.mem_erase_of_ne (λe=>c (by rw[<-e];exact b))).2 (ao ap (ev _ b)));rw[List.length_erase_of_mem a]at f;have:=List.length_pos_of_mem a;rw[gF];omega
def Qd(ah:Nat->Bool):∀n ak i,((c9 n).filter ah)[ak]?=E i->i<n/\ah i=G/\((c9 i).filter ah).length=ak
 |0,ak,i,h=>by simp at h
 |n+1,ak,i,h=>by
  rw[nK,List.filter_append]at h;rcases Nat.lt_or_ge ak ((c9 n).filter ah).length with b|c
  ·rw[pR b]at h;obtain⟨j,d,f⟩:=Qd ah n ak i h;exact⟨A,d,f⟩
  ·rw[nr c]at h;cases a:ah n with
   |false=>rw[show[n].filter ah=[]by simp[a]]at h;simp at h
   |true=>
    rw[show[n].filter ah=[n]by simp[a]]at h;have g:=(fi.1 h).1;simp only[nt]at g;have e:ak-((c9 n).filter ah).length=0:=A;rw[e]at h;simp at h;subst h;exact⟨A,a,A⟩
def Qe(ah:Nat->Bool)(j:Nat):∀ag,((c9 j).filter ah).length<=((c9 (j+ag)).filter ah).length
 |0=>fF _
 |ag+1=>by rw[<-sp,nK,List.filter_append,di];have:=Qe ah j ag;omega
def HA{ah:Nat->Bool}(h:j<k)(b:ah j=G):((c9 j).filter ah).length<((c9 k).filter ah).length:=by have a:=Qe ah (j+1) (k-(j+1));rw[show j+1+(k-(j+1))=k by omega,nK,List.filter_append,di,show[j].filter ah=[j]by simp[b]]at a;simp at a;omega
def acN{ah:Nat->Bool}(al:ah i=G)(b:ah j=G)(h:((c9 i).filter ah).length=((c9 j).filter ah).length):i=j:=by
 rcases ut i j with a|c|a
 ·have:=HA a al;omega
 ·exact c
 ·have:=HA a b;omega
def Qf{l:List (Int×aU)}{k:Int}(h:k∈l.map (·.1)):∃aa,fq l k=E aa:=by
 induction l with
 |nil=>simp at h
 |cons ah l a=>
  simp only[fq];split
  ·exact⟨_,rfl⟩
  ·rename_i b;rw[ge,ce]at h;exact a (h.resolve_left (λe=>b e.symm))
def acO:eH C 22 3 1 ew (F H):=eH.aW vL hl bZ
def acP(h:hI 186 w ah aq am):
  a0 C 171 #[aE (E ⟨ah,0,I⟩)] w λae a=>∃az,ae=ff (v2 acw 0 (aq.kj 0 U))/\hI 186 a ah (if aq.dW then aq else aq.rJ λj=>(aq.dp j).isSome) az/\Q am w a/\∀g∈az,g∈am\/w.heap.size<=g:=by
 have V:=h.e6;refine a9 Nr 1 Tryz.func171 K rfl λa1 aF=>?_;simp+decide only[↓a8,ba,Nr,Tryz.f171];subst aF;refine DZ h (oF.2 ?_);rw[DY];cases W:aq.dW with
 |true=>
  have i:aq.kj 0 U=5:=by unfold b3.kj;rw[W];rfl
  rw[i];simp only[show decide ((5:Int)=0)=U from rfl,lE,k9,if_true];exact⟨am,rfl,h,Q.b0 _ _,λg d=>Y d⟩
 |false=>
  have i:aq.kj 0 U=0:=by unfold b3.kj;rw[W,if_neg B,if_neg (by simp;intro u;rw[u]at V;simp at V)]
  rw[i];simp only[decide_true,hq,kN,fc,if_false];obtain⟨bM,af,bL,eD,db,bn,bC,bb,l,v,rfl⟩:=h;have o:=l.aL;have X:=rK.1 l.hj;obtain⟨aY,aG,aZ,a2⟩:=l.kB;simp only[M,aG];refine ZX w7 l.qU λaA aI ac a3=>?_;have ad:(bC.map (·.1)).Nodup:=by obtain⟨bx,c,_,_,_,_,u⟩:=l.qU;exact u
  generalize a4:w.heap.size=ab at*;have y:ab∉fB ah bM eD db bn bC:=λp=>by have:=o ab p;omega
  refine c1 (λ_ a=>∃done z,tR a ab eD (λab:eq=>ab.a7) bC done/\iv 186 a ah bM af bL eD db bn bC z ((n3 bn bC λj=>decide ((j:Int)∈done)).map eq.a7) aq.dW/\(∀j:Nat,(fq z (j:Int)).getD U=if decide ((j:Int)∈done)then U else aq.lg j)/\done.Nodup/\(∀k∈done,k∈bC.map (·.1))/\Q [bM,db] w a)
   (λ_ a=>bC.length-(a.iterSeen ab).size) ⟨[],bb,aI,by simp only[iZ,decide_false,P7];exact l.V ac,by simpa using v.2.2,B,B,ac.bw B⟩ ?_
  rintro _ _ ax ⟨done,z,ag,p,aj,aJ,ak,D⟩;have a5:=D.aI;refine ZZ ag (λe=>y (e▸(by simp[fB]))) (λaL=>?_) (λai q al aM J s a6=>?_)
  ·apply(qO (aa:=aK U) rfl).2;simp only[kN];have ao:(λj:Nat=>decide ((j:Int)∈done))=λj=>(aq.dp j).isSome:=by
    funext j;rw[<-v.2.1 j];by_cases f:(j:Int)∈done
    ·obtain⟨aa,m⟩:=Qf (ak _ f);rw[decide_eq_true f,m];rfl
    ·rw[decide_eq_false f];cases m:fq bC (j:Int)with
     |none=>rfl
     |some aa=>exact absurd (aL _ (rM m)) f
   rw[ao]at p;refine p.Qa v rfl (λj=>by rw[aj j];exact congrArg (λb:Bool=>if b then U else aq.lg j) (congrFun ao j)) λaM az aO s aP=>⟨az,rfl,?_,(D.bw (λg d=>Y (by simp at d;rcases d with rfl|rfl<;>simp[fB]))).R s (λg d=>Y (by simp at d;subst d;simp[fB])),λg d=>(aP g d).imp id (λh=>A)⟩;exact aO
  ·apply na.2;simp only[k9];refine(Z0 J q).2 (cV.2 ?_);have aQ:=p.J s (λg d an=>by simp at an;subst an;exact y d);have aR:=l.lx ai q;obtain⟨n,r⟩:=nL aR.2.1;have ar:fq bC (n:Int)=E ai.2:=by
    have aS:(n:Int)∈bC.map (·.1):=fS.2 ⟨ai,q,r⟩;obtain⟨aa,m⟩:=Qf aS;have aT:=rM m;obtain⟨x,au,L⟩:=List.mem_iff_getElem.1 aT;obtain⟨ap,av,t⟩:=List.mem_iff_getElem.1 q;have aU:x=ap:=by
     rcases ut x ap with o|aV|o
     ·refine absurd ?_ (rd.1 ad x ap (by simpa using au) (by simpa using av) o);rw[ic,ic,L,t];exact r.symm
     ·exact aV
     ·refine absurd ?_ (rd.1 ad ap x (by simpa using av) (by simpa using au) o);rw[ic,ic,L,t];exact r
    subst aU;rw[L]at t;rw[m,<-t]
   rw[r]at al J⊢;apply aH LJ (Qb aQ ar);rintro _ a7 ⟨R,aw⟩;rw[P8 ar]at R;have ay:=J.J aw (λaB=>y (by simp at aB;rcases aB with rfl|rfl<;>simp[fB])) (by simp;exact⟨λe=>X.1.2.2.2.1 e.symm,X.1.2.2.2.2.2⟩);have aW:(λj:Nat=>decide ((j:Int)∈done)||decide (j=n))=λj:Nat=>decide ((j:Int)∈(n:Int)::done):=by
    funext j;by_cases f:j=n
    ·subst f;simp
    ·have:¬(j:Int)=n:=A;simp[f,this]
   rw[aW]at R;have bc:(n::done.map Int.toNat).length=done.length+1:=B;have aC:((n:Int)::done).Nodup:=ks.2 ⟨al,aJ⟩;have aD:∀k∈(n:Int)::done,k∈bC.map (·.1):=λk i=>by
    rcases ce.1 i with rfl|i
    ·exact fS.2 ⟨ai,q,r⟩
    ·exact ak k i
   have aX:=Qc aC aD;rw[dU,gF]at aX;refine⟨⟨(n:Int)::done,_,ay,R,λj=>?_,aC,aD,?_⟩,?_⟩
   ·rw[x8];by_cases f:(n:Int)=j
    ·rw[if_pos f,if_pos (by simp[f])];rfl
    ·rw[if_neg f,aj j];have:decide ((j:Int)∈(n:Int)::done)=decide ((j:Int)∈done):=decide_eq_decide.2 (by rw[ce];exact⟨λh=>h.resolve_left (λe=>f e.symm),Z⟩);rw[this]
   ·exact(D.R s (λg d=>Z (by simp at d;omega))).R aw (λg d=>Y d)
   ·rw[ay.ec,ag.ec,gF];omega
def acQ{bits:Int}(h:hI 186 w ah aq am):
  a0 C 83 #[aE (E ⟨ah,0,I⟩),F hr bits] w λae a=>∃az,hI 186 a ah (aq.rJ (aq.AQ bits)) az/\Q am w a/\∀g∈az,g∈am\/w.heap.size<=g:=by
 have aJ:=h.e6;have aj:=h.cn;have W:=h.aL;refine a9 MH 2 Tryz.func83 K rfl λa1 al=>?_;simp+decide only[↓a8,ba,MH,Tryz.f83];subst al;apply aH X9 (acK h);rintro ae aA ⟨D,an,J⟩;have h:=h.V J;obtain⟨p,q,rfl,aow,aoE⟩:=D;have D:aT aA ew (T p (dZ aq.iG).length q) (dZ aq.iG):=⟨p,q,rfl,aow,aoE⟩;obtain⟨bM,af,bL,eD,db,bn,bC,bb,X,r,rfl⟩:=h;have aL:bn.length=aq.d3.length:=by rw[<-r.1,dU]
 have aM:=X.aL;have aO:=J.aI;have aP:(dZ aq.iG).length=aq.iG.length:=by simp[dZ]
 have aQ:aq.iG.length<=128:=by unfold b3.iG;have:=List.length_filter_le (λi=>(aq.dp i).isSome) (c9 aq.d3.length);rw[uw]at this;omega
 simp only[M];refine c1 (λs a=>∃(ak:Nat)(k:List (Int×Bool)),s=[F H ak]/\ak<=aq.iG.length/\iv 186 a ah bM af bL eD db bn bC k ((n3 bn bC λj=>(aq.dp j).isSome&&decide (aq.bV j<ak)&&qa bits (aq.bV j%64)).map eq.a7) aq.dW/\(∀j:Nat,(fq k (j:Int)).getD U=if((aq.dp j).isSome&&decide (aq.bV j<ak)&&qa bits (aq.bV j%64))then U else aq.lg j)/\aT a ew (T p (dZ aq.iG).length q) (dZ aq.iG)/\Q [bM,db] aA a)
  (λs _=>match s with|[F _ ak]=>aq.iG.length-ak.toNat|_=>0) ⟨0,bb,rfl,A,by simp only[Nat.not_lt_zero,decide_false,Bool.and_false,Bool.false_and,P7];exact X,by simpa using r.2.2,D,Q.b0 _ _⟩ ?_
 rintro _ _ ax ⟨ak,k,rfl,aR,m,L,R,t⟩;simp only[M,bi];refine⟨λaS=>?_,λaU=>?_⟩
 ·have ap:ak<aq.iG.length:=A;obtain⟨i,aa⟩:∃i,aq.iG[ak]?=E i:=⟨_,cr ap⟩;obtain⟨aV,u,ar⟩:=Qd _ _ _ _ aa;have au:(dZ aq.iG)[ak]'A=((i:Nat):Int):=by
   have:(dZ aq.iG)[ak]?=E (i:Int):=by simp[dZ,aa]
   exact(fi.1 this).2
  have ac:aq.bV i=ak:=ar;have V:∀j:Nat,((aq.dp j).isSome&&decide (aq.bV j<ak+1)&&qa bits (aq.bV j%64))=(((aq.dp j).isSome&&decide (aq.bV j<ak)&&qa bits (aq.bV j%64))||(decide (j=i)&&qa bits (ak%64))):=by
   intro j;by_cases v:j=i
   ·subst v;rw[u,ac];simp
   ·have av:(aq.dp j).isSome=G->aq.bV j≠ak:=λf aw=>v (acN f u (aw.trans ac.symm));cases f:(aq.dp j).isSome with
    |false=>simp[v]
    |true=>
     have:=av f;have e:decide (aq.bV j<ak+1)=decide (aq.bV j<ak):=decide_eq_decide.2 A;rw[e];simp[v]
  refine bT (λs a=>∃(k:List (Int×Bool)),iv 186 a ah bM af bL eD db bn bC k ((n3 bn bC λj=>(aq.dp j).isSome&&decide (aq.bV j<ak+1)&&qa bits (aq.bV j%64)).map eq.a7) aq.dW/\(∀j:Nat,(fq k (j:Int)).getD U=if((aq.dp j).isSome&&decide (aq.bV j<ak+1)&&qa bits (aq.bV j%64))then U else aq.lg j)/\aT a ew (T p (dZ aq.iG).length q) (dZ aq.iG)/\Q [bM,db] aA a) ?_ ?_
  ·apply(acO.ek R (Q.b0 _ _) A).2;rw[au];apply(vE A).2;rw[show((ak:Int).tmod 64)=((ak%64:Nat):Int)by rw[Int.tmod_eq_emod_of_nonneg A];omega];apply(fv kd tP).2;rw[l8 A A];refine(nS A).2 (Kx.2 ?_);simp only[M];rw[hf];show eV (aK (qa bits (ak%64))) _ _;rw[cG];refine⟨λy=>?_,λy=>?_⟩
   ·obtain⟨ab,ad⟩:∃ab,fq bC (i:Int)=E ab:=by
     have:=r.2.1 i;cases ay:fq bC (i:Int)with
     |none=>rw[ay]at this;rw[<-this]at u;cases u
     |some ab=>exact⟨ab,rfl⟩
    apply aH LJ (Qb m ad);rintro _ ag ⟨o,l⟩;rw[P8 ad]at o;have z:(λj:Nat=>(aq.dp j).isSome&&decide (aq.bV j<ak)&&qa bits (aq.bV j%64)||decide (j=i))=λj=>(aq.dp j).isSome&&decide (aq.bV j<ak+1)&&qa bits (aq.bV j%64):=by funext j;rw[V j,y,Bool.and_true]
    rw[z]at o;refine⟨_,o,λj=>?_,R.J l (λb af n c e ai=>?_),t.R l (λg d=>Y d)⟩
    ·rw[x8,V j,y,Bool.and_true];by_cases f:(i:Int)=j
     ·have:j=i:=A;rw[if_pos f,this];simp
     ·have:¬j=i:=A;rw[if_neg f,L j];simp[this]
    ·have aW:=an b af n c e;simp at ai;rcases ai with rfl|rfl
     ·have:=W b (by simp[fB]);omega
     ·have:=W b (by simp[fB]);omega
   ·have z:(λj:Nat=>(aq.dp j).isSome&&decide (aq.bV j<ak)&&qa bits (aq.bV j%64))=λj=>(aq.dp j).isSome&&decide (aq.bV j<ak+1)&&qa bits (aq.bV j%64):=by funext j;rw[V j,y,Bool.and_false,Bool.or_false]
    rw[z]at m;exact⟨k,m,λj=>by rw[L j];exact congrArg (λb:Bool=>if b then U else aq.lg j) (congrFun z j),R,t⟩
  rintro _ _ ag ⟨aB,o,aC,aD,l⟩;try simp only[M]
  rw[bq A A];exact⟨⟨ak+1,aB,rfl,A,o,aC,aD,l⟩,A⟩
 ·obtain rfl:ak=aq.iG.length:=A;have ao:(λj:Nat=>(aq.dp j).isSome&&decide (aq.bV j<aq.iG.length)&&qa bits (aq.bV j%64))=aq.AQ bits:=by
   funext j;unfold b3.AQ;cases f:(aq.dp j).isSome with
   |false=>rfl
   |true=>
    obtain⟨x,aF⟩:=Option.isSome_iff_exists.1 f;have:aq.bV j<aq.iG.length:=HA (aj j x aF).1 f;simp[this]
  rw[ao]at m;have aX:=t.aI;exact m.Qa r rfl (λj=>by rw[L j];exact congrArg (λb:Bool=>if b then U else aq.lg j) (congrFun ao j)) λag az aG l aI=>⟨az,aG,((J.bw B).R (t.bw (λg d=>Y (by simp at d;rcases d with rfl|rfl<;>simp[fB]))) (λg d=>Y d)).R l (λg d=>Y (by simp at d;subst d;simp[fB])),λg d=>(aI g d).imp id (λh=>A)⟩
def acR{ah:List UInt8}{aa:UInt8}:(ah.flatMap bs).set i (F cl aa.toNat)=(ah.set i aa).flatMap bs:=by rw[tK,tK,qB]
def iv.acS{bb:List (Int×Bool)}{aB:Bool}(h:iv ar w ah bM af bL eD db bn bE bb cE aB){ab:eq}{dx:List UInt8}(al:bn[i]?=E ab)
  (u:bP a 5 1 ab.a7 128 (dx.flatMap bs) [ab.bk]) (v:dx.length=128) (c:Q [ab.bk] w a):iv ar a ah bM af bL eD db (bn.set i ⟨ab.a7,ab.bk,dx⟩) bE bb cE aB:=by
 have o:=(fi.1 al).1;have p:ab∈bn:=gP al;have f:=rK.1 h.hj;have k:(bn.set i ⟨ab.a7,ab.bk,dx⟩).map eq.bk=bn.map eq.bk:=by
  rw[qB];have:(bn.map eq.bk)[i]?=E ab.bk:=by rw[e1,al];rfl
  obtain⟨x,y⟩:=fi.1 this;show(bn.map eq.bk).set i ab.bk=_;rw[<-y];exact List.set_getElem_self x
 have z:∀(j:Nat)(dr:eq),j≠i->bn[j]?=E dr->dr.bk≠ab.bk:=by
  intro j dr l d q;have r:=(fi.1 d).1;have s:bn[j]=dr:=(fi.1 d).2;have t:bn[i]=ab:=(fi.1 al).2;rcases ut i j with m|A|m
  ·refine absurd ?_ (rd.1 f.2.2.1 i j (by simpa using o) (by simpa using r) m);rw[ic,ic,s,t];exact q.symm
  ·exact l A.symm
  ·refine absurd ?_ (rd.1 f.2.2.1 j i (by simpa using r) (by simpa using o) m);rw[ic,ic,s,t];exact q
 have g:∀b∈[ah,bM,eD,db],b≠ab.bk:=λb k e=>(f.2.1 b k).1 ab p e.symm;refine⟨by rw[i9];exact h.bg.J c (by simpa using g ah B),by rw[i9];exact h.c4.J c (by simpa using g bM B),h.qU.J c (by simpa using g eD B),h.sR.J c (by simpa using g db B),λdr D=>?_,λai n=>⟨(h.lx ai n).1.J c (by simp;exactλe=>f.2.2.2.2 ab p ai n e.symm),by rw[i9];exact(h.lx ai n).2⟩,?_,by rw[i9];exact h.lH,by rw[i9];exact h.hm⟩
 ·obtain⟨j,d,rfl⟩:=List.mem_iff_getElem.1 D;rw[List.getElem_set];split
  ·exact⟨u,v⟩
  ·rename_i l;rw[i9]at d;exact(h.pq _ (dX d)).J c (by simp;exact z j _ (λe=>l e.symm) (cr d))
 ·have:fB ah bM eD db (bn.set i ⟨ab.a7,ab.bk,dx⟩) bE=fB ah bM eD db bn bE:=by unfold fB;rw[k]
  rw[this];exact h.hj
def acT(c:Int)(k:Nat):cl.wrap (c/2^min (8*k) 32)=((sQ c k).toNat:Int):=by
 have e:cl.wrap (c/2^min (8*k) 32)=(c/2^min (8*k) 32)%256:=by simp[IntKind.wrap,IntKind.bits,IntKind.signed]
 rw[e];unfold sQ;have a:=Int.emod_nonneg (c/2^min (8*k) 32) (show(256:Int)≠0 by omega);have b:=Int.emod_lt_of_pos (c/2^min (8*k) 32) (show(0:Int)<256 by omega);generalize c/2^min (8*k) 32%256=bm at*;rw[mx];omega
def acU{i aQ c:Int}(h:hI 186 w ah aq am):
  a0 C 53 #[aE (E ⟨ah,0,I⟩),F H i,F H aQ,F hS c] w λae a=>∃az,ae=aK (!aq.n2 i aQ c)/\hI 186 a ah (if aq.n2 i aQ c then aq else aq.yJ i.toNat aQ.toNat c) az/\Q am w a/\∀g∈az,g∈am\/w.heap.size<=g:=by
 refine a9 Mt 4 Tryz.func53 K rfl λa1 aB=>?_;simp+decide only[↓a8,ba,Mt,Tryz.f53];subst aB;refine bT (λs a=>s=[aK (aq.n2 i aQ c)]/\w=a) ?_ ?_
 ·
  have L:∀(b:Bool),b=decide (aQ<0\/124<aQ\/c=0)->∀{gU:S->aN->Prop},gU (aK (aq.n2 i aQ c)) w->
    W C (ck 92 #[aE (E ⟨ah,0,I⟩),bO acx,F H i,aK b]) w λaC t=>aZ C (eE .neq 73 G aC cT) t λaD=>eV aD (gU (aK G) t)
     (aV C (ov (aE (E ⟨ah,0,I⟩))) λaF=>aV C (gB 186 aF 2) λaG=>aZ C (a4 30 aG) t λaH=>aZ C (qI 30 aH (F H i) U) t λaI=>gU aI t):=by
   intro b aJ gU p;refine DZ h (oF.2 ?_);rw[DY,aJ];unfold b3.n2 at p;cases y:decide (aq.kj i (decide (aQ<0\/124<aQ\/c=0))=0)with
   |false=>
    rw[y]at p;simp only[lE,k9];simpa using p
   |true=>
    rw[y]at p;simp only[hq,kN,Bool.false_or]at p⊢;have f:=of_decide_eq_true y;have aL:0<=i:=by
     unfold b3.kj at f;split at f
     ·cases f
     ·split at f
      ·cases f
      ·omega
    obtain⟨n,rfl⟩:=nL aL;rw[hf]at p;obtain⟨bM,af,bL,eD,db,bn,bC,bb,m,l,rfl⟩:=h;obtain⟨ai,aM,R,aO⟩:=m.kB;simp only[M,R];apply(FI vO m.sR acI).2;have e:((fq bb (n:Int)).map aK).getD (aK U)=aK (aq.lg n):=by rw[<-l.2.2 n];cases fq bb (n:Int)<;>rfl
    rw[e];exact p
  simp only[qN,bi];refine⟨λV=>?_,λV=>?_⟩
  ·exact L G (decide_eq_true (Y V)).symm (gU:=λaa a=>[aa]=[aK (aq.n2 i aQ c)]/\w=a) ⟨rfl,rfl⟩
  ·simp only[wX,bi];refine⟨λX=>?_,λX=>?_⟩
   ·exact L G (decide_eq_true (Z (Y X))).symm (gU:=λaa a=>[aa]=[aK (aq.n2 i aQ c)]/\w=a) ⟨rfl,rfl⟩
   ·simp only[uJ];exact L (decide (c=0)) (decide_eq_decide.2 ⟨λh=>Z (Z h),λh=>h.resolve_left V|>.resolve_left X⟩) (gU:=λaa a=>[aa]=[aK (aq.n2 i aQ c)]/\w=a) ⟨rfl,rfl⟩
 rintro _ _ _ ⟨rfl,rfl⟩;simp only[kt];cases ac:aq.n2 i aQ c with
 |true=>
  simp only[k9,if_true,hq];exact⟨am,rfl,h,Q.b0 _ _,λg o=>Y o⟩
 |false=>
  simp only[kN,fc,if_false,lE];unfold b3.n2 at ac;simp only[Bool.or_eq_false_iff,ux]at ac;have f:=of_decide_eq_true ac.1;unfold b3.kj at f;split at f
  ·cases f
  split at f
  ·cases f
  rename_i aY ad;have ad:(¬(aQ<0\/124<aQ\/c=0))/\¬i<0/\¬(aq.d3.length:Int)<=i:=by simp only[decide_eq_true_eq,not_or]at ad⊢;exact ad
  obtain⟨n,rfl⟩:=nL (show 0<=i by omega);obtain⟨d,rfl⟩:=nL (show 0<=aQ by omega);simp only[hf];obtain⟨bM,af,bL,eD,db,bn,bC,bb,m,l,rfl⟩:=h;have a2:bn.length=aq.d3.length:=by rw[<-l.1,dU]
  have z:n<bn.length:=A;have ag:bn[n]?=E bn[n]:=cr z;have aP:aq.d3.getD n []=(bn[n]).c6:=by rw[<-l.1,gp,e1,ag];rfl
  have aR:bn.set n ⟨(bn[n]).a7,(bn[n]).bk,(bn[n]).c6⟩=bn:=List.set_getElem_self z;have aj:(bn.map eq.a7)[n]?=E (bn[n]).a7:=by rw[e1,ag];rfl
  have ak:bn[n]∈bn:=dX z;generalize bn[n]=ab at*;have al:=(m.pq ab ak).dT;refine c1 (λs a=>∃k:Nat,s=[F H k]/\k<=4/\iv 186 a ah bM af bL eD db (bn.set n ⟨ab.a7,ab.bk,mQ ab.c6 d c k⟩) bC bb (bn.map eq.a7) aq.dW/\Q [ab.bk] w a)
   (λs _=>match s with|[F _ k]=>4-k.toNat|_=>0) ⟨0,rfl,A,by show iv _ _ _ _ _ _ _ _ (bn.set n ⟨ab.a7,ab.bk,ab.c6⟩) _ _ _ _;rw[aR];exact m,Q.b0 _ _⟩ ?_
  rintro _ _ aA ⟨k,rfl,y,q,an⟩;have a3:(bn.set n ⟨ab.a7,ab.bk,mQ ab.c6 d c k⟩).length=bn.length:=i9;obtain⟨ai,aM,R,aO⟩:=q.kB;have ao:(bn.set n ⟨ab.a7,ab.bk,mQ ab.c6 d c k⟩)[n]?=E ⟨ab.a7,ab.bk,mQ ab.c6 d c k⟩:=by rw[List.getElem?_set_self z]
  have ap:=q.pq _ (gP ao);simp only[M,bi];refine⟨λa5=>?_,λa6=>?_⟩
  ·simp only[ai];apply(q.sH aj).2;have D:=ap.c4;obtain⟨ar,a7,r⟩:=ap.yL;simp only at r D;have au:=yK ab.c6 d c k;have av:d+k<128:=A;have aS:fu aA ab.bk ar ((mQ ab.c6 d c k).flatMap bs):=by
    obtain⟨fl,bc,e,_,u⟩:=D.jD;rw[r]at e;cases e;rcases u with u|⟨bd,be,gh,_,u⟩
    ·have:=congrArg jm u;rw[kx e2,au,al]at this;simp at this
    ·cases gh;exact u
   have aT:aA.cell? ⟨ab.bk,ar+(d+k),I⟩=E (F cl ((mQ ab.c6 d c k).getD (d+k) 0).toNat):=by refine la aS ?_;rw[tK,e1,gp,cr A];rfl
   rw[r];try simp only[M]
   rw[bq (x:=(d:Int)+k) A A,show(d:Int)+k=((d+k:Nat):Int)by omega];apply(hP fP el av).2;rw[gA];apply(bl mb aT).2;rw[bq (x:=8*(k:Int)) A A];apply(fv kd tP).2;rw[l8 A A];refine(nS A).2 ((fv Lp oE).2 ?_);rw[show(8*(k:Int)).toNat=8*k by omega];rw[show cl.wrap (c/2^min (8*k) hS.bits)=((sQ c k).toNat:Int)from acT c k];refine KS.2 ((hP fP el av).2 ?_);rw[gA];rw[r]at D;refine vI el D (by rw[kx e2];omega) rfl λax aw v aU=>?_;rw[acR,<-r]at aw;have J:=q.acS ao aw (by rw[i9,au,al]) v;rw[List.set_set]at J;rw[bq A A,<-r];exact⟨⟨k+1,rfl,A,J,an.R v B⟩,A⟩
  ·obtain rfl:k=4:=A;simp only[M,R];refine Ab vO q.sR (aa:=G) rfl λax J v aU=>?_;have aW:=q.P9 J v;have aX:fB ah bM eD db (bn.set n ⟨ab.a7,ab.bk,mQ ab.c6 d c 4⟩) bC=fB ah bM eD db bn bC:=by
    unfold fB;congr 5;rw[qB];have:(bn.map eq.bk)[n]?=E ab.bk:=by rw[e1,ag];rfl
    obtain⟨m,l⟩:=fi.1 this;show(bn.map eq.bk).set n ab.bk=_;rw[<-l];exact List.set_getElem_self m
   refine⟨fB ah bM eD db bn bC,rfl,⟨bM,af,bL,eD,db,_,bC,ka bb (n:Int) G,?_,⟨?_,l.2.1,λj=>?_⟩,aX.symm⟩,(an.bw (λg o=>Y (by simp at o;subst o;unfold fB;simp;exact Z (Z (Z (Z (Y ⟨ab,ak,rfl⟩))))))).R v (λg o=>Y (by simp at o;subst o;simp[fB])),λg o=>Y o⟩
   ·have:(bn.set n ⟨ab.a7,ab.bk,mQ ab.c6 d c 4⟩).map eq.a7=bn.map eq.a7:=by rw[qB];obtain⟨m,l⟩:=fi.1 aj;show(bn.map eq.a7).set n ab.a7=_;rw[<-l];exact List.set_getElem_self m
    rw[this];exact aW
   ·unfold b3.yJ;simp only;rw[qB,l.1,aP]
   ·rw[x8];unfold b3.yJ;simp only;by_cases ay:(n:Int)=j
    ·have:j=n:=A;rw[if_pos ay,if_pos this];rfl
    ·have:¬j=n:=A;rw[if_neg ay,if_neg this];exact l.2.2 j
end
end Go.Proofs.YtepeilglbedgdaaGreatDoor.ey
namespace Go.X
variable{b:Nat}{ad:ft}{ar:co}
section
open Go.RowKit
def D0{x:Int}(a:0<=x)(b:x<4294967296):hS.wrap x=x:=by simp only[IntKind.wrap,IntKind.bits,IntKind.signed];simp;omega
def yN{d:Nat}(a:d<4294967296):(iN 32 ((d:Nat):Int)).toNat=d:=by rw[ur];omega
section
variable{ac:S->Prop}{d:Nat}
def Qg(a:d<4294967296)(c:b<4294967296):aV ad (dS .xor ar (F hS d) (F hS b)) ac↔ac (F hS ((d^^^b:Nat):Int)):=
 Cx.trans (Iff.of_eq (congrArg (λbm=>ac (F hS bm)) (by
  show hS.wrap (((iN 32 ((d:Nat):Int)^^^iN 32 ((b:Nat):Int)).toNat:Nat):Int)=_;rw[BitVec.toNat_xor,yN a,yN c];have:=su (n:=32) a c;exact D0 A A)))
def acV(a:d<4294967296):aV ad (dS .and ar (F hS d) (F hS 1)) ac↔ac (F hS ((d%2:Nat):Int)):=
 Kx.trans (Iff.of_eq (congrArg (λbm=>ac (F hS bm)) (by
  show hS.wrap (((iN 32 ((d:Nat):Int)&&&iN 32 ((1:Nat):Int)).toNat:Nat):Int)=_;rw[BitVec.toNat_and,yN a,yN A,Nat.and_one_is_mod];exact D0 A A)))
def Qh(a:d<4294967296):aV ad (qH .xor (F hS d)) ac↔ac (F hS ((4294967295^^^d:Nat):Int)):=by
 refine hv λw=>?_;unfold qH;apply gv ad _ w;have e:hS.wrap (((iN 32 ((4294967295:Nat):Int)^^^iN 32 ((d:Nat):Int)).toNat:Nat):Int)=((4294967295^^^d:Nat):Int):=by rw[BitVec.toNat_xor,yN A,yN a];have:=su (n:=32) (show 4294967295<2^32 by decide) a;exact D0 A A
 simp only[Op.unary,Op.intBits];exact congrArg (λbm=>bN (F hS bm) w) e
end
end
end Go.X
namespace Go.Proofs.YtepeilglbedgdaaGreatDoor
open Go.X
attribute[local irreducible]Go.X.W
variable{am az bU:List Nat}{a w:aN}{ab af b bL bM g i k n t:Nat}{cf:List S}{aU:Type}{aa:S}{ac:S -> aN -> Prop}{ar:co}
section
open Go.RowKit
def Qi:mI C 435 56 256:=by unfold mI;kernel_rfl
def nh:iq C 3 H:=by unfold iq;kernel_rfl
def pr:iq C 5 cl:=by unfold iq;kernel_rfl
def HB:iq C 56 hS:=by unfold iq;kernel_rfl
def AS:iq C 173 hr:=by unfold iq;kernel_rfl
def D1:iq C 155 hr:=by unfold iq;kernel_rfl
def Qj:∀(k c:Nat),i5 (k+1) c=p9 (i5 k c)
 |0,_=>rfl
 |k+1,c=>Qj k (p9 c)
def HC(w:aN)(t:Nat):Prop:=aC w t 437 ((c9 256).map λi=>F hS (i5 8 i:Nat))
def acW:C.built 437 []=E (cN 256 (F hS 0)).toArray:=K
def acX:a0 C 230 #[] w λae a=>∃t,ae=aE (E ⟨t,0,I⟩)/\HC a t/\Q [] w a:=by
 refine a9 NR 0 Tryz.func230 K rfl λa1 o=>?_;simp+decide only[↓a8,ba,NR,Tryz.f230];subst o;refine(bY acW).2 (eA λaA g p y=>?_);have q:aC aA w.heap.size 437 (cN 256 (F hS 0)):=by simpa[bF]using g
 clear g;refine c1 (λd a=>∃(i:Nat)(cf:List S),d=[F H i]/\i<=256/\aC a w.heap.size 437 cf/\cf.length=256/\(∀j,j<i->cf[j]?=E (F hS (i5 8 j:Nat)))/\Q [] w a)
  (λd _=>match d with|[F _ i]=>256-i.toNat|_=>0) ⟨0,_,rfl,A,q,B,A,p⟩ ?_
 rintro _ _ ax ⟨i,cf,rfl,al,h,r,l,m⟩;simp only[M,bi];refine⟨λz=>?_,λD=>?_⟩
 ·apply(fv nh HB).2;rw[D0 A A];apply c1 (λd a=>∃k:Nat,d=[F hS (i5 k i:Nat),F H k]/\k<=8/\ax=a) (λd _=>match d with|[_,F _ k]=>8-k.toNat|_=>0) ⟨0,rfl,A,rfl⟩;rintro _ _ J ⟨k,rfl,L,rfl⟩;have s:=DS k (c:=i) A;simp only[M,bi];refine⟨λR=>?_,λV=>?_⟩
  ·refine bT (λd a=>d=[F hS (i5 (k+1) i:Nat)]/\ax=a) ?_ ?_
   ·refine(acV s).2 ((nS A).2 ?_);rw[show((i5 k i:Nat):Int)/2^min (1:Int).toNat hS.bits=((i5 k i/2:Nat):Int)by
     show((i5 k i:Nat):Int)/2^1=_;omega]
    simp only[M,bi];rw[Qj];unfold p9;refine⟨λu=>?_,λu=>?_⟩
    ·rw[if_pos A];exact(Qg (b:=2197175160) A A).2 ⟨rfl,trivial⟩
    ·rw[if_neg A];exact⟨rfl,trivial⟩
   ·rintro _ _ _ ⟨rfl,rfl⟩;try simp only[M]
    rw[bq A A];exact⟨⟨k+1,rfl,A,trivial⟩,by simp;omega⟩
  ·obtain rfl:k=8:=A;try simp only[M]
   apply(kc Qi FR (show i<256 by omega)).2;rw[gA,gQ];refine eK FR h A rfl λW v x X=>?_;try simp only[M]
   rw[bq A A];refine⟨⟨i+1,_,rfl,A,v,by simp[r],λj f=>?_,m.R x B⟩,by simp;omega⟩;rw[pT];by_cases n:i=j
   ·subst n;rw[if_pos rfl,if_pos A]
   ·rw[if_neg n];exact l j A
 ·obtain rfl:i=256:=A;refine⟨_,rfl,?_,m⟩;have e:cf=(c9 256).map λi=>F hS (i5 8 i:Nat):=by
   apply qC;intro j;by_cases f:j<256
   ·rw[l j f,e1,qD f];rfl
   ·rw[jy A,jy (by simp;omega)]
  unfold HC;rw[<-e];exact h
def acY{b:List UInt8}(m:HC w t)(e:aT w bs aa b)(u:b.length<=1000000):
  a0 C 231 #[aE (E ⟨t,0,I⟩),aa] w λae a=>ae=F hS (rH b:Nat)/\w=a:=by
 refine a9 .D 2 Tryz.func231 K rfl λa1 f=>?_;simp+decide only[↓a8,ba,Tryz.f231];subst f;refine aH Zw (bu:=λae a=>ae=F hS (rH b:Nat)/\w=a) ?_ (λae a h=>h);refine a9 Oa 3 Tryz.func273 K rfl λa1 f=>?_;simp+decide only[↓a8,ba,Oa,Tryz.f273];subst f;obtain⟨j,cC,rfl,n,o⟩:=e;have e:aT w bs (T j b.length cC) b:=⟨j,cC,rfl,n,o⟩;apply(Qh (d:=0) A).2;try simp only[M]
 apply c1 (λg a=>∃i:Nat,g=[F hS (nd 4294967295 (b.take i):Nat),F H i]/\i<=b.length/\w=a) (λg _=>match g with|[_,F _ i]=>b.length-i.toNat|_=>0) ⟨0,rfl,A,rfl⟩;rintro _ _ _ ⟨i,rfl,al,rfl⟩;have p:=yI (b.take i) (c:=4294967295) (by decide);have q:∀h:i<b.length,nd 4294967295 (b.take (i+1))=yH (nd 4294967295 (b.take i)) b[i].toNat:=λh=>by rw[List.take_add_one,cr h,AO];rfl
 generalize k:nd 4294967295 (b.take i)=c at*;simp only[M,bi];refine⟨λv=>?_,λx=>?_⟩
 ·have l:i<b.length:=A;refine(p4.ek e (Q.b0 _ _) l).2 ((fv HB pr).2 ?_);rw[pa,show((c:Int)%256)=(((ed c).toNat:Nat):Int)by simp];apply KS.2;try simp only[M]
  have r:=vZ b[i];have s:(ed c^^^b[i]).toNat=(c^^^b[i].toNat)%256:=by rw[tq,mx];rw[show(2:Nat)^8=256 from rfl,show(256:Nat)=2^8 from rfl,Nat.xor_mod_two_pow,Nat.mod_eq_of_lt (show b[i].toNat<2^8 from r)]
  rw[s];apply(kc Qi FR (show(c^^^b[i].toNat)%256<256 by omega)).2;rw[gA,gQ];refine(bl K2 (aa:=F hS (i5 8 ((c^^^b[i].toNat)%256):Nat)) ?_).2 ?_
  ·rw[m.bh,e1,qD A];rfl
  apply(nS A).2;rw[show((c:Nat):Int)/2^min (8:Int).toNat hS.bits=((c/256:Nat):Int)by
   show((c:Nat):Int)/2^8=_;omega]
  apply(Qg (DS 8 A) A).2;try simp only[M]
  rw[bq A A];refine⟨⟨i+1,?_,A,trivial⟩,by simp;omega⟩;rw[q l];rfl
 ·obtain rfl:i=b.length:=A;apply(Qh p).2;rw[j3]at k;unfold rH;rw[k];exact⟨rfl,rfl⟩
end
section
open Go.RowKit ey
variable{aG:List b3}{aq gX:b3}
abbrev n4:=Nat×b3×List Nat
abbrev aP(ah:Nat):S:=aE (E ⟨ah,0,I⟩)
structure mj(w:aN)(ab bM af bL:Nat)(aw:List n4):Prop where
 bg:aC w ab 125 [T (E ⟨bM,af,I⟩) aw.length bL,aK U,F H (-1)]
 c4:bP w 122 1 (T (E ⟨bM,af,I⟩) aw.length bL) aw.length (aw.map λai=>aP ai.1) [bM]
 ih:∀ai∈aw,hI 186 w ai.1 ai.2.1 ai.2.2
 g1:ab≠bM
 ps:∀ai∈aw,ab∉ai.2.2/\bM∉ai.2.2
 jI:∀(i j:Nat)(a b:n4),aw[i]?=E a->aw[j]?=E b->i≠j->∀g∈a.2.2,g∉b.2.2
 lH:0<aw.length
 hm:aw.length<=8
def tX(ab bM:Nat)(aw:List n4):List Nat:=ab::bM::aw.flatMap λai=>ai.2.2
def rN{aw:List n4}:g∈tX ab bM aw↔g=ab\/g=bM\/∃ai∈aw,g∈ai.2.2:=by simp[tX]
def dH(w:aN)(ab:Nat)(aG:List b3)(am:List Nat):Prop:=∃bM af bL aw,mj w ab bM af bL aw/\aw.map (·.2.1)=aG/\am=tX ab bM aw
section
variable{aw:List n4}
def mj.J(h:mj w ab bM af bL aw)(b:Q bU w a)(c:∀g∈tX ab bM aw,g∉bU):mj a ab bM af bL aw:=
 ⟨h.bg.J b (c ab (rN.2 (Y rfl))),h.c4.J b (λg d=>c g (rN.2 (Z (Y (by simpa using d))))),λai e=>(h.ih ai e).J b (λg d=>c g (rN.2 (Z (Z ⟨ai,e,d⟩)))),h.g1,h.ps,h.jI,h.lH,h.hm⟩
def dH.J(h:dH w ab aG am)(b:Q bU w a)(c:∀g∈am,g∉bU):dH a ab aG am:=by obtain⟨bM,af,bL,aw,d,e,rfl⟩:=h;exact⟨bM,af,bL,aw,d.J b c,e,rfl⟩
def dH.V(h:dH w ab aG am)(b:Q [] w a):dH a ab aG am:=h.J b B
def dH.aL(h:dH w ab aG am):∀g∈am,g<w.heap.size:=by
 obtain⟨bM,af,bL,aw,a,d,rfl⟩:=h;intro g b;rcases rN.1 b with rfl|rfl|⟨ai,c,b⟩
 ·exact a.bg.aL
 ·exact a.c4.aL _ B
 ·exact(a.ih ai c).aL g b
def dH.dT(h:dH w ab aG am):0<aG.length/\aG.length<=8:=by obtain⟨bM,af,bL,aw,a,rfl,rfl⟩:=h;rw[dU];exact⟨a.lH,a.hm⟩
def mj.AT(h:mj w ab bM af bL aw){ac:S->Prop}:aZ C (a4 123 (aP ab)) w ac↔ac (T (E ⟨bM,af,I⟩) aw.length bL):=bl K5 (h.bg.bh (af:=0))
def mj.bl(h:mj w ab bM af bL aw){ac:S->Prop}:aZ C (a4 4 (aE (E ⟨ab,1,I⟩))) w ac↔ac (aK U):=Go.X.bl Ai (h.bg.bh (af:=1))
def mj.acZ(h:mj w ab bM af bL aw){ac:S->Prop}:aZ C (a4 3 (aE (E ⟨ab,2,I⟩))) w ac↔ac (F H (-1)):=Go.X.bl bZ (h.bg.bh (af:=2))
def mj.sH(h:mj w ab bM af bL aw){ai:n4}(b:aw[i]?=E ai){ac:S->Prop}:(aV C (fY 123 (T (E ⟨bM,af,I⟩) aw.length bL) (F H i)) λae=>aZ C (a4 122 ae) w ac)↔ac (aP ai.1):=by
 have c:=(fi.1 b).1;rw[hP F9 Wb c,gA];have d:fu w bM af (aw.map λai=>aP ai.1):=by
  rcases h.c4.2 with⟨a,_,_⟩|⟨g,j,k,cf,a,l,e,m,n,ao,f⟩
  ·cases a
  ·cases a;rw[<-f];have:=e.cy.d1 af (aw.length*1);rwa[gQ]at this
 exact Go.X.bl Wa (la d (by rw[e1,b];rfl))
def mj.jJ(h:mj w ab bM af bL aw){ai:n4}(m:aw[i]?=E ai)(K:hI 186 a ai.1 gX az)(f:bX ai.2.2 az w a):
  mj a ab bM af bL (aw.set i (ai.1,gX,az))/\bX (tX ab bM aw) (tX ab bM (aw.set i (ai.1,gX,az))) w a:=by
 have l:=gP m;have al:=(fi.1 m).1;have n:∀(j:Nat)(x:n4),(aw.set i (ai.1,gX,az))[j]?=E x->(j=i/\x=(ai.1,gX,az))\/(j≠i/\aw[j]?=E x):=by
  intro j x c;rw[pT]at c;by_cases s:i=j
  ·subst s;rw[if_pos rfl,if_pos al]at c;exact Y ⟨rfl,(re c).symm⟩
  ·rw[if_neg s]at c;exact Z ⟨Ne.symm s,c⟩
 have t:∀x∈aw.set i (ai.1,gX,az),x=(ai.1,gX,az)\/∃j:Nat,j≠i/\aw[j]?=E x:=by intro x c;obtain⟨j,k⟩:=List.getElem?_of_mem c;exact(n j x k).imp (·.2) λh=>⟨j,h⟩
 have L:(aw.set i (ai.1,gX,az)).map (λai=>aP ai.1)=aw.map λai=>aP ai.1:=by
  rw[qB];have:(aw.map λai=>aP ai.1)[i]?=E (aP ai.1):=by rw[e1,m];rfl
  obtain⟨y,dI⟩:=fi.1 this;rw[<-dI];exact List.set_getElem_self y
 have u:∀(j:Nat)(x:n4),j≠i->aw[j]?=E x->∀g∈x.2.2,g∉ai.2.2:=λj x k c=>h.jI j i x ai c m k;refine⟨⟨?_,?_,?_,h.g1,?_,?_,by rw[i9];exact h.lH,by rw[i9];exact h.hm⟩,f.J.bw (λg e=>Y (rN.2 (Z (Z ⟨ai,l,e⟩)))),?_⟩
 ·rw[i9];exact h.bg.J f.J (h.ps ai l).1
 ·rw[i9,L];exact h.c4.J f.J (by simpa using(h.ps ai l).2)
 ·intro x c;rcases t x c with rfl|⟨j,k,c⟩
  ·exact K
  ·exact(h.ih x (gP c)).J f.J (u j x k c)
 ·intro x c;rcases t x c with rfl|⟨j,k,c⟩
  ·have Q:=h.bg.aL;have y:=h.c4.aL bM B;exact⟨λe=>(f.cq ab e).elim (h.ps ai l).1 A,λe=>(f.cq bM e).elim (h.ps ai l).2 A⟩
  ·exact h.ps x (gP c)
 ·intro d b o e9 N z D g p q;rcases n d o N with⟨rfl,rfl⟩|⟨O,v⟩
  ·rcases n b e9 z with⟨rfl,rfl⟩|⟨J,r⟩
   ·exact D rfl
   ·rcases f.cq g p with e|e
    ·exact u b e9 J r g q e
    ·have:=(h.ih e9 (gP r)).aL g q;omega
  ·rcases n b e9 z with⟨rfl,rfl⟩|⟨J,r⟩
   ·rcases f.cq g q with e|e
    ·exact u d o O v g p e
    ·have:=(h.ih o (gP v)).aL g p;omega
   ·exact h.jI d b o e9 v r D g p q
 ·intro g e;rcases rN.1 e with rfl|rfl|⟨x,c,e⟩
  ·exact Y (rN.2 (Y rfl))
  ·exact Y (rN.2 (Z (Y rfl)))
  ·rcases t x c with rfl|⟨j,k,c⟩
   ·exact(f.cq g e).imp (λP=>rN.2 (Z (Z ⟨ai,l,P⟩))) id
   ·exact Y (rN.2 (Z (Z ⟨x,gP c,e⟩)))
def dH.ey(h:dH w ab aG am)(al:aG[i]?=E aq):∃cB ah d,(∀ac,aZ C (a4 123 (aP ab)) w ac↔ac cB)/\(∀ac,(aV C (fY 123 cB (F H i)) λae=>aZ C (a4 122 ae) w ac)↔ac (aP ah))/\hI 186 w ah aq d/\
  ∀a gX az,hI 186 a ah gX az->bX d az w a->∃cM,dH a ab (aG.set i gX) cM/\bX am cM w a:=by
 obtain⟨bM,af,bL,aw,c,rfl,rfl⟩:=h;rw[e1]at al;cases b:aw[i]? with
 |none=>rw[b]at al;cases al
 |some ai=>
  rw[b]at al;obtain rfl:ai.2.1=aq:=by simpa using al
  refine⟨_,ai.1,ai.2.2,λac=>c.AT,λac=>c.sH b,c.ih ai (gP b),λa gX az e f=>?_⟩;obtain⟨g,j⟩:=c.jJ b e f;exact⟨_,⟨bM,af,bL,_,g,by rw[qB],rfl⟩,j⟩
def AU(h:dH w ab aG am):a0 C 116 #[aP ab] w λae a=>ae=F H aG.length/\w=a:=by obtain⟨bM,af,bL,aw,b,rfl,rfl⟩:=h;refine a9 .D 1 Tryz.func116 K rfl λa1 c=>?_;simp+decide only[↓a8,ba,Tryz.f116];subst c;simp only[M,b.AT,dU];exact⟨rfl,rfl⟩
def AV(h:dH w ab aG am):a0 C 71 #[aP ab] w λae a=>ae=aK U/\w=a:=by obtain⟨bM,af,bL,aw,b,rfl,rfl⟩:=h;refine a9 .D 1 Tryz.func71 K rfl λa1 c=>?_;simp+decide only[↓a8,ba,Tryz.f71];subst c;simp only[M,b.bl];exact⟨rfl,rfl⟩
def yO{i:Int}(h:dH w ab aG am):a0 C 52 #[aP ab,F H i] w λae a=>ae=aK (decide (0<=i/\i<aG.length))/\w=a:=by
 obtain⟨bM,af,bL,aw,b,rfl,rfl⟩:=h;refine a9 .D 2 Tryz.func52 K rfl λa1 c=>?_;simp+decide only[↓a8,ba,Tryz.f52];subst c;simp only[M,b.AT,bi,dU];refine⟨λd=>⟨?_,rfl⟩,λd=>⟨?_,rfl⟩⟩
 ·rw[decide_eq_decide.2 (show(i<(aw.length:Int))↔(0<=i/\i<(aw.length:Int))by omega)]
 ·rw[decide_eq_false (show¬(0<=i/\i<(aw.length:Int))by omega)]
def Qk(h:dH w ab aG am)(al:aG[i]?=E aq):a0 C 119 #[aP ab,F H i] w λae a=>ae=aK (!aq.dW)/\w=a:=by obtain⟨cB,ah,f,b,c,d,_⟩:=h.ey al;have g:=(fi.1 al).1;refine a9 .D 2 Tryz.func119 K rfl λa1 e=>?_;simp+decide only[↓a8,ba,Tryz.f119];subst e;refine aH ym (yO h) ?_;rintro _ _ ⟨rfl,rfl⟩;rw[decide_eq_true A];simp only[M,b,c];refine aH Yt (acz d) ?_;rintro _ _ ⟨rfl,rfl⟩;simp only[M];exact⟨rfl,rfl⟩
def Ql{bn:Nat}(h:dH w ab aG am)(c:∀aq∈aG,aq.d3.length=bn):a0 C 118 #[aP ab] w λae a=>ae=F H bn/\w=a:=by have b:=h.dT.1;have al:aG[0]?=E aG[0]:=cr b;obtain⟨cB,ah,i,d,e,f,_⟩:=h.ey al;refine a9 .D 1 Tryz.func118 K rfl λa1 g=>?_;simp+decide only[↓a8,ba,Tryz.f118];subst g;simp only[M,d];refine(e _).2 ?_;refine aH Ys (acA f) ?_;rintro _ _ ⟨rfl,rfl⟩;exact⟨by rw[c _ (dX b)],rfl⟩
def Qm(h:dH w ab aG am)(al:aG[i]?=E aq)(f:aq.dW=U):a0 C 169 #[aP ab,F H i,aK U] w λae a=>ae=F H 0/\w=a:=by
 have j:=(fi.1 al).1;refine a9 Np 3 Tryz.func169 K rfl λa1 g=>?_;simp+decide only[↓a8,ba,Np,Tryz.f169];subst g;refine bT (λc a=>c=[]/\w=a) ?_ ?_
 ·apply aH ym (yO h);rintro _ _ ⟨rfl,rfl⟩;rw[decide_eq_true A];simp only[M,hq];refine bT (λc a=>c=[aK U]/\w=a) ?_ ?_
  ·obtain⟨bM,af,bL,aw,b,d,e⟩:=h;simp only[M,b.bl];apply aH LF (Qk ⟨bM,af,bL,aw,b,d,e⟩ al);rintro _ _ ⟨rfl,rfl⟩;simp only[M,f];exact⟨rfl,by trivial⟩
  ·rintro _ _ _ ⟨rfl,rfl⟩;obtain⟨bM,af,bL,aw,b,d,e⟩:=h;simp only[M,b.acZ];simp;simp only[M]
 ·rintro _ _ _ ⟨rfl,rfl⟩;exact⟨rfl,rfl⟩
end
end
section
open Go.RowKit
def fa(aj:dQ):List S:=[F H aj.a5,F H aj.lw,F H aj.e4,F H aj.g4]++aj.hy.flatMap bs
def iU(aj:dQ):S:=b6 (fa aj).toArray
def pt:List UInt8:=cN 108 0
def hz:dQ:=⟨0,0,0,0,pt⟩
def Qn(l:List UInt8):∀ae∈l.flatMap bs,ae.oneCell'=G:=by intro ae a;obtain⟨x,_,b⟩:=tm.1 a;exact z5 x ae b
def Qo(aj:dQ):∀ae∈fa aj,ae.oneCell'=G:=by
 intro ae a;rcases b4.1 a with h|h
 ·simp at h;rcases h with rfl|rfl|rfl|rfl<;>rfl
 ·exact Qn _ ae h
def pu{aj:dQ}(h:aj.hy.length=108):(fa aj).length=112:=by simp[fa,kx e2,h]
def tY:mI C 293 5 108:=by unfold mI;kernel_rfl
def D2:C.built 317 []=E (fa hz).toArray:=K
def ly{aj:dQ}{ac:S->Prop}(h:aC w b 317 (fa aj))(a:aj.hy.length=108):aZ C (a4 317 (aE (E ⟨b,0,I⟩))) w ac↔ac (iU aj):=
 gC (by rw[pu a];exact tN) h.cy
def uW{aj:dQ}(h:aC w b 317 (fa aj)):
  (∀ac,aZ C (a4 3 (aE (E ⟨b,0,I⟩))) w ac↔ac (F H aj.a5))/\(∀ac,aZ C (a4 3 (aE (E ⟨b,1,I⟩))) w ac↔ac (F H aj.lw))/\(∀ac,aZ C (a4 3 (aE (E ⟨b,2,I⟩))) w ac↔ac (F H aj.e4))/\(∀ac,aZ C (a4 3 (aE (E ⟨b,3,I⟩))) w ac↔ac (F H aj.g4)):=
 ⟨λ_=>bl bZ (h.bh (af:=0)),λ_=>bl bZ (h.bh (af:=1)),λ_=>bl bZ (h.bh (af:=2)),λ_=>bl bZ (h.bh (af:=3))⟩
def lT{aj g:dQ}(h:aC w b 317 (fa aj))(c:aj.hy.length=108)(d:g.hy.length=108)(k:∀a,aC a b 317 (fa g)->Q [b] w a->a.heap.size=w.heap.size->ac bS a):W C (dC 317 (aE (E ⟨b,0,I⟩)) (iU g)) w ac:=by refine f0 (cv:=[]) (c5:=fa aj) (da:=[]) Ap (by simpa using h) rfl (pu c) (by simp[iU,bF,pu d]) (by simpa[iU,bF]using Qo g) λa e f i=>k a (by simpa[iU,bF]using e) f i
def nF(k:∀a,aC a w.heap.size 317 (fa hz)->Q [] w a->a.heap.size=w.heap.size+1->ac (aE (E ⟨w.heap.size,0,I⟩)) a):W C (hV 317) w ac:=by
 have b:du C 317 (iU hz):=by unfold du;kernel_rfl
 exact gI b λa c d b=>k a (by simpa[iU,bF]using c) d b
def D3{aj:dQ}(k:∀a,aC a w.heap.size 317 (fa aj)->Q [] w a->a.heap.size=w.heap.size+1->ac (aE (E ⟨w.heap.size,0,I⟩)) a):W C (rk 317 (iU aj)) w ac:=
 eA λa b c d=>k a (by simpa[iU,bF]using b) c d
def D4{n ay al:Int}:a0 C 272 #[F H n,F H ay,F H al] w λae a=>ae=aK (decide (ay<=n/\n<=al))/\w=a:=by
 refine a9 .D 3 Tryz.func272 K rfl λa1 b=>?_;simp+decide only[↓a8,ba,Tryz.f272];subst b;simp only[M,bi];refine⟨λh=>⟨?_,rfl⟩,λh=>⟨?_,rfl⟩⟩
 ·rw[decide_eq_decide.2 (show n<=al↔ay<=n/\n<=al by omega)]
 ·rw[decide_eq_false (show¬(ay<=n/\n<=al)by omega)]
def ac0{aj:dQ}:a0 C 228 #[iU aj] w λae a=>ae=aK (decide aj.n0)/\Q [] w a:=by refine a9 .D 1 Tryz.func228 K rfl λa1 k=>?_;simp+decide only[↓a8,ba,Tryz.f228];subst k;refine D3 λaA l b n=>?_;obtain⟨c,d,e,f⟩:=uW l;simp only[M,c,d,e,f];refine aH Dg D4 ?_;rintro _ _ ⟨rfl,rfl⟩;simp only[M,c,d,e,f,bi];refine⟨λg=>?_,λg=>⟨by rw[decide_eq_false (p:=aj.n0) λh=>g h.1],b⟩⟩;refine aH Dg D4 ?_;rintro _ _ ⟨rfl,rfl⟩;simp only[M,c,d,e,f,bi];refine⟨λi=>?_,λi=>⟨by rw[decide_eq_false (p:=aj.n0) λh=>i h.2.1],b⟩⟩;refine aH Dg D4 ?_;rintro _ _ ⟨rfl,rfl⟩;simp only[M,c,d,e,f,bi];refine⟨λj=>?_,λj=>⟨by rw[decide_eq_false (p:=aj.n0) λh=>j h.2.2.1],b⟩⟩;refine aH Dg D4 ?_;rintro _ _ ⟨rfl,rfl⟩;exact⟨by rw[decide_eq_decide.2 (show(0<=aj.g4/\aj.g4<=1152921504606846976)↔aj.n0 from⟨λm=>⟨g,i,j,m⟩,λh=>h.2.2.2⟩)],b⟩
def ac1{cf ct:List aU}{aa:aU}(a:ct.length=i)(h:af+i<cf.length):(cf.take af++ct++cf.drop (af+i)).set (af+i) aa=cf.take af++(ct++[aa])++cf.drop (af+(i+1)):=by rw[sr _ _ (by simp;omega),di,ea,a,my A,k6,ot h];simp[sp]
def ac2{c:Nat}(j:aC w b ar cf)(r:af+k<=cf.length)(s:k<=8)(t:n<18446744073709551616):
  a0 C 229 #[T (E ⟨b,af,I⟩) k c,F hr n] w λ_ a=>aC a b ar (cf.take af++(fV k n).flatMap bs++cf.drop (af+k))/\Q [b] w a:=by
 refine a9 (.L .D (.aW (.cJ [7] .D))) 2 Tryz.func229 K rfl λa1 l=>?_;simp+decide only[↓a8,ba,Tryz.f229];subst l;try simp only[M]
 apply c1 (λd a=>∃i:Nat,d=[F H i]/\i<=k/\aC a b ar (cf.take af++(fV i n).flatMap bs++cf.drop (af+i))/\Q [b] w a) (λd _=>match d with|[F _ i]=>k-i.toNat|_=>0) ⟨0,rfl,A,by simpa[fV,eU]using j,Q.b0 _ _⟩;rintro _ _ aA ⟨i,rfl,al,f,g⟩;simp only[M,bi];refine⟨λu=>?_,λv=>?_⟩
 ·rw[bq A A];apply(fv nh D1).2;rw[l8 A A];refine(nS A).2 ((fv AS pr).2 ((hP fP el (show i<k by omega)).2 ?_));rw[gA];have m:min (8*(i:Int)).toNat hr.bits=8*i:=by show min (8*(i:Int)).toNat 64=8*i;omega
  have o:(cf.take af++(fV i n).flatMap bs++cf.drop (af+i)).length=cf.length:=by rw[di,di,ea,kx e2,nE,e8];omega
  refine eK el f (by rw[o];omega) rfl λax h p y=>?_;try simp only[M]
  rw[bq A A];refine⟨⟨i+1,rfl,A,?_,g.R p B⟩,by simp;omega⟩;rw[ac1 (by rw[kx e2,nE,gA]) A]at h;have e:(fV (i+1) n).flatMap bs=(fV i n).flatMap bs++[F cl (cl.wrap ((n:Int)/2^min (8*(i:Int)).toNat hr.bits))]:=by unfold fV;rw[CF,hL,m];congr 1;simp only[iA,List.flatMap_nil,kJ,bs,pa];have q:(0:Int)<=(n:Int)/2^(8*i)%256:=Int.emod_nonneg _ A;have z:(n:Int)/2^(8*i)%256<256:=Int.emod_lt_of_pos _ A;generalize(n:Int)/2^(8*i)%256=x at*;rw[mx,Nat.mod_eq_of_lt A,Int.toNat_of_nonneg q]
  rw[e];exact h
 ·obtain rfl:i=k:=A;exact⟨f,g⟩
end
end Go.Proofs.YtepeilglbedgdaaGreatDoor
namespace Go.X
variable{ah ak b i j n:Nat}{aU:Type}{ad:ft}{ar av:co}{dL:iz}
section
open Go.RowKit
section
variable{ac:S->Prop}{c:Nat}{ai:iz}
def HD(h:gV ad ar av=G)(ao:ep ad av 1=G)(a:i<=j)(d:j<=c)(e:i<c):aV ad (l5 ar (T (E ⟨b,0,I⟩) n c) (E (F ai i)) (E (F dL j)) I) ac↔ac (T (E ⟨b,i,I⟩) (j-i) (c-i)):=by rw[z8 h ao A A A,hf,hf,if_neg A];simp[jC]
def ac3(h:gV ad ar av=G)(ao:ep ad av 1=G)(a:i<=n)(d:i<c):aV ad (l5 ar (T (E ⟨b,0,I⟩) n c) (E (F ai i)) I I) ac↔ac (T (E ⟨b,i,I⟩) (n-i) (c-i)):=by rw[rs h ao A A,hf,if_neg A];simp[jC]
def ac4(h:gV ad ar av=G)(ao:ep ad av 1=G)(a:j<=c):aV ad (l5 ar (T (E ⟨b,0,I⟩) n c) I (E (F dL j)) I) ac↔ac (T (E ⟨b,0,I⟩) j c):=by rw[z9 h ao A A,hf];simp[jC]
end
def HE{aw aO:List aU}{x:Nat}{bm:aU}(a:aw.length=ah)(b:aO.length=x)(c:x<=ak):(aw++cN ak bm).take ah++aO++(aw++cN ak bm).drop (ah+x)=(aw++aO)++cN (ak-x) bm:=by rw[<-a,tk,List.drop_append,uu A,Nat.add_sub_cancel_left,List.drop_replicate,m2]
end
end Go.X
namespace Go.Proofs.YtepeilglbedgdaaGreatDoor
open Go.X
attribute[local irreducible]Go.X.W
variable{w:aN}{aa:S}{l:List UInt8}
section
open Go.RowKit
def yP(w:aN)(b:Nat)(l:List UInt8)(ak:Nat):Prop:=aC w b 5 (l.flatMap bs++cN ak (F cl 0))
def qb(l:List UInt8):(l.flatMap bs).length=l.length:=by rw[kx e2,gA]
def HF{b k c n ak:Nat}{l:List UInt8}{w:aN}{ac:S->aN->Prop}(e:yP w b l ak)(f:k<=ak)(g:k<=8)(h:n<18446744073709551616)(i:∀ae a,yP a b (l++fV k n) (ak-k)->Q [b] w a->ac ae a):
  W C (ck 229 #[T (E ⟨b,l.length,I⟩) k c,F hr n]) w ac:=by
 apply aH YY (ac2 e (by rw[di,qb,tt];omega) g h);rintro ae a ⟨d,j⟩;rw[HE (qb l) (by rw[qb,nE]) f,<-hL]at d;exact i ae a d j
def Qp{x:Int}(a:0<=x):cl.wrap x=((ed x.toNat).toNat:Nat):=by rw[pa,mx];omega
def Qq{aj:dQ}(f:aj.hy.length=108):a0 C 177 #[iU aj] w λae a=>Q [] w a/\if aj.n0 then aT a bs ae aj.e5/\gx w.heap.size ae/\∃b,ae=T (E ⟨b,0,I⟩) 128 128 else ae=T I 0 0:=by
 refine a9 Nu 1 Tryz.func177 K rfl λa1 ao=>?_;simp+decide only[↓a8,ba,Nu,Tryz.f177];subst ao;refine D3 λaA p q a6=>(ly p f).2 (aH YX ac0 ?_);rintro _ ax ⟨rfl,k⟩;by_cases h:aj.n0
 ·have d:=(DV f).1 h;have ap:=q.R k B;simp only[M,decide_eq_true h,hq,if_pos h];refine x6 ky (l:=128) A (by unfold d0;omega) λm r s a7=>?_;have u:=(p.J k B).J s B;have bb:w.heap.size<ax.heap.size:=iL A k.aI;generalize bc:ax.heap.size=an at*;obtain⟨aq,ar,au,av⟩:=uW u;simp only[M,aq,ar,au,av,fv nh pr,Qp (x:=aj.a5) (by have:=d.kh;omega),Qp d.lR];have v:aC m an 5 (cN 128 (F cl 0)):=r;refine(hP (i:=0) fP el A).2 (eK el v B rfl λbd y z ay=>(hP (i:=1) fP el A).2 (eK el y B rfl λbe D J az=>(hP (i:=2) fP el A).2 (eK el D B rfl λbf L R aB=>(hP (i:=3) fP el A).2 (eK el L B rfl λV W X aD=>?_))));have aF:yP V an [83,84,ed aj.a5.toNat,ed aj.lw.toNat] 124:=W;have aa:Q [an] m V:=((z.R J B).R R B).R X B;have ab:=u.J aa (by simp;omega);clear y D L W z J R X ay az aB aD v r;apply(HD (i:=4) (j:=8) fP el A A A).2;obtain⟨bg,bh,aG,bi⟩:=uW (bD ab);simp only[M,aG,fv nh AS];have bj:=d.Hm;have bk:=d.Hn;have et:=d.v0;have gb:=d.Ho;rw[l8 A A,show aj.e4=((aj.e4.toNat:Nat):Int)by omega];refine HF (l:=[83,84,ed aj.a5.toNat,ed aj.lw.toNat]) (ak:=124) (bD aF) A A A λ_ bl aI ac=>?_
  have ad:=(bD ab).J ac (by simp;omega);apply(HD (i:=8) (j:=16) fP el A A A).2;obtain⟨bn,bo,bp,aJ⟩:=uW (bD ad);simp only[M,aJ,fv nh AS];rw[l8 (x:=aj.g4) A A,show aj.g4=((aj.g4.toNat:Nat):Int)by omega];refine HF (l:=[83,84,ed aj.a5.toNat,ed aj.lw.toNat]++fV 4 aj.e4.toNat) (ak:=120) (bD aI) A A A λ_ cd aL ag=>?_
  have aM:=(bD ad).J ag (by simp;omega);apply(HD (i:=16) (j:=124) fP el A A A).2;try simp only[M]
  apply(yc tY el).2;have aP:aT cd.drew bs (T (E ⟨w.heap.size,4,I⟩) 108 108) aj.hy:=⟨_,108,by rw[f],A,Z ⟨_,_,rfl,by
   have:=(bD aM).cy.vF 4;simpa[fa]using this⟩⟩
  refine On fP el (bD aL) (by rw[di,qb,f];simp[nE]) aP e2 z5 (by rw[f];omega) λaQ ai aR bq=>?_;have aS:yP aQ an aj.br 4:=by have e:=HE (aw:=([83,84,ed aj.a5.toNat,ed aj.lw.toNat]++fV 4 aj.e4.toNat++fV 8 aj.g4.toNat).flatMap bs) (aO:=aj.hy.flatMap bs) (ah:=16) (x:=aj.hy.length) (ak:=112) (bm:=F cl 0) (by rw[qb];simp[nE]) (qb _) A;rw[<-hL,f]at e;rw[f]at ai;unfold yP dQ.br;rw[<-e];exact ai
  refine(ac3 (i:=124) fP el A A).2 ((ac4 (j:=124) fP el A).2 (aH YZ acX ?_));rintro _ o ⟨t,rfl,aU,al⟩;have am:yP o an aj.br 4:=(bD aS).J al B;have aV:aT o bs (T (E ⟨an,0,I⟩) 124 128) aj.br:=⟨_,128,by rw[d.xg],by rw[d.xg];omega,Z ⟨_,_,rfl,by
   have:=am.cy.Ko 124;rwa[List.take_left' (by rw[qb,d.xg])]at this⟩⟩
  apply aH Y0 (acY aU aV (by rw[d.xg];omega));rintro _ _ ⟨rfl,rfl⟩;have br:=Hk aj.br;apply(fv HB AS).2;rw[l8 A A];have bz:=@HF an 4 4 (rH aj.br) 4 aj.br o;rw[d.xg]at bz;refine bz am A A A λ_ aW aX aY=>?_
  have aZ:Q [an] w aW:=by have a2:Q [an] w m:=(ap.R s B).bw B;have a3:=a2.R aa B;have a4:=((a3.h6.R ac B).h6.R ag B).h6.R aR B;exact(a4.h6.R al B).R aY B
  refine⟨aZ.bw (λg a5=>Z (by simp at a5;omega)),?_,λb af n c e=>by cases e;omega,an,rfl⟩;refine⟨_,128,by rw[d.xh],by rw[d.xh];omega,Z ⟨_,_,rfl,?_⟩⟩;have:=aX.cy;simpa[dQ.e5]using this
 ·simp only[M,decide_eq_false h,lE,if_neg h];exact⟨q.R k B,rfl⟩
def HG:mF C 9:=by unfold mF;kernel_rfl
def Qr:CB C 52:=⟨5,K,K⟩
def ac5{d b:S}{x ap:List UInt8}(c:aT w bs d x)(e:aT w bs b ap):a0 C 277 #[d,b] w λae a=>ae=aK (decide (x=ap))/\w=a:=by refine a9 .D 2 Tryz.func277 K rfl λa1 f=>?_;simp+decide only[↓a8,ba,Tryz.f277];subst f;refine(w3 Qr HG c).2 ?_;refine(w3 Qr HG e).2 ?_;refine w2.2 ?_;refine⟨congrArg aK (decide_eq_decide.2 ⟨λh=>?_,λh=>by rw[h]⟩),rfl⟩;have:=congrArg (λbm:ByteArray=>bm.data.toList) h;simpa using this
def ac6(b:aT w bs aa l)(o:l.length<=8):a0 C 276 #[aa] w λae a=>ae=F H (H.wrap (fe l:Nat))/\w=a:=by
 refine a9 Ob 1 Tryz.func276 K rfl λa1 f=>?_;simp+decide only[↓a8,ba,Ob,Tryz.f276];subst f;obtain⟨e,cC,rfl,g,h⟩:=b;have b:aT w bs (T e l.length cC) l:=⟨e,cC,rfl,g,h⟩;try simp only[M]
 apply c1 (λc a=>∃i:Nat,c=[F H (H.wrap (fe (l.take i):Nat)),F H i]/\i<=l.length/\w=a) (λc _=>match c with|[_,F _ i]=>l.length-i.toNat|_=>0) ⟨0,by rw[List.take_zero];rfl,A,rfl⟩;rintro _ _ _ ⟨i,rfl,al,rfl⟩;simp only[M,bi];refine⟨λp=>?_,λq=>?_⟩
 ·have d:i<l.length:=A;refine(p4.ek b (Q.b0 _ _) d).2 ((fv pr nh).2 ?_);have r:=l[i].toNat_lt;rw[bq (x:=(l[i].toNat:Int)) A A];try simp only[M]
  rw[bq (x:=8*(i:Int)) A A];apply(fv nh D1).2;rw[l8 A A];apply(w0 A).2;have j:min (8*(i:Int)).toNat H.bits=8*i:=by show min (8*(i:Int)).toNat 64=8*i;omega
  rw[j];have k:fe (l.take i)<2^(8*i):=by have:=tL (l.take i);rw[ea,my A,show 256=2^8 from rfl,<-Nat.pow_mul]at this;exact this
  have s:2^(8*i)*256<=2^64:=by rw[show 256=2^8 from rfl,<-Nat.pow_add];exact pU A A
  have t:2^(8*i)<=2^56:=pU A A;have u:(l[i]).toNat*2^(8*i)<=255*2^(8*i):=mw _ A;have m:((l[i].toNat:Nat):Int)*2^(8*i)=((l[i].toNat*2^(8*i):Nat):Int):=by rw[uq,Int.natCast_pow];rfl
  rw[m,bq (x:=((fe (l.take i):Nat):Int)) A A];have n:fe (l.take (i+1))=fe (l.take i)+l[i].toNat*2^(8*i):=by rw[jO d,CG,ea,my A,show 256=2^8 from rfl,<-Nat.pow_mul]
  apply(Ag k A).2;rw[<-n];try simp only[M]
  rw[bq (x:=(i:Int)+1) A A];exact⟨⟨i+1,rfl,d,by trivial⟩,by simp;omega⟩
 ·obtain rfl:i=l.length:=A;rw[j3];exact⟨rfl,rfl⟩
def ni(l:List UInt8):dQ:=⟨((l.getD 2 0).toNat:Nat),((l.getD 3 0).toNat:Nat),H.wrap (fe ((l.drop 4).take 4):Nat),H.wrap (fe ((l.drop 8).take 8):Nat),(l.drop 16).take 108⟩
def oN(l:List UInt8):Option dQ:=if(ni l).n0/\(ni l).e5=l then E (ni l)else I
def ac7{aj:dQ}(h:aj.bp):ni aj.e5=aj:=by
 have a:=h.kh;have b:=h.jY;have c:=h.lR;have d:=h.jZ;have f:=h.Hm;have i:=h.Hn;have j:=h.v0;have l:=h.Ho;obtain⟨k,s,t,g,ag⟩:=aj;simp only at a b c d f i j l;have m:ag.length=108:=h.dT;have e:(⟨k,s,t,g,ag⟩:dQ).e5=[83,84,ed k.toNat,ed s.toNat]++(fV 4 t.toNat++(fV 8 g.toNat++(ag++fV 4 (rH (⟨k,s,t,g,ag⟩:dQ).br)))):=by simp[dQ.e5,dQ.br]
 generalize fV 4 (rH (⟨k,s,t,g,ag⟩:dQ).br)=cE at e;have n:((⟨k,s,t,g,ag⟩:dQ).e5.drop 4).take 4=fV 4 t.toNat:=by rw[e,List.drop_left' (show([83,84,ed k.toNat,ed s.toNat]:List UInt8).length=4 from rfl),List.take_left' (nE _ _)]
 have o:((⟨k,s,t,g,ag⟩:dQ).e5.drop 8).take 8=fV 8 g.toNat:=by rw[e,<-gq,List.drop_left' (by simp[nE]),List.take_left' (nE _ _)]
 have p:((⟨k,s,t,g,ag⟩:dQ).e5.drop 16).take 108=ag:=by rw[e,<-gq,<-gq,List.drop_left' (by simp[nE]),List.take_left' m]
 unfold ni;rw[n,o,p];unfold fV;rw[uP 4 _ A,uP 8 _ A,e];simp only[jN,up,kt,mx];rw[bq A A,bq A A];congr 1<;>omega
def ac8{aj:dQ}(h:aj.bp):oN aj.e5=E aj:=by unfold oN;rw[ac7 h,if_pos ⟨(DV h.dT).2 h,rfl⟩]
def HH(h:l.length=128):(ni l).hy.length=108:=by simp[ni,h]
def ac9(a:l.length=128)(h:xi l):oN l=I:=by unfold oN;rw[if_neg];rintro⟨b,c⟩;exact h _ ((DV (HH a)).1 b) c
def HI{d b c ag:Int}:C.built 317 #[(0,F H d),(1,F H b),(2,F H c),(3,F H ag)].toList=E (fa ⟨d,b,c,ag,pt⟩).toArray:=K
def hd:pt.length=108:=by simp[pt]
def D5:∀l:List UInt8,l.flatMap bs=l.map λx=>F cl x.toNat
 |[]=>rfl
 |x::l=>by rw[iA,D5 l];rfl
def HJ(l:List UInt8):S:=bQ #[iU ((oN l).getD hz),aK (oN l).isSome]
def ada(y:aT w bs aa l)(m:l.length=128):a0 C 238 #[aa] w λae a=>ae=HJ l/\Q [] w a:=by
 have z:=HH m;obtain⟨a5,cC,rfl,ar,az⟩:=y;obtain⟨cR,jQ,rfl,au⟩:=az.resolve_left (by intro h;subst h;simp at m);have y:aT w bs (T (E ⟨cR,jQ,I⟩) l.length cC) l:=⟨_,cC,rfl,ar,Z ⟨cR,jQ,rfl,au⟩⟩;rw[m];refine a9 NV 1 Tryz.func238 K rfl λa1 aB=>?_;simp+decide only[↓a8,ba,NV,Tryz.f238];subst aB;refine nF λaA aD aF aG=>?_;simp only[M];rw[m]at y ar;rw[decide_eq_false A];simp only[M];have V:∀a,Q [] w a->∀i x,l[i]?=E x->a.cell? ⟨cR,jQ+i,I⟩=E (F cl x.toNat):=λa c i x aI=>la (au.J c B) (by
  rw[D5,e1,aI];rfl)
 have t:l[2]?=E (l.getD 2 0):=by rw[gp,cr A];rfl
 have u:l[3]?=E (l.getD 3 0):=by rw[gp,cr A];rfl
 have n:∀{a},Q [] w a->∀an,gu C (a4 5 (aE (E ⟨cR,jQ+2,I⟩))) (F cl (l.getD 2 0).toNat) a an↔an:=λc an=>dz mb (V _ c 2 _ t);have o:∀{a},Q [] w a->∀an,gu C (a4 5 (aE (E ⟨cR,jQ+3,I⟩))) (F cl (l.getD 3 0).toNat) a an↔an:=λc an=>dz mb (V _ c 3 _ u);have sub:∀{a},Q [] w a->∀i j,i<=j->j<=128->i<128->aT a bs (T (E ⟨cR,jQ+i,I⟩) (j-i) (cC-i)) ((l.drop i).take (j-i)):=by intro a c i j X t u;have:=aT.d1 (i:=i) (j:=j) e2 (d:=E ⟨cR,jQ,I⟩) (by rw[m];exact y.V c) X A;rw[if_neg A]at this;simpa[jC]using this
 have jh:∀{ac:S->Prop}(i j:Nat),i<=j->j<=128->i<128->(aV C (l5 52 (T (E ⟨cR,jQ,I⟩) 128 cC) (E (F H i)) (E (F H j)) I) ac↔ac (T (E ⟨cR,jQ+i,I⟩) (j-i) (cC-i))):=by intro ac i j X t u;rw[z8 fP el A A A,hf,hf,if_neg A];simp[jC]
 have aJ:∀ac:S->Prop,aV C (fY 52 (T (E ⟨cR,jQ,I⟩) 128 cC) (F H 2)) ac↔ac (aE (E ⟨cR,jQ+2,I⟩)):=λac=>hP (i:=2) fP el A;have aL:∀ac:S->Prop,aV C (fY 52 (T (E ⟨cR,jQ,I⟩) 128 cC) (F H 3)) ac↔ac (aE (E ⟨cR,jQ+3,I⟩)):=λac=>hP (i:=3) fP el A;let r:dQ:=⟨((l.getD 2 0).toNat:Nat),((l.getD 3 0).toNat:Nat),H.wrap (fe ((l.drop 4).take 4):Nat),H.wrap (fe ((l.drop 8).take 8):Nat),pt⟩;have ag:r.hy.length=108:=hd;have D:∀{a:aN}{ac:S->aN->Prop}(i j:Nat),Q [] w a->i<=j->j<=128->i<128->j-i<=8->ac (F H (H.wrap (fe ((l.drop i).take (j-i)):Nat))) a->W C (ck 276 #[T (E ⟨cR,jQ+i,I⟩) (j-i) (cC-i)]) a ac:=by intro a ac i j c X t u a6 ah;apply aH Zz (ac6 (sub c i j X t u) (by simp;omega));rintro _ _ ⟨rfl,rfl⟩;exact ah
 have a7:=(l.getD 2 0).toNat_lt;have bb:=(l.getD 3 0).toNat_lt;refine bT (λaM a=>∃b,aM=[aE (E ⟨b,0,I⟩)]/\aC a b 317 (fa r)/\aC a w.heap.size 317 (fa hz)/\b≠w.heap.size/\w.heap.size<=b/\Q [] w a) ?_ ?_
 ·have f:=aF.h6;have aO:=bD aD;refine(aJ _).2 ((bl mb (V _ f 2 _ t)).2 ((fv pr nh).2 ((aL _).2 ((bl mb (V _ f 3 _ u)).2 ((fv pr nh).2 ?_)))));rw[bq (x:=((l.getD 2 0).toNat:Int)) A A,bq (x:=((l.getD 3 0).toNat:Int)) A A];refine(jh 4 8 A A A).2 ((jh 8 16 A A A).2 ?_);have bc:aA.drew.heap.size=w.heap.size+1:=aG;have ai:∀{a:aN}{ac:S->aN->Prop},aA.drew=a->(∀ax b,Q [] w ax->aC ax b 317 (fa hz)->aC ax w.heap.size 317 (fa hz)->b≠w.heap.size->w.heap.size<=b->ac (aE (E ⟨b,0,I⟩)) ax)->W C (hV 317) a ac:=by rintro a ac rfl ah;refine nF λax aj J bd=>ah ax _ (f.R J B) aj (aO.J J B) A A
  have ak:∀{ax:aN}{b:Nat},Q [] w ax->aC ax b 317 (fa hz)->aC ax w.heap.size 317 (fa hz)->b≠w.heap.size->w.heap.size<=b->W C (dC 317 (aE (E ⟨b,0,I⟩)) (iU r)) ax λ_ a=>∃ab,[aE (E ⟨b,0,I⟩)]=[aE (E ⟨ab,0,I⟩)]/\aC a ab 317 (fa r)/\aC a w.heap.size 317 (fa hz)/\ab≠w.heap.size/\w.heap.size<=ab/\Q [] w a:=by intro ax b c s k p q;refine lT s hd ag λav L R aP=>⟨b,rfl,L,k.J R (by simp;omega),p,q,c.R R (by simp;omega)⟩
  refine⟨?_,?_⟩
  ·refine D 4 8 f A A A A ((o f _).2 ((n f _).2 ⟨?_,?_⟩))
   ·exact D 8 16 f A A A A ((o f _).2 ((n f _).2 ((bY HI).2 (ai rfl λax b c s k p q=>(o c _).2 ((n c _).2 (ak c s k p q))))))
   ·exact ai rfl λax b c s k p q=>(o c _).2 ((n c _).2 (D 8 16 c A A A A ((o c _).2 ((n c _).2 ((bY HI).2 (ak c s k p q))))))
  ·exact ai rfl λax b c s k p q=>(o c _).2 ((n c _).2 (D 4 8 c A A A A ((o c _).2 ((n c _).2 (D 8 16 c A A A A ((o c _).2 ((n c _).2 ((bY HI).2 (ak c s k p q)))))))))
 ·rintro _ _ ax ⟨b,rfl,aj,k,p,q,J⟩;simp only[M];refine(yc tY el).2 ((jh 16 124 A A A).2 ?_);have aQ:=sub J.h6 16 124 A A A;have al:((l.drop 16).take (124-16)).length=108:=by simp[m]
  refine On fP el (bD aj) (by rw[al,pu ag];omega) aQ e2 z5 (by rw[al];omega) λav L R aP=>?_;rw[al]at L;have aw:aC av b 317 (fa (ni l)):=by
   have e:(fa r).take 4++((l.drop 16).take (124-16)).flatMap bs++(fa r).drop (4+108)=fa (ni l):=by have aR:(fa r).drop (4+108)=[]:=uu (by rw[pu ag];omega);rw[aR,kJ];rfl
   rw[e]at L;exact L
  have aS:=J.h6.R R (by simp;omega);have aU:=(bD k).J R (by simp;omega);refine(ly aw z).2 (aH LR (Qq z) ?_);rintro ae aW ⟨am,ad⟩;have ao:=aS.R am B;have aX:aT aW bs ae (if(ni l).n0 then(ni l).e5 else[]):=by
   by_cases v:(ni l).n0
   ·rw[if_pos v]at ad⊢;exact ad.1
   ·rw[if_neg v]at ad⊢;subst ad;exact aT.gW _ _
  apply aH ZA (ac5 aX (y.V ao));rintro _ _ ⟨rfl,rfl⟩;have aY:decide ((if(ni l).n0 then(ni l).e5 else[])=l)=decide ((ni l).n0/\(ni l).e5=l):=by
   by_cases v:(ni l).n0
   ·simp[v]
   ·simp only[if_neg v];rw[decide_eq_false (by intro h;rw[<-h]at m;simp at m),decide_eq_false (λh=>v h.1)]
  rw[aY];have ay:=aU.J am B;have aZ:=aw.J am B;unfold HJ oN;by_cases af:(ni l).n0/\(ni l).e5=l
  ·rw[if_pos af,decide_eq_true af];simp only[M,hq];exact(ly aZ z).2 (lT ay hd z λa2 ap aq a3=>(ly ap z).2 ⟨rfl,ao.R aq B⟩)
  ·rw[if_neg af,decide_eq_false af];simp only[M,lE];exact(bY D2).2 (lT (g:=hz) ay hd hd λa2 ap aq a3=>(ly ap hd).2 ⟨rfl,ao.R aq B⟩)
end
end Go.Proofs.YtepeilglbedgdaaGreatDoor
namespace Go.X
variable{aD bU:List Nat}{a aA bv w:aN}{a6 b io:Nat}{aU:Type}{aa ae bm:S}{ac:S -> aN -> Prop}{ad:ft}{ar av:co}
section
open Go.RowKit
def hn{aU:Type}(bv w:aN)(av:co)(a6:Nat)(be:aU->List S)(aa:S)(l:List aU):Prop:=∃aD,bP w av a6 aa l.length (l.flatMap be) aD/\∀g∈aD,bv.heap.size<=g
section
variable{be:aU->List S}{l:List aU}
def hn.D(bv w:aN)(av:co)(a6:Nat)(be:aU->List S):hn bv w av a6 be (T I 0 0) []:=⟨[],gJ _ _ _,B⟩
def hn.J(h:hn bv w av a6 be aa l)(c:Q bU w a)(d:∀g∈bU,g<bv.heap.size):hn bv a av a6 be aa l:=by obtain⟨aD,e,b⟩:=h;exact⟨aD,e.J c (λg f i=>by have:=b g f;have:=d g i;omega),b⟩
def hn.V(h:hn bv w av a6 be aa l)(b:Q [] w a):hn bv a av a6 be aa l:=h.J b B
def hn.eF(h:hn bv w av a6 be aa l)(a:∀x,(be x).length=a6)(b:0<a6):aT w be aa l:=by obtain⟨aD,c,_⟩:=h;exact c.eF a b
def hn.AW(h:hn bv w av a6 be aa l):gx bv.heap.size aa:=by obtain⟨aD,a,b⟩:=h;exact gx.c4 a b
def hn.aW(h:hn bv w av a6 be aa l):aa.oneCell'=G:=by obtain⟨aD,a,_⟩:=h;rcases a.2 with⟨rfl,_⟩|⟨_,_,_,_,rfl,_⟩<;>rfl
def AX(bv w a:aN):Prop:=∃aD,Q aD w a/\∀g∈aD,bv.heap.size<=g
def AX.R(h:AX bv w aA)(a:Q bU bv w):Q bU bv aA:=by obtain⟨aD,b,c⟩:=h;exact a.R b (λg d=>Z (c g d))
def AX.bg{aO:co}{c:List S}(h:AX bv w aA)(a:aC w b aO c)(g:b<bv.heap.size):aC aA b aO c:=by obtain⟨aD,d,e⟩:=h;exact a.J d (λf=>by have:=e b f;omega)
def hn.Qs(f:hO ad ar av a6 io bm)(h:hn bv w av a6 be aa l)(z:bv.heap.size<=w.heap.size){x:aU}(i:∀x,(be x).length=a6)(j:ae.cells.toList=be x)(q:∀c∈be x,c.oneCell'=G)(r:(l.length+1)*io<=140737488355328)(s:l.length+1<=d0)(ao:a6<=16777216)
  (k:∀dd a,hn bv a av a6 be dd (l++[x])->AX bv w a->ac dd a):
  W ad (jR ar 1 #[(0,ae)]) w λd aA=>W ad (dG lp #[ar,ar] #[aa,d]) aA ac:=by
 obtain⟨aD,t,m⟩:=h;refine hw f [ae] rfl rfl (by intro ap n;simp at n;subst n;rw[<-tj,j,i]) A A λaA o p D=>?_;have e:([ae].flatMap λaa=>aa.cells.toList)=be x:=by simp[j]
 rw[e]at o;refine m8 f (t.J p B) o.cy (by rw[i];omega) q r s A λdd ax az u v y _=>k dd ax ⟨az,?_,λg b=>(y g b).elim (m g) (λJ=>A)⟩ ⟨aD,(p.bw B).R v (λg b=>Y b),m⟩;rw[di,hL];simpa using u
def hn.yQ(e:hO ad ar av a6 io bm)(h:hn bv w av a6 be aa l)(b:Q bU bv w){x:aU}(f:∀x,(be x).length=a6)(g:ae.cells.toList=be x)(i:∀c∈be x,c.oneCell'=G)(j:(l.length+1)*io<=140737488355328)(m:l.length+1<=d0)(ao:a6<=16777216)
  (k:∀dd a,hn bv a av a6 be dd (l++[x])->Q bU bv a->ac dd a):
  W ad (jR ar 1 #[(0,ae)]) w λd aA=>W ad (dG lp #[ar,ar] #[aa,d]) aA ac:=
 hn.Qs e h b.aI f g i j m ao λdd a h n=>k dd a h (n.R b)
def yR(f:hO ad ar av a6 io bm)(h:bP w av a6 aa l.length (l.flatMap be) aD){x:aU}(i:∀x,(be x).length=a6)(j:ae.cells.toList=be x)(p:∀c∈be x,c.oneCell'=G)(q:(l.length+1)*io<=140737488355328)(r:l.length+1<=d0)(ao:a6<=16777216)
  (k:∀dd a ez,bP a av a6 dd (l++[x]).length ((l++[x]).flatMap be) ez->bX aD ez w a->dd.oneCell'=G->ac dd a):
  W ad (jR ar 1 #[(0,ae)]) w λd aA=>W ad (dG lp #[ar,ar] #[aa,d]) aA ac:=by
 refine hw f [ae] rfl rfl (by intro ap m;simp at m;subst m;rw[<-tj,j,i]) A A λaA n o y=>?_;have e:([ae].flatMap λaa=>aa.cells.toList)=be x:=by simp[j]
 rw[e]at n;refine m8 f (h.J o B) n.cy (by rw[i];omega) p q r A λdd ax az s t u v=>k dd ax az ?_ ⟨(o.bw B).R t (λg b=>Y b),λg b=>(u g b).imp id (λz=>A)⟩ v;rw[di,hL];simpa using s
end
end
end Go.X
namespace Go.Proofs.YtepeilglbedgdaaGreatDoor
open Go.X
attribute[local irreducible]Go.X.W
variable{am:List Nat}{a w:aN}{ab af ah bL bM i n s:Nat}{b1:S}{ac:S -> aN -> Prop}{d5:ByteArray}{l:List UInt8}
section
open Go.RowKit ey
variable{aG:List b3}{aq:b3}
def adb{aQ:Int}{e:Option ex}:a0 C 59 #[bO d5,F H aQ,ff e] w λae a=>ae=ff (e.map (.d2 d5 aQ))/\w=a:=by
 cases e with
 |none=>exact GA
 |some e=>exact Dm
def rO{aQ:Int}{e:Option ex}(k:ac (ff (e.map (.d2 d5 aQ))) w):W C (ck 59 #[bO d5,F H aQ,ff e]) w ac:=
 aH nz adb (by rintro _ _ ⟨rfl,rfl⟩;exact k)
def tZ{aQ:Int}(k:ac cT w):W C (ck 59 #[bO d5,F H aQ,cT]) w ac:=
 aH nz GA (by rintro _ _ ⟨rfl,rfl⟩;exact k)
def rP(aG:List b3)(n:Nat):List Nat:=(c9 n).filter λi=>match aG[i]? with|some aq=>!aq.dW|none=>U
def cH(aG:List b3):List Nat:=rP aG aG.length
def sS:i∈cH aG↔∃aq,aG[i]?=E aq/\aq.dW=U:=by
 unfold cH rP;rw[ol,iK];constructor
 ·rintro⟨a,b⟩;rw[cr a]at b⊢;exact⟨_,rfl,by simpa using b⟩
 ·rintro⟨aq,a,b⟩;exact⟨(fi.1 a).1,by rw[a];simp[b]⟩
section
def adc(h:dH w ab aG am):a0 C 72 #[aP ab] w λae a=>aT a ew ae (dZ (cH aG))/\gx w.heap.size ae/\Q [] w a:=by
 have r:=h.dT.2;obtain⟨bM,af,bL,aw,k,l,n⟩:=h;have h:dH w ab aG am:=⟨bM,af,bL,aw,k,l,n⟩;have s:aw.length=aG.length:=by rw[<-l,dU]
 refine a9 Mz 1 Tryz.func72 K rfl λa1 o=>?_;simp+decide only[↓a8,ba,Mz,Tryz.f72];subst o;simp only[M,k.AT];apply c1 (λb a=>∃(i:Nat)(aa:S),b=[aa,F H i]/\i<=aG.length/\hn w a 3 1 ew aa (dZ (rP aG i))/\Q [] w a) (λb _=>match b with|[_,F _ i]=>aG.length-i.toNat|_=>0) ⟨0,_,rfl,A,hn.D _ _ _ _ _,Q.b0 _ _⟩;rintro _ _ aA ⟨i,aa,rfl,al,c,d⟩;simp only[M,bi];refine⟨λt=>?_,λu=>?_⟩
 ·have m:aG[i]?=E aG[i]:=cr A;have p:rP aG (i+1)=rP aG i++(if aG[i].dW then[]else[i]):=by unfold rP;rw[nK,List.filter_append];congr 1;simp only[uv,m,List.filter_nil];cases aG[i].dW<;>rfl
  refine bT (λb a=>∃aa,b=[aa]/\hn w a 3 1 ew aa (dZ (rP aG (i+1)))/\Q [] w a) ?_ ?_
  ·apply aH LF (Qk (h.V d) m);rintro _ _ ⟨rfl,rfl⟩;rw[p,cG];refine⟨λe=>?_,λe=>?_⟩
   ·have f:aG[i].dW=U:=by simpa using e
    have v:(rP aG i).length<=i:=by have:=List.length_filter_le (λi=>match aG[i]? with|some aq=>!aq.dW|none=>U) (c9 i);rwa[uw]at this
    refine hn.yQ uM c d (x:=(i:Int)) (λ_=>rfl) rfl (by simp[ew,Value.oneCell']) (by simp[dZ];omega) (by unfold d0;simp[dZ];omega) A λdd ax g j=>⟨dd,rfl,?_,j⟩;rw[f];simpa[dZ]using g
   ·have f:aG[i].dW=G:=by simpa using e
    rw[f];exact⟨aa,rfl,by simpa using c,d⟩
  ·rintro _ _ ax ⟨q,rfl,g,j⟩;simp only[M];rw[bq A A];exact⟨⟨i+1,q,rfl,A,g,j⟩,by simp;omega⟩
 ·obtain rfl:i=aG.length:=A;exact⟨c.eF (λ_=>rfl) A,c.AW,d⟩
def t0(h:dH w ab aG am)(k:∀ae a,aT a ew ae (dZ (cH aG))->gx w.heap.size ae->Q [] w a->ac ae a):W C (ck 72 #[aP ab]) w ac:=
 aH Xw (adc h) (λae a⟨b,c,d⟩=>k ae a b c d)
def AY(a:aq.dW=U)(ao:s<aq.d3.length):aq.kj s U=0:=by unfold b3.kj;rw[a,if_neg B,if_neg (by simp;omega)]
def ey.b3.pv(aq:b3):b3:=aq.rJ λj=>(aq.dp j).isSome
def Qt{b:List UInt8}(h:dH w ab aG am)(al:aG[i]?=E aq)(c:aq.dW=U)(g:∀gX∈aG,gX.d3.length=aq.d3.length)(ao:s<aq.d3.length)(d:aT w bs b1 b)(j:b.length=128):
  a0 C 120 #[aP ab,F H i,F H s,b1] w λae a=>ae=cT/\∃az,dH a ab (aG.set i (aq.kW s b)) az/\bX am az w a:=by
 refine a9 (.L .D (.L (.bK [9] .D .D) .D)) 4 Tryz.func120 K rfl λa1 k=>?_;simp+decide only[↓a8,ba,Tryz.f120];subst k;obtain⟨e,cC,rfl,l,m⟩:=d;have d:aT w bs (T e b.length cC) b:=⟨e,cC,rfl,l,m⟩;refine bT (λn a=>n=[F H 0]/\w=a) ?_ ?_
 ·simp only[M];rw[decide_eq_false (show¬((s:Int)<0)by omega)];simp only[M];apply aH LE (Ql h g);rintro _ _ ⟨rfl,rfl⟩;simp only[M];rw[decide_eq_false (show¬((aq.d3.length:Int)<=s)by omega)];simp only[M,j];apply aH LN (Qm h al c);rintro _ _ ⟨rfl,rfl⟩;exact⟨rfl,by trivial⟩
 ·rintro _ _ _ ⟨rfl,rfl⟩;obtain⟨cB,ah,y,o,p,q,r⟩:=h.ey al;simp only[M,ne_eq,not_true_eq_false,decide_false,o,p];apply aH Yu (ey.acL q d);rintro _ aA ⟨bJ,rfl,f,t,u⟩;rw[show decide (b.length≠128)=U from decide_eq_false A,AY c ao,if_pos rfl,hf]at f;rw[show decide (b.length≠128)=U from decide_eq_false A,AY c ao];apply tZ;obtain⟨cM,v,x⟩:=r aA _ bJ f ⟨t,u⟩;exact⟨rfl,cM,v,x⟩
def ade(h:dH w ab aG am)(al:aG[i]?=E aq)(b:aq.dW=U):
  a0 C 121 #[aP ab,F H i] w λae a=>ae=cT/\∃az,dH a ab (aG.set i aq.pv) az/\bX am az w a:=by
 refine a9 .D 2 Tryz.func121 K rfl λa1 e=>?_;simp+decide only[↓a8,ba,Tryz.f121];subst e;apply aH LN (Qm h al b);rintro _ _ ⟨rfl,rfl⟩;obtain⟨cB,ah,p,f,g,c,j⟩:=h.ey al;simp only[M,ne_eq,not_true_eq_false,decide_false,f,g];apply aH Yv (ey.acP c);rintro _ aA ⟨bJ,rfl,d,k,l⟩;have m:=c.e6.1;rw[b,if_neg B]at d;rw[show(0:Int)=((0:Nat):Int)from rfl,AY b m];apply tZ;obtain⟨cM,n,o⟩:=j aA _ bJ d ⟨k,l⟩;exact⟨rfl,cM,n,o⟩
def adf(h:dH w ab aG am)(al:aG[i]?=E aq):a0 C 47 #[aP ab,F H i] w λae a=>ae=aK G/\∃az,dH a ab (aG.set i (aq.sP G)) az/\bX am az w a:=by have n:=(fi.1 al).1;refine a9 .D 2 Tryz.func47 K rfl λa1 b=>?_;simp+decide only[↓a8,ba,Tryz.f47];subst b;refine aH ym (yO h) ?_;rintro _ _ ⟨rfl,rfl⟩;obtain⟨cB,ah,o,c,d,e,f⟩:=h.ey al;rw[decide_eq_true A];simp only[M,hq,c,d];refine aH XF (acE e) ?_;rintro _ aA ⟨bJ,g,j,k⟩;obtain⟨cM,l,m⟩:=f aA _ bJ g ⟨j,k⟩;exact⟨rfl,cM,l,m⟩
def adg(h:dH w ab aG am)(al:aG[i]?=E aq):a0 C 48 #[aP ab,F H i] w λae a=>ae=aK G/\∃az,dH a ab (aG.set i (aq.sP U)) az/\bX am az w a:=by have n:=(fi.1 al).1;refine a9 .D 2 Tryz.func48 K rfl λa1 b=>?_;simp+decide only[↓a8,ba,Tryz.f48];subst b;refine aH ym (yO h) ?_;rintro _ _ ⟨rfl,rfl⟩;obtain⟨cB,ah,o,c,d,e,f⟩:=h.ey al;rw[decide_eq_true A];simp only[M,hq,c,d];refine aH XG (acF e) ?_;rintro _ aA ⟨bJ,g,j,k⟩;obtain⟨cM,l,m⟩:=f aA _ bJ g ⟨j,k⟩;exact⟨rfl,cM,l,m⟩
def adh{s aQ c:Int}(h:dH w ab aG am)(al:aG[i]?=E aq):a0 C 20 #[aP ab,F H i,F H s,F H aQ,F hS c] w λae a=>ae=aK (!aq.n2 s aQ c)/\∃az,dH a ab (aG.set i (if aq.n2 s aQ c then aq else aq.yJ s.toNat aQ.toNat c)) az/\bX am az w a:=by have o:=(fi.1 al).1;refine a9 .D 5 Tryz.func20 K rfl λa1 b=>?_;simp+decide only[↓a8,ba,Tryz.f20];subst b;refine aH ym (yO h) ?_;rintro _ _ ⟨rfl,rfl⟩;obtain⟨cB,ah,p,d,e,f,g⟩:=h.ey al;rw[decide_eq_true A];simp only[M,d,e];refine aH Xo (acU f) ?_;rintro _ aA ⟨bJ,rfl,j,k,l⟩;obtain⟨cM,m,n⟩:=g aA _ bJ j ⟨k,l⟩;exact⟨rfl,cM,m,n⟩
def adi(h:dH w ab aG am)(al:aG[i]?=E aq)(ao:s<aq.d3.length):
  a0 C 237 #[aP ab,F H i,F H s] w λae a=>∃aa e,ae=bQ #[aa,ff e]/\e.isSome=aq.dW/\aT a bs aa (if aq.dW then[]else aq.j5 s)/\Q [] w a:=by
 have m:=(fi.1 al).1;refine a9 .D 3 Tryz.func237 K rfl λa1 d=>?_;simp+decide only[↓a8,ba,Tryz.f237];subst d;apply aH ym (yO h);rintro _ _ ⟨rfl,rfl⟩;obtain⟨cB,ah,n,f,g,j,o⟩:=h.ey al;obtain⟨bM,af,bL,aw,k,p,q⟩:=h;rw[decide_eq_true A];simp only[M,hq,k.bl,f,g];apply aH Zy (ey.acM j);rintro _ aA ⟨aa,rfl,c,l,r⟩;simp only[cV,cX];refine rO ⟨aa,_,rfl,?_,?_,l⟩
 ·cases b:aq.dW with
  |true=>
   have:aq.kj s U=5:=by unfold b3.kj;rw[b,if_pos rfl]
   rw[this];rfl
  |false=>
   rw[AY b ao];rfl
 ·cases b:aq.dW with
  |true=>
   have:aq.kj s U=5:=by unfold b3.kj;rw[b,if_pos rfl]
   rw[this]at c;simpa using c
  |false=>
   rw[AY b ao]at c;simpa using c
end
def e0(aj:dQ)(kind bj a:Int):Bool:=decide (aj.a5=kind)&&(decide (aj.lw=bj)&&(!decide (0<=a)||decide (aj.e4=a)))
def ec(aq:b3)(s:Nat)(kind bj a:Int):Option dQ:=if aq.dW then I else(oN (aq.j5 s)).filter λaj=>e0 aj kind bj a
def adj{aj:dQ}(a:l.length=128)(h:oN l=E aj):aj.hy.length=108:=by
 unfold oN at h;split at h
 ·cases h;exact HH a
 ·cases h
def adk(a:l.length=128):((oN l).getD hz).hy.length=108:=by
 cases h:oN l with
 |none=>exact hd
 |some aj=>exact adj a h
section
def adl{a:List Nat}(h:hI 186 w ah aq a)(ao:s<aq.d3.length):(aq.j5 s).length=128:=by
 unfold b3.j5;cases b:aq.dp s with
 |some x=>exact(h.cn s x b).2
 |none=>
  simp only[Option.getD_none];rw[gp,cr ao];exact h.e6.2.2 _ (dX ao)
def Qu{kind bj b:Int}(h:dH w ab aG am)(al:aG[i]?=E aq)(ao:s<aq.d3.length):
  a0 C 191 #[aP ab,F H i,F H s,F H kind,F H bj,F H b] w λae a=>ae=bQ #[iU ((ec aq s kind bj b).getD hz),aK (ec aq s kind bj b).isSome]/\Q [] w a:=by
 obtain⟨_,ah,av,_,_,V,_⟩:=h.ey al;have x:=adl V ao;refine a9 NC 6 Tryz.func191 K rfl λa1 W=>?_;simp+decide (maxSteps:=9999999)only[↓a8,ba,NC,Tryz.f191];subst W;refine nF λaA X y aw=>aH Y5 (adi (h.V y) al ao) ?_;rintro _ ax ⟨aa,e,rfl,ac,k,l⟩;have z:=y.R l B;have A:=X.J l B;have ay:=l.aI;simp only[cV,cX,oF,ac];unfold ec;cases ad:aq.dW with
 |true=>
  simp only[M];exact(bY D2).2 (lT (g:=hz) A hd hd λm c f af=>(ly c hd).2 ⟨rfl,z.R f B⟩)
 |false=>
  rw[ad]at k;simp only[M,fc,if_false]at k⊢;apply aH Y6 (ada k x);rintro _ az ⟨rfl,n⟩;unfold HJ;simp only[cV,cX];have eu:=adk x;refine nF λaB ag D aC=>lT ag hd eu λm c f af=>?_;have aD:=n.aI;have J:Q [] w m:=((z.R n B).R D B).R f (by simp;omega);have L:=((A.J n B).J D B).J f (by simp;omega);obtain⟨o,p,q,r⟩:=uW c;refine bT (λai a=>ai=[aK (!((oN (aq.j5 s)).filter λaj=>e0 aj kind bj b).isSome)]/\m=a) ?_ ?_
  ·cases ak:oN (aq.j5 s)with
   |none=>
    simp only[wH,lE,M,Option.filter_none];exact⟨by trivial,by trivial⟩
   |some aj=>
    rw[ak]at o p q r;simp only[om]at o p q r;simp only[vu,hq,M,o,p,q,r,Option.filter_some];unfold e0;by_cases d:aj.a5=kind
    ·by_cases j:aj.lw=bj
     ·by_cases t:0<=b
      ·by_cases R:aj.e4=b
       ·simp[d,j,t,R,dI,N]
       ·simp[d,j,t,R,dI,N]
      ·simp[d,j,t,dI,N]
     ·simp[d,j,dI,N]
    ·simp[d,dI,N]
  ·rintro _ _ _ ⟨rfl,rfl⟩;simp only[M];cases an:(oN (aq.j5 s)).filter λaj=>e0 aj kind bj b with
   |none=>
    simp only[wH,lE,M];exact(bY D2).2 (lT (g:=hz) L hd hd λap u v ar=>(ly u hd).2 ⟨rfl,J.R v B⟩)
   |some aj=>
    have au:oN (aq.j5 s)=E aj:=(Option.filter_eq_some_iff.1 an).1;rw[au]at c eu;simp only[om]at c eu;simp only[vu,hq,M];exact(ly c eu).2 (lT L hd eu λap u v ar=>(ly u eu).2 ⟨rfl,J.R v B⟩)
def HK{kind bj b:Int}(h:dH w ab aG am)(al:aG[i]?=E aq)(ao:s<aq.d3.length)(k:∀a,Q [] w a->ac (bQ #[iU ((ec aq s kind bj b).getD hz),aK (ec aq s kind bj b).isSome]) a):
  W C (ck 191 #[aP ab,F H i,F H s,F H kind,F H bj,F H b]) w ac:=
 aH L0 (Qu h al ao) (by rintro _ a ⟨rfl,c⟩;exact k a c)
def mj.Qv{aw:List n4}(h:mj w ab bM af bL aw)(f:aC a ab 125 [T (E ⟨bM,af,I⟩) aw.length bL,aK U,F H (-1)])(b:Q [ab] w a):mj a ab bM af bL aw:=
 ⟨f,h.c4.J b (by have:=h.g1;simpa usingλe=>this e.symm),λai c=>(h.ih ai c).J b (λg i d=>(h.ps ai c).1 (by simp at d;subst d;exact i)),h.g1,h.ps,h.jI,h.lH,h.hm⟩
def mj.adm{aw:List n4}(h:mj w ab bM af bL aw)(a:aw.length=n){ai:n4}(b:aw[i]?=E ai){ac:S->Prop}:(aV C (fY 123 (T (E ⟨bM,af,I⟩) n bL) (F H i)) λae=>aZ C (a4 122 ae) w ac)↔ac (aP ai.1):=by subst a;exact h.sH b
def yS(aq:b3):b3:=aq.rJ (aq.AQ 0)
def adn(h:dH w ab aG am):a0 C 46 #[aP ab,T I 0 0] w λ_ a=>∃az,dH a ab (aG.map yS) az/\bX am az w a:=by
 have R:=h.dT.2;obtain⟨bM,af,bL,aw,n,o,rfl⟩:=h;have p:aw.length=aG.length:=by rw[<-o,dU]
 refine a9 Mq 2 Tryz.func46 K rfl λa1 t=>?_;simp+decide only[↓a8,ba,Mq,Tryz.f46];subst t;simp only[M,n.AT,p];apply c1 (λd a=>∃(i:Nat)(b:List n4),d=[F H i]/\i<=aG.length/\mj a ab bM af bL b/\b.length=aG.length/\b.map (·.2.1)=(aG.take i).map yS++aG.drop i/\bX (tX ab bM aw) (tX ab bM b) w a) (λd _=>match d with|[F _ i]=>aG.length-i.toNat|_=>0) ⟨0,aw,rfl,A,n,p,by simpa using o,bX.b0 _ _⟩;rintro _ _ aA ⟨i,b,rfl,al,e,q,m,r⟩;simp only[M,bi];refine⟨λV=>?_,λW=>?_⟩
 ·have f:i<aG.length:=A;have j:b[i]?=E b[i]:=cr A;have u:b[i].2.1=aG[i]:=by
   have c:(b.map (·.2.1))[i]?=E b[i].2.1:=by rw[e1,j];rfl
   rw[m,nr (by simp;omega),dU,ea,my A,k6,oo,qA,cr f]at c;exact(re c).symm
  refine(e.adm q j).2 (bT (λd a=>d=[F hr 0]/\aA=a) ?_ ?_)
  ·exact⟨λX=>A,λ_=>⟨by trivial,by trivial⟩⟩
  ·rintro _ _ _ ⟨rfl,rfl⟩;simp only[M];apply aH XE (acQ (e.ih _ (gP j)));rintro _ ax ⟨cM,v,k,x⟩;obtain⟨c,y⟩:=e.jJ j v ⟨k,x⟩;rw[bq A A];refine⟨⟨i+1,_,rfl,f,c,by rw[i9];exact q,?_,r.dP y⟩,by simp;omega⟩;rw[qB,m,u,sr _ _ (by simp;omega),dU,ea,my A,k6,ot f,jO f,g6,gq];rfl
 ·obtain rfl:i=aG.length:=A;have z:b.map (·.2.1)=aG.map yS:=by simpa using m
  refine eK yd e.bg B rfl λax D k aa=>?_;have c:=e.Qv D k;try simp only[M]
  refine eK hl c.bg B rfl λac J s ad=>?_;have L:=c.Qv J s;have Q:ab∈tX ab bM b:=rN.2 (Y rfl);refine⟨_,⟨bM,af,bL,b,L,z,rfl⟩,r.dP ⟨(k.R s B).bw (by intro g l;simp at l;subst l;exact Y Q),λg l=>Y l⟩⟩
end
structure ado(bv w:aN)(ab:Nat)(aa:S)(aD:List Nat)(aw:List n4):Prop where
 bg:aC w ab 125 [aa,aK U,F H (-1)]
 c4:bP w 122 1 aa aw.length (aw.map λai=>aP ai.1) aD
 ih:∀ai∈aw,hI 186 w ai.1 ai.2.1 ai.2.2
 D6:ab∉aD
 ps:∀ai∈aw,ab∉ai.2.2/\∀g∈aD,g∉ai.2.2
 jI:∀(i j:Nat)(a b:n4),aw[i]?=E a->aw[j]?=E b->i≠j->∀g∈a.2.2,g∉b.2.2
 adp:bv.heap.size<=ab
 HL:∀g∈aD,bv.heap.size<=g
 Qw:∀ai∈aw,∀g∈ai.2.2,bv.heap.size<=g
 qV:Q [] bv w
def adq(f:1<=n)(d:n<=8)(aZ:1<=s)(a2:s<=128):
  a0 C 33 #[F H n,F H s] w λae a=>∃ab am,ae=bQ #[aP ab,cT]/\dH a ab (cN n (b3.cq s)) am/\(∀g∈am,w.heap.size<=g)/\Q [] w a:=by
 refine a9 Ml 2 Tryz.func33 K rfl λa1 au=>?_;simp+decide only[↓a8,ba,Ml,Tryz.f33];subst au;refine bT (λm a=>m=[aK U]/\w=a) ?_ ?_
 ·simp only[M];rw[decide_eq_false (show¬((n:Int)<1)by omega),decide_eq_false (show¬(8<(n:Int))by omega)];simp only[M];exact⟨by trivial,by trivial⟩
 rintro _ _ _ ⟨rfl,rfl⟩;simp only[M];apply(bY (gT:=#[T I 0 0,aK U,F H (-1)]) K).2;refine eA λaA av ay a3=>?_;refine c1 (λm a=>∃(aa:S)(aD:List Nat)(aw:List n4),m=[F H aw.length]/\aw.length<=n/\aw.map (·.2.1)=cN aw.length (b3.cq s)/\ado w a w.heap.size aa aD aw) (λm _=>match m with|[F _ i]=>n-i.toNat|_=>0)
  ⟨T I 0 0,[],[],rfl,B,rfl,⟨by simpa[bF]using av,gJ _ _ _,B,B,B,B,A,B,B,ay⟩⟩ ?_
 rintro _ _ ax ⟨aa,aD,aw,rfl,al,W,b⟩;simp only[M,bi];refine⟨λa4=>?_,λa5=>?_⟩
 ·apply aH Xu acD;rintro _ az ⟨o,u⟩;rcases u with⟨aB,_⟩|⟨_,_,ah,am,rfl,D,p⟩
  ·exact absurd ⟨A,A⟩ aB
  rw[hf]at D;simp only[cV,cX];apply(fp dk).2;simp only[M];have X:=b.bg.J o B;have a6:=b.qV.aI;have a7:=b.bg.aL;refine(bl K5 (X.bh (af:=0))).2 (hw Lm [aP ah] rfl rfl (by intro ap ac;simp at ac;subst ac;rfl) A A λbb aC q bc=>?_);have bd:=o.aI;refine m8 Lm ((b.c4.J o B).J q B) aC.cy rfl (by intro ae u;simp[bF]at u;subst u;rfl) A (by unfold d0;omega) A λaF be ad aG v aI aJ=>?_;have aL:=b.c4.aL;have aM:=(X.J q B).J v b.D6;refine eK Wc aM B aJ λag aO y bf=>?_;rw[bq A A];have r:∀g∈ad,g∈aD\/az.heap.size<=g:=λg aQ=>(aI g aQ).imp id (λh=>A);have aR:=D.aL;have aS:=b.qV;have aT:Q [] w ag:=(((aS.R o B).R q B).R v (λg aU=>Z (b.HL g aU))).R y B;have aj:∀g∈am,g∉aD:=λg f d=>by have:=p g f;have:=aL g d;omega
  have an:w.heap.size∉am:=λh=>by have:=p _ h;omega
  have aV:∀ai∈aw,hI 186 ag ai.1 ai.2.1 ai.2.2:=λai c=>((((b.ih ai c).V o).V q).J v (λg f d=>(b.ps ai c).2 g d f)).J y (λg f d=>(b.ps ai c).1 (by simp at d;subst d;exact f));refine⟨⟨aF,ad,aw++[(ah,b3.cq s,am)],B,by simp;omega,by rw[g6,W,di];simp[List.replicate_succ'],⟨aO,?_,?_,?_,?_,?_,A,?_,?_,aT⟩⟩,by simp;omega⟩
  ·rw[di,g6];have:=aG.J y (by
    intro g f d;simp at d;subst d;exact(r _ f).elim b.D6 A)
   simpa[bF]using this
  ·intro ai c;rcases b4.1 c with c|c
   ·exact aV ai c
   ·simp at c;subst c;exact((D.V q).J v aj).J y (λg f d=>an (by simp at d;subst d;exact f))
  ·exactλh=>(r _ h).elim b.D6 A
  ·intro ai c;rcases b4.1 c with c|c
   ·refine⟨(b.ps ai c).1,λg f d=>(r g f).elim (λh=>(b.ps ai c).2 g h d) (λh=>?_)⟩;have:=(b.ih ai c).aL g d;omega
   ·simp at c;subst c;refine⟨an,λg f d=>(r g f).elim (λh=>aj g d h) (λh=>?_)⟩;have:=aR g d;omega
  ·intro i j J z aW ao aX g f d;have L:∀(k:Nat)(ai:n4),(aw++[(ah,b3.cq s,am)])[k]?=E ai->(aw[k]?=E ai)\/(k=aw.length/\ai=(ah,b3.cq s,am)):=by
    intro k ai l;rcases Nat.lt_or_ge k aw.length with h|h
    ·rw[pR h]at l;exact Y l
    ·rw[nr h]at l;cases aq:k-aw.length with
     |zero=>rw[aq]at l;simp at l;exact Z ⟨A,l.symm⟩
     |succ ak=>rw[aq]at l;simp at l
   rcases L i J aW with R|⟨R,rfl⟩
   ·rcases L j z ao with t|⟨t,rfl⟩
    ·exact b.jI i j J z R t aX g f d
    ·have:=(b.ih J (gP R)).aL g f;have:=p g d;omega
   ·rcases L j z ao with t|⟨t,rfl⟩
    ·have:=(b.ih z (gP t)).aL g d;have:=p g f;omega
    ·omega
  ·intro g h;exact(r g h).elim (b.HL g) (λh=>A)
  ·intro ai c g h;rcases b4.1 c with c|c
   ·exact b.Qw ai c g h
   ·simp at c;subst c;have:=p g h;omega
 ·have aY:aw.length=n:=A;have ar:=b.c4;rcases ar.2 with⟨_,bg,_⟩|⟨g,af,bL,cf,rfl,rfl,bh⟩
  ·omega
  refine⟨w.heap.size,tX w.heap.size g aw,rfl,⟨g,af,bL,aw,⟨b.bg,ar,b.ih,λe=>b.D6 (by simp[e]),λai c=>⟨(b.ps ai c).1,(b.ps ai c).2 g B⟩,b.jI,A,A⟩,by rw[W,aY],rfl⟩,?_,b.qV⟩;intro x V;rcases rN.1 V with rfl|rfl|⟨ai,c,V⟩
  ·exact b.adp
  ·exact b.HL _ B
  ·exact b.Qw ai c x V
end
end Go.Proofs.YtepeilglbedgdaaGreatDoor
namespace Go.X
variable{w:aN}{ag eM n:Nat}{ad:ft}{ar:co}{b7:Array S}{hT:List (Nat × Bool)}
section
open Go.RowKit
section
def eqFields_pre{aS b7:Array S}(ag:Nat)(i:List Field):∀(a2:List Field)(hT:List (Nat×Bool)),a2.map (ya ad)=hT.map E->(∀s∈hT,nV aS s/\nV b7 s)->
  (Op.eqFields (ag+1) aS b7 (a2++i)).run ad w=if(hT.all λs=>m9 aS[s.1]? b7[s.1]?)=G then(Op.eqFields (ag+1) aS b7 i).run ad w else bN U w
 |[],[],_,_=>B
 |[],s::hT,h,_=>by cases h
 |aj::a2,[],h,_=>by cases h
 |aj::a2,s::hT,h,k=>by
  simp only[ge,ss]at h;obtain⟨l,j,d⟩:=FM h.1;obtain⟨m,o⟩:=k s fE;have p:=eqFields_pre ag i a2 hT h.2 (λt q=>k t (ev _ q));obtain⟨af,b⟩:=s;simp only at j;rcases d with⟨e,d⟩|⟨e,d⟩
  ·simp only at e;subst e;obtain⟨ak,a⟩:=m;obtain⟨n,c⟩:=o;simp only at a c;simp only[jN,Op.eqFields,l,ne_eq,not_false_eq_true,if_true,fx,part,Cz d,f7,fc,if_false,j,a,c,k5,run_equalIn_int w ag aj.type H H ak n d,List.all_cons];have f:m9 aS[af]? b7[af]?=decide (ak=n):=by rw[a,c];rfl
   rw[a,c]at f;rw[f];by_cases g:ak=n
   ·subst g;simp only[beq_self_eq_true,hq,fc,if_false,decide_true,pV];exact p
   ·simp[g]
  ·simp only at e;subst e;obtain⟨ak,a⟩:=m;obtain⟨n,c⟩:=o;simp only at a c;simp only[jN,Op.eqFields,l,ne_eq,not_false_eq_true,if_true,fx,part,FN d,f7,fc,if_false,j,a,c,k5,run_equalIn_string w ag aj.type ak n d,List.all_cons,z3];have f:m9 aS[af]? b7[af]?=decide (ak=n):=by rw[a,c];rfl
   rw[a,c]at f;rw[f];by_cases g:ak=n
   ·subst g;simp only[decide_true,hq,fc,if_false,decide_true,pV];exact p
   ·simp[g]
def adr(ad:ft)(aj:Field)(eM n:Nat):Prop:=aj.name≠ "_"/\aj.offset=eM/\iP ad aj.type n=G/\∃av,ad.underlying aj.type=E (.array n av)/\ad.underlying av=E (.int cl)/\fZ ad av=G
def D7(ad:ft)(ar:co)(hT:List (Nat×Bool))(eM n:Nat):Prop:=
 ad.underlying ar=E (.struct (ad.fieldsOf ar))/\ad.stoodInHeld ar=U/\ad.eqGuardType ad.depth ar=U/\∃a2 a,(ad.fieldsOf ar).toList=a2++[a]/\a2.map (ya ad)=hT.map E/\adr ad a eM n
def Qx{aS:Array S}{d b:List UInt8}(h:D7 ad ar hT eM n)(j:∀s∈hT,nV aS s/\nV b7 s)(k:(aS.extract eM (eM+n)).toList=d.flatMap bs)(m:(b7.extract eM (eM+n)).toList=b.flatMap bs)(o:d.length=n)(p:b.length=n):
  (lF 10000 ar (b6 aS) (b6 b7)).run ad w=bN ((hT.all λs=>m9 aS[s.1]? b7[s.1]?)&&decide (d=b)) w:=by
 obtain⟨q,r,Q,a2,a,t,u,v,y,c,av,z,A,B⟩:=h;have f:∀l:List UInt8,l.flatMap bs=l.map Extern.Stop.cell:=by
  intro l;induction l with
  |nil=>rfl
  |cons x l D=>rw[iA,D];rfl
 obtain⟨i,al,J⟩:=Kr c;obtain⟨e,K,L⟩:=Vr B;rw[run_equalIn_struct w 9999 ar aS b7 q r,t,eqFields_pre 9998 [a] a2 hT u j];have dI:aS.extract eM (eM+n)=(d.map Extern.Stop.cell).toArray:=Array.ext' (by rw[k,f]);have N:b7.extract eM (eM+n)=(b.map Extern.Stop.cell).toArray:=Array.ext' (by rw[m,f]);have O:(Op.eqFields (9998+1) aS b7 [a]).run ad w=bN (decide (d=b)) w:=by
  have bz:=run_equalIn_bytes (P:=ad) w 9997 a.type av n z A (λw=>sA K L) d b o p;simp only[Op.eqFields,v,ne_eq,not_false_eq_true,if_true,fx,part,Kq c,sA al J,f7,y,k5,dI,N];rw[bz];by_cases g:d=b
  ·simp[g]
  ·simp[g]
 rw[O];cases(hT.all λs=>m9 aS[s.1]? b7[s.1]?)<;>simp
def ads{ac:S->Prop}{c:Bool}{aS:Array S}{d b:List UInt8}(h:D7 ad ar hT eM n)(a:∀s∈hT,nV aS s/\nV b7 s)(e:(aS.extract eM (eM+n)).toList=d.flatMap bs)(f:(b7.extract eM (eM+n)).toList=b.flatMap bs)(g:d.length=n)(i:b.length=n):
  aZ ad (eE .neq ar c (b6 aS) (b6 b7)) w ac↔ac (aK (!((hT.all λs=>m9 aS[s.1]? b7[s.1]?)&&decide (d=b)))):=
 j8 (by rw[FE h.2.2.1,run_neq_struct,Qx h a e f g i];rfl)
def adt{ac:S->Prop}{c:Bool}{aS:Array S}{d b:List UInt8}(h:D7 ad ar hT eM n)(a:∀s∈hT,nV aS s/\nV b7 s)(e:(aS.extract eM (eM+n)).toList=d.flatMap bs)(f:(b7.extract eM (eM+n)).toList=b.flatMap bs)(g:d.length=n)(i:b.length=n):
  aZ ad (eE .eql ar c (b6 aS) (b6 b7)) w ac↔ac (aK ((hT.all λs=>m9 aS[s.1]? b7[s.1]?)&&decide (d=b))):=
 j8 (by rw[FE h.2.2.1,run_eql_struct,Qx h a e f g i];rfl)
end
end
structure dR where
 iH:Nat
 aJ:Nat
 aR:Nat
 bd:Nat
 cY:Nat
deriving DecidableEq
structure dR.bp(c:dR):Prop where
 HM:1<=c.iH
 HN:c.iH<=2147483647
 nj:1<=c.aR
 i6:c.aR<=8
 kh:1<=c.aJ
 jY:c.aJ<=c.aR
 lR:1<=c.bd
 jZ:c.bd<=64
 kk:1<=c.cY
 lh:c.cY<=4
def dR.e6(c:dR):Nat:=1+c.cY*c.aJ+c.bd
def en(c:dR):List S:=[F H c.iH,F H c.aJ,F H c.aR,F H c.bd,F H c.cY]
def fQ(c:dR):S:=b6 (en c).toArray
def oO(c:dR):List UInt8:=fV 4 c.iH++[ed c.aJ,ed c.aR,ed c.bd,ed c.cY]++cN 100 0
def jt(c:dR)(ag:Nat):dQ:=⟨1,ag,0,1,oO c⟩
def t1(c:dR):(oO c).length=108:=by simp[oO,nE]
def HO(c:dR)(h:ag<8):(jt c ag).bp:=⟨by simp[jt],by simp[jt],by simp[jt],by simp[jt];omega,by simp[jt],by simp[jt],by simp[jt],by simp[jt],t1 c⟩
end Go.X
namespace Go.Proofs.YtepeilglbedgdaaGreatDoor
open Go.X
attribute[local irreducible]Go.X.W
variable{am:List Nat}{a w:aN}{ab ag ak b i s:Nat}{aa:S}{ac:S -> aN -> Prop}{c:dR}
section
open Go.RowKit ey
variable{aG:List b3}{aq:b3}
def adu(c:dR):∀ae∈en c,ae.oneCell'=G:=by intro ae a;simp[en]at a;rcases a with rfl|rfl|rfl|rfl|rfl<;>rfl
def fj{ac:S->Prop}(h:aC w b 25 (en c)):aZ C (a4 25 (aE (E ⟨b,0,I⟩))) w ac↔ac (fQ c):=gC ye h.cy
def iV(h:aC w b 25 (en c)):
  (∀ac,aZ C (a4 3 (aE (E ⟨b,0,I⟩))) w ac↔ac (F H c.iH))/\(∀ac,aZ C (a4 3 (aE (E ⟨b,1,I⟩))) w ac↔ac (F H c.aJ))/\(∀ac,aZ C (a4 3 (aE (E ⟨b,2,I⟩))) w ac↔ac (F H c.aR))/\(∀ac,aZ C (a4 3 (aE (E ⟨b,3,I⟩))) w ac↔ac (F H c.bd))/\(∀ac,aZ C (a4 3 (aE (E ⟨b,4,I⟩))) w ac↔ac (F H c.cY)):=
 ⟨λ_=>bl bZ (h.bh (af:=0)),λ_=>bl bZ (h.bh (af:=1)),λ_=>bl bZ (h.bh (af:=2)),λ_=>bl bZ (h.bh (af:=3)),λ_=>bl bZ (h.bh (af:=4))⟩
def kX(k:∀a,aC a w.heap.size 25 (en c)->Q [] w a->a.heap.size=w.heap.size+1->ac (aE (E ⟨w.heap.size,0,I⟩)) a):W C (rk 25 (fQ c)) w ac:=
 eA λa b d e=>k a (by simpa[fQ,bF]using b) d e
def qW:dR:=⟨0,0,0,0,0⟩
def adv:C.built 25 []=E (en qW).toArray:=K
def mR(k:∀a,aC a w.heap.size 25 (en qW)->Q [] w a->a.heap.size=w.heap.size+1->ac (aE (E ⟨w.heap.size,0,I⟩)) a):W C (hV 25) w ac:=by
 have b:du C 25 (fQ qW):=by unfold du;kernel_rfl
 exact gI b λa c d b=>k a (by simpa[fQ,bF]using c) d b
def ml{l:List S}{g:dR}(h:aC w b 25 l)(c:l.length=5)(k:∀a,aC a b 25 (en g)->Q [b] w a->a.heap.size=w.heap.size->ac bS a):W C (dC 25 (aE (E ⟨b,0,I⟩)) (fQ g)) w ac:=by refine f0 (cv:=[]) (c5:=l) (da:=[]) Wl (by simpa using h) rfl c (by simp[fQ,bF,en]) (by simpa[fQ,bF]using adu g) λa d e f=>k a (by simpa[fQ,bF]using d) e f
def adw{n ay al:Int}:a0 C 166 #[F H n,F H ay,F H al] w λae a=>ae=aK (decide (ay<=n/\n<=al))/\w=a:=by
 refine a9 .D 3 Tryz.func166 K rfl λa1 b=>?_;simp+decide only[↓a8,ba,Tryz.f166];subst b;simp only[M,bi];refine⟨λh=>⟨?_,rfl⟩,λh=>⟨?_,rfl⟩⟩
 ·rw[decide_eq_decide.2 (show n<=al↔ay<=n/\n<=al by omega)]
 ·rw[decide_eq_false (show¬(ay<=n/\n<=al)by omega)]
def AZ{n ay al:Int}(h:ay<=n/\n<=al)(k:ac (aK G) w):W C (ck 166 #[F H n,F H ay,F H al]) w ac:=
 aH Yr adw (by rintro _ _ ⟨rfl,rfl⟩;rw[decide_eq_true h];exact k)
def Qy(h:c.bp):a0 C 115 #[fQ c] w λae a=>ae=aK G/\Q [] w a:=by have l:=h.HM;have m:=h.HN;have n:=h.nj;have o:=h.i6;have p:=h.kh;have q:=h.jY;have r:=h.lR;have s:=h.jZ;have t:=h.kk;have u:=h.lh;refine a9 .D 1 Tryz.func115 K rfl λa1 i=>?_;simp+decide only[↓a8,ba,Tryz.f115];subst i;refine kX λaA j k v=>?_;obtain⟨b,d,e,f,g⟩:=iV j;simp only[M,b,d,e,f,g];refine AZ ⟨A,A⟩ ?_;simp only[M,b,d,e,f,g];refine AZ ⟨A,A⟩ ?_;simp only[M,b,d,e,f,g];refine AZ ⟨A,A⟩ ?_;simp only[M,b,d,e,f,g];refine AZ ⟨A,A⟩ ?_;simp only[M,b,d,e,f,g];refine AZ ⟨A,A⟩ ?_;exact⟨rfl,k⟩
def Qz(h:c.bp):c.cY*c.aJ<=32:=Nat.mul_le_mul (h.lh) (gz h.jY h.i6)
def adx(h:c.bp):a0 C 117 #[fQ c] w λae a=>ae=F H c.e6/\Q [] w a:=by have ao:=Qz h;have j:=h.jZ;refine a9 .D 1 Tryz.func117 K rfl λa1 b=>?_;simp+decide only[↓a8,ba,Tryz.f117];subst b;refine kX λaA d e k=>?_;obtain⟨l,f,m,g,i⟩:=iV d;simp only[M,f,g,i];unfold dR.e6;rw[<-uq];generalize c.cY*c.aJ=x at*;rw[bq (x:=(x:Int)) A A,bq (x:=1+(x:Int)) A A,bq A A];exact⟨B,e⟩
structure lv(aG:List b3)(c:dR):Prop where
 cL:c.bp
 aR:aG.length=c.aR
 cP:∀aq∈aG,aq.d3.length=c.e6
section
def ady(h:dH w ab aG am)(b:lv aG c):a0 C 70 #[aP ab,fQ c] w λae a=>ae=aK G/\Q [] w a:=by refine a9 My 2 Tryz.func70 K rfl λa1 j=>?_;simp+decide only[↓a8,ba,My,Tryz.f70];subst j;refine kX λaA e k n=>?_;refine(fj (bD e)).2 ?_;refine aH LD (Qy b.cL) ?_;rintro _ ax ⟨rfl,f⟩;have g:=k.h6.R f B;have d:=(bD e).J f B;obtain⟨o,p,l,q,r⟩:=iV d;simp only[M,l];refine aH Aw (AU (h.V g)) ?_;rintro _ _ ⟨rfl,rfl⟩;refine(dz bZ (d.bh (af:=2))).2 ?_;simp only[M,b.aR,decide_true];refine(fj d).2 ?_;refine aH XW (adx b.cL) ?_;rintro _ s ⟨rfl,m⟩;have i:=g.R m B;refine aH LE (Ql (h.V i) b.cP) ?_;rintro _ _ ⟨rfl,rfl⟩;simp only[M,Int.le_refl,decide_true];exact⟨rfl,i⟩
def yT(h:dH w ab aG am)(b:lv aG c)(k:∀a,Q [] w a->ac (aK G) a):W C (ck 70 #[aP ab,fQ c]) w ac:=
 aH Xv (ady h b) (by rintro _ a ⟨rfl,d⟩;exact k a d)
def adz{i:Int}:C.built 317 #[(0,F H 1),(1,F H i),(3,F H 1)].toList=E (fa ⟨1,i,0,1,pt⟩).toArray:=K
def QA{aj:dQ}{ct:List UInt8}{x:UInt8}(a:0<ak):(fa {aj with hy:=ct++cN ak 0}).set (4+ct.length) (F cl x.toNat)=fa {aj with hy:=(ct++[x])++cN (ak-1) 0}:=by unfold fa;rw[sr _ _ B];congr 1;simp only[gF,tl,gQ,Nat.reduceAdd,Nat.add_sub_cancel_left];obtain⟨ak,rfl⟩:∃k,ak=k+1:=⟨ak-1,A⟩;rw[hL,sr _ _ (by rw[qb];omega),qb,k6,List.replicate_succ,iA];simp[bs,hL]
def adA{d b c ag:Int}(k:∀ae a,ae=T (E ⟨w.heap.size,0,I⟩) 4 4->aT a ew ae [d,b,c,ag]->Q [] w a->ac ae a):W C (jR 22 4 #[(0,F H d),(1,F H b),(2,F H c),(3,F H ag)]) w ac:=
 hw uM [F H d,F H b,F H c,F H ag] rfl rfl (by intro aa e;simp at e;rcases e with rfl|rfl|rfl|rfl<;>rfl) A A λa f g _=>k _ _ rfl (p3 (l:=[d,b,c,ag]) (by simpa[bF,ew]using f)) g
def xo:eH C 22 3 1 ew (λx=>F H x):=eH.aW vL hl bZ
def QB(h:c.bp):a0 C 178 #[fQ c,F H ag] w λae a=>ae=iU (jt c ag)/\Q [] w a:=by
 have aR:=h.HM;have aS:=h.HN;have aU:=h.nj;have aV:=h.i6;have aW:=h.kh;have aX:=h.jY;have aY:=h.lR;have aZ:=h.jZ;have a2:=h.kk;have a3:=h.lh;refine a9 Nv 2 Tryz.func178 K rfl λa1 X=>?_;simp+decide only[↓a8,ba,Nv,Tryz.f178];subst X;refine kX λaA aa ab a4=>nF λax ac u a5=>(bY adz).2 (nF λa6 ad q a7=>lT (g:=⟨1,ag,0,1,pt⟩) ad hd hd λah ai r bb=>?_);have al:=((aa.J u B).J q B).J r (by simp;omega);have am:=(ac.J q B).J r (by simp;omega);have an:Q [] w ah:=((ab.R u B).R q B).R r (by simp;omega);generalize bc:w.heap.size=ao at*;generalize bd:aA.heap.size=v at*;generalize be:ax.heap.size=m at*;apply c1 (λd a=>∃j:Nat,d=[F H j]/\j<=4/\aC a m 317 (fa ⟨1,ag,0,1,fV j c.iH++cN (108-j) 0⟩)/\aC a ao 25 (en c)/\aC a v 317 (fa hz)/\Q [] w a) (λd _=>match d with|[F _ j]=>4-j.toNat|_=>0) ⟨0,rfl,A,ai,al,am,an⟩;rintro _ _ aq ⟨j,rfl,ar,s,y,z,D⟩;obtain⟨au,av,aw,ay,az⟩:=iV y;simp only[M,au,bi];refine⟨λaB=>?_,λaD=>?_⟩
 ·rw[bq (x:=8*(j:Int)) A A];apply(fv nh D1).2;rw[l8 A A];refine(nS A).2 ((fv nh pr).2 ((kc tY el (show j<108 by omega)).2 ?_));rw[gA];have aF:min (8*(j:Int)).toNat H.bits=8*j:=by show min (8*(j:Int)).toNat 64=8*j;omega
  rw[aF,pa];have o:∃x:UInt8,(c.iH:Int)/2^(8*j)%256=(x.toNat:Nat)/\fV (j+1) c.iH=fV j c.iH++[x]:=by refine⟨ed ((c.iH:Int)/2^(8*j)%256).toNat,?_,by unfold fV;exact CF _ _⟩;have bf:(0:Int)<=(c.iH:Int)/2^(8*j)%256:=Int.emod_nonneg _ A;have bg:(c.iH:Int)/2^(8*j)%256<256:=Int.emod_lt_of_pos _ A;generalize(c.iH:Int)/2^(8*j)%256=ap at*;rw[mx];omega
  obtain⟨x,aG,aH⟩:=o;rw[aG];refine eK el s (by rw[pu (by simp[nE];omega)];omega) rfl λJ L f bh=>?_;try simp only[M]
  rw[bq A A];have e:=QA (aj:=⟨1,ag,0,1,[]⟩) (ct:=fV j c.iH) (ak:=108-j) (x:=x) A;rw[nE]at e;simp only at e;rw[e,<-aH]at L;refine⟨⟨j+1,rfl,A,by rw[show 108-(j+1)=108-j-1 by omega];exact L,y.J f (by simp;omega),z.J f (by simp;omega),D.R f (by simp;omega)⟩,by simp;omega⟩
 ·obtain rfl:j=4:=A;simp only[M,av,aw,ay,az];refine adA λae J aI aJ f=>?_;subst aI;simp only[M];have aL:=D.R f B;let cs:List UInt8:=[ed c.aJ,ed c.aR,ed c.bd,ed c.cY];apply c1 (λd a=>∃j:Nat,d=[F H j]/\j<=4/\aC a m 317 (fa ⟨1,ag,0,1,(fV 4 c.iH++cs.take j)++cN (104-j) 0⟩)/\aC a v 317 (fa hz)/\Q [m] J a) (λd _=>match d with|[F _ j]=>4-j.toNat|_=>0) ⟨0,rfl,A,by simpa using s.J f B,z.J f B,Q.b0 _ _⟩;rintro _ _ R ⟨j,rfl,ar,V,W,t⟩;have aM:aT R ew (T (E ⟨aq.heap.size,0,I⟩) 4 4) [(c.aJ:Int),c.aR,c.bd,c.cY]:=aJ.J t (by intro b af n c e;cases e;have:=s.aL;simp;omega);simp only[M,bi];refine⟨λaB=>?_,λaD=>?_⟩
  ·have i:j<4:=A;apply(xo.ek (l:=[(c.aJ:Int),c.aR,c.bd,c.cY]) aM (Q.b0 _ _) i).2;try simp only[M]
   rw[bq (x:=4+(j:Int)) A A];apply(fv nh pr).2;rw[show(4:Int)+(j:Int)=((4+j:Nat):Int)by omega];apply(kc tY el (show 4+j<108 by omega)).2;rw[gA];have o:cl.wrap ([(c.aJ:Int),c.aR,c.bd,c.cY][j]'i)=((cs[j]'i).toNat:Nat)/\cs.take (j+1)=cs.take j++[cs[j]'i]:=by refine⟨?_,jO i⟩;rcases(show j=0\/j=1\/j=2\/j=3 by omega)with rfl|rfl|rfl|rfl<;>simp[cs,pa,mx]<;>omega
   rw[o.1];refine eK el V (by rw[pu (by simp[nE,cs];omega)];omega) rfl λaO k p aP=>?_;try simp only[M]
   rw[bq A A];have e:=QA (aj:=⟨1,ag,0,1,[]⟩) (ct:=fV 4 c.iH++cs.take j) (ak:=104-j) (x:=cs[j]'i) A;rw[di,nE,ea,show min j cs.length=j by simp[cs];omega]at e;simp only at e;rw[show 4+(4+j)=4+(4+j)from rfl]at k;rw[e,gq (fV 4 c.iH),<-o.2]at k;refine⟨⟨j+1,rfl,A,by rw[show 104-(j+1)=104-j-1 by omega];exact k,W.J p (by simp;omega),t.R p B⟩,by simp;omega⟩
  ·obtain rfl:j=4:=A;have aQ:aC R m 317 (fa (jt c ag)):=V;exact(ly aQ (t1 c)).2 (lT W hd (t1 c) λaO k p aP=>(ly k (t1 c)).2 ⟨rfl,(aL.R t (by simp;omega)).R p (by simp;omega)⟩)
end
def QC:D7 C 317 [(0,U),(1,U),(2,U),(3,U)] 4 108:=by
 have a:(C.fieldsOf 317).toList≠[]:=by intro h;have:(C.fieldsOf 317).toList.length=5:=K;rw[h]at this;cases this
 refine⟨K,K,K,(C.fieldsOf 317).toList.dropLast,(C.fieldsOf 317).toList.getLast a,(List.dropLast_concat_getLast a).symm,K,?_,K,K,5,K,K,K⟩;exact of_decide_eq_true K
def eqFx_all{aj g:dQ}:(([(0,U),(1,U),(2,U),(3,U)]:List (Nat×Bool)).all (λs=>m9 (fa aj).toArray[s.1]? (fa g).toArray[s.1]?)&&decide (aj.hy=g.hy))=decide (aj=g):=by obtain⟨d,b,c,ag,e⟩:=aj;obtain⟨fl,a,f,h,gh⟩:=g;simp[fa,m9,Bool.and_assoc]
def D8(aj:dQ):∀s∈([(0,U),(1,U),(2,U),(3,U)]:List (Nat×Bool)),nV (fa aj).toArray s:=by intro s ao;simp at ao;rcases ao with rfl|rfl|rfl|rfl<;>exact⟨_,rfl⟩
def D9{aj:dQ}(h:aj.hy.length=108):((fa aj).toArray.extract 4 (4+108)).toList=aj.hy.flatMap bs:=by have a:=pu h;simp only[Array.toList_extract,List.extract_eq_take_drop];unfold fa;rw[List.drop_left' (show([F H aj.a5,F H aj.lw,F H aj.e4,F H aj.g4]:List S).length=4 from rfl),mv (by rw[qb,h];omega)]
def adB{aj g:dQ}{c:Bool}{ac:S->Prop}(a:aj.hy.length=108)(b:g.hy.length=108):aZ C (eE .neq 317 c (iU aj) (iU g)) w ac↔ac (aK (!decide (aj=g))):=by rw[<-eqFx_all];exact ads QC (λs ao=>⟨D8 aj s ao,D8 g s ao⟩) (D9 a) (D9 b) a b
def eqFx{aj g:dQ}{c:Bool}{ac:S->Prop}(a:aj.hy.length=108)(b:g.hy.length=108):aZ C (eE .eql 317 c (iU aj) (iU g)) w ac↔ac (aK (decide (aj=g))):=by rw[<-eqFx_all];exact adt QC (λs ao=>⟨D8 aj s ao,D8 g s ao⟩) (D9 a) (D9 b) a b
def adC:yb C 25 [(0,U),(1,U),(2,U),(3,U),(4,U)]:=⟨K,K,K,K⟩
def QD(c:dR):∀s∈([(0,U),(1,U),(2,U),(3,U),(4,U)]:List (Nat×Bool)),nV (en c).toArray s:=by intro s ao;simp at ao;rcases ao with rfl|rfl|rfl|rfl|rfl<;>exact⟨_,rfl⟩
def eqC{ag:dR}{b:Bool}{ac:S->Prop}:aZ C (eE .eql 25 b (fQ c) (fQ ag)) w ac↔ac (aK (decide (c=ag))):=by
 have e:([(0,U),(1,U),(2,U),(3,U),(4,U)]:List (Nat×Bool)).all (λs=>m9 (en c).toArray[s.1]? (en ag).toArray[s.1]?)=decide (c=ag):=by obtain⟨d,f,g,h,i⟩:=c;obtain⟨j,k,l,m,n⟩:=ag;have a:∀x ap:Nat,decide ((x:Int)=(ap:Int))=decide (x=ap):=λx ap=>decide_eq_decide.2 A;simp[en,m9,a]
 rw[<-e];exact KQ adC (λs ao=>⟨QD c s ao,QD ag s ao⟩)
section
def Ea{aj:dQ}(h:dH w ab aG am)(al:aG[i]?=E aq)(b:aq.dW=U)(c:∀gX∈aG,gX.d3.length=aq.d3.length)(ao:s<aq.d3.length)(d:aj.bp)(e:aT w bs aa aj.e5)
  (k:∀a az,dH a ab (aG.set i (aq.kW s aj.e5)) az->bX am az w a->ac cT a):W C (ck 120 #[aP ab,F H i,F H s,aa]) w ac:=
 aH LG (Qt h al b c ao e d.xh) (by rintro _ a ⟨rfl,az,f,g⟩;exact k a az f g)
def Eb{aj:dQ}(b:aj.bp)(k:∀aa a,aT a bs aa aj.e5->gx w.heap.size aa->Q [] w a->ac aa a):W C (ck 177 #[iU aj]) w ac:=
 aH LR (Qq b.dT) (by
  rintro aa a ⟨d,c⟩;rw[if_pos ((DV b.dT).2 b)]at c;exact k aa a c.1 c.2.1 d)
def A0(h:dH w ab aG am)(al:aG[i]?=E aq)(b:aq.dW=U)(k:∀a az,dH a ab (aG.set i aq.pv) az->bX am az w a->ac cT a):W C (ck 121 #[aP ab,F H i]) w ac:=
 aH XX (ade h al b) (by rintro _ a ⟨rfl,az,c,d⟩;exact k a az c d)
def adD(h:dH w ab aG am)(b:lv aG c)(al:aG[i]?=E aq)(d:aq.dW=U):
  a0 C 124 #[aP ab,fQ c,F H i] w λae a=>ae=cT/\∃az,dH a ab (aG.set i (aq.kW 0 (jt c i).e5).pv) az/\bX am az w a:=by
 have m:=(fi.1 al).1;have e:i<8:=by have:=b.cL.i6;have:=b.aR;omega
 have n:=b.cP aq (gP al);have J:0<c.e6:=by unfold dR.e6;omega
 refine a9 .D 3 Tryz.func124 K rfl λa1 o=>?_;simp+decide (maxSteps:=9999999)only[↓a8,ba,Tryz.f124];subst o;refine kX λaA f g L=>(fj f).2 (yT (h.V g) b λax j=>?_);simp only[M,hq];have p:=f.J j B;refine(fj p).2 (aH LS (QB b.cL) ?_);rintro _ Q ⟨rfl,q⟩;refine Eb (HO c e) λaa R r V t=>?_;have k:=((g.R j B).R q B).R t B;refine Ea (s:=0) (h.V k) al d (λgX u=>by rw[n];exact b.cP gX u) A (HO c e) r λW X v x=>(fp dk).2 ?_;simp only[M];have y:(aG.set i (aq.kW 0 (jt c i).e5))[i]?=E (aq.kW 0 (jt c i).e5):=by rw[List.getElem?_set_self m]
 refine A0 v y d λac z l D=>tZ ?_;rw[List.set_set]at l;exact⟨rfl,z,l,(x.dP D).mN k⟩
def QE{af:Option dR}(h:dH w ab aG am)(al:aG[i]?=E aq)(a6:i<8)(ao:0<aq.d3.length)(an:∀c,af=E c->c.bp)(ap:ec aq 0 1 i 0=af.map λc=>jt c i):
  a0 C 184 #[aP ab,F H i] w λae a=>ae=bQ #[fQ (af.getD qW),aK af.isSome]/\Q [] w a:=by
 refine a9 Nz 2 Tryz.func184 K rfl λa1 ar=>?_;simp+decide only[↓a8,ba,Nz,Tryz.f184];subst ar;refine mR λaA au V a7=>HK (s:=0) (h.V V) al ao λax u=>?_;rw[ap];simp only[cV,cX];have W:=au.J u B;have X:=V.R u B;have bb:=u.aI;cases af with
 |none=>
  simp only[Option.map_none,Option.getD_none,wH];refine nF λav v k aw=>lT (g:=hz) v hd hd λp f l ay=>?_;simp only[M,lE];exact(bY adv).2 (ml (g:=qW) ((W.J k B).J l (by simp;omega)) rfl λaz y m aB=>(fj y).2 ⟨rfl,((X.R k B).R l (by simp;omega)).R m B⟩)
 |some c=>
  have b:=an c rfl;have bc:=b.HM;have bd:=b.HN;have be:=b.nj;have bf:=b.i6;have bg:=b.kh;have bh:=b.jY;have bj:=b.lR;have bk:=b.jZ;have bm:=b.kk;have bn:=b.lh;simp only[m1,om,vu];refine nF λav v k aw=>lT v hd (t1 c) λp f l ay=>?_;have aD:Q [] w p:=(X.R k B).R l (by simp;omega);have aF:=(W.J k B).J l (by simp;omega);have n:∀{a}(j:Nat),aC a ax.heap.size 317 (fa (jt c i))->j<108->a.cell? ⟨ax.heap.size,4+j,I⟩=E (F cl ((oO c).getD j 0).toNat):=by
   intro a j aI aa;rw[aI.bh];unfold fa;rw[nr B];simp only[gF,tl,gQ,Nat.reduceAdd,Nat.add_sub_cancel_left];have ac:j<(oO c).length:=by rw[t1];exact aa
   show((oO c).flatMap bs)[j]?=_;rw[D5,e1,cr ac,gp,cr ac];rfl
  have aJ:(oO c).getD 4 0=ed c.aJ:=by simp[oO,fV,eU,nK]
  have aL:(oO c).getD 5 0=ed c.aR:=by simp[oO,fV,eU,nK]
  have aM:(oO c).getD 6 0=ed c.bd:=by simp[oO,fV,eU,nK]
  have aO:(oO c).getD 7 0=ed c.cY:=by simp[oO,fV,eU,nK]
  have q:∀x:Nat,x<256->H.wrap (((ed x).toNat:Nat):Int)=x:=by intro x ad;rw[mx,Nat.mod_eq_of_lt ad];exact bq A A
  simp only[M,hq];refine(kc (i:=4) tY el A).2 ((bl mb (n 4 f A)).2 ((fv pr nh).2 ?_));try simp only[M]
  refine(kc (i:=5) tY el A).2 ((bl mb (n 5 f A)).2 ((fv pr nh).2 ?_));try simp only[M]
  refine(kc (i:=6) tY el A).2 ((bl mb (n 6 f A)).2 ((fv pr nh).2 ?_));try simp only[M]
  refine(kc (i:=7) tY el A).2 ((bl mb (n 7 f A)).2 ((fv pr nh).2 ?_));rw[aJ,aL,aM,aO,q _ A,q _ A,q _ A,q _ A];refine(bY (gT:=(en ⟨0,c.aJ,c.aR,c.bd,c.cY⟩).toArray) K).2 (mR λaz y m aB=>ml (g:=⟨0,c.aJ,c.aR,c.bd,c.cY⟩) y rfl λaQ aR z bo=>?_);have aS:=(f.J m B).J z (by simp;omega);have aT:=(aF.J m B).J z (by simp;omega);have aU:Q [] w aQ:=(aD.R m B).R z (by simp;omega);have bp:ax.heap.size<p.heap.size:=A;generalize br:ax.heap.size=aV at*;generalize bt:p.heap.size=ag at*;apply c1 (λo a=>∃j:Nat,o=[F H j]/\j<=4/\aC a ag 25 (en ⟨fe ((fV 4 c.iH).take j),c.aJ,c.aR,c.bd,c.cY⟩)/\aC a aV 317 (fa (jt c i))/\aC a w.heap.size 25 (en qW)/\Q [] w a) (λo _=>match o with|[F _ j]=>4-j.toNat|_=>0) ⟨0,rfl,A,aR,aS,aT,aU⟩;rintro _ _ r ⟨j,rfl,aa,e,t,ah,ai⟩;simp only[M,bi];refine⟨λbu=>?_,λbv=>?_⟩
  ·have bw:j<4:=A;refine(bl bZ ((bD e).bh (af:=0))).2 ((kc tY el (show j<108 by omega)).2 ?_);rw[gA];refine(bl mb (n j (bD t) A)).2 ((fv pr nh).2 ?_);have D:j<(fV 4 c.iH).length:=by rw[nE];omega
   have aW:(oO c).getD j 0=(fV 4 c.iH)[j]:=by unfold oO;rw[gp,gq,pR D,cr D];rfl
   rw[aW];have ad:=((fV 4 c.iH)[j]).toNat_lt;rw[bq (x:=(((fV 4 c.iH)[j]).toNat:Int)) A A];try simp only[M]
   rw[bq (x:=8*(j:Int)) A A];apply(fv nh D1).2;rw[l8 A A];apply(w0 A).2;have aX:min (8*(j:Int)).toNat H.bits=8*j:=by show min (8*(j:Int)).toNat 64=8*j;omega
   rw[aX];have aY:fe ((fV 4 c.iH).take j)<2^(8*j):=by have:=tL ((fV 4 c.iH).take j);rw[ea,my A,show 256=2^8 from rfl,<-Nat.pow_mul]at this;exact this
   have bx:2^(8*j)*256<=2^64:=by rw[show 256=2^8 from rfl,<-Nat.pow_add];exact pU A A
   have bz:2^(8*j)<=2^24:=pU A A;have bB:((fV 4 c.iH)[j]).toNat*2^(8*j)<=255*2^(8*j):=mw _ A;have aZ:((((fV 4 c.iH)[j]).toNat:Nat):Int)*2^(8*j)=((((fV 4 c.iH)[j]).toNat*2^(8*j):Nat):Int):=by rw[uq,Int.natCast_pow];rfl
   rw[aZ];have a2:fe ((fV 4 c.iH).take (j+1))=fe ((fV 4 c.iH).take j)+((fV 4 c.iH)[j]).toNat*2^(8*j):=by rw[jO D,CG,ea,my A,show 256=2^8 from rfl,<-Nat.pow_mul]
   apply(Ag aY A).2;rw[<-a2];have bC:fe ((fV 4 c.iH).take (j+1))<2^33:=A;rw[bq (x:=((fe ((fV 4 c.iH).take (j+1)):Nat):Int)) A A];try simp only[M]
   refine eK hl (bD e) (by simp[en]) rfl λJ a3 d bE=>?_;rw[bq (x:=(j:Int)+1) A A];refine⟨⟨j+1,rfl,A,by simpa[en]using a3,(bD t).J d (by simp;omega),(bD ah).J d (by simp;omega),ai.h6.R d (by simp;omega)⟩,by simp;omega⟩
  ·obtain rfl:j=4:=A;rw[mv (by rw[nE];omega),show fe (fV 4 c.iH)=c.iH from uP 4 _ A]at e;have e:aC r ag 25 (en c):=e;refine bT (λo a=>o=[aK U]/\Q [] r a) ?_ ?_
   ·refine(fj (bD e)).2 (aH LD (Qy b) ?_);rintro _ J ⟨rfl,d⟩;simp only[M,hq];have L:Q [] r J:=(cD [] r).R d B;refine(ly (t.J L B) (t1 c)).2 ((fj (e.J L B)).2 (aH LS (QB b) ?_));rintro _ cd ⟨rfl,R⟩;have ak:=L.R R B;have a4:=t.J ak B;exact(mE (by have:=tN;rwa[<-pu (aj:=jt c i) (t1 c)]at this) a4.cy).2 ((adB (t1 c) (t1 c)).2 ⟨B,ak⟩)
   ·rintro _ _ J ⟨rfl,d⟩;simp only[M];exact(fj (e.J d B)).2 (ml (ah.J d B) rfl λcd a5 R bG=>(fj a5).2 ⟨rfl,(ai.R d B).R R B⟩)
end
def bV(g:Nat->Bool)(n:Nat):Nat:=((c9 n).filter g).length
def uX(g:Nat->Bool)(n:Nat):bV g (n+1)=bV g n+if g n then 1 else 0:=by unfold bV;rw[nK,List.filter_append,di];cases a:g n<;>simp[a]
def yU(g:Nat->Bool)(n:Nat):bV g n<=n:=by have:=List.length_filter_le g (c9 n);rwa[uw]at this
section
def adE{g:Nat->Bool}(h:dH w ab aG am)(e:lv aG c)(aa:∀(i:Nat)(aq:b3),aG[i]?=E aq->ec aq 0 1 i 0=if g i then E (jt c i)else I)(aB:c.aJ<=bV g c.aR):
  a0 C 151 #[aP ab] w λae a=>ae=bQ #[fQ c,cT]/\Q [] w a:=by
 have aD:=e.cL.kh;have aF:=e.cL.i6;refine a9 Nf 1 Tryz.func151 K rfl λa1 ac=>?_;simp+decide only[↓a8,ba,Nf,Tryz.f151];subst ac;refine mR λaA t ad aI=>mR λax ag D aJ=>?_;have J:=ad.R D B;apply aH Aw (AU (h.V J));rintro _ _ ⟨rfl,rfl⟩;have t:=t.J D B;generalize aL:w.heap.size=p at*;generalize aM:aA.heap.size=q at*;rw[e.aR];apply c1 (λb a=>∃i:Nat,b=[F H (bV g i),F H i]/\i<=c.aR/\aC a q 25 (en (if bV g i=0 then qW else c))/\aC a p 25 (en qW)/\Q [] w a) (λb _=>match b with|[_,F _ i]=>c.aR-i.toNat|_=>0) ⟨0,rfl,A,ag,t,J⟩;rintro _ _ ah ⟨i,rfl,al,f,u,l⟩;have aO:=yU g i;simp only[M,bi];refine⟨λaQ=>?_,λaR=>?_⟩
 ·have L:i<c.aR:=A;have ai:i<aG.length:=by rw[e.aR];exact L
  have R:aG[i]?=E aG[i]:=cr ai;refine bT (λb a=>b=[F H (bV g (i+1))]/\aC a q 25 (en (if bV g (i+1)=0 then qW else c))/\aC a p 25 (en qW)/\Q [] w a) ?_ ?_
  ·have ao:=aa i _ R;apply aH LW (QE (af:=if g i then E c else I) (h.V l) R A (by rw[e.cP _ (dX _)];unfold dR.e6;omega) (by intro aS V;split at V<;>cases V;exact e.cL) (by rw[ao];split<;>rfl));rintro _ j ⟨rfl,d⟩;simp only[cV,cX];refine mR λaj v m ak=>ml (g:=(if g i then E c else I).getD qW) v rfl λn k x aT=>?_;have aU:=d.aI;have aV:=f.aL;have aW:=u.aL;have r:=((f.J d B).J m B).J x (by simp;omega);have y:=((u.J d B).J m B).J x (by simp;omega);have z:Q [] w n:=((l.R d B).R m B).R x (by have:=l.aI;have:=d.aI;simp;omega);have an:j.heap.size≠q:=A;have aX:j.heap.size≠p:=A;generalize j.heap.size=ap at*;rw[uX];cases W:g i with
   |false=>
    rw[W]at k;simp only[fc,if_false,wH,qA,M];refine bT (λb a=>b=[]/\n=a) ?_ ?_
    ·apply bT (λb a=>b=[aK U]/\n=a) ⟨rfl,rfl⟩;rintro _ _ _ ⟨rfl,rfl⟩;simp only[M];exact⟨trivial,trivial⟩
    ·rintro _ _ _ ⟨rfl,rfl⟩;apply bT (λb a=>b=[aK U]/\n=a) ⟨rfl,rfl⟩;rintro _ _ _ ⟨rfl,rfl⟩;simp only[M];exact⟨trivial,r,y,z⟩
   |true=>
    rw[W]at k;simp only[if_true,vu,M,om]at k⊢;rw[if_neg A];refine bT (λb a=>b=[]/\aC a q 25 (en c)/\aC a ap 25 (en c)/\aC a p 25 (en qW)/\Q [] w a) ?_ ?_
    ·apply bT (λb a=>b=[aK (decide ((bV g i:Int)=0))]/\n=a) ⟨rfl,rfl⟩;rintro _ _ _ ⟨rfl,rfl⟩;simp only[M,bi];refine⟨λar=>?_,λar=>?_⟩
     ·exact(fj k).2 (ml (g:=c) r rfl λX s o aY=>⟨trivial,s,k.J o (by simpa using an),y.J o (by simp;omega),z.R o (by simp;omega)⟩)
     ·rw[if_neg A]at r;exact⟨trivial,r,k,y,z⟩
    ·rintro _ _ X ⟨rfl,s,au,av,o⟩;refine bT (λb a=>b=[aK G]/\X=a) ?_ ?_
     ·exact(fj au).2 ((fj s).2 (eqC.2 ⟨B,rfl⟩))
     ·rintro _ _ _ ⟨rfl,rfl⟩;simp only[M];rw[bq A A];exact⟨B,s,av,o⟩
  ·rintro _ _ j ⟨rfl,aw,ay,d⟩;simp only[M];rw[bq A A];exact⟨⟨i+1,rfl,L,aw,ay,d⟩,by simp;omega⟩
 ·obtain rfl:i=c.aR:=A;rw[if_neg A]at f;refine bT (λb a=>b=[aK U]/\Q [] ah a) ?_ ?_
  ·refine⟨λaZ=>A,λ_=>?_⟩;obtain⟨a2,az,a3,a4,a5⟩:=iV f;simp only[M,az];rw[decide_eq_false A];simp only[M];refine(fj f).2 (yT (h.V l) e λj d=>?_);simp only[M,hq];exact⟨by trivial,d⟩
  ·rintro _ _ j ⟨rfl,d⟩;simp only[M];exact(fj (f.J d B)).2 (ml (u.J d B) rfl λaj v m ak=>(fj v).2 ⟨rfl,(l.R d B).R m (by simp;omega)⟩)
end
end
end Go.Proofs.YtepeilglbedgdaaGreatDoor
