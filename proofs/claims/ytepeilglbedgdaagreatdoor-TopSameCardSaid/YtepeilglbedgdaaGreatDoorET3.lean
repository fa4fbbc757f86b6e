import Derived.Test.YtepeilglbedgdaaGreatDoorET2
/- A part of the proof of this claim: it states and proves what the walk through the program uses. Its names are short ones that a program gave. The last part proves the card: for every input the call returns true, and each argument reads behind the call as it read before. -/
set_option linter.defProp false
set_option linter.all false
set_option maxRecDepth 100000
set_option maxHeartbeats 2000000
open Array renaming getElem?_eq_some_iff->so,length_toList->tj
open BitVec renaming ofInt->iN,toNat_ofInt->ur
open Bool renaming and_eq_true->dA,false->U,false_eq_true->fc,not_eq_false'->ux,not_eq_true'->lq,not_false->lE,not_true->hq,or_eq_true->pP,true->G,true_and->pV
open ByteArray renaming mk->eS
open Except renaming error->b5,map->nM,ok->bA
open Go renaming Addr->es,IntKind->iz,Next->fD,Program->ft,TypeId->co,Value->S,World->aN,maxLen->d0,run_underlying->fK,undef->bS
open Go.Builtin renaming append->lp
open Go.Extern.MapsClone renaming clone->B5
open Go.IntKind renaming i64->H,u64->hr,u8->cl
open Go.Next renaming value->fw
open Go.Obj renaming cells->amv
open Go.Op renaming equalIn->lF
open Go.Proofs.Tryz renaming prog->C
open Go.Result renaming ok->bN
open Go.Value renaming agg->b6,bool->aK,cells->bF,int->F,map->eB,nilIface->cT,pointer->aE,slice->T,string->bO,tuple->bQ
open Go.Value.slice renaming injEq->zI
open Int renaming eq_ofNat_of_zero_le->nL,natCast_mul->uq,toNat_natCast->hf
open List renaming all_eq_true->pO,append_assoc->gq,append_nil->kJ,cons_append->jN,drop_drop->oq,drop_eq_getElem_cons->ot,drop_eq_nil_of_le->uu,drop_length->aoh,eq_nil_of_length_eq_zero->rc,ext_getElem?->qC,filter_cons->uv,flatMap_append->hL,flatMap_cons->iA,getD_cons_zero->kt,getD_eq_getElem?_getD->gp,getElem?_append_left->pR,getElem?_append_right->nr,getElem?_drop->oo,getElem?_eq_getElem->cr,getElem?_eq_none->jy,getElem?_eq_some_iff->fi,getElem?_map->e1,getElem?_range->qD,getElem?_set->pT,getElem_map->ic,getElem_mem->dX,getElem_of_mem->ns,length->jm,length_append->di,length_cons->gF,length_drop->e8,length_map->dU,length_range->uw,length_replicate->tt,length_set->i9,length_singleton->nt,length_take->ea,map_append->g6,map_congr_left->amO,map_cons->ge,map_map->ts,map_nil->tp,map_set->qB,mem_append->b4,mem_append_left->hg,mem_append_right->h3,mem_cons->ce,mem_cons_of_mem->ev,mem_cons_self->fE,mem_filter->ol,mem_flatMap->tm,mem_map->fS,mem_map_of_mem->mz,mem_of_getElem?->gP,mem_range->iK,mem_singleton->ku,nil_append->m2,nodup_append->us,nodup_cons->ks,not_mem_nil->iZ,pairwise_iff_getElem->rd,range->c9,range_succ->nK,replicate->cN,set_append_right->sr,set_cons_zero->aoi,take_append_drop->l3,take_length->j3,take_of_length_le->mv,take_succ_eq_append_getElem->jO
open List.cons renaming injEq->ss
open Nat renaming add_assoc->sp,add_mul->iM,add_zero->qA,beq->go,eq_of_beq_eq_true->lD,le_refl->fF,le_trans->gz,lt_of_lt_of_le->iL,lt_trichotomy->ut,min_eq_left->my,mul_le_mul_right->mw,mul_one->gA,one_mul->sq,sub_self->k6,xor_assoc->sv,xor_lt_two_pow->su,zero_add->gQ
open Option renaming getD_some->om,isSome_none->wH,isSome_some->vu,map_some->m1,none->I,some->E
open Option.some renaming inj->re,injEq->vq
open Or renaming inl->Y,inr->Z
open Pure renaming pure->fh
open UInt8 renaming ofNat->ed,toNat_inj->nN,toNat_ofNat'->mx,toNat_xor->tq
open Go
namespace Go.X
variable{aD am bU:List Nat}{a bv w:aN}{a6 af ah ak b g i io j k n s t:Nat}{aS:List S}{aU jA:Type}{aa ae bm:S}{ac:S -> aN -> Prop}{ad:ft}{ar av rf:co}{l:List UInt8}
def pw(d:Nat):Nat:=if d<128 then 2*d else(2*d)^^^285
def iW:Nat->Nat->Nat
 |0,d=>d
 |n+1,d=>pw (iW n d)
def t2:List Nat:=[1,2,4,8,16,32,64,128,29,58,116,232,205,135,19,38,76,152,45,90,180,117,234,201,143,3,6,12,24,48,96,192,157,39,78,156,37,74,148,53,106,212,181,119,238,193,159,35,70,140,5,10,20,40,80,160,93,186,105,210,185,111,222,161,95,190,97,194,153,47,94,188,101,202,137,15,30,60,120,240,253,231,211,187,107,214,177,127,254,225,223,163,91,182,113,226,217,175,67,134,17,34,68,136,13,26,52,104,208,189,103,206,129,31,62,124,248,237,199,147,59,118,236,197,151,51,102,204,133,23,46,92,184,109,218,169,79,158,33,66,132,21,42,84,168,77,154,41,82,164,85,170,73,146,57,114,228,213,183,115,230,209,191,99,198,145,63,126,252,229,215,179,123,246,241,255,227,219,171,75,150,49,98,196,149,55,110,220,165,87,174,65,130,25,50,100,200,141,7,14,28,56,112,224,221,167,83,166,81,162,89,178,121,242,249,239,195,155,43,86,172,69,138,9,18,36,72,144,61,122,244,245,247,243,251,235,203,139,11,22,44,88,176,125,250,233,207,131,27,54,108,216,173,71,142]
def adF:List Nat:=[0,0,1,25,2,50,26,198,3,223,51,238,27,104,199,75,4,100,224,14,52,141,239,129,28,193,105,248,200,8,76,113,5,138,101,47,225,36,15,33,53,147,142,218,240,18,130,69,29,181,194,125,106,39,249,185,201,154,9,120,77,228,114,166,6,191,139,98,102,221,48,253,226,152,37,179,16,145,34,136,54,208,148,206,143,150,219,189,241,210,19,92,131,56,70,64,30,66,182,163,195,72,126,110,107,58,40,84,250,133,186,61,202,94,155,159,10,21,121,43,78,212,229,172,115,243,167,87,7,112,192,247,140,128,99,13,103,74,222,237,49,197,254,24,227,165,153,119,38,184,180,124,17,68,146,217,35,32,137,46,55,63,209,91,149,188,207,205,144,135,151,178,220,252,190,97,242,86,211,171,20,42,93,158,132,60,57,83,71,109,65,162,31,45,67,216,183,123,164,118,196,23,73,236,127,12,111,246,108,161,59,82,41,157,85,170,251,96,134,177,187,204,62,90,203,89,95,176,156,169,160,81,11,245,22,235,122,117,44,215,79,174,213,233,230,231,173,232,116,214,244,234,168,80,88,175]
def fN(d:Nat):Nat:=adF.getD d 0
def fJ(n:Nat):Nat:=iW n 1
def jj(d b:Nat):Nat:=if d=0 then 0 else iW (fN d) b
def v3(d:Nat):Nat:=if d=0 then 0 else fJ (255-fN d)
def adG:Bool:=(c9 256).all λd=>decide (pw d<256)
def adH:Bool:=(c9 256).all λd=>(c9 256).all λb=>go (pw (d^^^b)) (pw d^^^pw b)
def adI:Bool:=(c9 254).all λi=>go (pw (t2.getD i 0)) (t2.getD (i+1) 0)
def adJ:Bool:=(c9 256).all λd=>Nat.blt (fN d) 255&&(go d 0||go (t2.getD (fN d) 0) d)
def adK:Bool:=(c9 255).all λi=>go (fN (t2.getD i 0)) i&&Nat.blt 0 (t2.getD i 0)&&Nat.blt (t2.getD i 0) 256
def adL:adG=G:=K
def adM:adH=G:=K
def adN:adI=G:=K
def QF:adJ=G:=K
def adO:adK=G:=K
def xp{n:Nat}{ah:Nat->Bool}(h:(c9 n).all ah=G){i:Nat}(al:i<n):ah i=G:=pO.1 h i (iK.2 al)
def adP{d:Nat}(h:d<256):pw d<256:=of_decide_eq_true (xp adL h)
def adQ{d:Nat}(a:d<256)(c:b<256):pw (d^^^b)=pw d^^^pw b:=lD (xp (xp adM a) c)
def HP{d:Nat}(a:d<256)(c:b<256):d^^^b<256:=su (n:=8) a c
def A1{d:Nat}(h:d<256):∀n,iW n d<256
 |0=>h
 |n+1=>adP (A1 h n)
def QG{d b:Nat}(a:d<256)(c:b<256):∀n,iW n (d^^^b)=iW n d^^^iW n b
 |0=>rfl
 |n+1=>by simp only[iW];rw[QG a c n,adQ (A1 a n) (A1 c n)]
def HQ:∀n,iW n 0=0
 |0=>rfl
 |n+1=>by simp only[iW];rw[HQ n];rfl
def v4(d:Nat)(ak:Nat):∀n,iW (n+ak) d=iW n (iW ak d)
 |0=>by rw[gQ];rfl
 |n+1=>by rw[Nat.add_right_comm];simp only[iW];rw[v4 d ak n]
def A2:∀i,i<255->fJ i=t2.getD i 0
 |0,_=>rfl
 |i+1,h=>by have:=lD (xp adN (i:=i) A);rw[<-this,<-A2 i A];rfl
def QH(n:Nat):fJ n<256:=A1 A n
def yV{d:Nat}(h:d<256):fN d<255:=by have:=xp QF h;simp only[dA]at this;exact Nat.blt_eq▸this.1
def HR{d:Nat}(h:d<256)(a:d≠0):fJ (fN d)=d:=by
 have:=xp QF h;simp only[dA,pP]at this;rw[A2 _ (yV h)];rcases this.2 with h|h
 ·exact absurd (lD h) a
 ·exact lD h
def QI(h:i<255):fN (t2.getD i 0)=i/\0<t2.getD i 0:=by have:=xp adO h;simp only[dA]at this;exact⟨lD this.1.1,Nat.blt_eq▸this.1.2⟩
def QJ(h:i<255):fN (fJ i)=i:=by rw[A2 i h];exact(QI h).1
def HS:fJ 255=1:=by have:fJ 255=pw (fJ 254):=rfl;rw[this,A2 254 A];have e:pw (t2.getD 254 0)=1:=K;exact e
def adR{d:Nat}(h:d<256):iW 255 d=d:=by
 by_cases a:d=0
 ·subst a;exact HQ _
 ·have e:=HR h a;have:iW 255 (fJ (fN d))=fJ (fN d):=by show iW 255 (iW (fN d) 1)=_;rw[<-v4,Nat.add_comm,v4];show iW (fN d) (fJ 255)=_;rw[HS];rfl
  rwa[e]at this
def HT{d:Nat}(h:d<256)(n:Nat):iW (n%255) d=iW n d:=by
 have:∀ai,iW (n%255+255*ai) d=iW (n%255) d:=by
  intro ai;induction ai with
  |zero=>rfl
  |succ ai a=>rw[Nat.mul_succ,<-sp,v4,adR h,a]
 rw[<-this (n/255),Nat.mod_add_div]
def adS(n:Nat):fJ n≠0:=by have h:fJ (n%255)=fJ n:=HT A n;have:=(QI (Nat.mod_lt n (by omega:0<255))).2;rw[<-h,A2 _ (Nat.mod_lt n A)];omega
def adT(n:Nat):fN (fJ n)=n%255:=by rw[<-QJ (Nat.mod_lt n (by omega:0<255))];congr 1;exact(HT A n).symm
def adU{d:Nat}(a:b<256):jj d b<256:=by unfold jj;split;omega;exact A1 a _
def Ec(d:Nat):jj d 0=0:=by unfold jj;split;rfl;exact HQ _
def HU(b:Nat):jj 0 b=0:=rfl
def A3{d:Nat}(f:d<256)(a:b<256)(c:d≠0)(e:b≠0):jj d b=fJ (fN d+fN b):=by unfold jj;rw[if_neg c];show _=iW (fN d+fN b) 1;rw[v4];show _=iW (fN d) (fJ (fN b));rw[HR a e]
def adV{d:Nat}(e:d<256)(f:b<256):jj d b=jj b d:=by
 by_cases a:d=0
 ·subst a;rw[HU,Ec]
 ·by_cases c:b=0
  ·subst c;rw[HU,Ec]
  ·rw[A3 e f a c,A3 f e c a,Nat.add_comm]
def adW{d c:Nat}(a:b<256)(e:c<256):jj d (b^^^c)=jj d b^^^jj d c:=by
 unfold jj;split
 ·rfl
 ·exact QG a e _
def adX{d c:Nat}(f:d<256)(g:b<256)(h:c<256):jj d (jj b c)=jj (jj d b) c:=by
 by_cases a:d=0
 ·subst a;rfl
 ·by_cases e:b=0
  ·subst e;rw[Ec];exact Ec d
  ·have i:jj d b≠0:=by rw[A3 f g a e];exact adS _
   have j:jj (jj d b) c=iW (fN (jj d b)) c:=if_neg i;have k:jj d (jj b c)=iW (fN d) (iW (fN b) c):=by unfold jj;rw[if_neg a,if_neg e]
   rw[j,k,A3 f g a e,adT,HT h,v4]
def adY:jj 1 b=b:=by unfold jj;rw[if_neg A];have:fN 1=0:=K;rw[this];rfl
def adZ(d:Nat):v3 d<256:=by unfold v3;split;omega;exact QH _
def ad0{d:Nat}(h:d<256)(a:d≠0):jj d (v3 d)=1:=by
 have b:=yV h;have:jj d (v3 d)=iW (fN d) (fJ (255-fN d)):=by unfold jj v3;rw[if_neg a,if_neg a]
 rw[this];show iW (fN d) (iW (255-fN d) 1)=1;rw[<-v4,show fN d+(255-fN d)=255 by omega];exact HS
def eP(d b:UInt8):UInt8:=ed (jj d.toNat b.toNat)
def h0(d:UInt8):UInt8:=ed (v3 d.toNat)
def lU(d:UInt8):d.toNat<256:=d.toNat_lt
def t3(h:n<256):(ed n).toNat=n:=by rw[mx];exact Nat.mod_eq_of_lt h
def qX(d b:UInt8):(eP d b).toNat=jj d.toNat b.toNat:=t3 (adU (lU b))
def QK(d:UInt8):(h0 d).toNat=v3 d.toNat:=t3 (adZ _)
def rQ(d b:UInt8):eP d b=eP b d:=nN.1 (by rw[qX,qX,adV (lU d) (lU b)])
def A4(d b c:UInt8):eP d (b^^^c)=eP d b^^^eP d c:=nN.1 (by rw[qX,tq,tq,qX,qX,adW (lU b) (lU c)])
def A5(d b c:UInt8):eP (d^^^b) c=eP d c^^^eP b c:=by rw[rQ,A4,rQ d,rQ b]
def qc(d b c:UInt8):eP d (eP b c)=eP (eP d b) c:=nN.1 (by rw[qX,qX,qX,qX,adX (lU d) (lU b) (lU c)])
def v5(d:UInt8):eP 1 d=d:=nN.1 (by rw[qX];exact adY)
def QL(d:UInt8):eP d 1=d:=by rw[rQ,v5]
def yW(d:UInt8):eP 0 d=0:=nN.1 (by rw[qX];exact HU _)
def qY(d:UInt8):eP d 0=0:=by rw[rQ,yW]
def v6{d:UInt8}(h:d≠0):eP d (h0 d)=1:=nN.1 (by
 rw[qX,QK];exact ad0 (lU d) (λe=>h (nN.1 e)))
def rR(d:UInt8):d^^^d=0:=nN.1 (by rw[tq,Nat.xor_self];rfl)
def qZ(d:UInt8):d^^^0=d:=nN.1 (by rw[tq];exact Nat.xor_zero _)
def xq(d:UInt8):0^^^d=d:=nN.1 (by rw[tq];exact Nat.zero_xor _)
def QM(d b:UInt8):d^^^b=b^^^d:=nN.1 (by rw[tq,tq,Nat.xor_comm])
def v7(d b c:UInt8):d^^^b^^^c=d^^^(b^^^c):=nN.1 (by simp only[tq,sv])
def Ed{d b:UInt8}:d^^^b=0↔d=b:=by
 constructor
 ·intro h;have:d^^^b^^^b=0^^^b:=by rw[h]
  rwa[v7,rR,qZ,xq]at this
 ·intro h;rw[h,rR]
def A6{d b:UInt8}(a:d≠0)(h:eP d b=0):b=0:=by
 have:eP (h0 d) (eP d b)=b:=by rw[qc,rQ (h0 d),v6 a,v5]
 rw[<-this,h,qY]
def jK{aU:Type}(l:List aU)(aj:aU->UInt8):UInt8:=l.foldr (λd s=>aj d^^^s) 0
section
variable{l:List aU}{aj g:aU->UInt8}
def QN:jK ([]:List aU) aj=0:=rfl
def n5{d:aU}:jK (d::l) aj=aj d^^^jK l aj:=rfl
def ad1{ak:List aU}:jK (l++ak) aj=jK l aj^^^jK ak aj:=by
 induction l with
 |nil=>rw[m2,QN,xq]
 |cons d l a=>rw[jN,n5,n5,a,v7]
def HV(d b c ag:UInt8):d^^^b^^^(c^^^ag)=d^^^c^^^(b^^^ag):=by rw[v7,v7,<-v7 b,QM b c,v7]
def Ee:jK l (λd=>aj d^^^g d)=jK l aj^^^jK l g:=by
 induction l with
 |nil=>exact(rR 0).symm
 |cons d l a=>rw[n5,n5,n5,a,HV]
def A7(c:UInt8):eP c (jK l aj)=jK l λd=>eP c (aj d):=by
 induction l with
 |nil=>exact qY c
 |cons d l a=>rw[n5,n5,A4,a]
def v8(h:∀d∈l,aj d=g d):jK l aj=jK l g:=by
 induction l with
 |nil=>rfl
 |cons d l a=>rw[n5,n5,h d fE,a λb c=>h b (ev _ c)]
def QO(h:∀d∈l,aj d=0):jK l aj=0:=by
 induction l with
 |nil=>rfl
 |cons d l a=>rw[n5,h d fE,xq,a λb c=>h b (ev _ c)]
def ad2{ah:aU->Bool}(h:∀d∈l,ah d=U->aj d=0):jK l aj=jK (l.filter ah) aj:=by
 induction l with
 |nil=>rfl
 |cons d l a=>
  have a:=a λb c=>h b (ev _ c);rw[n5,a,uv];cases e:ah d with
  |true=>rw[if_pos rfl,n5]
  |false=>rw[if_neg B,h d fE e,xq]
def ad3{ak:List jA}{t:jA->aU}:jK (ak.map t) aj=jK ak λb=>aj (t b):=by
 induction ak with
 |nil=>rfl
 |cons b ak a=>rw[ge,n5,n5,a]
def Ef{d:aU}(j:l.Nodup)(f:d∈l)(h:∀b∈l,b≠d->aj b=0):jK l aj=aj d:=by
 induction l with
 |nil=>cases f
 |cons b l k=>
  obtain⟨g,m⟩:=ks.1 j;rw[n5];rcases ce.1 f with rfl|i
  ·rw[QO λc a=>h c (ev _ a) (λe=>g (e▸a)),qZ]
  ·rw[h b fE (λe=>g (e▸i)),xq,k m i λc a=>h c (ev _ a)]
end
def ad4:h0 0=0:=K
def QP{d:UInt8}(h:d≠0):h0 d≠0:=λe=>by have:=v6 h;rw[e,qY]at this;exact absurd this (by decide)
def yX{d b:UInt8}(h:d≠b):d^^^b≠0:=λe=>h (Ed.1 e)
def ad5{d b:UInt8}(a:d≠0)(c:b≠0):h0 d^^^h0 b=eP (d^^^b) (eP (h0 d) (h0 b)):=by rw[A5,qc,v6 a,v5,rQ (h0 d) (h0 b),qc,v6 c,v5,QM]
def HW(x ap bm:UInt8):(x^^^ap)^^^(bm^^^ap)=x^^^bm:=by rw[HV,rR,qZ]
def ad6{x a ap c:UInt8}(e:x≠ap)(f:a≠ap):
  eP (x^^^c) (h0 (x^^^ap))^^^eP (a^^^c) (h0 (a^^^ap))=eP (x^^^a) (eP (h0 (x^^^ap)) (eP (c^^^ap) (h0 (a^^^ap)))):=by
 have g:x^^^c=(x^^^ap)^^^(c^^^ap):=(HW x ap c).symm;have h:a^^^c=(a^^^ap)^^^(c^^^ap):=(HW a ap c).symm;have i:x^^^a=(x^^^ap)^^^(a^^^ap):=(HW x ap a).symm;have e:=yX e;have f:=yX f;generalize x^^^ap=d at*;generalize a^^^ap=b at*;generalize c^^^ap=ag at*;rw[g,h,i,A5,A5,v6 e,v6 f,HV,rR,xq,<-A4,ad5 e f];rw[qc ag,rQ ag (d^^^b),<-qc (d^^^b) ag,qc ag (h0 d),rQ ag (h0 d),<-qc (h0 d) ag]
def QQ:∀(b7 aS:List UInt8)(aa:UInt8->UInt8),b7.Nodup->aS.Nodup->b7.length<=aS.length->(∀x∈aS,∀ap∈b7,x≠ap)->
  (∀x∈aS,jK b7 (λap=>eP (h0 (x^^^ap)) (aa ap))=0)->∀ap∈b7,aa ap=0
 |[],_,_,_,_,_,_,_=>B
 |b::b7,[],_,_,_,g,_,_=>by simp at g
 |b::b7,a::aS,aa,m,n,g,f,o=>by
  obtain⟨p,q⟩:=ks.1 m;obtain⟨r,s⟩:=ks.1 n;have i:∀x∈a::aS,eP (x^^^b) (jK b7 λap=>eP (h0 (x^^^ap)) (aa ap))=aa b:=by intro x d;have h:=o x d;rw[n5]at h;have t:=yX (f x d b fE);have j:=Ed.1 h;rw[<-j,qc,v6 t,v5]
  have u:∀ap∈b7,eP (eP (b^^^ap) (h0 (a^^^ap))) (aa ap)=0:=by
   apply QQ b7 aS (λap=>eP (eP (b^^^ap) (h0 (a^^^ap))) (aa ap)) q s (by simpa using g) (λx d ap c=>f x (ev _ d) ap (ev _ c));intro x d;have v:=i x (ev _ d);have j:=i a fE;have k:eP (x^^^b) (jK b7 λap=>eP (h0 (x^^^ap)) (aa ap))^^^eP (a^^^b) (jK b7 λap=>eP (h0 (a^^^ap)) (aa ap))=0:=by rw[v,j,rR]
   rw[A7,A7,<-Ee]at k;have w:jK b7 (λap=>eP (x^^^b) (eP (h0 (x^^^ap)) (aa ap))^^^eP (a^^^b) (eP (h0 (a^^^ap)) (aa ap)))=
     jK b7 λap=>eP (x^^^a) (eP (h0 (x^^^ap)) (eP (eP (b^^^ap) (h0 (a^^^ap))) (aa ap))):=by
    refine v8 λap c=>?_;rw[qc,qc,<-A5,ad6 (f x (ev _ d) ap (ev _ c)) (f a fE ap (ev _ c))];rw[<-qc,<-qc]
   rw[w,<-A7]at k;exact A6 (yX λ(e:x=a)=>r (e▸d)) k
  have l:∀ap∈b7,aa ap=0:=λap c=>by refine A6 ?_ (u ap c);intro e;exact QP (yX (f a fE ap (ev _ c))) (A6 (yX λ(y:b=ap)=>p (y▸c)) e)
  intro ap c;rcases ce.1 c with rfl|c
  ·rw[<-i a fE,QO λbm z=>by rw[l bm z,qY],qY]
  ·exact l ap c
def oP(k aQ j:Nat):UInt8:=if k<=aQ then h0 (ed (aQ^^^j))else if aQ=j then 1 else 0
def n6(k aQ:Nat):List UInt8:=(c9 k).map (oP k aQ)
def xr(k n:Nat):List (List UInt8):=(c9 n).map (n6 k)
def Eg(k d:Nat):(n6 k d).length=k:=by simp[n6]
def ad7{d:Nat}(h:j<k):(n6 k d).getD j 0=oP k d j:=by unfold n6;rw[gp,e1,qD h];rfl
def HX{aU:Type}(ah:aU->Bool):∀l:List aU,(l.filter ah).length+(l.filter λd=>!ah d).length=l.length
 |[]=>rfl
 |d::l=>by have:=HX ah l;rw[uv,uv];cases ah d<;>simp<;>omega
def QR{aU:Type}[DecidableEq aU]:∀{l ak:List aU},l.Nodup->(∀d∈l,d∈ak)->l.length<=ak.length
 |[],_,_,_=>B
 |d::l,ak,f,h=>by obtain⟨g,i⟩:=ks.1 f;have a:=h d fE;have:=QR (ak:=ak.erase d) i λb c=>(List.mem_erase_of_ne (λ(e:b=d)=>g (e▸c))).2 (h b (ev _ c));rw[List.length_erase_of_mem a]at this;have:=List.length_pos_of_mem a;simp only[gF];omega
def lV(k:Nat)(d:List UInt8)(aa:Nat->UInt8):UInt8:=jK (c9 k) λj=>eP (d.getD j 0) (aa j)
def QS(k d:Nat)(aa:Nat->UInt8):lV k (n6 k d) aa=jK (c9 k) λj=>eP (oP k d j) (aa j):=
 v8 λj a=>by rw[ad7 (iK.1 a)]
def ad8{d:Nat}(h:d<k)(aa:Nat->UInt8):lV k (n6 k d) aa=aa d:=by
 rw[QS,Ef (d:=d) List.nodup_range (iK.2 h)]
 ·unfold oP;rw[if_neg A,if_pos rfl,v5]
 ·intro b _ a;unfold oP;rw[if_neg A,if_neg (λe=>a e.symm),yW]
def ad9(d b:Nat)(a:d<256)(c:b<256):ed (d^^^b)=ed d^^^ed b:=nN.1 (by
 rw[tq,t3 a,t3 c,t3 (HP a c)])
def QT{j4:List Nat}(q:j4.Nodup)(r:j4.length=k)(D:k<=256)(h:∀d∈j4,d<256){aa:Nat->UInt8}(s:∀d∈j4,lV k (n6 k d) aa=0):∀j,j<k->aa j=0:=by
 have t:∀j,j<k->j∈j4->aa j=0:=λj c g=>by rw[<-ad8 c aa];exact s j g
 have u:∀{d b:Nat},d<256->b<256->ed d=ed b->d=b:=λa f e=>by rw[<-t3 a,<-t3 f,e]
 have m:∀j∈(c9 k).filter λj=>!decide (j∈j4),j<k/\j∉j4:=λj c=>by obtain⟨d,b⟩:=ol.1 c;exact⟨iK.1 d,by simpa using b⟩
 have n:∀d∈j4.filter λd=>decide (k<=d),d∈j4/\k<=d:=λd a=>by obtain⟨x,ap⟩:=ol.1 a;exact⟨x,by simpa using ap⟩
 have v:∀(l:List Nat),l.Nodup->(∀d∈l,d<256)->(l.map ed).Nodup:=λl r o=>by
  induction l with
  |nil=>simp
  |cons d l w=>
   obtain⟨ah,ai⟩:=ks.1 r;rw[ge];refine ks.2 ⟨λg=>?_,w ai λb f=>o b (ev _ f)⟩;obtain⟨b,f,e⟩:=fS.1 g;exact ah (u (o b (ev _ f)) (o d fE) e▸f)
 have bz:=QQ (((c9 k).filter λj=>!decide (j∈j4)).map ed) ((j4.filter λd=>decide (k<=d)).map ed) (λap=>aa ap.toNat)
  (v _ (List.nodup_range.filter _) λd a=>by have:=(m d a).1;omega) (v _ (q.filter _) λd a=>h d (n d a).1) ?_ ?_ ?_
 ·intro j c;by_cases g:j∈j4
  ·exact t j c g
  ·have:=bz (ed j) (mz (ol.2 ⟨iK.2 c,by simpa using g⟩));rwa[t3 A]at this
 ·rw[dU,dU];have J:(j4.filter λd=>decide (k<=d)).length+(j4.filter λd=>!decide (k<=d)).length=j4.length:=by exact HX (λd=>decide (k<=d)) j4
  have K:((c9 k).filter λj=>!decide (j∈j4)).length+((c9 k).filter λj=>decide (j∈j4)).length=k:=by have:=HX (λj=>decide (j∈j4)) (c9 k);rw[uw]at this;omega
  have L:(j4.filter λd=>!decide (k<=d)).length<=((c9 k).filter λj=>decide (j∈j4)).length:=QR (q.filter _) λd a=>by obtain⟨x,ap⟩:=ol.1 a;exact ol.2 ⟨iK.2 (by simpa using ap),by simpa using x⟩
  omega
 ·intro x p ap y e;obtain⟨d,a,rfl⟩:=fS.1 p;obtain⟨b,f,rfl⟩:=fS.1 y;have dI:=m b f;have i:=n d a;have:=u (h d i.1) A e;omega
 ·intro x p;obtain⟨d,a,rfl⟩:=fS.1 p;obtain⟨i,z⟩:=n d a;have:=s d i;rw[QS,ad2 (ah:=λj=>!decide (j∈j4)) (λj c B=>by rw[t j (iK.1 c) (by simpa using B),qY])]at this;rw[ad3,<-this];refine v8 λj c=>?_;have N:=(m j c).1;rw[t3 (show j<256 by omega),<-ad9 d j (h d i) A];unfold oP;rw[if_pos z]
def oQ(d b:List UInt8)(x:UInt8):List UInt8:=List.zipWith (λae aa=>ae^^^eP x aa) d b
def kY(d:List UInt8)(x:UInt8):List UInt8:=d.map λae=>eP ae x
def rS{d b:List UInt8}(h:d.length=b.length)(x:UInt8):(oQ d b x).length=d.length:=by unfold oQ;rw[List.length_zipWith];omega
def yY{d b:List UInt8}(h:d.length=b.length)(x:UInt8)(j:Nat):(oQ d b x).getD j 0=d.getD j 0^^^eP x (b.getD j 0):=by
 unfold oQ;rw[gp,gp,gp,List.getElem?_zipWith];by_cases a:j<d.length
 ·rw[cr a,cr (h▸a)];rfl
 ·rw[jy A,jy A];show(0:UInt8)=0^^^eP x 0;rw[qY,qZ]
def HY{d b:List UInt8}(c:d.length=b.length)(h:∀j,j<d.length->d.getD j 0=b.getD j 0):d=b:=by refine List.ext_getElem c λj a e=>?_;have:=h j a;rwa[gp,gp,cr a,cr e]at this
def QU{d b:List UInt8}(h:d.length=b.length):oQ d b 0=d:=
 HY (rS h 0) λj _=>by rw[yY h,yW,qZ]
def uY(d:List UInt8)(x:UInt8):(kY d x).length=d.length:=dU _
def A8(d:List UInt8)(x:UInt8)(j:Nat):(kY d x).getD j 0=eP x (d.getD j 0):=by
 unfold kY;rw[gp,gp,e1];cases d[j]? with
 |none=>exact(qY x).symm
 |some ae=>exact rQ ae x
def QV{d b:List UInt8}(h:d.length=b.length)(x:UInt8)(aa:Nat->UInt8):lV k (oQ d b x) aa=lV k d aa^^^eP x (lV k b aa):=by unfold lV;rw[A7,<-Ee];exact v8 λj _=>by rw[yY h,A5,qc]
def QW(k:Nat)(d:List UInt8)(x:UInt8)(aa:Nat->UInt8):lV k (kY d x) aa=eP x (lV k d aa):=by unfold lV;rw[A7];exact v8 λj _=>by rw[A8,qc]
def aea(k:Nat)(d:List UInt8)(aa ae:Nat->UInt8):lV k d (λj=>aa j^^^ae j)=lV k d aa^^^lV k d ae:=by unfold lV;rw[<-Ee];exact v8 λj _=>A4 _ _ _
def aeb{d:List UInt8}{aa ae:Nat->UInt8}(h:∀j,j<k->aa j=ae j):lV k d aa=lV k d ae:=
 v8 λj a=>by rw[h j (iK.1 a)]
abbrev oR:=List UInt8×List UInt8
structure oS(k s:Nat)(bb:Nat->oR):Prop where
 kk:∀t,t<k->(bb t).1.length=k
 lh:∀t,t<k->(bb t).2.length=s
def mm(k s:Nat)(aO:Nat->List UInt8)(bb:Nat->oR):Prop:=∀t,t<k->∀ap,ap<s->(bb t).2.getD ap 0=lV k (bb t).1 λj=>(aO j).getD ap 0
def px(k:Nat)(bb:Nat->oR):Prop:=∀aa:Nat->UInt8,(∀t,t<k->lV k (bb t).1 aa=0)->∀j,j<k->aa j=0
def qd(k c:Nat)(bb:Nat->oR):Prop:=∀t,t<k->∀j,j<c->(bb t).1.getD j 0=if t=j then 1 else 0
def qe(bb:Nat->oR)(c ah:Nat):Nat->oR:=λt=>bb (if t=ah then c else if t=c then ah else t)
def sT(bb:Nat->oR)(c:Nat)(x:UInt8):Nat->oR:=λt=>if t=c then(kY (bb c).1 x,kY (bb c).2 x)else bb t
def t4(ai ab:oR)(c:Nat):oR:=(oQ ai.1 ab.1 (ai.1.getD c 0),oQ ai.2 ab.2 (ai.1.getD c 0))
def rT(bb:Nat->oR)(c n:Nat):Nat->oR:=λt=>if t=c\/n<=t then bb t else t4 (bb t) (bb c) c
section
variable{c:Nat}{bb:Nat->oR}{aO gf:Nat->List UInt8}{x:UInt8}
def aec(n:qd k c bb)(o:px k bb)(m:c<k):∃t,c<=t/\t<k/\(bb t).1.getD c 0≠0:=by
 rcases Classical.em (∃t,c<=t/\t<k/\(bb t).1.getD c 0≠0)with h|h
 ·exact h
 exfalso;have p:∀t,c<=t->t<k->(bb t).1.getD c 0=0:=λt g a=>Classical.byContradiction λq=>h ⟨t,g,a,q⟩;have:=o (λj=>if j=c then 1 else if j<c then(bb j).1.getD c 0 else 0) (λt i=>?_) c m
 ·simp at this
 unfold lV;have e:∀j∈c9 k,eP ((bb t).1.getD j 0) (if j=c then 1 else if j<c then(bb j).1.getD c 0 else 0)=
   (if j=c then(bb t).1.getD c 0 else 0)^^^(if j=t then(if t<c then(bb t).1.getD c 0 else 0)else 0):=by
  intro j r;by_cases g:j=c
  ·subst g;rw[if_pos rfl,if_pos rfl,QL];by_cases a:j=t
   ·subst a;rw[if_pos rfl,if_neg A,qZ]
   ·rw[if_neg a,qZ]
  ·rw[if_neg g,if_neg g,xq];by_cases a:j<c
   ·rw[if_pos a,n t i j a];by_cases f:t=j
    ·subst f;rw[if_pos rfl,if_pos rfl,if_pos a,v5]
    ·rw[if_neg f,if_neg (λe=>f e.symm),yW]
   ·rw[if_neg a,qY];by_cases f:j=t
    ·subst f;rw[if_pos rfl,if_neg A]
    ·rw[if_neg f]
 rw[v8 e,Ee,Ef (d:=c) List.nodup_range (iK.2 m) (λb _ l=>if_neg l),Ef (d:=t) List.nodup_range (iK.2 i) (λb _ l=>if_neg l),if_pos rfl,if_pos rfl];by_cases a:t<c
 ·rw[if_pos a,rR]
 ·rw[if_neg a,p t A i,qZ]
def QX(e:c<k)(f:ah<k)(g:t<k):∃ae,ae<k/\qe bb c ah ae=bb t:=by
 unfold qe;by_cases a:t=c
 ·exact⟨ah,f,by rw[if_pos rfl,a]⟩
 ·by_cases b:t=ah
  ·refine⟨c,e,?_⟩;by_cases d:c=ah
   ·exact absurd (b.trans d.symm) a
   ·rw[if_neg d,if_pos rfl,b]
  ·exact⟨t,g,by rw[if_neg b,if_neg a]⟩
def QY(d:c<k)(e:ah<k)(f:t<k):∃ae,ae<k/\qe bb c ah t=bb ae:=by
 unfold qe;by_cases a:t=ah
 ·exact⟨c,d,by rw[if_pos a]⟩
 ·by_cases b:t=c
  ·exact⟨ah,e,by rw[if_neg a,if_pos b]⟩
  ·exact⟨t,f,by rw[if_neg a,if_neg b]⟩
def oS.A9(h:oS k s bb)(d:c<k)(f:ah<k):oS k s (qe bb c ah):=
 ⟨λt a=>by obtain⟨ae,b,e⟩:=QY (bb:=bb) d f a;rw[e];exact h.kk ae b,λt a=>by obtain⟨ae,b,e⟩:=QY (bb:=bb) d f a;rw[e];exact h.lh ae b⟩
def mm.aed(h:mm k s aO (qe bb c ah))(a:c<k)(b:ah<k):mm k s aO bb:=λt d=>by obtain⟨ae,f,e⟩:=QX (bb:=bb) a b d;rw[<-e];exact h ae f
def px.A9(h:px k bb)(a:c<k)(b:ah<k):px k (qe bb c ah):=λaa d=>h aa λt f=>by obtain⟨ae,g,e⟩:=QX (bb:=bb) a b f;rw[<-e];exact d ae g
def qd.A9(h:qd k c bb)(e:c<k)(f:ah<k)(i:c<=ah):qd k c (qe bb c ah):=λt g j a=>by
 unfold qe;by_cases b:t=ah
 ·rw[if_pos b,h c e j a,if_neg A,if_neg A]
 ·rw[if_neg b];by_cases d:t=c
  ·rw[if_pos d,h ah f j a,if_neg A,if_neg A]
  ·rw[if_neg d];exact h t g j a
def aee:qe bb c ah c=bb ah:=by
 unfold qe;by_cases h:c=ah
 ·rw[if_pos h,h]
 ·rw[if_neg h,if_pos rfl]
def yZ:sT bb c x c=(kY (bb c).1 x,kY (bb c).2 x):=if_pos rfl
def Ba(h:t≠c):sT bb c x t=bb t:=if_neg h
def oS.kY(h:oS k s bb):oS k s (sT bb c x):=⟨λt a=>by
 by_cases e:t=c
 ·subst e;rw[yZ,uY];exact h.kk t a
 ·rw[Ba e];exact h.kk t a,λt a=>by
 by_cases e:t=c
 ·subst e;rw[yZ,uY];exact h.lh t a
 ·rw[Ba e];exact h.lh t a⟩
def aef{x d b:UInt8}(a:x≠0)(h:eP x d=eP x b):d=b:=by
 have:eP x (d^^^b)=0:=by rw[A4,h,rR]
 exact Ed.1 (A6 a this)
def mm.aeg(h:mm k s aO (sT bb c x))(a:x≠0):mm k s aO bb:=λt b ap d=>by
 have:=h t b ap d;by_cases e:t=c
 ·subst e;rw[yZ,A8,QW]at this;exact aef a this
 ·rwa[Ba e]at this
def px.kY(h:px k bb)(a:x≠0):px k (sT bb c x):=λaa b=>h aa λt d=>by
 have:=b t d;by_cases e:t=c
 ·subst e;rw[yZ,QW]at this;exact A6 a this
 ·rwa[Ba e]at this
def qd.kY(h:qd k c bb):qd k c (sT bb c x):=λt a j b=>by
 by_cases e:t=c
 ·subst e;rw[yZ,A8,h t a j b,if_neg A,qY]
 ·rw[Ba e];exact h t a j b
def HZ(n:Nat):rT bb c n c=bb c:=if_pos (Y rfl)
def H0(a:t≠c)(b:t<n):rT bb c n t=t4 (bb t) (bb c) c:=if_neg A
def oS.xs(h:oS k s bb)(b:c<k)(n:Nat):oS k s (rT bb c n):=by
 have bz:∀t,t<k->(rT bb c n t).1.length=k/\(rT bb c n t).2.length=s:=λt a=>by
  by_cases e:t=c\/n<=t
  ·rw[show rT bb c n t=bb t from if_pos e];exact⟨h.kk t a,h.lh t a⟩
  ·rw[show rT bb c n t=t4 (bb t) (bb c) c from if_neg e];unfold t4;rw[rS (by rw[h.kk t a,h.kk c b]),rS (by rw[h.lh t a,h.lh c b])];exact⟨h.kk t a,h.lh t a⟩
 exact⟨λt a=>(bz t a).1,λt a=>(bz t a).2⟩
def aeh{d b ag:UInt8}(h:d^^^ag=b^^^ag):d=b:=by
 have:d^^^ag^^^ag=b^^^ag^^^ag:=by rw[h]
 rwa[v7,rR,qZ,v7,rR,qZ]at this
def mm.aei(h:mm k s aO (rT bb c k))(a:oS k s bb)(d:c<k):mm k s aO bb:=λt b ap g=>by
 have f:=h c d ap g;rw[HZ]at f;have:=h t b ap g;by_cases e:t=c
 ·rw[e];exact f
 ·rw[H0 e b]at this;unfold t4 at this;simp only at this;rw[yY (by rw[a.lh t b,a.lh c d]),QV (by rw[a.kk t b,a.kk c d]),f]at this;exact aeh this
def px.xs(h:px k bb)(d:oS k s bb)(f:c<k):px k (rT bb c k):=λaa g=>h aa λt a=>by
 have b:=g c f;rw[HZ]at b;have:=g t a;by_cases e:t=c
 ·rw[e];exact b
 ·rw[H0 e a]at this;unfold t4 at this;simp only at this;rwa[QV (by rw[d.kk t a,d.kk c f]),b,qY,qZ]at this
def qd.xs(h:qd k c bb)(d:oS k s bb)(f:c<k)(g:(bb c).1.getD c 0=1):qd k (c+1) (rT bb c k):=λt a j i=>by
 by_cases e:t=c
 ·subst e;rw[HZ];by_cases b:j=t
  ·rw[b,g,if_pos rfl]
  ·exact h t a j A
 ·rw[H0 e a];unfold t4;simp only;rw[yY (by rw[d.kk t a,d.kk c f])];by_cases b:j=c
  ·subst b;rw[g,QL,rR,if_neg e]
  ·rw[h t a j A,h c f j A,if_neg (show¬c=j by omega),qY,qZ]
def qd.aej(h:qd k k bb):mm k s (λj=>(bb j).2) bb:=λt a ap _=>by
 unfold lV;rw[Ef (d:=t) List.nodup_range (iK.2 a) λb c f=>by
  rw[h t a b (iK.1 c),if_neg (λe=>f e.symm),yW],h t a t a,if_pos rfl,v5]
def mm.zU(c:px k bb)(d:mm k s aO bb)(e:mm k s gf bb):∀j,j<k->∀ap,ap<s->(aO j).getD ap 0=(gf j).getD ap 0:=λj f ap a=>by refine Ed.1 (c (λj=>(aO j).getD ap 0^^^(gf j).getD ap 0) (λt b=>?_) j f);rw[aea,<-d t b ap a,<-e t b ap a,rR]
end
def sU(ab:List UInt8)(an:List (List UInt8))(s:Nat):List UInt8:=(c9 s).map λap=>lV an.length ab λj=>(an.getD j []).getD ap 0
def aek(ab:List UInt8)(an:List (List UInt8))(s:Nat):(sU ab an s).length=s:=by simp[sU]
def ael{ab:List UInt8}{an:List (List UInt8)}{ap:Nat}(h:ap<s):(sU ab an s).getD ap 0=lV an.length ab λj=>(an.getD j []).getD ap 0:=by unfold sU;rw[gp,e1,qD h];rfl
def rU(ab:List UInt8)(an:List (List UInt8))(s ak:Nat):List UInt8:=(c9 s).map λap=>jK (c9 ak) λj=>eP (ab.getD j 0) ((an.getD j []).getD ap 0)
def aem(ab:List UInt8)(an:List (List UInt8))(s:Nat):rU ab an s 0=cN s 0:=by unfold rU;rw[List.eq_replicate_iff];refine⟨B,λb a=>?_⟩;obtain⟨ap,_,rfl⟩:=fS.1 a;rfl
def v9(ab:List UInt8)(an:List (List UInt8))(s ak:Nat):(rU ab an s ak).length=s:=by simp[rU]
def QZ{ab:List UInt8}{an:List (List UInt8)}{ap:Nat}(h:ap<s):(rU ab an s ak).getD ap 0=jK (c9 ak) λj=>eP (ab.getD j 0) ((an.getD j []).getD ap 0):=by unfold rU;rw[gp,e1,qD h];rfl
def aen{ab:List UInt8}{an:List (List UInt8)}(h:(an.getD ak []).length=s):oQ (rU ab an s ak) (an.getD ak []) (ab.getD ak 0)=rU ab an s (ak+1):=by
 have a:(rU ab an s ak).length=(an.getD ak []).length:=by rw[v9,h]
 refine HY (by rw[rS a,v9,v9]) λap b=>?_;rw[rS a,v9]at b;rw[yY a,QZ b,QZ b,nK,ad1,n5,QN,qZ]
def aeo(ab:List UInt8)(an:List (List UInt8))(s:Nat):rU ab an s an.length=sU ab an s:=rfl
section
open Go.RowKit
section
def bP.gm(h:bP w av a6 aa n aS am)(b:0<n):∃g af c,aa=T (E ⟨g,af,I⟩) n c/\am=[g]:=by
 rcases h.2 with⟨_,d,_⟩|⟨g,af,bL,cf,e,a,_⟩
 ·omega
 ·exact⟨g,af,bL,e,a⟩
def bP.fO{c:Nat}(h:bP w av a6 (T (E ⟨g,af,I⟩) n c) n aS am):am=[g]/\fu w g af aS:=by
 rcases h.2 with⟨a,_⟩|⟨f,i,j,cf,a,b,d,k,l,ao,e⟩
 ·cases a
 ·cases a;refine⟨b,?_⟩;rw[<-e];have:=d.cy.d1 af (n*a6);rwa[gQ]at this
def bP.Q0(h:bP w av a6 aa n aS am):aa.oneCell'=G:=by rcases h.2 with⟨rfl,_⟩|⟨_,_,_,_,rfl,_⟩<;>rfl
def bP.hj(h:bP w av a6 aa n aS am):am.Nodup:=by rcases h.2 with⟨_,_,rfl⟩|⟨_,_,_,_,_,rfl,_⟩<;>simp
def Eh{ah:List UInt8}{aa:UInt8}:(ah.flatMap bs).set i (F cl aa.toNat)=(ah.set i aa).flatMap bs:=by rw[tK,tK,qB]
end
def uZ(b:UInt8):∀ae∈bs b,ae.oneCell'=G:=by intro ae a;simp[bs]at a;subst a;rfl
def iI{l:List aU}{ag:aU}(h:i<l.length):l.getD i ag=l[i]:=by rw[gp,cr h];rfl
def aT.Ei{be:aU->List S}{l:List aU}(h:aT w be aa l)(a:0<(l.flatMap be).length):∀b af n c,aa=T (E ⟨b,af,I⟩) n c->b<w.heap.size:=by
 intro b af n c e;obtain⟨d,j,gh,_,f⟩:=h;rcases f with rfl|⟨k,m,g,i⟩
 ·simp at a
 ·rw[gh]at e;subst g;cases e;have:=i 0 a;rw[cr a]at this;simpa using block_lt_of_cell this
def aT.aep(h:aT w bs aa l)(a:0<l.length):∀b af n c,aa=T (E ⟨b,af,I⟩) n c->b<w.heap.size:=
 h.Ei (by rw[kx e2];omega)
def kl(ab:S×List UInt8):List S:=[ab.1]
def ju(w:aN)(aa:S)(l:List (List UInt8)):Prop:=∃cj:List (S×List UInt8),aT w kl aa cj/\(∀ab∈cj,aT w bs ab.1 ab.2)/\cj.map (·.2)=l
section
variable{l:List (List UInt8)}
def ju.V(h:ju w aa l)(b:Q [] w a):ju a aa l:=by obtain⟨cj,c,d,e⟩:=h;exact⟨cj,c.V b,λab f=>(d ab f).V b,e⟩
def ju.cY(h:ju w aa l):∃d c,aa=T d l.length c:=by obtain⟨cj,⟨d,c,a,_⟩,_,b⟩:=h;exact⟨d,c,by rw[a,<-b,dU]⟩
def ju.ek(b:eH ad ar av 1 kl λab=>ab.1)(h:ju w aa l)(c:Q [] w a)(al:i<l.length){ai:iz}{ac:S->Prop}(k:∀ae,aT w bs ae (l.getD i [])->ac ae):
  aV ad (fY ar aa (F ai i)) λae=>aZ ad (a4 av ae) a ac:=by
 obtain⟨cj,d,e,rfl⟩:=h;rw[dU]at al;refine(b.ek d c al).2 (k _ ?_);rw[iI (by rw[dU];exact al),ic];exact e _ (dX al)
end
structure gN where
 a7:S
 gD:List Nat
 c6:List UInt8
def gN.bp(av:co)(w:aN)(ab:gN):Prop:=bP w av 1 ab.a7 ab.c6.length (ab.c6.flatMap bs) ab.gD
section
variable{ab:gN}
def gN.bp.J(h:ab.bp av w)(b:Q bU w a)(c:∀g∈ab.gD,g∉bU):ab.bp av a:=bP.J h b c
def gN.bp.V(h:ab.bp av w)(b:Q [] w a):ab.bp av a:=h.J b B
def gN.bp.eF(h:ab.bp av w):aT w bs ab.a7 ab.c6:=bP.eF h e2 A
def gN.bp.aW(h:ab.bp av w):ab.a7.oneCell'=G:=bP.Q0 h
def gN.bp.aL(h:ab.bp av w):∀g∈ab.gD,g<w.heap.size:=bP.aL h
structure jv(rf av:co)(bv w:aN)(aa:S)(cj:List gN)(aD:List Nat):Prop where
 c4:bP w rf 1 aa cj.length (cj.map gN.a7) aD
 oT:∀g∈aD,bv.heap.size<=g
 cL:∀ab∈cj,ab.bp av w
 qf:∀ab∈cj,∀g∈ab.gD,bv.heap.size<=g/\g∉aD
 hj:(cj.flatMap gN.gD).Nodup
def y0(bv w:aN):jv rf av bv w (T I 0 0) [] []:=⟨gJ _ _ _,B,B,B,B⟩
variable{cj:List gN}
def jv.J(h:jv rf av bv w aa cj aD)(b:Q bU w a)(d:∀g∈aD,g∉bU)(e:∀ab∈cj,∀g∈ab.gD,g∉bU):jv rf av bv a aa cj aD:=
 ⟨h.c4.J b d,h.oT,λab c=>(h.cL ab c).J b (e ab c),h.qf,h.hj⟩
def jv.V(h:jv rf av bv w aa cj aD)(b:Q [] w a):jv rf av bv a aa cj aD:=h.J b B B
def aeq(cj:List gN):cj.map gN.a7=(cj.map λab=>(ab.a7,ab.c6)).flatMap kl:=by
 induction cj with
 |nil=>rfl
 |cons ab cj a=>rw[ge,ge,iA,<-a];rfl
def jv.mn(h:jv rf av bv w aa cj aD):ju w aa (cj.map gN.c6):=by
 refine⟨cj.map λab=>(ab.a7,ab.c6),?_,λai a=>?_,by rw[ts];rfl⟩
 ·have:=h.c4;rw[aeq]at this;exact bP.eF (a6:=1) (l:=cj.map λab=>(ab.a7,ab.c6)) (be:=kl) (by rw[dU];exact this) (λ_=>rfl) A
 ·obtain⟨ab,b,rfl⟩:=fS.1 a;exact(h.cL ab b).eF
def y1(d:hO ad ar av 1 io bm)(b:ae.oneCell'=G)(k:∀a,fu a w.heap.size 0 [ae]->Q [] w a->a.heap.size=w.heap.size+1->ac (T (E ⟨w.heap.size,0,I⟩) 1 1) a):W ad (jR ar 1 #[(0,ae)]) w ac:=by refine hw d [ae] rfl rfl (by intro x c;simp at c;subst c;rw[tI b];rfl) A A λa e f g=>k a ?_ f g;have:=e.cy;simpa[tI b]using this
def jv.p8(s:hO ad ar rf 1 io bm)(h:jv rf av bv w aa cj aD)(m:ab.bp av w)(n:∀g∈ab.gD,bv.heap.size<=g/\g∉aD/\∀ai∈cj,g∉ai.gD){c:Nat}(t:fu w b af [ab.a7])
  (u:cj.length+1<=1000000) (l:1000000*io<=140737488355328) (v:bv.heap.size<=w.heap.size)
  (k:∀ae a ez,jv rf av bv a ae (cj++[ab]) ez->Q aD w a->(∀g∈ez,g∈aD\/w.heap.size<=g)->ac ae a):W ad (dG lp #[ar,ar] #[aa,T (E ⟨b,af,I⟩) 1 c]) w ac:=by
 refine m8 (ak:=1) s h.c4 t rfl (by intro ae p;simp at p;subst p;exact m.aW) (gz (mw _ u) l) (by unfold d0;omega) A λae a ez x q o _=>?_;have j:∀ai∈cj++[ab],ai.bp av w/\(∀g∈ai.gD,bv.heap.size<=g/\g∉aD):=λai f=>by
  rcases b4.1 f with f|f
  ·exact⟨h.cL ai f,h.qf ai f⟩
  ·simp at f;subst f;exact⟨m,λg i=>⟨(n g i).1,(n g i).2.1⟩⟩
 refine k ae a ez ⟨?_,λg i=>(o g i).elim (h.oT g) (λy=>gz v y),λai f=>(j ai f).1.J q (λg i=>((j ai f).2 g i).2),λai f g i=>⟨((j ai f).2 g i).1,λz=>?_⟩,?_⟩ q o
 ·rw[di,g6];exact x
 ·rcases o g z with r|r
  ·exact((j ai f).2 g i).2 r
  ·have:=(j ai f).1.aL g i;omega
 ·rw[hL];refine us.2 ⟨h.hj,by simpa using bP.hj m,λd B b l e=>?_⟩;simp at l;obtain⟨ai,f,D⟩:=tm.1 B;exact(n b l).2.2 ai f (e▸D)
end
end
end Go.X
namespace Go.Proofs.YtepeilglbedgdaaGreatDoor.eR
open Go.X
attribute[local irreducible]Go.X.W
variable{am bU:List Nat}{a w:aN}{ah b i j k n s:Nat}{cf:List S}{aa ae bm:S}{ac:S -> aN -> Prop}{ar:co}{d5:ByteArray}{l:List UInt8}
section
open Go.RowKit
def Ej:mI C 462 5 510:=by unfold mI;kernel_rfl
def Bb:mI C 463 3 256:=by unfold mI;kernel_rfl
def py(w:aN)(aj:Nat):Prop:=∃cf,aC w aj 465 cf/\(∀j,j<510->cf[j]?=E (F cl (fJ j:Nat)))/\∀aa,0<aa->aa<256->cf[510+aa]?=E (F H (fN aa:Nat))
def py.J{aj:Nat}(h:py w aj)(b:Q bU w a)(c:aj∉bU):py a aj:=by obtain⟨cf,d,e,f⟩:=h;exact⟨cf,d.J b c,e,f⟩
def py.aL{aj:Nat}(h:py w aj):aj<w.heap.size:=by obtain⟨cf,a,_⟩:=h;exact a.aL
def Ek{d:UInt8}:((d.toNat:Int)=0)↔d=0:=by
 constructor
 ·intro h;exact nN.1 (by show d.toNat=0;omega)
 ·intro h;subst h;rfl
def aer{aj:Nat}{d:UInt8}(h:py w aj):a0 C 257 #[aE (E ⟨aj,0,I⟩),F cl d.toNat] w λae a=>ae=F cl (h0 d).toNat/\Q [] w a:=by
 obtain⟨cf,c,f,g⟩:=h;refine a9 N3 2 Tryz.func257 K rfl λa1 i=>?_;simp+decide only[↓a8,ba,N3,Tryz.f257];subst i;simp only[uJ,bi,Ek];refine⟨λb=>?_,λb=>?_⟩
 ·subst b;rw[ad4];exact⟨rfl,Q.b0 _ _⟩
 ·have j:0<d.toNat:=Nat.pos_of_ne_zero λe=>b (nN.1 e);have k:=yV (lU d);try simp only[M]
  apply(kc Bb hl (lU d)).2;rw[gA];apply(bl bZ (aa:=F H (fN d.toNat:Nat)) (((bD c).bh (af:=510+d.toNat)).trans (g _ j (lU d)))).2;try simp only[M]
  rw[bq A A,show((255:Int)-(fN d.toNat:Nat))=((255-fN d.toNat:Nat):Int)by omega];apply(kc Ej el (show 255-fN d.toNat<510 by omega)).2;rw[gA,gQ];refine(bl mb (aa:=F cl (fJ (255-fN d.toNat):Nat)) (((bD c).bh (af:=255-fN d.toNat)).trans (f _ A))).2 ⟨?_,cD _ _⟩;rw[QK,v3,if_neg A]
def aes{aj:Nat}{d b:UInt8}(h:py w aj):a0 C 327 #[aE (E ⟨aj,0,I⟩),F cl d.toNat,F cl b.toNat] w λae a=>ae=F cl (eP d b).toNat/\Q [] w a:=by
 obtain⟨cf,f,i,g⟩:=h;refine a9 Ol 3 Tryz.func327 K rfl λa1 j=>?_;simp+decide only[↓a8,ba,Ol,Tryz.f327];subst j;refine bT (λk a=>k=[aK (decide (d=0\/b=0))]/\w=a) ?_ ?_
 ·simp only[uJ,bi,Ek];refine⟨λc=>⟨by rw[decide_eq_true (Y c)],trivial⟩,λc=>⟨?_,trivial⟩⟩;rw[decide_eq_decide.2 (show(b=0)↔(d=0\/b=0)from⟨Z,λh=>h.resolve_left c⟩)]
 rintro _ _ _ ⟨rfl,rfl⟩;simp only[kt,bi];refine⟨λc=>?_,λc=>?_⟩
 ·refine⟨?_,Q.b0 _ _⟩;rcases c with c|c
  ·subst c;rw[yW];rfl
  ·subst c;rw[qY];rfl
 ·have l:d≠0:=λe=>c (Y e);have m:b≠0:=λe=>c (Z e);have n:0<d.toNat:=Nat.pos_of_ne_zero λe=>l (nN.1 e);have o:0<b.toNat:=Nat.pos_of_ne_zero λe=>m (nN.1 e);have p:=yV (lU d);have q:=yV (lU b);try simp only[M]
  apply(kc Bb hl (lU d)).2;rw[gA];apply(bl bZ (aa:=F H (fN d.toNat:Nat)) (((bD f).bh (af:=510+d.toNat)).trans (g _ n (lU d)))).2;try simp only[M]
  apply(kc Bb hl (lU b)).2;rw[gA];apply(bl bZ (aa:=F H (fN b.toNat:Nat)) (((bD f).bh (af:=510+b.toNat)).trans (g _ o (lU b)))).2;try simp only[M]
  rw[bq A A,show((fN d.toNat:Nat):Int)+(fN b.toNat:Nat)=((fN d.toNat+fN b.toNat:Nat):Int)by omega];apply(kc Ej el (show fN d.toNat+fN b.toNat<510 by omega)).2;rw[gA,gQ];refine(bl mb (aa:=F cl (fJ (fN d.toNat+fN b.toNat):Nat)) (((bD f).bh (af:=fN d.toNat+fN b.toNat)).trans (i _ A))).2 ⟨?_,cD _ _⟩;rw[qX,A3 (lU d) (lU b) A A]
def Q1{aj:Nat}{d b:UInt8}(h:py w aj)(k:∀a,Q [] w a->ac (F cl (eP d b).toNat) a):W C (ck 327 #[aE (E ⟨aj,0,I⟩),F cl d.toNat,F cl b.toNat]) w ac:=
 aH ZT (aes h) (λae a⟨e,c⟩=>by subst e;exact k a c)
def Q2{aj:Nat}{d:UInt8}(h:py w aj)(k:∀a,Q [] w a->ac (F cl (h0 d).toNat) a):W C (ck 257 #[aE (E ⟨aj,0,I⟩),F cl d.toNat]) w ac:=
 aH Zk (aer h) (λae a⟨e,b⟩=>by subst e;exact k a b)
def aet{d b:UInt8}:cl.wrap ((iN 8 (d.toNat:Int)^^^iN 8 (b.toNat:Int)).toNat:Nat)=((d^^^b).toNat:Int):=by
 have a:=lU d;have c:=lU b;have e:(iN 8 (d.toNat:Int)^^^iN 8 (b.toNat:Int)).toNat=d.toNat^^^b.toNat:=by rw[BitVec.toNat_xor,ur,ur];have f:((d.toNat:Int)%((2:Nat)^8:Nat)).toNat=d.toNat:=A;have g:((b.toNat:Int)%((2:Nat)^8:Nat)).toNat=b.toNat:=A;rw[f,g]
 rw[e,tq];have:=HP a c;rw[pa];omega
def aeu{ac:S->Prop}{d b:UInt8}:aV C (dS .xor ar (F cl d.toNat) (F cl b.toNat)) ac↔ac (F cl (d^^^b).toNat):=
 Cx.trans (Iff.of_eq (congrArg (λbm=>ac (F cl bm)) aet))
def Q3{aj:List UInt8}(a:k<aj.length):(aj.flatMap bs)[k]?=E (F cl (aj.getD k 0).toNat):=by rw[tK,e1,cr a,iI a];rfl
def rV(aS b7:List UInt8)(x:UInt8)(i:Nat):List UInt8:=(oQ aS b7 x).take i++aS.drop i
def Q4{aS b7:List UInt8}{x:UInt8}(h:aS.length=b7.length)(i:Nat):(rV aS b7 x i).length=aS.length:=by unfold rV;rw[di,ea,e8,rS h];omega
def aev{aS b7:List UInt8}{x:UInt8}(h:aS.length=b7.length)(al:i<aS.length):(rV aS b7 x i).getD i 0=aS.getD i 0:=by unfold rV;rw[gp,nr (by rw[ea,rS h];omega),ea,rS h,oo,gp];congr 2;omega
def aew{aS b7:List UInt8}{x:UInt8}(h:aS.length=b7.length)(al:i<aS.length):(rV aS b7 x i).set i (aS.getD i 0^^^eP x (b7.getD i 0))=rV aS b7 x (i+1):=by unfold rV;have a:=rS h x;rw[sr _ _ (by rw[ea,a];omega),ea,a,show i-min i aS.length=0 by omega,ot al,aoi,<-yY h,List.take_add_one,gq];congr 1;rw[cr (by rw[a];exact al),iI (by rw[a];exact al)];rfl
def H1{aj:Nat}{aS b7:List UInt8}{x:UInt8}(h:py w aj)(D:aj∉am)(s:bP w 5 1 aa aS.length (aS.flatMap bs) am)(o:aT w bs ae b7)(f:aS.length=b7.length)(J:0<b7.length->∀b af n c,ae=T (E ⟨b,af,I⟩) n c->b∉am)(ao:aS.length<=1000000):
  a0 C 298 #[aE (E ⟨aj,0,I⟩),aa,ae,F cl x.toNat] w λ_ a=>bP a 5 1 aa aS.length ((oQ aS b7 x).flatMap bs) am/\Q am w a:=by
 refine a9 Oh 4 Tryz.func298 K rfl λa1 L=>?_;simp+decide only[↓a8,ba,Oh,Tryz.f298];subst L;obtain⟨R,cC,rfl,ai,_⟩:=s.jD;obtain⟨p,q,rfl,V,W⟩:=o;have o:aT w bs (T p b7.length q) b7:=⟨p,q,rfl,V,W⟩;simp only[M];rw[show min ((aS.length:Nat):Int) (b7.length:Nat)=(aS.length:Nat)by omega];apply c1 (λr a=>∃i:Nat,r=[F H i]/\i<=aS.length/\bP a 5 1 (T R aS.length cC) aS.length ((rV aS b7 x i).flatMap bs) am/\Q am w a) (λr _=>match r with|[F _ i]=>aS.length-i.toNat|_=>0) ⟨0,rfl,A,by simpa[rV]using s,Q.b0 _ _⟩;rintro _ _ aA ⟨i,rfl,al,l,d⟩;simp only[M,bi];refine⟨λak=>?_,λan=>?_⟩
 ·have j:i<aS.length:=A;have m:=cD [] aA;obtain⟨g,af,c,X,ab⟩:=l.gm A;cases X;have t:=l.J m B;apply(hP fP el j).2;rw[gA];have u:∀a,bP a 5 1 (T (E ⟨g,af,I⟩) aS.length cC) aS.length ((rV aS b7 x i).flatMap bs) am->a.cell? ⟨g,af+i,I⟩=E (F cl (aS.getD i 0).toNat):=λa ac=>by refine la ac.fO.2 ?_;rw[Q3 (by rw[Q4 f];exact j),aev f j]
  apply(bl mb (u _ t)).2;have ad:aT aA bs (T p b7.length q) b7:=o.J d (J A);apply(p4.ek ad m (show i<b7.length by omega)).2;rw[<-iI (ag:=0) (show i<b7.length by omega)];refine Q1 ((h.J d D).J m B) λax v=>?_;have y:=t.J v B;apply(dz mb (u _ y)).2;rw[aeu];apply(hP fP el j).2;rw[gA];refine vI el y (by rw[kx e2,Q4 f];omega) rfl λap z ah aq=>?_;rw[Eh,aew f j]at z;try simp only[M]
  rw[bq A A];exact⟨⟨i+1,rfl,A,z,((d.R m B).R v B).R ah (by rw[ab];intro k d;exact Y d)⟩,A⟩
 ·obtain rfl:i=aS.length:=A;have e:rV aS b7 x aS.length=oQ aS b7 x:=by unfold rV;rw[aoh,kJ,mv (by rw[rS f];omega)]
  rw[e]at l;exact⟨l,d⟩
def H2:iq C 3 H:=by unfold iq;kernel_rfl
def H3:iq C 5 cl:=by unfold iq;kernel_rfl
def aex{d:Nat}(a:d<2^40)(c:b<2^40):H.wrap ((iN 64 (d:Int)^^^iN 64 (b:Int)).toNat:Nat)=((d^^^b:Nat):Int):=by
 have e:(iN 64 (d:Int)^^^iN 64 (b:Int)).toNat=d^^^b:=by rw[BitVec.toNat_xor,ur,ur];have f:((d:Int)%((2:Nat)^64:Nat)).toNat=d:=A;have g:((b:Int)%((2:Nat)^64:Nat)).toNat=b:=A;rw[f,g]
 have:=su a c;rw[e];exact bq A A
def Q5{ac:S->Prop}{d:Nat}(a:d<2^40)(c:b<2^40):aV C (dS .xor ar (F H d) (F H b)) ac↔ac (F H ((d^^^b:Nat):Int)):=
 Cx.trans (Iff.of_eq (congrArg (λbm=>ac (F H bm)) (aex a c)))
def aey(h:255<=j):fJ j=fJ (j-255):=by
 have:fJ j=iW (j-255+255) 1:=by rw[show j-255+255=j by omega];rfl
 rw[this,v4];show iW (j-255) (fJ 255)=_;rw[HS];rfl
def Bc:List S:=cN 510 (F cl 0)++cN 256 (F H 0)
def aez:C.built 465 []=E Bc.toArray:=K
def aeA{d c:Nat}{x ap:S}(a:d<cf.length)(e:b<cf.length)(f:c<cf.length)(ak:Nat):(((cf.set d x).set b ap).set c bm)[ak]?=if c=ak then E bm else if b=ak then E ap else if d=ak then E x else cf[ak]?:=by rw[pT,pT,pT,i9,i9,if_pos f,if_pos e,if_pos a]
def aeB:a0 C 256 #[] w λae a=>ae=aE (E ⟨w.heap.size,0,I⟩)/\py a w.heap.size/\Q [] w a:=by
 refine a9 N2 0 Tryz.func256 K rfl λa1 ab=>?_;simp+decide only[↓a8,ba,N2,Tryz.f256];subst ab;refine(bY aez).2 (eA λaA r ac ad=>?_);have s:aC aA w.heap.size 465 Bc:=by simpa[bF]using r
 clear r;try simp only[M]
 apply(kc (i:=0) Bb hl A).2;have t:Bc.length=766:=by simp[Bc]
 generalize Bc=u at*;refine eK hl s A rfl λax v af ag=>?_;have y:(u.set (510+0*1) (F H (-1))).length=766:=by rw[i9,t]
 generalize u.set (510+0*1) (F H (-1))=ah at*;refine c1 (λf a=>∃(i:Nat)(cf:List S),f=[F H (fJ i:Nat),F H i]/\i<=255/\aC a w.heap.size 465 cf/\cf.length=766/\(∀j,j<i->cf[j]?=E (F cl (fJ j:Nat))/\cf[j+255]?=E (F cl (fJ j:Nat)))/\(∀aa,0<aa->aa<256->fN aa<i->cf[510+aa]?=E (F H (fN aa:Nat)))/\Q [] w a)
  (λf _=>match f with|[_,F _ i]=>255-i.toNat|_=>0) ⟨0,ah,rfl,A,v,y,A,λaa _ _ h=>A,ac.R af B⟩ ?_
 clear y v s t ag ad;rintro _ _ aD ⟨i,cf,rfl,al,z,ai,m,D,J⟩;simp only[M,bi];refine⟨λaF=>?_,λaG=>?_⟩
 ·have aj:=QH i;rw[bq A A];refine bT (λf a=>∃cf:List S,f=[F H (fJ (i+1):Nat)]/\aC a w.heap.size 465 cf/\cf.length=766/\(∀j,j<i+1->cf[j]?=E (F cl (fJ j:Nat))/\cf[j+255]?=E (F cl (fJ j:Nat)))/\(∀aa,0<aa->aa<256->fN aa<i+1->cf[510+aa]?=E (F H (fN aa:Nat)))/\Q [] w a) ?_ ?_
  ·refine(fv H2 H3).2 ((fv H2 H3).2 ?_);rw[pa,show((fJ i:Nat):Int)%256=(fJ i:Nat)by omega];refine(kc Ej el (show i<510 by omega)).2 ?_;rw[gQ,gA];refine eK el (bD z) A rfl λak n o aH=>?_;rw[show((i:Int)+255)=((i+255:Nat):Int)by omega];refine(kc Ej el (show i+255<510 by omega)).2 ?_;rw[gQ,gA];refine eK el n (by rw[i9];omega) rfl λaI am an aJ=>(kc Bb hl aj).2 ?_;rw[gA];refine eK hl am (by rw[i9,i9];omega) rfl λao L aq aL=>(w0 A).2 ?_;have ar:H.wrap ((fJ i:Nat)*2^min (1:Int).toNat H.bits)=((2*fJ i:Nat):Int):=by rw[show min (1:Int).toNat H.bits=1 from rfl];rw[bq A A];omega
   rw[ar];have R:Q [] w ao:=((J.h6.R o B).R an B).R aq B;have p:=aeA (cf:=cf) (d:=i) (b:=i+255) (c:=510+fJ i) (x:=F cl (fJ i:Nat)) (ap:=F cl (fJ i:Nat)) (bm:=F H i) A A A;have V:(((cf.set i (F cl (fJ i:Nat))).set (i+255) (F cl (fJ i:Nat))).set (510+fJ i) (F H i)).length=766:=by rw[i9,i9,i9,ai]
   have k:∀j,j<i+1->(((cf.set i (F cl (fJ i:Nat))).set (i+255) (F cl (fJ i:Nat))).set (510+fJ i) (F H i))[j]?=E (F cl (fJ j:Nat))/\(((cf.set i (F cl (fJ i:Nat))).set (i+255) (F cl (fJ i:Nat))).set (510+fJ i) (F H i))[j+255]?=E (F cl (fJ j:Nat)):=by
    intro j au;rw[p,p,if_neg A,if_neg A,if_neg (show¬510+fJ i=j+255 by omega)];by_cases W:i=j
    ·subst W;rw[if_pos rfl,if_pos rfl];exact⟨rfl,rfl⟩
    ·rw[if_neg W,if_neg (show¬i+255=j+255 by omega),if_neg (show¬i=j+255 by omega)];exact m j A
   have l:∀aa,0<aa->aa<256->fN aa<i+1->(((cf.set i (F cl (fJ i:Nat))).set (i+255) (F cl (fJ i:Nat))).set (510+fJ i) (F H i))[510+aa]?=E (F H (fN aa:Nat)):=by
    intro aa av g aM;rw[p];by_cases q:fN aa=i
    ·have:fJ i=aa:=by rw[<-q];exact HR g A
     rw[if_pos A,q]
    ·have:fJ i≠aa:=λe=>q (by rw[<-e];exact QJ A);rw[if_neg A,if_neg A,if_neg A];exact D aa av g A
   have X:fJ (i+1)=pw (fJ i):=rfl;try simp only[M]
   rw[bi];refine⟨λaO=>?_,λaP=>?_⟩
   ·rw[show(285:Int)=((285:Nat):Int)from rfl];refine(Q5 A A).2 ⟨_,?_,L,V,k,l,R⟩;rw[X,pw,if_neg A]
   ·refine⟨_,?_,L,V,k,l,R⟩;rw[X,pw,if_pos A]
  rintro _ _ ak ⟨aw,rfl,n,ay,k,l,o⟩;try simp only[M]
  rw[bq A A];exact⟨⟨i+1,aw,rfl,A,n,ay,k,l,o⟩,A⟩
 ·obtain rfl:i=255:=A;refine⟨rfl,⟨cf,z,λj au=>?_,λaa az g=>D aa az g (yV g)⟩,J⟩;by_cases aB:j<255
  ·exact(m j aB).1
  ·have:=(m (j-255) A).2;rw[show j-255+255=j by omega]at this;rw[aey A];exact this
def y2:eH C 183 52 1 kl (λab:S×List UInt8=>ab.1):=eH.aW pe mJ nb
structure rW(w:aN)(ah k n:Nat)(aj:Nat)(aa:S):Prop where
 bg:aC w ah 416 [F H k,aE (E ⟨aj,0,I⟩),aa]
 sI:py w aj
 mn:ju w aa (xr k n)
 kh:1<=k
 El:k<=n
 Bd:n<=8
def rW.V{aj:Nat}(h:rW w ah k n aj aa)(b:Q [] w a):rW a ah k n aj aa:=
 ⟨h.bg.J b B,h.sI.J b B,h.mn.V b,h.kh,h.El,h.Bd⟩
def Be(k n:Nat):(xr k n).length=n:=by simp[xr]
def Q6{d:Nat}(h:d<n):(xr k n).getD d []=n6 k d:=by unfold xr;rw[gp,e1,qD h];rfl
def rW.kB{aj:Nat}(h:rW w ah k n aj aa)(c:Q [] w a):
  (∀ac,aZ C (a4 3 (aE (E ⟨ah,0,I⟩))) a ac↔ac (F H k))/\(∀ac,aZ C (a4 413 (aE (E ⟨ah,1,I⟩))) a ac↔ac (aE (E ⟨aj,0,I⟩)))/\
  (∀ac,aZ C (a4 183 (aE (E ⟨ah,2,I⟩))) a ac↔ac aa):=by
 have b:=h.bg.J c B;exact⟨λ_=>bl bZ (b.bh (af:=0)),λ_=>bl FY (b.bh (af:=1)),λ_=>bl rA (b.bh (af:=2))⟩
def aeC:ByteArray:=⟨#[99,111,100,101,46,78,101,119]⟩
def Em(k n:Int):Prop:=1<=k/\k<=n/\n<=8
instance(k n:Int):Decidable (Em k n):=by unfold Em;exact inferInstance
def En{i k:Int}(c:ac (hQ (.d2 d5 i (.dD k))) w):aV C (tx 33 (F H k)) λaa=>W C (ck 59 #[bO d5,F H i,aa]) w ac:=by refine(hk hY).2 ?_;refine aH nz qS ?_;rintro _ _ ⟨rfl,rfl⟩;exact c
def ami{k n:Int}(h:¬Em k n):a0 C 213 #[F H k,F H n] w λae a=>ae=bQ #[aE I,hQ (.d2 aeC 0 (.dD 1))]/\w=a:=by
 refine a9 Dk 2 Tryz.func213 K rfl λa1 b=>?_;simp+decide only[↓a8,ba,Dk,Tryz.f213];subst b;refine bT (λc a=>c=[aK G]/\w=a) ?_ ?_
 ·simp only[M,bi];unfold Em at h;exact⟨λ_=>⟨trivial,trivial⟩,λd=>⟨λ_=>⟨trivial,trivial⟩,λe=>⟨by rw[decide_eq_true A],trivial⟩⟩⟩
 rintro _ _ _ ⟨rfl,rfl⟩;simp only[kt,k9];exact En ⟨rfl,rfl⟩
def pz(k d j:Nat):List UInt8:=(c9 j).map (oP k d)++cN (k-j) 0
def Q7{d:Nat}(h:j<=k):(pz k d j).length=k:=by unfold pz;simp;omega
def Q8{d:Nat}(h:j<k):(pz k d j).set j (oP k d j)=pz k d (j+1):=by unfold pz;rw[sr _ _ B,dU,uw,k6,show k-j=(k-(j+1))+1 by omega,List.replicate_succ,aoi,nK,g6,gq];rfl
def aeD{d:Nat}(h:j<k)(a:oP k d j=0):pz k d j=pz k d (j+1):=by unfold pz;rw[show k-j=(k-(j+1))+1 by omega,List.replicate_succ,nK,g6,gq];show _=_++([oP k d j]++_);rw[a];rfl
def aeE(k d:Nat):pz k d k=n6 k d:=by unfold pz n6;rw[k6,List.replicate_zero,kJ]
def aeF(n:Nat):(cN n (0:UInt8)).flatMap bs=cN n (F cl 0):=by rw[tK,List.map_replicate];rfl
def Q9(e:n<=1000000)(k:∀a,bP a 5 1 (T (E ⟨w.heap.size,0,I⟩) n n) n ((cN n 0).flatMap bs) [w.heap.size]->Q [] w a->a.heap.size=w.heap.size+1->ac (T (E ⟨w.heap.size,0,I⟩) n n) a):
  W C (uA 52 (F H n) (F H n)) w ac:=by
 refine x6 ky (l:=n) A (by unfold d0;omega) λaA b c d=>k aA ?_ c d;rw[aeF];exact x5 b B (by unfold d0;omega)
def Ra(ay:1<=k)(az:k<=n)(aB:n<=8):a0 C 213 #[F H k,F H n] w λae a=>∃ah aj aa,ae=bQ #[aE (E ⟨ah,0,I⟩),cT]/\rW a ah k n aj aa/\Q [] w a:=by
 refine a9 Dk 2 Tryz.func213 K rfl λa1 aF=>?_;simp+decide only[↓a8,ba,Dk,Tryz.f213];subst aF;refine bT (λe a=>e=[aK U]/\w=a) ?_ ?_
 ·simp only[M,bi];exact⟨λh=>A,λ_=>⟨λh=>A,λ_=>⟨by rw[decide_eq_false A],trivial⟩⟩⟩
 rintro _ _ _ ⟨rfl,rfl⟩;simp only[kt,kN];apply aH Zj aeB;rintro _ aA ⟨rfl,W,X⟩;refine(bY (gT:=#[F H k,aE (E ⟨w.heap.size,0,I⟩),T I 0 0]) K).2 (eA λax v ag aG=>?_);have v:aC ax aA.heap.size 416 [F H k,aE (E ⟨w.heap.size,0,I⟩),T I 0 0]:=v;have aI:=W.J ag B;have aJ:Q [] w ax:=X.R ag B;have bc:=W.aL;generalize w.heap.size=aj at*;have bd:=aG;generalize aL:aA.heap.size=ah at*;refine c1 (λe a=>∃(d:Nat)(cj:List gN)(aD:List Nat)(aa:S),e=[F H d]/\d<=n/\aC a ah 416 [F H k,aE (E ⟨aj,0,I⟩),aa]/\py a aj/\jv 52 5 ax a aa cj aD/\cj.map gN.c6=xr k d/\Q [] w a/\ax.heap.size<=a.heap.size)
  (λe _=>match e with|[F _ d]=>n-d.toNat|_=>0) ⟨0,[],[],_,rfl,A,v,aI,y0 _ _,rfl,aJ,fF _⟩ ?_
 rintro _ _ ak ⟨d,cj,aD,aa,rfl,be,al,am,p,y,z,bf⟩;simp only[M,bi];refine⟨λbg=>?_,λbh=>?_⟩
 ·refine Q9 A λt aM u bj=>?_;simp only[M];have aO:=al.J u B;have aP:=am.J u B;have aQ:=p.V u;have an:=p.c4.aL;have ao:∀ab∈cj,∀g∈ab.gD,g<ak.heap.size:=λab q=>(p.cL ab q).aL;generalize aR:ak.heap.size=g at*;refine c1 (λe a=>∃j:Nat,e=[F H j]/\j<=k/\bP a 5 1 (T (E ⟨g,0,I⟩) k k) k ((pz k d j).flatMap bs) [g]/\Q [g] t a)
   (λe _=>match e with|[F _ j]=>k-j.toNat|_=>0) ⟨0,rfl,A,by simpa[pz]using aM,Q.b0 _ _⟩ ?_
  rintro _ _ bk ⟨j,rfl,ap,r,m⟩;simp only[M,bi];have D:=aO.J m (by simp;omega);have aq:=aP.J m (by simp;omega);refine⟨λbm=>?_,λbn=>?_⟩
  ·have s:j<k:=A;refine bT (λe a=>e=[]/\bP a 5 1 (T (E ⟨g,0,I⟩) k k) k ((pz k d (j+1)).flatMap bs) [g]/\Q [g] t a) ?_ ?_
   ·refine⟨λaS=>?_,λaS=>?_⟩
    ·refine(bl FY (D.bh (af:=1))).2 ((Q5 A A).2 ((fv H2 H3).2 ?_));have b:=HP (show d<256 by omega) (show j<256 by omega);have aT:cl.wrap ((d^^^j:Nat):Int)=((ed (d^^^j)).toNat:Int):=by rw[pa,t3 b];omega
     rw[aT];refine Q2 aq λJ f=>?_;have L:=r.J f B;apply(hP fP el s).2;rw[gA,gQ];have:=vI (ad:=C) (ar:=5) (ac:=λ_ a=>([]:List S)=[]/\bP a 5 1 (T (E ⟨g,0,I⟩) k k) k ((pz k d (j+1)).flatMap bs) [g]/\Q [g] t a) (ae:=F cl (h0 (ed (d^^^j))).toNat) el L (i:=j) (by rw[kx e2,Q7 ap];omega) rfl λau l o av=>by rw[Eh,show h0 (ed (d^^^j))=oP k d j by unfold oP;rw[if_pos A],Q8 s]at l;exact⟨rfl,l,(m.R f B).R o B⟩
     rw[gQ]at this;exact this
    ·refine⟨λaU=>?_,λaU=>?_⟩
     ·apply(hP fP el s).2;rw[gA,gQ];have:=vI (ad:=C) (ar:=5) (ac:=λ_ a=>([]:List S)=[]/\bP a 5 1 (T (E ⟨g,0,I⟩) k k) k ((pz k d (j+1)).flatMap bs) [g]/\Q [g] t a) (ae:=F cl (1:UInt8).toNat) el r (i:=j) (by rw[kx e2,Q7 ap];omega) rfl λau l o av=>by rw[Eh,show(1:UInt8)=oP k d j by unfold oP;rw[if_neg A,if_pos A],Q8 s]at l;exact⟨rfl,l,m.R o B⟩
      rw[gQ]at this;exact this
     ·have aV:oP k d j=0:=by unfold oP;rw[if_neg A,if_neg A]
      rw[<-aeD s aV];exact⟨rfl,r,m⟩
   rintro _ _ J ⟨rfl,L,f⟩;rw[bq A A];exact⟨⟨j+1,rfl,A,L,f⟩,A⟩
  ·obtain rfl:j=k:=A;rw[aeE]at r;have aW:=aQ.J m (λx b c=>by simp at c;have:=an x b;omega) (λab q x b c=>by simp at c;have:=ao ab q x b;omega);apply(bl rA (D.bh (af:=2))).2;have bo:=m.aI;refine y1 mK rfl λJ aX f bp=>?_;have aY:gN.bp 5 J ⟨T (E ⟨g,0,I⟩) j j,[g],n6 j d⟩:=by have:=r.J f B;unfold gN.bp;rw[Eg];exact this
   have br:cj.length=d:=by have:=congrArg jm y;rwa[dU,Be]at this
   refine(aW.V f).p8 (ab:=⟨T (E ⟨g,0,I⟩) j j,[g],n6 j d⟩) mK aY (λx b=>?_) aX A A A λae au ez l o aZ=>?_
   ·simp at b;subst b;exact⟨A,λc=>by have:=an x c;omega,λai a2 c=>by have:=ao ai a2 x c;omega⟩
   ·have aw:ah∉aD:=λc=>by have:=p.oT ah c;omega
    have a3:aj∉aD:=λc=>by have:=p.oT aj c;omega
    have a4:=(D.J f B).J o aw;have a5:=(aq.J f B).J o a3;try simp only[M]
    refine eK FW a4 B (bP.Q0 l.c4) λbt a6 V bu=>?_;have av:=o.aI;have a7:ah∉ez:=λc=>(aZ ah c).elim aw (λh=>A);rw[bq A A];refine⟨⟨d+1,cj++[_],ez,ae,rfl,A,a6,a5.J V (by simp;omega),l.J V (λx b c=>by simp at c;exact a7 (c▸b)) (λab q x b c=>by simp at c;have:=(l.qf ab q x b).1;omega),?_,?_,A⟩,A⟩
    ·rw[g6,y];unfold xr;rw[nK,g6];rfl
    ·have bb:w.heap.size<=ah:=by rw[<-aL];exact X.aI
     refine(((z.R u B).R m ?_).R f B).R o ?_|>.R V ?_
     ·intro x b;simp at b;subst b;exact Z (by rw[<-aR];exact z.aI)
     ·intro x b;exact Z (by have:=p.oT x b;omega)
     ·intro x b;simp at b;subst b;exact Z bb
 ·obtain rfl:d=n:=A;exact⟨ah,aj,aa,rfl,⟨al,am,by rw[<-y];exact p.mn,ay,az,aB⟩,z⟩
def aeG{aj:Nat}{x:S}{ab:List UInt8}{an:List (List UInt8)}(h:rW w ah k n aj aa)(l:aT w bs ae ab)(r:ju w x an)(R:ab.length=an.length)(t:0<an.length)(ao:∀b∈an,b.length=s)(u:s<=1000000)(au:an.length<=1000000):
  a0 C 271 #[aE (E ⟨ah,0,I⟩),ae,x] w λap a=>∃ai:gN,ap=ai.a7/\ai.bp 5 a/\ai.c6=sU ab an s/\(∀g∈ai.gD,w.heap.size<=g)/\Q [] w a:=by
 refine a9 N9 3 Tryz.func271 K rfl λa1 V=>?_;simp+decide only[↓a8,ba,N9,Tryz.f271];subst V;obtain⟨v,y,rfl,W,X⟩:=l;have l:aT w bs (T v ab.length y) ab:=⟨v,y,rfl,W,X⟩;have m:∀j,j<an.length->(an.getD j []).length=s:=λj o=>by rw[iI o];exact ao _ (dX o)
 refine r.ek (i:=0) y2 (Q.b0 _ _) t λap f=>?_;obtain⟨av,aw,rfl,_,_⟩:=f;simp only[M,m 0 t];refine Q9 u λaA ac ad ay=>?_;have az:=h.sI.aL;generalize aB:w.heap.size=g at*;apply c1 (λp a=>∃j:Nat,p=[F H j]/\j<=ab.length/\bP a 5 1 (T (E ⟨g,0,I⟩) s s) s ((rU ab an s j).flatMap bs) [g]/\Q [] w a) (λp _=>match p with|[F _ j]=>ab.length-j.toNat|_=>0) ⟨0,rfl,A,by rw[aem];exact ac,ad⟩;rintro _ _ ax ⟨j,rfl,o,z,q⟩;simp only[M,bi];refine⟨λaC=>?_,λaD=>?_⟩
 ·have D:j<ab.length:=A;have J:=cD [] ax;refine(p4.ek l q D).2 ?_;rw[<-iI (ag:=0) D];have d:=q.R J B;obtain⟨aF,ak,aG⟩:=h.kB d;rw[ak];refine r.ek y2 d A λap f=>aH Gy (H1 (aS:=rU ab an s j) (b7:=an.getD j []) ((h.sI.J d B)) (am:=[g]) (by simp;omega) (by rw[v9];exact z.J J B) (f.V d) (by rw[v9,m j A]) (λal b af n c e=>by have:=f.aep al b af n c e;simp;omega) (by rw[v9];exact u)) ?_;rintro _ aI ⟨L,aq⟩;rw[v9,aen (m j A)]at L;try simp only[M]
  rw[bq A A];exact⟨⟨j+1,rfl,A,L,d.R aq (by intro x ar;simp at ar;exact Z A)⟩,A⟩
 ·obtain rfl:j=ab.length:=A;refine⟨⟨T (E ⟨g,0,I⟩) s s,[g],sU ab an s⟩,rfl,?_,rfl,B,q⟩;unfold gN.bp;rw[aek,<-aeo,<-R];exact z
def rX(k n:Nat)(an:List (List UInt8))(s:Nat):List (List UInt8):=(c9 n).map λd=>sU (n6 k d) an s
def aeH:ByteArray:=⟨#[99,111,100,101,46,69,110,99,111,100,101]⟩
def rY(an:List (List UInt8)):Nat:=(an.getD 0 []).length
def wa(k:Nat)(an:List (List UInt8)):Bool:=decide (an.length≠k)||an.any λb=>decide (b.length≠rY an)
def aeI{x ap:S}{an:List (List UInt8)}(c:aC w b 183 [x])(d:ju w x an)(e:0<an.length)(f:aT w bs ap l):
  a0 C 270 #[ap,aE (E ⟨b,0,I⟩)] w λae a=>ae=aK (decide (l.length≠rY an))/\Q [] w a:=by
 refine a9 .D 2 Tryz.func270 K rfl λa1 g=>?_;simp+decide only[↓a8,ba,Tryz.f270];subst g;obtain⟨j,k,rfl,_,_⟩:=f;simp only[M];refine(bl rA (c.bh (af:=0))).2 (d.ek (i:=0) y2 (Q.b0 _ _) e λbm h=>?_);obtain⟨m,n,rfl,_,_⟩:=h;simp only[M];refine⟨?_,Q.b0 _ _⟩;unfold rY;rw[decide_eq_decide.2 (show((l.length:Int)≠((an.getD 0 []).length:Nat))↔(l.length≠(an.getD 0 []).length)by omega)]
def aeJ{x:S}{an:List (List UInt8)}(g:aC w b 183 [x])(e:ju w x an)(h:0<an.length)(m:an.length<=1000000):
  a0 C 269 #[x,.func (.func 270) #[] #[aE (E ⟨b,0,I⟩)]] w λae a=>ae=aK (an.any λb=>decide (b.length≠rY an))/\Q [] w a:=by
 refine a9 .D 2 Tryz.func269 K rfl λa1 d=>?_;simp+decide only[↓a8,ba,Tryz.f269];subst d;have i:=e;obtain⟨cj,j,k,f⟩:=e;have n:cj.length=an.length:=by rw[<-f,dU]
 refine aH ZP (bu:=λae a=>ae=F H (if cj.findIdx (λab=>decide (ab.2.length≠rY an))<cj.length then(cj.findIdx (λab=>decide (ab.2.length≠rY an)):Int)else-1)/\Q [] w a) ?_ ?_
 ·refine a9 (.L .D (.L (.L .D (.aW (.cJ [8] .D))) .D)) 2 Tryz.func301 K rfl λa1 d=>?_;simp+decide only[↓a8,ba,Tryz.f301];subst d;exact CC y2 K j A (λab l a c=>aeI (g.J c B) (i.V c) h ((k ab l).V c)) (λa c=>⟨rfl,c⟩)
 ·rintro _ aA ⟨rfl,c⟩;simp only[M];rw[CD];refine⟨?_,c⟩;rw[<-f,List.any_map];rfl
def aeK{aj:Nat}{x:S}{an:List (List UInt8)}(h:rW w ah k n aj aa)(q:ju w x an)(J:an.length<=1000000)(ao:rY an<=1000000):
  a0 C 227 #[aE (E ⟨ah,0,I⟩),x] w λae a=>Q [] w a/\match wa k an with
   |true=>ae=bQ #[T I 0 0,hQ (.d2 aeH 0 (.dD 1))]
   |false=>∃ap cj aD,ae=bQ #[ap,cT]/\jv 52 5 w a ap cj aD/\cj.map gN.c6=rX k n an (rY an):=by
 refine a9 NQ 2 Tryz.func227 K rfl λa1 ak=>?_;simp+decide only[↓a8,ba,NQ,Tryz.f227];subst ak;have aB:=h.kh;have aF:=h.Bd;refine eA λaA f i aG=>?_;have f:aC aA w.heap.size 183 x.cells.toList:=f;obtain⟨aI,aJ,L⟩:=q.cY;have al:x.cells.toList=[x]:=by rw[L];rfl
 rw[al]at f;generalize w.heap.size=b at*;have r:=cD [] aA;have R:=i.R r B;refine bT (λj a=>j=[aK (wa k an)]/\Q [] aA a) ?_ ?_
 ·apply(bl rA ((bD f).bh (af:=0))).2;obtain⟨V,am,W⟩:=h.kB R;rw[L];simp only[M,V,bi];refine⟨λaL=>⟨?_,r⟩,λaM=>?_⟩
  ·unfold wa;rw[decide_eq_true (show an.length≠k by omega),Bool.true_or]
  ·refine(bl rA ((bD f).bh (af:=0))).2 (aH Zu (aeJ (bD f) (q.V R) A J) ?_);rintro _ ax ⟨rfl,m⟩;refine⟨?_,r.R m B⟩;unfold wa;rw[decide_eq_false (show¬an.length≠k by omega),Bool.false_or]
 rintro _ _ ax ⟨rfl,X⟩;have m:=i.R X B;have aq:∀a,Q [] aA a->a.cell? ⟨b,0,I⟩=E x:=λa ar=>(f.J ar B).bh (af:=0);simp only[kt];cases s:wa k an with
 |true=>
  simp only[k9];exact En ⟨m,rfl⟩
 |false=>
  simp only[kN];have ac:an.length=k/\∀b∈an,b.length=rY an:=by unfold wa at s;simp only[Bool.or_eq_false_iff,decide_eq_false_iff_not,List.any_eq_false,decide_eq_true_eq,ne_eq,Decidable.not_not]at s;exact s
  obtain⟨aO,cC,t⟩:=h.mn.cY;rw[Be]at t;obtain⟨V,am,W⟩:=h.kB m;simp only[M,W];rw[t];simp only[M];rw[<-t];refine c1 (λj a=>∃(d:Nat)(cj:List gN)(aD:List Nat)(af:S),j=[af,F H d]/\d<=n/\jv 52 5 aA a af cj aD/\cj.map gN.c6=rX k d an (rY an)/\Q [] aA a)
   (λj _=>match j with|[_,F _ d]=>n-d.toNat|_=>0) ⟨0,[],[],_,rfl,A,y0 _ _,rfl,X⟩ ?_
  rintro _ _ au ⟨d,cj,aD,af,rfl,aP,c,u,o⟩;have l:=i.R o B;simp only[M,bi];refine⟨λaQ=>?_,λaR=>?_⟩
  ·refine h.mn.ek y2 l (by rw[Be];omega) λap ad=>?_;rw[Q6 A]at ad;refine(bl rA (aq au o)).2 (aH Zv (aeG (h.V l) (ad.V l) (q.V l) (by rw[Eg,ac.1]) A ac.2 ao J) ?_);rintro _ aS ⟨ai,rfl,ag,av,v,y⟩;refine y1 mK ag.aW λaT aw z aU=>?_;have aV:cj.length=d:=by have:=congrArg jm u;rw[dU]at this;rw[this];simp[rX]
   have aW:=o.aI;have aX:=y.aI;refine((c.V y).V z).p8 (ab:=ai) mK (ag.V z) (λg e=>⟨by have:=v g e;omega,λD=>by have:=v g e;have:=c.c4.aL g D;omega,λab p D=>by have:=v g e;have:=(c.cL ab p).aL g D;omega⟩) aw A A A λae aY ez ay az aZ=>?_;try simp only[M]
   rw[bq A A];refine⟨⟨d+1,cj++[ai],ez,ae,rfl,A,ay,?_,((o.R y B).R z B).R az (λg e=>Z (c.oT g e))⟩,A⟩;rw[g6,u];unfold rX;rw[nK,g6,ge,tp,ge,tp,av]
  ·obtain rfl:d=n:=A;exact⟨l,af,cj,aD,rfl,⟨c.c4,λg e=>gz i.aI (c.oT g e),c.cL,λab p g e=>⟨gz i.aI (c.qf ab p g e).1,(c.qf ab p g e).2⟩,c.hj⟩,u⟩
end
end Go.Proofs.YtepeilglbedgdaaGreatDoor.eR
namespace Go.X
variable{am az:List Nat}{a w:aN}{b:Nat}{aU:Type}{aa:S}{ar:co}
def eo{aU:Type}(w:aN)(am:List Nat)(be:aU->List S)(aa:S)(l:List aU):Prop:=aT w be aa l/\(l=[]\/∃b af c,aa=T (E ⟨b,af,I⟩) l.length c/\b∉am/\b<w.heap.size)
section
variable{be:aU->List S}{l:List aU}
def eo.de(h:eo w am be aa l)(f:bX am az w a):eo a az be aa l:=by
 obtain⟨g,j⟩:=h;rcases j with rfl|⟨b,af,c,rfl,i,k⟩
 ·obtain⟨d,c,rfl,m,_⟩:=g;exact⟨⟨d,c,rfl,m,Y rfl⟩,Y rfl⟩
 ·refine⟨g.J f.J (by intro o p q r e;cases e;exact i),Z ⟨b,af,c,rfl,λn=>(f.cq b n).elim i A,iL k f.J.aI⟩⟩
def eo.V(h:eo w am be aa l)(b:Q [] w a):eo a am be aa l:=h.de (.iu b)
def eo.cq(h:aT w be aa l)(f:∀x,0<(be x).length)(i:gx a.heap.size aa)(j:∀g∈am,g<a.heap.size):eo w am be aa l:=by
 refine⟨h,?_⟩;obtain⟨d,c,rfl,n,k⟩:=id h;rcases k with rfl|⟨b,af,rfl,o⟩
 ·exact Y rfl
 ·by_cases e:l=[]
  ·exact Y e
  ·right;refine⟨b,af,c,rfl,λm=>?_,h.Ei ?_ b af _ _ rfl⟩
   ·have:=i b af _ _ rfl;have:=j b m;omega
   ·obtain⟨x,dK,rfl⟩:=List.exists_cons_of_ne_nil e;rw[iA,di];have:=f x;omega
def eo.D:eo w am be (T I 0 0) ([]:List aU):=⟨⟨I,0,rfl,B,Y rfl⟩,Y rfl⟩
end
def fb(w:aN)(am:List Nat)(b:Nat)(ar:co)(l:List S):Prop:=aC w b ar l/\b∉am
def fb.de{l:List S}(h:fb w am b ar l)(c:bX am az w a):fb a az b ar l:=
 ⟨h.1.J c.J h.2,λd=>(c.cq b d).elim h.2 (by have:=h.1.aL;omega)⟩
def fb.V{l:List S}(h:fb w am b ar l)(c:Q [] w a):fb a am b ar l:=h.de (.iu c)
def fb.cq{l:List S}(h:aC a w.heap.size ar l)(b:∀g∈am,g<w.heap.size):fb a am w.heap.size ar l:=⟨h,λc=>by have:=b _ c;omega⟩
end Go.X
namespace Go.Proofs.YtepeilglbedgdaaGreatDoor
open Go.X
attribute[local irreducible]Go.X.W
variable{am:List Nat}{a w:aN}{ab ag ak b bj i j s t:Nat}{aB:Nat -> Bool}{aa ae cB:S}{ac:S -> aN -> Prop}{bB:Nat -> Nat -> Bool}{c:dR}
section
open Go.RowKit ey
variable{aG fo:List b3}{aq gX:b3}
abbrev kC:={l:List UInt8//l.length=108}
def eL(b:kC):List S:=b.1.flatMap bs
def nG(b:kC):(eL b).length=108:=by unfold eL;rw[qb];exact b.2
def Eo(b:kC):∀ae∈eL b,ae.oneCell'=G:=Qn b.1
def jL:kC:=⟨pt,hd⟩
structure iX where
 L:Nat
 e4:Nat
 ii:List kC
def iX.eQ(x:iX)(i:Nat):dQ:=⟨2,i,x.e4,x.L,(x.ii.getD i jL).1⟩
variable{x:iX}
def iX.wb(al:i<8)(ao:x.e4<=63)(a:x.L<=1152921504606846976):(x.eQ i).bp:=
 ⟨by simp[iX.eQ],by simp[iX.eQ],by simp[iX.eQ],by simp[iX.eQ];omega,by simp[iX.eQ],by simp[iX.eQ];omega,by simp[iX.eQ],by simp[iX.eQ];omega,(x.ii.getD i jL).2⟩
def xt(c:dR)(l:List kC)(ag:Nat):List UInt8:=(eR.rX c.aJ c.aR (l.map (·.1)) 108).getD ag []
structure eW where
 g4:Nat->Nat
 bg:Nat->List kC
 dh:Nat->iX
def fg(c:dR):Nat:=1+c.cY*c.aJ
def jw(c:dR)(au:eW)(t ag:Nat):dQ:=⟨3,ag,t,au.g4 t,xt c (au.bg t) ag⟩
def eW.eQ(c:dR)(au:eW)(ag s:Nat):dQ:=if s=0 then jt c ag else if s<fg c then(au.dh ((s-1)/c.aJ)).eQ ((s-1)%c.aJ)else jw c au (s-fg c) ag
structure eW.bp(c:dR)(au:eW):Prop where
 v0:∀t,t<c.bd->1<=au.g4 t/\au.g4 t<=1152921504606846976
 wc:∀t,t<c.bd->(au.bg t).length=c.aJ
 t5:∀j,j<c.cY->(au.dh j).e4<c.bd/\(au.dh j).L<=1152921504606846976/\(((au.dh j).L=0/\(au.dh j).e4=0/\∀i,(au.dh j).ii.getD i jL=jL)\/(2<=(au.dh j).L/\(au.dh j).L%c.cY=j/\(au.dh j).ii.length=c.aJ))
def Rb(c:dR)(au:eW):Prop:=∀j,j<c.cY->2<=(au.dh j).L->au.g4 (au.dh j).e4=(au.dh j).L/\au.bg (au.dh j).e4=(au.dh j).ii
def jJ(aq:b3)(bE:Nat->Option (List UInt8)):b3:=({aq with dp:=bE}:b3).pv
def aeL(aq:b3)(bE:Nat->Option (List UInt8)):(jJ aq bE).d3.length=aq.d3.length:=acp _ _
def aeM(aq:b3)(bE:Nat->Option (List UInt8)):(jJ aq bE).dp=λ_=>I:=rfl
def aeN(aq:b3)(bE:Nat->Option (List UInt8)):(jJ aq bE).dW=aq.dW:=rfl
def Rc(aq:b3)(bE:Nat->Option (List UInt8))(s:Nat):(jJ aq bE).lg s=if(bE s).isSome then U else aq.lg s:=rfl
def Rd(aq:b3)(bE:Nat->Option (List UInt8))(s:Nat):(jJ aq bE).d3[s]?=(aq.d3[s]?).map λx=>(bE s).getD x:=by
 unfold jJ b3.pv;rw[P1];cases aq.d3[s]? with
 |none=>rfl
 |some x=>cases h:bE s<;>simp[h]
def y3(aq:b3)(s:Nat)(bB:Bool)(aj:dQ):Prop:=if bB then aq.d3[s]?=E aj.e5/\aq.lg s=U else∃x,aq.d3[s]?=E x/\x.length=128/\xi x/\(aq.lg s=G\/x=jH)
structure Ep(c:dR)(au:eW)(ag:Nat)(aq:b3)(bB:Nat->Bool)(eM:Bool):Prop where
 dp:aq.dp=λ_=>I
 dW:aq.dW=eM
 t6:eM=G->∀s,bB s=U
 d3:∀s,s<c.e6->y3 aq s (bB s) (au.eQ c ag s)
structure hA(c:dR)(au:eW)(aG:List b3)(bB:Nat->Nat->Bool)(aB:Nat->Bool):Prop where
 ei:lv aG c
 cL:au.bp c
 ih:∀(ag:Nat)(aq:b3),aG[ag]?=E aq->Ep c au ag aq (bB ag) (aB ag)
section
def Er(h:c.bp):fg c<=33:=by have:=Qz h;unfold fg;omega
def xu(a:j<c.cY)(al:i<c.aJ):1+j*c.aJ+i<fg c:=by have:(j+1)*c.aJ<=c.cY*c.aJ:=mw _ a;rw[iM]at this;unfold fg;omega
variable{au gg:eW}
def y4(a:j<c.cY)(al:i<c.aJ):au.eQ c ag (1+j*c.aJ+i)=(au.dh j).eQ i:=by
 have h:=xu a al;unfold eW.eQ;rw[if_neg A,if_pos h];have e:1+j*c.aJ+i-1=i+c.aJ*j:=by rw[Nat.mul_comm c.aJ j];omega
 rw[e,Nat.add_mul_div_left _ _ A,Nat.add_mul_mod_self_left,Nat.div_eq_of_lt al,Nat.mod_eq_of_lt al,gQ]
def xv:au.eQ c ag (fg c+t)=jw c au t ag:=by unfold eW.eQ;rw[if_neg (by unfold fg;omega),if_neg A,Nat.add_sub_cancel_left]
def Bf{l:List kC}(b:1<=c.aJ)(d:l.length=c.aJ)(a:ag<c.aR):(xt c l ag).length=108:=by unfold xt eR.rX;rw[gp,e1,qD a];simp only[m1,om];unfold sU;simp
def wb(h:au.bp c)(a:c.bp)(e:ag<c.aR)(ao:s<c.e6):(au.eQ c ag s).bp:=by
 have i:=a.i6;have f:=a.kh;have j:=a.jY;have k:=a.jZ;unfold eW.eQ;split
 ·exact HO c A
 ·rename_i l;split
  ·rename_i b;have g:(s-1)/c.aJ<c.cY:=by rw[Nat.div_lt_iff_lt_mul A];unfold fg at b;omega
   obtain⟨aow,aoE,_⟩:=h.t5 _ g;exact iX.wb (iL (Nat.mod_lt _ A) A) A aoE
  ·rename_i b;have d:s-fg c<c.bd:=by unfold dR.e6 at ao;unfold fg at*;omega
   obtain⟨et,gb⟩:=h.v0 _ d;exact⟨by simp[jw],by simp[jw],by simp[jw],by simp[jw];omega,by simp[jw],by simp[jw];omega,by simp[jw],by simp[jw];omega,Bf f (h.wc _ d) e⟩
def hA.ec(h:hA c au aG bB aB)(e:aG[ag]?=E aq)(ao:s<c.e6){kind bj f:Int}(k:e0 (au.eQ c ag s) kind bj f=G):ec aq s kind bj f=if bB ag s then E (au.eQ c ag s)else I:=by
 have g:=(fi.1 e).1;rw[h.ei.aR]at g;have b:=h.ih ag aq e;have a:=b.d3 s ao;have i:∀x,aq.d3[s]?=E x->aq.j5 s=x:=by intro x d;unfold b3.j5;rw[b.dp,gp,d];rfl
 unfold Go.Proofs.YtepeilglbedgdaaGreatDoor.ec;cases l:aq.dW with
 |true=>
  rw[b.t6 (by rw[<-b.dW];exact l) s];rfl
 |false=>
  simp only[fc,if_false];unfold y3 at a;cases j:bB ag s with
  |true=>
   rw[j]at a;rw[i _ a.1,ac8 (wb h.cL h.ei.cL g ao)];simp[Option.filter,k]
  |false=>
   rw[j]at a;obtain⟨x,d,m,n,_⟩:=a;rw[i _ d,ac9 m n];rfl
end
def he(aG fo:List b3)(aj:Nat->b3->b3):Prop:=fo.length=aG.length/\∀(ag:Nat)(aq:b3),aG[ag]?=E aq->fo[ag]?=E (aj ag aq)
def he.b0(aG:List b3):he aG aG λ_ aq=>aq:=⟨rfl,λ_ _ h=>h⟩
def he.hu{aj g:Nat->b3->b3}(h:he aG fo aj)(e:∀ag aq,aG[ag]?=E aq->aj ag aq=g ag aq):he aG fo g:=⟨h.1,λag aq a=>by rw[h.2 ag aq a,e ag aq a]⟩
def he.tG{aj:Nat->b3->b3}(h:he aG fo aj)(al:aG[i]?=E aq):he aG (fo.set i gX) λag a=>if ag=i then gX else aj ag a:=by
 refine⟨by rw[i9];exact h.1,λag a c=>?_⟩;have d:=(fi.1 al).1;show _=E (if ag=i then gX else aj ag a);rw[pT];by_cases b:i=ag
 ·subst b;rw[if_pos rfl,if_pos (by rw[h.1];exact d),if_pos rfl]
 ·rw[if_neg b,if_neg (Ne.symm b)];exact h.2 ag a c
def he.Re{aj:Nat->b3->b3}(h:he aG fo aj)(b:fo[ag]?=E gX):∃aq,aG[ag]?=E aq/\gX=aj ag aq:=by have a:=(fi.1 b).1;rw[h.1]at a;refine⟨aG[ag],cr a,?_⟩;have:=h.2 ag _ (cr a);rw[b]at this;exact re this
def he.ei{aj:Nat->b3->b3}(h:he aG fo aj)(a:lv aG c)(d:∀ag aq,aG[ag]?=E aq->(aj ag aq).d3.length=aq.d3.length):lv fo c:=by refine⟨a.cL,by rw[h.1];exact a.aR,λgX e=>?_⟩;obtain⟨ag,f⟩:=List.getElem?_of_mem e;obtain⟨aq,b,rfl⟩:=h.Re f;rw[d ag aq b];exact a.cP aq (gP b)
def he.cH{aj:Nat->b3->b3}(h:he aG fo aj)(b:∀ag aq,aG[ag]?=E aq->(aj ag aq).dW=aq.dW):Go.Proofs.YtepeilglbedgdaaGreatDoor.cH fo=Go.Proofs.YtepeilglbedgdaaGreatDoor.cH aG:=by unfold Go.Proofs.YtepeilglbedgdaaGreatDoor.cH rP;rw[h.1];refine List.filter_congr λag c=>?_;have a:=iK.1 c;rw[h.2 ag _ (cr a),cr a];simp[b ag _ (cr a)]
def H4(aG:List b3):(cH aG).length<=aG.length:=by have:=List.length_filter_le (λi=>match aG[i]? with|some aq=>!aq.dW|none=>U) (c9 aG.length);rwa[uw]at this
def H5(aG:List b3):(cH aG).Nodup:=List.nodup_range.filter _
def t7{l:List Nat}(b:l.Nodup)(a:ak<l.length)(ag:Nat):ag∈l.take (ak+1)↔ag=l[ak]\/ag∈l.take ak:=by rw[jO a,b4,ku,or_comm]
def xw{l:List Nat}(a:l.Nodup)(b:ak<l.length):l[ak]∉l.take ak:=by intro h;obtain⟨i,al,e⟩:=ns h;rw[List.getElem_take]at e;rw[ea]at al;have:=(List.getElem_inj (i:=i) (j:=ak) (h₀:=A) (h₁:=b) a).1 e;omega
section
variable{bE:Nat->Nat->Option (List UInt8)}
variable{au gg:eW}
def hA.dt(h:hA c au aG bB aB)(m:gg.bp c)(ao:he aG fo λag aq=>if aq.dW then aq else jJ aq (bE ag))
  (n:∀ag s b,ag<c.aR->s<c.e6->bE ag s=E b->b=(gg.eQ c ag s).e5) (o:∀ag s,ag<c.aR->s<c.e6->bE ag s=I->bB ag s=G->gg.eQ c ag s=au.eQ c ag s):
  hA c gg fo (λag s=>!aB ag&&((bE ag s).isSome||bB ag s)) aB:=by
 refine⟨ao.ei h.ei (λag aq _=>by split<;>simp[aeL]),m,λag gX p=>?_⟩;obtain⟨aq,i,rfl⟩:=ao.Re p;have a:=h.ih ag aq i;have k:ag<c.aR:=by rw[<-h.ei.aR];exact(fi.1 i).1
 have y:=h.ei.cP aq (gP i);cases l:aq.dW with
 |true=>
  have e:aB ag=G:=by rw[<-a.dW];exact l
  simp only[if_true];refine⟨a.dp,a.dW,λ_ s=>by rw[e];rfl,λs f=>?_⟩;have:=a.d3 s f;rw[a.t6 e s]at this;rw[e];exact this
 |false=>
  have e:aB ag=U:=by rw[<-a.dW];exact l
  simp only[fc,if_false];refine⟨aeM _ _,by rw[aeN];exact a.dW,λq=>absurd q (by rw[e];simp),λs f=>?_⟩;have d:=a.d3 s f;have r:aq.d3[s]?=E (aq.d3[s]'A):=cr A;rw[e];unfold y3 at d⊢;cases g:bE ag s with
  |some b=>
   simp only[vu,lE,Bool.true_or,Bool.and_self,if_true];rw[Rd,r,Rc,g];exact⟨by rw[<-n ag s b k f g];rfl,rfl⟩
  |none=>
   simp only[wH,lE,Bool.false_or,pV];rw[Rd,Rc,g];cases j:bB ag s with
   |true=>
    rw[j]at d;simp only[if_true]at d⊢;rw[d.1];exact⟨by rw[o ag s k f g j];rfl,by simpa using d.2⟩
   |false=>
    rw[j]at d;simp only[fc,if_false]at d⊢;obtain⟨x,t,u,v,w⟩:=d;refine⟨x,by rw[t];rfl,u,v,by simpa using w⟩
end
def H6:eH C 211 294 108 eL (λb=>b6 (eL b).toArray):=eH.rx At CU nG Li
def j1(x:iX)(aa:S):List S:=[F H x.L,F H x.e4,aa]
def mS(x:iX)(aa:S):S:=b6 (j1 x aa).toArray
section
def Bg(e:aa.cells=#[aa])(k:∀a,aC a w.heap.size 310 (j1 x aa)->Q [] w a->a.heap.size=w.heap.size+1->ac (aE (E ⟨w.heap.size,0,I⟩)) a):W C (rk 310 (mS x aa)) w ac:=
 eA λa b c d=>k a (by simpa[mS,bF]using b) c d
def u0{ac:S->Prop}(h:aC w b 310 (j1 x aa)):aZ C (a4 310 (aE (E ⟨b,0,I⟩))) w ac↔ac (mS x aa):=gC CV h.cy
def rZ(h:aC w b 310 (j1 x aa)):(∀ac,aZ C (a4 3 (aE (E ⟨b,0,I⟩))) w ac↔ac (F H x.L))/\(∀ac,aZ C (a4 3 (aE (E ⟨b,1,I⟩))) w ac↔ac (F H x.e4))/\(∀ac,aZ C (a4 211 (aE (E ⟨b,2,I⟩))) w ac↔ac aa):=
 ⟨λ_=>bl bZ (h.bh (af:=0)),λ_=>bl bZ (h.bh (af:=1)),λ_=>bl Wg (h.bh (af:=2))⟩
def H7(b:c.bp)(ao:bj<c.cY)(al:i<c.aJ):a0 C 188 #[fQ c,F H bj,F H i] w λae a=>ae=F H ((1+bj*c.aJ+i:Nat):Int)/\Q [] w a:=by have h:=xu ao al;have j:=Er b;refine a9 .D 3 Tryz.func188 K rfl λa1 d=>?_;simp+decide only[↓a8,ba,Tryz.f188];subst d;refine kX λaA e f k=>?_;obtain⟨l,g,m,n,o⟩:=iV e;simp only[M,g];rw[<-uq];generalize bj*c.aJ=x at*;rw[bq (x:=(x:Int)) A A,bq (x:=1+(x:Int)) A A,bq A A];exact⟨B,f⟩
def aeO{d b g:Int}:C.built 317 #[(0,F H 2),(1,F H d),(2,F H b),(3,F H g)].toList=E (fa ⟨2,d,b,g,pt⟩).toArray:=K
def y5{aj:dQ}{ap:kC}(h:aC w b 317 (fa aj))(c:aj.hy.length=108)(k:∀a,aC a b 317 (fa {aj with hy:=ap.1})->Q [b] w a->ac bS a):W C (dC 293 (aE (E ⟨b,4,I⟩)) (b6 (eL ap).toArray)) w ac:=by refine f0 (cv:=[F H aj.a5,F H aj.lw,F H aj.e4,F H aj.g4]) (c5:=aj.hy.flatMap bs) (da:=[]) Ww (by simpa[fa]using h) rfl (by rw[qb,c]) (by simp[bF,nG]) (by simpa[bF]using Eo ap) λa d e f=>k a (by simpa[bF,fa,eL]using d) e
def Rf(c:aT w eL aa x.ii):a0 C 189 #[mS x aa,F H i] w λae a=>ae=iU (x.eQ i)/\Q [] w a:=by
 obtain⟨k,cC,rfl,p,q⟩:=c;have c:aT w eL (T k x.ii.length cC) x.ii:=⟨k,cC,rfl,p,q⟩;refine a9 (.L .D (.L .D (.bK [] .D .D))) 2 Tryz.func189 K rfl λa1 r=>?_;simp+decide only[↓a8,ba,Tryz.f189];subst r;refine Bg rfl λaA s t af=>nF λax u l ag=>?_;have m:=s.J l B;obtain⟨v,y,ah⟩:=rZ m;simp only[M,v,y];refine(bY aeO).2 (nF λai z d aj=>lT (g:=⟨2,i,x.e4,x.L,pt⟩) z hd hd λD n e ak=>?_);have f:Q [] w D:=((t.R l B).R d B).R e (by simp;omega);have J:=(m.J d B).J e (by simp;omega);have o:=(u.J d B).J e (by simp;omega);obtain⟨am,an,L⟩:=rZ J;generalize ao:aA.heap.size=R at*;generalize ap:ax.heap.size=V at*;refine bT (λW a=>W=[]/\aC a V 317 (fa (x.eQ i))/\aC a R 317 (fa hz)/\Q [] w a) ?_ ?_
 ·simp only[M,L,bi];refine⟨λaq=>?_,λar=>?_⟩
  ·have al:i<x.ii.length:=A;apply(H6.ek c f al).2;try simp only[M]
   refine y5 n hd λX h b=>⟨trivial,?_,o.J b (by simp;omega),f.R b (by simp;omega)⟩;unfold iX.eQ;rw[gp,cr al];exact h
  ·refine⟨trivial,?_,o,f⟩;unfold iX.eQ;rw[gp,jy A];exact n
 ·rintro _ _ X ⟨rfl,h,ab,b⟩;have j:(x.eQ i).hy.length=108:=(x.ii.getD i jL).2;exact(ly h j).2 (lT ab hd j λau ac ad av=>(ly ac j).2 ⟨rfl,b.R ad (by simp;omega)⟩)
def kD(c:dR)(bj:Nat)(x:iX)(i s:Nat):Option (List UInt8):=if 1+bj*c.aJ<=s/\s<1+bj*c.aJ+i then E (x.eQ (s-(1+bj*c.aJ))).e5 else I
def Rg:({aq with dp:=kD c bj x i}:b3).kW (1+bj*c.aJ+i) (x.eQ i).e5={aq with dp:=kD c bj x (i+1)}:=by
 unfold b3.kW;congr 1;funext s;simp only;by_cases h:s=1+bj*c.aJ+i
 ·rw[if_pos h];unfold kD;rw[if_pos A,show s-(1+bj*c.aJ)=i by omega]
 ·rw[if_neg h];unfold kD;by_cases a:1+bj*c.aJ<=s/\s<1+bj*c.aJ+i
  ·rw[if_pos a,if_pos A]
  ·rw[if_neg a,if_neg A]
def Rh(h:dH w ab aG am)(aI:lv aG c)(a2:∀aq∈aG,aq.dp=λ_=>I)(ao:bj<c.cY)(R:x.e4<=63)(V:x.L<=1152921504606846976)(a3:eo w am eL aa x.ii)(a4:aa.cells=#[aa]):
  a0 C 173 #[aP ab,fQ c,F H bj,mS x aa] w λae a=>ae=cT/\∃fo az,dH a ab fo az/\bX am az w a/\he aG fo λ_ aq=>if aq.dW then aq else jJ aq (kD c bj x c.aJ):=by
 have af:=h.aL;have ah:=aI.cL;have bC:c.aJ<=8:=by have:=ah.jY;have:=ah.i6;omega
 refine a9 Ns 4 Tryz.func173 K rfl λa1 ai=>?_;simp+decide only[↓a8,ba,Ns,Tryz.f173];subst ai;refine kX λaA a5 aJ bE=>Bg a4 λax a6 aL bG=>?_;have aj:=aJ.R aL B;refine t0 (h.V aj) λcB W X a7 an=>?_;have ar:=aj.R an B;have n:eo W am ew cB (dZ (cH aG)):=eo.cq (a:=ax) X (by intro ap;simp[ew]) a7 (λg au=>iL (af g au) aj.aI);have f:fb W am w.heap.size 25 (en c):=((fb.cq a5 af).V aL).V an;have j:fb W am aA.heap.size 310 (j1 x aa):=(fb.cq a6 (λg au=>iL (af g au) aJ.aI)).V an;generalize w.heap.size=aM at f;generalize aA.heap.size=aO at j;have ac:(dZ (cH aG)).length=(cH aG).length:=by simp[dZ]
 have bH:(cH aG).length<=8:=gz (H4 aG) h.dT.2;obtain⟨av,aw,rfl,_,_⟩:=id n.1;simp only[M];rw[ac];have n:eo W am ew (T av (cH aG).length aw) (dZ (cH aG)):=by rw[<-ac];exact n
 have D:=H5 aG;refine c1 (λo a=>∃(ak:Nat)(fo:List b3)(az:List Nat),o=[F H ak]/\ak<=(cH aG).length/\dH a ab fo az/\bX am az w a/\he aG fo (λag aq=>if ag∈(cH aG).take ak then{aq with dp:=kD c bj x c.aJ}else aq)/\eo a az eL aa x.ii/\fb a az aM 25 (en c)/\fb a az aO 310 (j1 x aa)/\eo a az ew (T av (cH aG).length aw) (dZ (cH aG)))
  (λo _=>match o with|[F _ ak]=>(cH aG).length-ak.toNat|_=>0) ⟨0,aG,am,rfl,A,h.V ar,.iu ar,(he.b0 aG).hu B,a3.V ar,f,j,n⟩ ?_
 clear f j n;rintro _ _ bb ⟨ak,fo,az,rfl,bc,k,p,b,y,f,j,q⟩;simp only[M,bi];refine⟨λbI=>?_,λbJ=>?_⟩
 ·have r:ak<(cH aG).length:=A;apply(xo.ek (l:=dZ (cH aG)) q.1 (Q.b0 _ _) A).2;obtain⟨aq,z,ay⟩:=sS.1 (dX r);rw[show(dZ (cH aG))[ak]'A=(((cH aG)[ak]:Nat):Int)by simp[dZ]];generalize aB:(cH aG)[ak]=ag at*;obtain⟨bd,aQ,be,bf,bg⟩:=iV f.1;simp only[M,aQ];refine c1 (λo a=>∃(i:Nat)(m:List b3)(cM:List Nat),o=[F H i]/\i<=c.aJ/\dH a ab m cM/\bX am cM w a/\he aG m (λe aq=>if e=ag then{aq with dp:=kD c bj x i}else if e∈(cH aG).take ak then{aq with dp:=kD c bj x c.aJ}else aq)/\eo a cM eL aa x.ii/\fb a cM aM 25 (en c)/\fb a cM aO 310 (j1 x aa)/\eo a cM ew (T av (cH aG).length aw) (dZ (cH aG)))
   (λo _=>match o with|[F _ i]=>c.aJ-i.toNat|_=>0) ⟨0,fo,az,rfl,A,k,p,b.hu (λe u t=>?_),y,f,j,q⟩ ?_
  ·by_cases d:e=ag
   ·subst d;rw[if_neg (by rw[<-aB];exact xw D r),if_pos rfl];have:=a2 u (gP t);have ai:kD c bj x 0=λ_=>I:=by funext s;unfold kD;rw[if_neg A]
    rw[ai,<-this]
   ·rw[if_neg d]
  clear k p b y f j q bd aQ be bf bg;rintro _ _ ad ⟨i,m,cM,rfl,al,k,p,b,y,f,j,q⟩;simp only[M,bi];refine⟨λbK=>?_,λbL=>?_⟩
  ·have aR:i<c.aJ:=A;refine(fj (bD f.1)).2 ((u0 (bD j.1)).2 (aH Gu (H7 ah ao aR) ?_));rintro _ bh ⟨rfl,bk⟩;have aC:=(cD [] ad).R bk B;refine(mE CV (j.V aC).1.cy).2 (aH LY (Rf (y.V aC).1) ?_);rintro _ bl ⟨rfl,bm⟩;have aS:=iX.wb (x:=x) (i:=i) A R V;refine Eb aS λbM bP bn bR bo=>?_;have aT:=(aC.R bm B).R bo B;have J:m[ag]?=E {aq with dp:=kD c bj x i}:=(b.2 ag aq z).trans (congrArg E (if_pos rfl));have aD:∀gX∈m,gX.d3.length=c.e6:=(b.ei aI (λe u _=>by split;rfl;split<;>rfl)).cP;have bp:=xu ao aR;refine Ea (k.V aT) J ay (λgX br=>by rw[aD gX br];exact(aD _ (gP J)).symm) (by rw[aD _ (gP J)];unfold dR.e6;unfold fg at bp;omega) aS bn λcd bs aU bt=>?_;rw[Rg]at aU;have L:=bt.mN aT;apply(fp dk).2;simp only[M];rw[bq A A];refine⟨⟨i+1,_,bs,rfl,A,aU,p.dP L,(b.tG z).hu (λe u t=>?_),y.de L,f.de L,j.de L,q.de L⟩,by simp;omega⟩;by_cases d:e=ag
   ·subst d;rw[z]at t;cases t;rw[if_pos rfl,if_pos rfl]
   ·rw[if_neg d,if_neg d,if_neg d]
  ·obtain rfl:i=c.aJ:=A;rw[bq A A];refine⟨⟨ak+1,m,cM,rfl,A,k,p,b.hu (λe u _=>?_),y,f,j,q⟩,by simp;omega⟩;by_cases d:e=ag
   ·subst d;rw[if_pos rfl,if_pos ((t7 D r _).2 (Y aB.symm))]
   ·rw[if_neg d];by_cases v:e∈(cH aG).take ak
    ·rw[if_pos v,if_pos ((t7 D r _).2 (Z v))]
    ·rw[if_neg v,if_neg (λh=>((t7 D r _).1 h).elim (λh=>d (h.trans aB)) v)]
 ·obtain rfl:ak=(cH aG).length:=A;rw[j3]at b;have bu:cH fo=cH aG:=b.cH (λe u _=>by split<;>rfl);refine t0 k λcB ad X bv aV=>?_;rw[bu]at X;have n:eo ad az ew cB (dZ (cH aG)):=eo.cq (a:=bb) X (by intro ap;simp[ew]) bv k.aL;obtain⟨aW,aX,rfl,_,_⟩:=id n.1;simp only[M];rw[ac];have n:eo ad az ew (T aW (cH aG).length aX) (dZ (cH aG)):=by rw[<-ac];exact n
  refine c1 (λo a=>∃(ak:Nat)(m:List b3)(cM:List Nat),o=[F H ak]/\ak<=(cH aG).length/\dH a ab m cM/\bX am cM w a/\he aG m (λag aq=>if ag∈(cH aG).take ak then jJ aq (kD c bj x c.aJ)else if ag∈cH aG then{aq with dp:=kD c bj x c.aJ}else aq)/\eo a cM ew (T aW (cH aG).length aX) (dZ (cH aG)))
   (λo _=>match o with|[F _ ak]=>(cH aG).length-ak.toNat|_=>0) ⟨0,fo,az,rfl,A,k.V aV,p.oM aV,b.hu B,n⟩ ?_
  clear k p b y f j q n;rintro _ _ bh ⟨ak,m,cM,rfl,bc,k,p,b,q⟩;simp only[M,bi];refine⟨λbT=>?_,λbU=>?_⟩
  ·have r:ak<(cH aG).length:=A;refine(xo.ek (l:=dZ (cH aG)) q.1 (Q.b0 _ _) A).2 ?_;obtain⟨aq,z,ay⟩:=sS.1 (dX r);have bw:(cH aG)[ak]∈cH aG:=dX r;rw[show(dZ (cH aG))[ak]'A=(((cH aG)[ak]:Nat):Int)by simp[dZ]];have bx:=xw D r;have aF:=λe=>t7 D r e;generalize(cH aG)[ak]=ag at*;have J:m[ag]?=E {aq with dp:=kD c bj x c.aJ}:=(b.2 ag aq z).trans (congrArg E ((if_neg bx).trans (if_pos bw)));refine A0 k J ay λbl bz bB aY=>(fp dk).2 ?_;simp only[M];rw[bq A A];refine⟨⟨ak+1,_,bz,rfl,A,bB,p.dP aY,(b.tG z).hu (λe u t=>?_),q.de aY⟩,by simp;omega⟩;by_cases d:e=ag
   ·subst d;rw[z]at t;cases t;rw[if_pos rfl,if_pos ((aF _).2 (Y rfl))];rfl
   ·rw[if_neg d];by_cases v:e∈(cH aG).take ak
    ·rw[if_pos v,if_pos ((aF _).2 (Z v))]
    ·rw[if_neg v,if_neg (λh=>((aF _).1 h).elim d v)]
  ·obtain rfl:ak=(cH aG).length:=A;refine⟨rfl,m,cM,k,p,b.hu (λe u t=>?_)⟩;rw[j3];cases aZ:u.dW with
   |true=>
    have:e∉cH aG:=λh=>by obtain⟨bV,R,V⟩:=sS.1 h;rw[t]at R;cases R;rw[aZ]at V;cases V
    rw[if_neg this,if_neg this,if_pos rfl]
   |false=>
    rw[if_pos (sS.2 ⟨u,t,aZ⟩)];rfl
end
def Ri{d:Nat}:((d:Int)).tmod (b:Int)=((d%b:Nat):Int):=by rw[Int.tmod_eq_emod_of_nonneg A];rfl
section
def aeP(h:dH w ab aG am)(d:lv aG c)(y:∀aq∈aG,aq.dp=λ_=>I)(ak:2<=x.L)(al:x.e4<c.bd)(z:x.L<=1152921504606846976)(D:x.ii.length=c.aJ)(m:eo w am eL aa x.ii):
  a0 C 253 #[aP ab,fQ c,mS x aa] w λae a=>ae=cT/\∃fo az,dH a ab fo az/\bX am az w a/\he aG fo λ_ aq=>if aq.dW then aq else jJ aq (kD c (x.L%c.cY) x c.aJ):=by
 have J:=h.aL;have n:=d.cL;have an:=n.jZ;have ao:=n.kk;obtain⟨L,cC,rfl,_,_⟩:=id m.1;refine a9 N1 3 Tryz.func253 K rfl λa1 R=>?_;simp+decide only[↓a8,ba,N1,Tryz.f253];subst R;refine kX λaA i V ap=>Bg rfl λax o f ar=>?_;have p:=V.R f B;refine bT (λW a=>W=[aK U]/\Q [] ax a) ?_ ?_
 ·refine(fj (i.J f B)).2 (yT (h.V p) d λj b=>?_);have g:=(i.J f B).J b B;have e:=o.J b B;obtain⟨X,q,ac,r,s⟩:=iV g;obtain⟨k,t,u⟩:=rZ e;simp only[M,hq,k,t,u,q,r,D];rw[decide_eq_false (show¬((x.L:Int)<2)by omega),decide_eq_false (show¬((1152921504606846976:Int)<x.L)by omega),decide_eq_false (show¬((x.e4:Int)<0)by omega),decide_eq_false (show¬((c.bd:Int)<=x.e4)by omega)];simp only[M,ne_eq,not_true_eq_false,decide_false];exact⟨by trivial,b⟩
 ·rintro _ _ j ⟨rfl,b⟩;have ad:=p.R b B;have g:=(i.J f B).J b B;have e:=o.J b B;obtain⟨X,q,ac,r,s⟩:=iV (bD g);obtain⟨k,t,u⟩:=rZ (bD e);simp only[M,k,s];refine(fj (bD g)).2 ((vE A).2 ?_);rw[Ri];apply(u0 (bD e)).2;have ag:x.L%c.cY<c.cY:=Nat.mod_lt _ A;have l:Q [] w j.drew:=ad.h6;apply aH LP (Rh (h.V l) d y ag A z (m.V l) rfl);rintro _ au ⟨rfl,fo,az,ah,v,ai⟩;have aj:fb j.drew am aA.heap.size 310 (j1 x (T L x.ii.length cC)):=⟨bD e,λd=>by have:=J _ d;omega⟩;exact(dz bZ ((aj.de v).1.bh (af:=0))).2 (tZ ⟨rfl,fo,az,ah,v.mN l,ai⟩)
def Rj(h:dH w ab aG am)(f:lv aG c)(ao:bj<c.cY):a0 C 172 #[aP ab,fQ c,F H bj] w λae a=>ae=aK G/\Q [] w a:=by refine a9 .D 3 Tryz.func172 K rfl λa1 g=>?_;simp+decide only[↓a8,ba,Tryz.f172];subst g;refine kX λaA b d j=>?_;refine(fj b).2 ?_;refine yT (h.V d) f λax e=>?_;obtain⟨k,l,m,n,i⟩:=iV (b.J e B);simp only[M,i];rw[decide_eq_true (show(0:Int)<=(bj:Int)by omega)];simp only[M];rw[decide_eq_true (show(bj:Int)<(c.cY:Int)by omega)];exact⟨rfl,d.R e B⟩
def aeQ(h:dH w ab aG am)(b:lv aG c)(i:∀aq∈aG,aq.dp=λ_=>I)(ao:bj<c.cY):
  a0 C 122 #[aP ab,fQ c,F H bj] w λae a=>ae=cT/\∃fo az,dH a ab fo az/\bX am az w a/\he aG fo λ_ aq=>if aq.dW then aq else jJ aq (kD c bj ⟨0,0,[]⟩ c.aJ):=by
 refine a9 .D 3 Tryz.func122 K rfl λa1 j=>?_;simp+decide only[↓a8,ba,Tryz.f122];subst j;refine kX λaA d e n=>(fj d).2 (aH LO (Rj (h.V e) b ao) ?_);rintro _ ax ⟨rfl,f⟩;simp only[M,hq];refine(fj (d.J f B)).2 ((bY (gT:=(j1 ⟨0,0,[]⟩ (T I 0 0)).toArray) K).2 ?_);have g:=e.R f B;apply aH LP (Rh (x:=⟨0,0,[]⟩) (h.V g) b i ao B B eo.D rfl);rintro _ o ⟨rfl,fo,az,k,l,m⟩;exact tZ ⟨rfl,fo,az,k,l.mN g,m⟩
def jk(au:eW)(bj i:Nat):dQ:=(au.dh bj).eQ i
def qg(au:eW)(bj i:Nat):(jk au bj i).hy.length=108:=((au.dh bj).ii.getD i jL).2
def mo(c:dR)(bB:Nat->Nat->Bool)(bj i ag:Nat):Bool:=bB ag (1+bj*c.aJ+i)
variable{au gg:eW}
def Rk{ap:Bool}(h:dH w ab aG am)(q:lv aG c)(z:au.bp c)(r:aG[ag]?=E aq)(ao:bj<c.cY)(al:i<c.aJ)(D:ec aq (1+bj*c.aJ+i) 2 i (-1)=if ap then E ((au.dh bj).eQ i)else I):
  a0 C 186 #[aP ab,fQ c,F H ag,F H bj,F H i] w λae a=>ae=bQ #[iU (if ap then jk au bj i else hz),aK ap]/\Q [] w a:=by
 have j:=q.cL;have aD:=j.kk;have aF:=j.jZ;have J:=xu ao al;have L:1+bj*c.aJ+i<c.e6:=by unfold dR.e6;unfold fg at J;omega
 refine a9 (.L .D (.L .D (.L (.bK [52] .D .D) .D))) 5 Tryz.func186 K rfl λa1 R=>?_;simp+decide only[↓a8,ba,Tryz.f186];subst R;refine kX λaA s V aI=>nF λax W k aJ=>(fj (s.J k B)).2 (aH Gu (H7 j ao al) ?_);rintro _ aL ⟨rfl,e⟩;have t:=(V.R k B).R e B;refine HK (h.V t) r (by rw[q.cP _ (gP r)];exact L) λX f=>?_;rw[D];have aa:((if ap=G then E ((au.dh bj).eQ i)else I).getD hz)=if ap then jk au bj i else hz:=by unfold jk;split<;>rfl
 have ac:(if ap=G then E ((au.dh bj).eQ i)else I).isSome=ap:=by cases ap<;>rfl
 rw[aa,ac];simp only[cV,cX];have b:(if ap then jk au bj i else hz).hy.length=108:=by split;exact qg _ _ _;exact hd
 refine nF λaM ad l aO=>lT ad hd b λu d m aQ=>?_;have v:=t.R f B;have aR:=v.aI;have x:Q [] w u:=(v.R l B).R m (by simp;omega);have aS:aA.heap.size<X.heap.size:=by have:=e.aI;have:=f.aI;omega
 have y:=(((W.J e B).J f B).J l B).J m (by simp;omega);have af:=((((s.J k B).J e B).J f B).J l B).J m (by simp;omega);obtain⟨aow,aoE,ah⟩:=z.t5 bj ao;refine bT (λai a=>ai=[aK (!ap)]/\u=a) ?_ ?_
 ·cases n:ap with
  |false=>
   simp only[M,lE];exact⟨by trivial,by trivial⟩
  |true=>
   rw[n]at d;simp only[if_true]at d;obtain⟨aT,aU,aj,ak⟩:=uW d;obtain⟨aV,aW,aX,an,ar⟩:=iV af;have av:(jk au bj i).e4=((au.dh bj).e4:Nat):=rfl;have aw:(jk au bj i).g4=((au.dh bj).L:Nat):=rfl;simp only[M,hq,aj,ak,an,ar,av,aw];rw[decide_eq_false (show¬((c.bd:Int)<=((au.dh bj).e4:Nat))by omega)];simp only[M];rw[decide_eq_false (show¬((((au.dh bj).L:Nat):Int)=1)by omega)];simp only[M,bi];refine⟨λay=>?_,λay=>⟨by trivial,by trivial⟩⟩;apply(vE A).2;rw[Ri];simp only[M];refine⟨?_,by trivial⟩;rcases ah with⟨aY,_⟩|⟨_,az,_⟩
   ·omega
   ·rw[az];simp
 ·rintro _ _ _ ⟨rfl,rfl⟩;cases n:ap with
  |false=>
   simp only[M,lE];exact(bY D2).2 (lT (g:=hz) y hd hd λaB o p aC=>(ly o hd).2 ⟨rfl,x.R p (by simp;omega)⟩)
  |true=>
   rw[n]at d b;simp only[if_true]at d b;simp only[M,hq,if_true];exact(ly d b).2 (lT y hd b λaB o p aC=>(ly o b).2 ⟨rfl,x.R p (by simp;omega)⟩)
def aeR(h:dH w ab aG am)(b:hA c au aG bB aB)(e:ag<c.aR)(ao:bj<c.cY)(al:i<c.aJ):
  a0 C 186 #[aP ab,fQ c,F H ag,F H bj,F H i] w λae a=>ae=bQ #[iU (if mo c bB bj i ag then jk au bj i else hz),aK (mo c bB bj i ag)]/\Q [] w a:=by
 have eu:ag<aG.length:=by rw[b.ei.aR];exact e
 have d:aG[ag]?=E aG[ag]:=cr eu;have f:=xu ao al;have j:=b.ei.cL.jZ;have g:1+bj*c.aJ+i<c.e6:=by unfold dR.e6;unfold fg at f;omega
 exact Rk h b.ei b.cL d ao al (by rw[b.ec d g (by rw[y4 ao al];simp[e0,iX.eQ]),y4 ao al];rfl)
end
abbrev xx:={aj:dQ//aj.hy.length=108}
def jx(aj:xx):List S:=fa aj.1
def qh(aj:xx):(jx aj).length=112:=pu aj.2
def Rl(aj:xx):∀ae∈jx aj,ae.oneCell'=G:=Qo aj.1
def Rm:eH C 311 317 112 jx (λaj=>iU aj.1):=eH.rx Au Ap qh tN
def Rn:∃bm,hO C 311 317 112 144 bm:=⟨iU hz,Au,Ap,K,by unfold du;kernel_rfl,K,A⟩
def H8:∃bm,hO C 211 294 108 108 bm:=⟨b6 (eL jL).toArray,At,CU,K,by unfold du;kernel_rfl,K,A⟩
section
variable{au gg:eW}
def aeS(h:dH w ab aG am)(n:hA c au aG bB aB)(ao:bj<c.cY)(al:i<c.aJ):
  a0 C 235 #[aP ab,fQ c,F H bj,F H i] w λae a=>aT a jx ae (cN (bV (mo c bB bj i) c.aR) ⟨jk au bj i,qg au bj i⟩)/\gx w.heap.size ae/\Q [] w a:=by
 have ah:=n.ei.cL.i6;obtain⟨bm,z⟩:=Rn;refine a9 NT 4 Tryz.func235 K rfl λa1 D=>?_;simp+decide only[↓a8,ba,NT,Tryz.f235];subst D;refine kX λaA o j ai=>?_;obtain⟨ak,an,J,ap,aq⟩:=iV o;simp only[M,J];let aj:xx:=⟨jk au bj i,qg au bj i⟩;apply c1 (λb a=>∃(ag:Nat)(aa:S),b=[aa,F H ag]/\ag<=c.aR/\hn aA a 317 112 jx aa (cN (bV (mo c bB bj i) ag) aj)/\Q [] aA a) (λb _=>match b with|[_,F _ ag]=>c.aR-ag.toNat|_=>0) ⟨0,_,rfl,A,hn.D _ _ _ _ _,Q.b0 _ _⟩;rintro _ _ ax ⟨ag,aa,rfl,ar,k,d⟩;simp only[M,bi];refine⟨λav=>?_,λaw=>?_⟩
 ·have p:ag<c.aR:=A;have ay:=yU (mo c bB bj i) ag;refine bT (λb a=>∃aa,b=[aa]/\hn aA a 317 112 jx aa (cN (bV (mo c bB bj i) (ag+1)) aj)/\Q [] aA a) ?_ ?_
  ·refine(fj (o.J d B)).2 (aH LX (aeR (h.V (j.R d B)) n p ao al) ?_);rintro _ L ⟨rfl,e⟩;simp only[cV,cX];have f:(if mo c bB bj i ag then jk au bj i else hz).hy.length=108:=by split;exact qg _ _ _;exact hd
   refine nF λaz R q aC=>lT R hd f λr l s aF=>?_;have t:=d.R e B;have aI:=t.aI;have u:Q [] aA r:=(t.R q B).R s (by simp;omega);have v:hn aA r 317 112 jx aa (cN (bV (mo c bB bj i) ag) aj):=by obtain⟨aD,y,V⟩:=(k.V e);have:=y.aL;exact⟨aD,(y.J q B).J s (λg m W=>by have:=this g m;simp at W;omega),V⟩
   rw[uX];cases m:mo c bB bj i ag with
   |false=>
    simp only[M,fc,if_false,qA];exact⟨aa,rfl,v,u⟩
   |true=>
    rw[m]at l f;simp only[if_true]at l f;simp only[M,if_true];apply(ly l f).2;have aJ:(cN (bV (mo c bB bj i) ag) aj).length<=8:=by simp;omega
    exact hn.yQ z v u (x:=aj) qh (by simp[iU,bF,aj,jx]) (Rl aj) A (by unfold d0;omega) A λdd aL X ac=>⟨dd,rfl,by rw[List.replicate_succ'];exact X,ac⟩
  ·rintro _ _ L ⟨ad,rfl,af,e⟩;simp only[M];rw[bq A A];exact⟨⟨ag+1,ad,rfl,p,af,e⟩,by simp;omega⟩
 ·obtain rfl:ag=c.aR:=A;exact⟨k.eF qh A,k.AW.bw j.aI,j.R d B⟩
end
def aeT:hO C 392 311 1 24 (T I 0 0):=WY
def t8(aa:S):List S:=[aa]
def aeU:eH C 392 311 1 t8 (λaa=>aa):=eH.aW Gd Wk Wj
section
def aeV{g:Int}:C.built 310 #[(0,F H g)].toList=E #[F H g,F H 0,T I 0 0]:=K
def wd(k:∀a,aC a w.heap.size 310 (j1 ⟨0,0,[]⟩ (T I 0 0))->Q [] w a->a.heap.size=w.heap.size+1->ac (aE (E ⟨w.heap.size,0,I⟩)) a):W C (hV 310) w ac:=by
 have b:du C 310 (mS ⟨0,0,[]⟩ (T I 0 0)):=by unfold du;kernel_rfl
 exact gI b λa c d b=>k a (by simpa[mS,bF]using c) d b
def we{l:List S}{ap:iX}(h:aC w b 310 l)(c:l.length=3)(d:ae.oneCell'=G)(k:∀a,aC a b 310 (j1 ap ae)->Q [b] w a->a.heap.size=w.heap.size->ac bS a):W C (dC 310 (aE (E ⟨b,0,I⟩)) (mS ap ae)) w ac:=by refine f0 (cv:=[]) (c5:=l) (da:=[]) yj (by simpa using h) rfl c (by simp[mS,bF,j1]) (by simp[mS,bF,j1];exact⟨rfl,rfl,d⟩) λa e f g=>k a (by simpa[mS,bF]using e) f g
def lW(au:eW)(bj i:Nat):List kC:=(c9 i).map λi=>(au.dh bj).ii.getD i jL
def aeW(au:eW)(bj i:Nat):lW au bj (i+1)=lW au bj i++[(au.dh bj).ii.getD i jL]:=by unfold lW;rw[nK,g6];rfl
def Ro(au:eW)(bj i:Nat):(lW au bj i).length=i:=by simp[lW]
def Rp(w:aN)(au:eW)(bj:Nat)(aF:List S)(n:Nat->Nat):Prop:=∀i,(h:i<aF.length)->aT w jx aF[i] (cN (n i) ⟨jk au bj i,qg au bj i⟩)/\0<n i/\n i<=8
variable{au gg:eW}
def aeX{aF:List S}{n:Nat->Nat}(ag:aT w t8 cB aF)(e:Rp w au bj aF n)(y:aF.length<=8):
  a0 C 236 #[cB,F H (au.dh bj).L] w λae a=>∃b1 aX,ae=bQ #[mS ⟨(au.dh bj).L,aX,[]⟩ b1,aK G]/\(0<aF.length->aX=(au.dh bj).e4)/\aT a eL b1 (lW au bj aF.length)/\gx w.heap.size b1/\Q [] w a:=by
 obtain⟨bn,az⟩:=H8;obtain⟨bo,bp,rfl,_,_⟩:=id ag;refine a9 NU 2 Tryz.func236 K rfl λa1 aB=>?_;simp+decide only[↓a8,ba,NU,Tryz.f236];subst aB;refine wd λaA aG aH br=>(bY aeV).2 (wd λax aI ah bs=>we (ap:=⟨(au.dh bj).L,0,[]⟩) (ae:=T I 0 0) aI rfl rfl λb aJ ai bt=>?_);have aj:Q [] w b:=(aH.R ah B).R ai (by simp;omega);have aL:=(aG.J ah B).J ai (by simp;omega);generalize bu:w.heap.size=bv at*;generalize bw:aA.heap.size=d at*;have bx:b.heap.size=d+1:=A;simp only[M];refine c1 (λc a=>∃(i aX:Nat)(b1:S),c=[F H i]/\i<=aF.length/\(0<i->aX=(au.dh bj).e4)/\aC a d 310 (j1 ⟨(au.dh bj).L,aX,[]⟩ b1)/\hn b a 294 108 eL b1 (lW au bj i)/\Q [d] b a) (λc _=>match c with|[F _ i]=>aF.length-i.toNat|_=>0)
  ⟨0,0,T I 0 0,rfl,A,A,aJ,hn.D _ _ _ _ _,Q.b0 _ _⟩ ?_
 rintro _ _ aM ⟨i,aX,b1,rfl,al,m,L,q,z⟩;have ak:Q [] w aM:=aj.R z (by simp;omega);simp only[M,bi];refine⟨λbz=>?_,λbB=>?_⟩
 ·have am:i<aF.length:=A;obtain⟨D,R,bC⟩:=e i am;apply(aeU.ek ag ak am).2;obtain⟨bE,bG,aO,_,_⟩:=id D;rw[aO]at D⊢;simp only[tt]at D⊢;simp only[M];refine c1 (λc a=>∃(j aX:Nat)(b1:S),c=[aK (decide (0<j)),F H j]/\j<=n i/\(0<i\/0<j->aX=(au.dh bj).e4)/\aC a d 310 (j1 ⟨(au.dh bj).L,aX,[]⟩ b1)/\hn b a 294 108 eL b1 (lW au bj (if 0<j then i+1 else i))/\Q [d] b a) (λc _=>match c with|[_,F _ j]=>n i-j.toNat|_=>0)
   ⟨0,aX,b1,rfl,A,by intro h;exact m A,L,by simpa using q,z⟩ ?_
  clear m L q z;rintro _ _ r ⟨j,aX,b1,rfl,bH,m,s,V,o⟩;have aP:Q [] w r:=aj.R o (by simp;omega);simp only[M,bi];refine⟨λbI=>?_,λbJ=>?_⟩
  ·have aQ:j<n i:=A;refine bT (λc a=>∃(aX:Nat)(b1:S),c=[aK G]/\(aX=(au.dh bj).e4)/\aC a d 310 (j1 ⟨(au.dh bj).L,aX,[]⟩ b1)/\hn b a 294 108 eL b1 (lW au bj (i+1))/\Q [d] b a) ?_ ?_
   ·apply(Rm.ek (l:=cN (n i) ⟨jk au bj i,qg au bj i⟩) (by simpa using D) aP (by simpa using aQ)).2;simp only[List.getElem_replicate];refine nF λaR W X bK=>lT W hd (qg au bj i) λt aa aS bL=>?_;have bM:=o.aI;have ab:Q [r.heap.size] r t:=(X.bw B).R aS B;have bR:=s.aL;have ad:=s.J ab (by simp;omega);have J:hn b t 294 108 eL b1 (lW au bj (if 0<j then i+1 else i)):=by obtain⟨aD,k,f⟩:=V;have:=k.aL;exact⟨aD,k.J ab (λg e p=>by have:=this g e;simp at p;omega),f⟩
    have an:Q [d] b t:=o.R ab (by simp;omega);obtain⟨bU,bV,aU,aV⟩:=uW aa;obtain⟨bW,aW,bX⟩:=rZ ad;generalize b0:r.heap.size=ao at*;have aY:(jk au bj i).e4=((au.dh bj).e4:Nat):=rfl;have a2:(jk au bj i).g4=((au.dh bj).L:Nat):=rfl;refine bT (λc a=>c=[aK (decide (0<j))]/\t=a) ?_ ?_
    ·refine⟨λu=>⟨by rw[decide_eq_true u],by trivial⟩,λb2=>?_⟩;obtain rfl:j=0:=A;simp only[M,aU,aV,aW,aY,a2];rw[show decide ((((au.dh bj).L:Nat):Int)≠((au.dh bj).L:Nat))=U by simp];simp only[M];refine⟨λa3=>⟨?_,by trivial⟩,λa3=>⟨B,by trivial⟩⟩;rw[m A];simp
    ·rintro _ _ _ ⟨rfl,rfl⟩;rcases Nat.eq_zero_or_pos j with rfl|u
     ·simp only[Nat.lt_irrefl,decide_false,M,if_false]at J⊢;refine(bl bZ ((bD aa).bh (af:=2))).2 (eK hl (bD ad) (by simp[j1]) rfl λv a5 y b3=>?_);have aq:aC v d 310 (j1 ⟨(au.dh bj).L,(au.dh bj).e4,[]⟩ b1):=a5;obtain⟨b7,b8,a6⟩:=rZ aq;have a7:=(bD aa).J y (by simp;omega);simp only[M,a6];have bb:fu v ao 4 (eL ((au.dh bj).ii.getD i jL)):=by have:=a7.cy.vF 4;simpa[fa,eL,jk,iX.eQ]using this
      have bc:∀ac:S->Prop,aZ C (a4 293 (aE (E ⟨ao,4,I⟩))) v ac↔ac (b6 (eL ((au.dh bj).ii.getD i jL)).toArray):=λac=>gC (by rw[nG];exact Wv) bb;apply(bc _).2;have bd:hn b v 294 108 eL b1 (lW au bj i):=by obtain⟨aD,k,f⟩:=J;exact⟨aD,(show bP t.drew 294 108 b1 _ _ aD from k).J y (λg e p=>by have:=f g e;simp at p;omega),f⟩
      have ar:Q [d] b v:=an.h6.R y B;have b9:(lW au bj i).length<=8:=by rw[Ro];omega
      refine hn.Qs az bd ar.aI (x:=(au.dh bj).ii.getD i jL) nG (by simp[bF]) (Eo _) A (by unfold d0;omega) A λdd cd av aw=>?_;have be:=aw.bg aq A;try simp only[M]
      refine eK Wh be (by simp[j1]) av.aW λca bf ay cb=>⟨(au.dh bj).e4,dd,by trivial,rfl,bf,?_,(aw.R ar).R ay B⟩;rw[aeW];obtain⟨aD,k,f⟩:=av;exact⟨aD,k.J ay (λg e p=>by have:=f g e;simp at p;omega),f⟩
     ·rw[decide_eq_true u];simp only[M];rw[if_pos u]at J;exact⟨aX,b1,by trivial,m (Z u),ad,J,an⟩
   ·rintro _ _ aR ⟨bg,bh,rfl,bk,W,bm,X⟩;simp only[M];rw[bq A A];exact⟨⟨j+1,bg,bh,B,A,λ_=>bk,W,by simpa using bm,X⟩,by simp;omega⟩
  ·obtain rfl:j=n i:=A;rw[if_pos R]at V;rw[decide_eq_true R];simp only[M,hq];rw[bq A A];exact⟨⟨i+1,aX,b1,rfl,A,λ_=>m (Z R),s,V,o⟩,by simp;omega⟩
 ·obtain rfl:i=aF.length:=A;refine(u0 L).2 (we (aL.J z (by simp;omega)) rfl q.aW λr s o cc=>(u0 s).2 ⟨b1,aX,rfl,m,?_,q.AW.bw A,ak.R o (by simp;omega)⟩);obtain⟨aD,k,f⟩:=q;exact(k.J o (λg e p=>by have:=f g e;simp at p;omega)).eF nG A
end
section
variable{au gg:eW}
def H9(h:dH w ab aG am)(L:hA c au aG bB aB)(ao:bj<c.cY)(ai:∀i,i<c.aJ->0<bV (mo c bB bj i) c.aR):
  a0 C 185 #[aP ab,fQ c,F H bj] w λae a=>∃b1,ae=bQ #[mS ⟨(au.dh bj).L,(au.dh bj).e4,[]⟩ b1,aK G,F H (au.dh bj).L,cT]/\aT a eL b1 (lW au bj c.aJ)/\gx w.heap.size b1/\Q [] w a:=by
 have s:=L.ei.cL;have bs:=s.kh;have bt:c.aJ<=8:=by have:=s.jY;have:=s.i6;omega
 have aj:=s.i6;refine a9 NA 3 Tryz.func185 K rfl λa1 aS=>?_;simp+decide only[↓a8,ba,NA,Tryz.f185];subst aS;refine kX λaA aU aV bu=>wd λax aW ak bv=>?_;have an:=aU.J ak B;have aq:=aV.R ak B;refine(fj an).2 (aH LO (Rj (h.V aq) L.ei ao) ?_);rintro _ t ⟨rfl,u⟩;have ar:=an.J u B;have aY:=aW.J u B;have av:=aq.R u B;have bw:=u.aI;obtain⟨bx,aZ,bz,bC,bD⟩:=iV ar;simp only[M,hq,aZ];let n:Nat->Nat:=λi=>bV (mo c bB bj i) c.aR;refine c1 (λf a=>∃(aF:List S)(cB:S)(aD:List Nat),f=[F H (if aF.length=0 then 0 else(au.dh bj).L:Nat),cB,F H aF.length]/\aF.length<=c.aJ/\bP a 311 1 cB aF.length (aF.flatMap t8) aD/\(∀g∈aD,t.heap.size<=g)/\(∀j(R:j<aF.length),eo a aD jx aF[j] (cN (n j) ⟨jk au bj j,qg au bj j⟩))/\Q [] t a) (λf _=>match f with|[_,_,F _ i]=>c.aJ-i.toNat|_=>0)
  ⟨[],T I 0 0,[],rfl,B,gJ _ _ _,B,B,Q.b0 _ _⟩ ?_
 rintro _ _ a3 ⟨aF,cB,aD,rfl,al,V,aw,ay,m⟩;simp only[M,bi];refine⟨λbE=>?_,λbG=>?_⟩
 ·have az:aF.length<c.aJ:=A;refine(fj (ar.J m B)).2 (aH Y3 (aeS (h.V (av.R m B)) L ao az) ?_);rintro a2 p ⟨aC,a4,o⟩;have aI:=ai _ az;have bH:n aF.length<=8:=gz (yU _ _) aj;obtain⟨v,y,W,bI,bJ⟩:=id aC;have a5:(cN (bV (mo c bB bj aF.length) c.aR) (⟨jk au bj aF.length,qg au bj aF.length⟩:xx)).length=n aF.length:=by simp[n]
  rw[a5]at W;have aJ:aT p jx (T v (n aF.length) y) (cN (n aF.length) ⟨jk au bj aF.length,qg au bj aF.length⟩):=W▸aC;subst W;simp only[M];rw[decide_eq_false (show¬((n aF.length:Int)=0)by have:0<n aF.length:=aI;omega)];simp only[M];have a6:eo p aD jx (T v (n aF.length) y) (cN (n aF.length) ⟨jk au bj aF.length,qg au bj aF.length⟩):=eo.cq aJ (λap=>by rw[qh];omega) a4 (λg q=>V.aL g q);apply c1 (λf a=>∃j:Nat,f=[F H (if j=0/\aF.length=0 then 0 else(au.dh bj).L:Nat),F H j]/\j<=n aF.length/\Q [] p a) (λf _=>match f with|[_,F _ j]=>n aF.length-j.toNat|_=>0) ⟨0,B,A,Q.b0 _ _⟩;rintro _ _ a7 ⟨j,rfl,R,d⟩;simp only[M,bi];refine⟨λbK=>?_,λbL=>?_⟩
  ·have bb:j<n aF.length:=A;apply(Rm.ek (l:=cN (n aF.length) ⟨jk au bj aF.length,qg au bj aF.length⟩) (by simpa using aJ) d (by simpa using bb)).2;simp only[List.getElem_replicate];refine nF λX aa z bc=>lT aa hd (qg au bj aF.length) λaL ac D bd=>?_;obtain⟨bM,bR,bT,bf⟩:=uW ac;simp only[M,bf];rw[bq A A];have bg:(jk au bj aF.length).g4=((au.dh bj).L:Nat):=rfl;rw[bg];refine⟨⟨j+1,?_,A,(d.R z B).R D (by simp;exact d.aI)⟩,by simp;omega⟩;rw[if_neg (show¬(j+1=0/\aF.length=0)by omega)];congr 2;split<;>omega
  ·obtain rfl:j=n aF.length:=A;have bU:0<n aF.length:=aI;rw[if_neg (show¬(n aF.length=0/\aF.length=0)by omega)];have bh:=a6.V d;refine yR aeT ((V.J o B).J d B) (x:=T v (n aF.length) y) (be:=t8) (λ_=>rfl) rfl (by simp[t8,Value.oneCell']) A (by unfold d0;omega) A λtw X ez bk J bW=>?_;rw[bq A A];refine⟨⟨aF++[T v (n aF.length) y],tw,ez,B,by simp;omega,bk,?_,?_,?_⟩,by simp;omega⟩
   ·intro g q;refine(J.cq g q).elim (aw g) (λbX=>?_);have:=((m.R o B).R d B).aI;omega
   ·intro k bl;rw[di,nt]at bl;by_cases aM:k<aF.length
    ·rw[List.getElem_append_left aM];exact(((ay k aM).V o).V d).de J
    ·obtain rfl:k=aF.length:=A;rw[List.getElem_append_right A];simpa using bh.de J
   ·exact((m.R o B).R d B).R J.J (λg q=>Z (aw g q))
 ·have bm:aF.length=c.aJ:=A;rw[if_neg A];have bn:Rp a3 au bj aF n:=λj R=>⟨(ay j R).1,ai j A,gz (yU _ _) aj⟩;refine aH Y4 (aeX (V.eF (λ_=>rfl) A) bn A) ?_;rintro _ p ⟨b1,aX,rfl,bo,r,aO,o⟩;simp only[cV,cX];obtain rfl:=bo A;refine wd λa7 bp d bY=>we (ap:=⟨(au.dh bj).L,(au.dh bj).e4,[]⟩) bp rfl r.aW λX aa z bc=>(u0 aa).2 ?_;have aQ:Q [] t p:=m.R o B;have aR:Q [] t X:=(aQ.R d B).R z (by have:=aQ.aI;simp;omega);refine we (aY.J aR B) rfl r.aW λaL ac D bd=>(u0 ac).2 ?_;rw[bm]at r;have br:Q [] w aL:=(av.R aR B).R D (by simp;omega);have bZ:=m.aI;refine⟨b1,rfl,?_,aO.bw A,br⟩;refine((r.V d).J z ?_).J D ?_
  ·intro b af ad ag e ah;have:=r.Ei (by rw[kx nG,Ro];omega) b af ad ag e;simp at ah;omega
  ·intro b af ad ag e ah;have:=aO b af ad ag e;simp at ah;omega
end
end
end Go.Proofs.YtepeilglbedgdaaGreatDoor
namespace Go.Proofs.YtepeilglbedgdaaGreatDoor.eR
open Go.X
attribute[local irreducible]Go.X.W
variable{aD am bU:List Nat}{a aA bv w:aN}{ah et g gb i k n s t:Nat}{aS:List S}{aU jA:Type}{aa ae jQ rj vw:S}{ac:S -> aN -> Prop}{ad:ft}{ar av rf:co}{cj:List gN}{l:List UInt8}
section
open Go.RowKit
structure f4 where
 fO:Int
 a7:S
 eX:List UInt8
def km(ai:f4):List S:=[F H ai.fO,ai.a7]
def Bh(ai:f4):(km ai).length=2:=rfl
def Rq:eH C 366 412 2 km (λai=>b6 (km ai).toArray):=eH.rx K K Bh K
def xy(w:aN)(l:List f4):Prop:=∀ai∈l,aT w bs ai.a7 ai.eX
def xy.V{l:List f4}(h:xy w l)(b:Q [] w a):xy a l:=λai c=>(h ai c).V b
def aeY.aeZ(h:aT w bs aa l):aa.oneCell'=G:=by obtain⟨d,c,rfl,_⟩:=h;rfl
def Rr{ai:f4}(h:aT w bs ai.a7 ai.eX):∀ae∈km ai,ae.oneCell'=G:=by
 intro ae a;simp[km]at a;rcases a with rfl|rfl
 ·rfl
 ·exact aeY.aeZ h
def Ia{l:List f4}(b:aT w km aa l)(c:xy w l)(e:Q [] w aA)(al:i<l.length)
  (k:∀ax,aC ax aA.heap.size 412 (km l[i])->Q [] aA ax->ax.heap.size=aA.heap.size+1->ac (aE (E ⟨aA.heap.size,0,I⟩)) ax):
  aV C (fY 366 aa (F H i)) λd=>aZ C (a4 412 d) aA λae=>W C (hV 412) aA λah ax=>W C (dC 412 ah ae) ax λ_ a=>ac ah a:=by
 refine(Rq.ek b e al).2 (gI Lj λax f g m=>f0 (cv:=[]) (c5:=[F H 0,T I 0 0]) (da:=[]) WD f rfl rfl rfl (Rr (c _ (dX al))) λa h j n=>k a (by simpa[bF]using h) (g.R j B) A)
def sV(eg:List f4)(d:Int):Bool:=eg.any λab=>decide (ab.fO=d)
def oU(k:Nat)(eg:List f4)(ai:f4):List f4:=if sV eg ai.fO=G\/eg.length=k then eg else eg++[ai]
def jM(k:Nat)(l:List f4):List f4:=l.foldl (oU k) []
variable{eg:List f4}
def ae0{ai ab:f4}(h:ab∈oU k eg ai):ab∈eg\/ab=ai:=by
 unfold oU at h;split at h
 ·exact Y h
 ·rcases b4.1 h with h|h
  ·exact Y h
  ·simp at h;exact Z h
def Rs{k:Nat}:∀(l eg:List f4){ab:f4},ab∈l.foldl (oU k) eg->ab∈eg\/ab∈l
 |[],_,_,h=>Y h
 |ai::l,eg,ab,h=>by
  rcases Rs l _ h with h|h
  ·exact(ae0 h).imp id (λ(e:ab=ai)=>by rw[e];exact fE)
  ·exact Z (ev _ h)
def Bi{l:List f4}{ab:f4}(h:ab∈jM k l):ab∈l:=(Rs l [] h).resolve_left B
def Rt{k:Nat}:∀(l eg:List f4),eg.length<=k->(l.foldl (oU k) eg).length<=k
 |[],_,h=>h
 |ai::l,eg,h=>Rt l _ (by
  unfold oU;split
  ·exact h
  ·rw[di];simp;omega)
def Ru(k:Nat)(l:List f4):(jM k l).length<=k:=Rt l [] B
def Rv{d:Int}:sV eg d=U↔∀ab∈eg,ab.fO≠d:=by unfold sV;simp[List.any_eq_false]
def Rw{k:Nat}:∀(l eg:List f4),(eg.map f4.fO).Nodup->((l.foldl (oU k) eg).map f4.fO).Nodup
 |[],_,h=>h
 |ai::l,eg,h=>Rw l _ (by
  unfold oU;split
  ·exact h
  ·rename_i a;rw[not_or]at a;have:=Rv.1 (by simpa using a.1);rw[g6];refine us.2 ⟨h,B,λd f b c e=>?_⟩;simp at c;obtain⟨ab,g,i⟩:=fS.1 f;exact this ab g (by rw[i,e,c]))
def Rx(k:Nat)(l:List f4):((jM k l).map f4.fO).Nodup:=Rw l [] B
def ae1{l:List f4}(al:i<l.length):jM k (l.take (i+1))=oU k (jM k (l.take i)) l[i]:=by unfold jM;rw[List.take_add_one,cr al,List.foldl_append];rfl
def q0(eg:List f4):List S:=(c9 8).map λj=>F H (if sV eg (j:Nat)then 1 else 0)
def Ib(h:t<8):(q0 eg)[t]?=E (F H (if sV eg (t:Nat)then 1 else 0)):=by unfold q0;rw[e1,qD h];rfl
def ae2{ai:f4}(h:ai.fO=t):(q0 eg).set t (F H 1)=q0 (eg++[ai]):=by
 apply qC;intro j;rw[pT];have c:(q0 eg).length=8:=by simp[q0]
 by_cases a:j<8
 ·rw[Ib a,Ib a,c];have e:sV (eg++[ai]) (j:Nat)=(sV eg (j:Nat)||decide ((t:Int)=(j:Nat))):=by unfold sV;rw[List.any_append];simp[h]
  rw[e];by_cases b:t=j
  ·subst b;rw[if_pos rfl,if_pos a];simp
  ·rw[if_neg b,decide_eq_false A,Bool.or_false]
 ·have d:(q0 eg)[j]?=I:=jy A;have f:(q0 (eg++[ai]))[j]?=I:=jy (by simp[q0];omega);rw[d,f];split
  ·rename_i e;subst e;rw[if_neg A]
  ·rfl
def Ry:mI C 466 3 8:=by unfold mI;kernel_rfl
def ae3{aj:Nat}{l:List f4}(h:rW w ah k n aj vw)(u:aT w km aa l)(V:xy w l)(ap:∀ai∈l,0<=ai.fO/\ai.fO<8)(aR:l.length<=1000000):
  a0 C 258 #[aE (E ⟨ah,0,I⟩),aa] w λae a=>aT a km ae (jM k l)/\Q [] w a:=by
 refine a9 N4 2 Tryz.func258 K rfl λa1 aq=>?_;simp+decide only[↓a8,ba,N4,Tryz.f258];subst aq;have aS:=h.Bd;have aU:=h.El;refine gI WR λaA v ar aV=>?_;have v:aC aA w.heap.size 466 (q0 []):=v;obtain⟨W,X,rfl,au,av⟩:=u;have u:aT w km (T W l.length X) l:=⟨W,X,rfl,au,av⟩;simp only[M];generalize ab:w.heap.size=b8 at*;refine c1 (λc a=>∃(i:Nat)(af:S)(aD:List Nat),c=[af,F H i]/\i<=l.length/\bP a 412 2 af (jM k (l.take i)).length ((jM k (l.take i)).flatMap km) aD/\aC a b8 466 (q0 (jM k (l.take i)))/\(∀g∈aD,aA.heap.size<=g)/\Q [] w a/\aA.heap.size<=a.heap.size)
  (λc _=>match c with|[_,F _ i]=>l.length-i.toNat|_=>0) ⟨0,_,[],rfl,A,gJ _ _ _,v,B,ar,fF _⟩ ?_
 rintro _ _ ax ⟨i,af,aD,rfl,al,x,aw,r,j,aW⟩;simp only[M,bi];refine⟨λaX=>?_,λaY=>?_⟩
 ·have s:i<l.length:=A;have ac:=ap _ (dX s);have ay:=V _ (dX s);refine bT (λc a=>∃(af:S)(aD:List Nat),c=[af]/\bP a 412 2 af (jM k (l.take (i+1))).length ((jM k (l.take (i+1))).flatMap km) aD/\aC a b8 466 (q0 (jM k (l.take (i+1))))/\(∀g∈aD,aA.heap.size<=g)/\Q [] w a/\aA.heap.size<=a.heap.size) ?_ ?_
  ·refine Ia u V j s λy m f ad=>?_;rw[ae1 s];have aZ:(jM k (l.take i)).length<=k:=Ru _ _;generalize l[i]=ai at*;obtain⟨d,b,ag⟩:=ai;obtain⟨t,rfl⟩:=nL ac.1;have z:t<8:=by have:=ac.2;simp at this;omega
   generalize jM k (l.take i)=eg at*;have m:aC y ax.heap.size 412 [F H t,b]:=m;have o:=aw.J f B;have p:=x.J f B;obtain⟨az,a2,a3⟩:=h.kB (j.R f B);obtain⟨a4,a5,rfl,_,_⟩:=p.jD;refine bT (λc a=>c=[aK (decide (sV eg (t:Nat)=G\/eg.length=k))]/\y=a) ?_ ?_
   ·simp only[M];refine(bl bZ (aa:=F H t) (m.bh (af:=0))).2 ((kc Ry hl z).2 ?_);rw[gQ,gA];apply(bl bZ ((o.bh (af:=t)).trans (Ib z))).2;simp only[M,az,bi];cases a6:sV eg (t:Nat)with
    |true=>exact⟨λ_=>⟨B,trivial⟩,λh=>absurd B h⟩
    |false=>
     refine⟨λh=>by simp at h,λ_=>⟨?_,trivial⟩⟩;rw[decide_eq_decide.2 (show((eg.length:Int)=(k:Nat))↔(U=G\/eg.length=k)by simp;omega)]
   rintro _ _ _ ⟨rfl,rfl⟩;simp only[kt,bi];refine⟨λaB=>?_,λaF=>?_⟩
   ·rw[show oU k eg ⟨(t:Nat),b,ag⟩=eg from if_pos aB];exact⟨_,aD,rfl,p,o,r,j.R f B,A⟩
   ·rw[show oU k eg ⟨(t:Nat),b,ag⟩=eg++[⟨(t:Nat),b,ag⟩]from if_neg aF];simp only[M];refine(bl bZ (aa:=F H t) (m.bh (af:=0))).2 ((kc Ry hl z).2 ?_);rw[gQ,gA];refine eK hl o (by simp[q0];omega) rfl λaG am D a7=>?_;rw[ae2 (ai:=⟨(t:Nat),b,ag⟩) rfl]at am;have bb:b8<aA.heap.size:=A;have aH:=m.J D (by simp;omega);refine(gC (l:=[F H t,b]) WC aH.cy).2 (hw Gc [b6 #[F H t,b]] rfl rfl (by simp[bF]) A A λaI aJ J bc=>?_);have aL:fu aI aG.heap.size 0 ([(⟨(t:Nat),b,ag⟩:f4)].flatMap km):=by have:=aJ.cy;simpa[km,bF]using this
    have an:b8∉aD:=λab=>by have:=r b8 ab;omega
    have aM:=(p.J D (by simp;exactλg q e=>an (e▸q))).J J B;refine m8 (ak:=1) Gc aM aL (by rw[kx Bh];rfl) (by intro ae ao;simp at ao;exact Rr (ai:=⟨(t:Nat),b,ag⟩) ay ae ao) A (by unfold d0;omega) A λL bd ez aO R aP _=>?_;have be:=R.aI;refine⟨L,ez,rfl,by rw[hL,di];exact aO,(am.J J B).J R an,λg q=>(aP g q).elim (r g) (λh=>A),(((j.R f B).R D (by simp;omega)).R J B).R R (λg q=>Z (by have:=r g q;omega)),A⟩
  rintro _ _ y ⟨L,ez,rfl,p,o,aQ,f,ad⟩;try simp only[M]
  rw[bq A A];exact⟨⟨i+1,L,ez,rfl,A,p,o,aQ,f,ad⟩,A⟩
 ·obtain rfl:i=l.length:=A;rw[j3]at x;exact⟨x.eF Bh A,j⟩
def ae4{ac:S->Prop}{d:Option es}{c:Nat}(h:ad.underlying ar=E (.slice av)):aZ ad (eE .eql ar G (T d n c) (T I 0 0)) w ac↔ac (aK d.isNone):=by
 apply j8;unfold eE;apply gv ad _ w;have:eqGuard .eql ar (bif G then .const bS else .tmp 0) (.tmp 0) (T d n c) (T I 0 0)=fh ():=rfl;rw[this];simp only[pure_bind];have e:∀ag:Nat,(lF (ag+1) ar (T d n c) (T I 0 0)).run ad w=bN d.isNone w:=λag=>by cases d<;>simp[lF,fK h]
 have:=e 9999;simp[binOp,Op.equal,Op.maxDepth,this]
def ae5:C.underlying 52=E (.slice 5):=K
def ae6{x:List UInt8}(h:aT w bs aa x)(n:x.length<=1000000):a0 C 67 #[aa] w λae a=>∃ai:gN,ae=ai.a7/\ai.bp 5 a/\ai.c6=x/\(∀g∈ai.gD,w.heap.size<=g)/\Q [] w a:=by
 refine a9 .D 1 Tryz.func67 K rfl λa1 e=>?_;simp+decide only[↓a8,ba,Tryz.f67];subst e;have f:=h;obtain⟨d,c,rfl,o,i⟩:=h;apply(ae4 ae5).2;cases d with
 |none=>
  simp only[Option.isNone_none,k9];have j:x=[]:=i.resolve_right (by rintro⟨b,af,h,_⟩;cases h);subst j;exact⟨⟨T I 0 0,[],[]⟩,rfl,gJ _ _ _,rfl,B,Q.b0 _ _⟩
 |some d=>
  simp only[Option.isNone_some,kN];exact Gz ky e2 uZ f A (by unfold d0;omega) λae a am k l m=>⟨⟨ae,am,x⟩,rfl,k,rfl,l,m⟩
def Ic{x:List UInt8}(h:aT w bs aa x)(b:x.length<=1000000)(k:∀(ai:gN) a,ai.bp 5 a->ai.c6=x->(∀g∈ai.gD,w.heap.size<=g)->Q [] w a->ac ai.a7 a):W C (ck 67 #[aa]) w ac:=by refine aH w8 (ae6 h b) ?_;rintro _ a ⟨ai,rfl,c,d,e,f⟩;exact k ai a c d e f
def sW(aS:List UInt8)(x:UInt8)(i:Nat):List UInt8:=(kY aS x).take i++aS.drop i
def Rz{aS:List UInt8}{x:UInt8}(i:Nat):(sW aS x i).length=aS.length:=by unfold sW;rw[di,ea,e8,uY];omega
def ae7{aS:List UInt8}{x:UInt8}(al:i<aS.length):(sW aS x i).getD i 0=aS.getD i 0:=by unfold sW;rw[gp,nr (by rw[ea,uY];omega),ea,uY,oo,gp];congr 2;omega
def ae8{aS:List UInt8}{x:UInt8}(al:i<aS.length):(sW aS x i).set i (eP (aS.getD i 0) x)=sW aS x (i+1):=by unfold sW;have a:=uY aS x;rw[sr _ _ (by rw[ea,a];omega),ea,a,show i-min i aS.length=0 by omega,ot al,aoi,rQ,<-A8,List.take_add_one,gq];congr 1;rw[cr (by rw[a];exact al),iI (by rw[a];exact al)];rfl
def RA{aj:Nat}{aS:List UInt8}{x:UInt8}{bb:aN->Prop}(t:aC w ah 416 [F H k,aE (E ⟨aj,0,I⟩),vw])(u:py w aj)(o:bP w 5 1 aa aS.length (aS.flatMap bs) am)(p:∀g∈am,g≠ah/\g≠aj)(ao:aS.length<=1000000)
  (v:∀a,bP a 5 1 aa aS.length ((kY aS x).flatMap bs) am->Q am w a->bb a):
  aV C (dG .len #[52] #[aa]) λy=>
  rr [(F H 0)] w λz f _ h=>
   aV C (dS .lss 3 (f.getD 0 bS) y) λD=>
   eV D (
    aV C (ov (aE (E ⟨ah,0,I⟩))) λJ=>
   aV C (gB 416 J 1) λK=>
   aZ C (a4 413 K) (h.drew) λL=>
   aV C (fY 52 aa (f.getD 0 bS)) λR=>
   aZ C (a4 5 R) (h.drew) λV=>
   W C (ck 327 #[L,V,(F cl x.toNat)]) (h.drew) λX ab=>
   aV C (fY 52 aa (f.getD 0 bS)) λac=>
   W C (dC 5 ac X) ab λ_ ad=>
   aV C (dS .add 3 (f.getD 0 bS) (F H 1)) λae=>
   z [ae] ad) (bb h):=by
 obtain⟨ag,cC,rfl,au,_⟩:=o.jD;simp only[M];have ai:ah∉am:=λl=>(p ah l).1 rfl;have ak:aj∉am:=λl=>(p aj l).2 rfl;apply c1 (λm a=>∃i:Nat,m=[F H i]/\i<=aS.length/\bP a 5 1 (T ag aS.length cC) aS.length ((sW aS x i).flatMap bs) am/\Q am w a) (λm _=>match m with|[F _ i]=>aS.length-i.toNat|_=>0) ⟨0,rfl,A,by simpa[sW]using o,Q.b0 _ _⟩;rintro _ _ aA ⟨i,rfl,al,j,b⟩;simp only[M,bi];refine⟨λav=>?_,λaw=>?_⟩
 ·have d:i<aS.length:=A;have n:=cD [] aA;obtain⟨g,af,c,an,ap⟩:=j.gm A;cases an;have q:=j.J n B;refine(bl FY ((bD (t.J b ai)).bh (af:=1))).2 ((hP fP el d).2 ?_);rw[gA];have aq:aA.drew.cell? ⟨g,af+i,I⟩=E (F cl (aS.getD i 0).toNat):=by refine la q.fO.2 ?_;rw[Q3 (by rw[Rz];exact d),ae7 d]
  refine(bl mb aq).2 (Q1 ((u.J b ak).J n B) λax r=>(hP fP el d).2 ?_);rw[gA];refine vI el (q.J r B) (by rw[kx e2,Rz];omega) rfl λay s ar az=>?_;rw[Eh,ae8 d]at s;try simp only[M]
  rw[bq A A];exact⟨⟨i+1,rfl,A,s,((b.R n B).R r B).R ar (by rw[ap];intro k b;exact Y b)⟩,A⟩
 ·obtain rfl:i=aS.length:=A;have e:sW aS x aS.length=kY aS x:=by unfold sW;rw[aoh,kJ,mv (by rw[uY];omega)]
  rw[e]at j;exact v _ j b
def ae9{aj:Nat}{h cR:S}{d b:List UInt8}{x:UInt8}(j:aC w ah 416 [F H k,aE (E ⟨aj,0,I⟩),vw])(l:py w aj)(o:bP w 5 1 h d.length (d.flatMap bs) am)(p:bP w 5 1 cR b.length (b.flatMap bs) aD)(i:∀g∈am,g≠ah/\g≠aj)(q:∀g∈aD,g≠ah/\g≠aj)(m:∀g∈am,g∉aD)(r:d.length<=1000000)(s:b.length<=1000000):
  a0 C 297 #[aE (E ⟨ah,0,I⟩),h,cR,F cl x.toNat] w λ_ a=>bP a 5 1 h d.length ((kY d x).flatMap bs) am/\bP a 5 1 cR b.length ((kY b x).flatMap bs) aD/\Q (am++aD) w a:=by
 refine a9 Og 4 Tryz.func297 K rfl λa1 t=>?_;simp+decide only[↓a8,ba,Og,Tryz.f297];subst t;refine RA j l o i r λaA u f=>?_;have v:ah∉am:=λc=>(i ah c).1 rfl;have y:aj∉am:=λc=>(i aj c).2 rfl;exact RA (j.J f v) (l.J f y) (p.J f (λg e c=>m g c e)) q s λax z n=>⟨u.J n m,z,(f.bw (λg e=>Y (hg _ e))).R n (λg e=>Y (h3 _ e))⟩
abbrev pA:=gN×gN
structure mT(bv w:aN)(rj jQ:S)(ac:Nat)(ai:Nat->pA)(et gb:Nat):Prop where
 q1:bP w 52 1 rj ac ((c9 ac).map λi=>(ai i).1.a7) [et]
 u1:bP w 52 1 jQ ac ((c9 ac).map λi=>(ai i).2.a7) [gb]
 r0:∀i,i<ac->(ai i).1.bp 5 w
 u2:∀i,i<ac->(ai i).2.bp 5 w
 g1:et≠gb
 Es:bv.heap.size<=et
 Et:bv.heap.size<=gb
 wg:∀i,i<ac->∀g∈(ai i).1.gD,bv.heap.size<=g/\g≠et/\g≠gb
 wh:∀i,i<ac->∀g∈(ai i).2.gD,bv.heap.size<=g/\g≠et/\g≠gb
 u3:∀i,i<ac->∀j,j<ac->∀g∈(ai i).1.gD,g∉(ai j).2.gD
 Bj:∀i,i<ac->∀j,j<ac->i≠j->∀g∈(ai i).1.gD,g∉(ai j).1.gD
 Bk:∀i,i<ac->∀j,j<ac->i≠j->∀g∈(ai i).2.gD,g∉(ai j).2.gD
def h1(ai:Nat->pA):Nat->oR:=λi=>((ai i).1.c6,(ai i).2.c6)
section
variable{ac c:Nat}{ai:Nat->pA}
def mT.V(h:mT bv w rj jQ ac ai et gb)(b:Q [] w a):mT bv a rj jQ ac ai et gb:=
 ⟨h.q1.J b B,h.u1.J b B,λi al=>(h.r0 i al).V b,λi al=>(h.u2 i al).V b,h.g1,h.Es,h.Et,h.wg,h.wh,h.u3,h.Bj,h.Bk⟩
def Bl{aj:Nat->aU}(h:i<n):((c9 n).map aj)[i]?=E (aj i):=by rw[e1,qD h];rfl
def sX{ac:Nat}{aj:Nat->S}(h:bP w 52 1 aa ac ((c9 ac).map aj) [g])(al:i<ac){bb:S->Prop}:(aV C (fY 183 aa (F H i)) λae=>aZ C (a4 52 ae) w bb)↔bb (aj i):=by obtain⟨a,af,c,rfl,_⟩:=h.gm A;rw[hP pe mJ al,gA];exact bl nb (la h.fO.2 (Bl al))
def RB{ac:Nat}{aj:Nat->S}(h:bP w 52 1 aa ac ((c9 ac).map aj) [g])(al:i<ac){bb:S->S->Prop}(k:∀cs:es,(∀a,Q [] w a->a.cell? cs=E (aj i))->bb (aE (E cs)) (aj i)):aV C (fY 183 aa (F H i)) λd=>aZ C (a4 52 d) w λae=>bb d ae:=by obtain⟨e,af,c,rfl,_⟩:=h.gm A;rw[hP pe mJ al,gA];have b:∀a,Q [] w a->a.cell? ⟨e,af+i,I⟩=E (aj i):=λa f=>la (h.J f B).fO.2 (Bl al);exact(bl nb (b w (Q.b0 _ _))).2 (k _ b)
def Eu{ac:Nat}{aj:Nat->S}(h:bP w 52 1 aa ac ((c9 ac).map aj) [g])(al:i<ac)(m:ae.oneCell'=G){bb:aN->Prop}(k:∀a,bP a 52 1 aa ac ((c9 ac).map λt=>if t=i then ae else aj t) [g]->Q [g] w a->bb a):
  aV C (fY 183 aa (F H i)) λd=>W C (dC 52 d ae) w λ_ a=>bb a:=by
 obtain⟨q,af,c,rfl,n⟩:=h.gm A;cases n;rw[hP pe mJ al,gA];refine vI mJ h (by simp;omega) m λa o p r=>k a ?_ p;have e:((c9 ac).map aj).set i ae=(c9 ac).map λt=>if t=i then ae else aj t:=by
  apply qC;intro j;rw[pT,dU,uw];by_cases f:j<ac
  ·rw[Bl f,Bl f];by_cases b:i=j
   ·subst b;rw[if_pos rfl,if_pos al,if_pos rfl]
   ·rw[if_neg b,if_neg (λe=>b e.symm)]
  ·rw[jy (by simp;omega),jy (l:=(c9 ac).map λt=>if t=i then ae else aj t) (by simp;omega)];split
   ·rename_i e;omega
   ·rfl
 rwa[e]at o
def y6(ai:Nat->pA)(c ah:Nat):Nat->pA:=λt=>ai (if t=ah then c else if t=c then ah else t)
def afa:h1 (y6 ai c ah)=qe (h1 ai) c ah:=rfl
def mT.afb(h:mT bv w rj jQ ac ai et gb)(d:c<ac)(f:ah<ac){bb:aN->Prop}(k:∀a,mT bv a rj jQ ac (y6 ai c ah) et gb->Q [et,gb] w a->bb a):
  aV C (fY 183 rj (F H c)) λy=>W C (dC 52 y (ai ah).1.a7) w λ_ z=>
  aV C (fY 183 rj (F H ah)) λA=>W C (dC 52 A (ai c).1.a7) z λ_ D=>
  aV C (fY 183 jQ (F H c)) λJ=>W C (dC 52 J (ai ah).2.a7) D λ_ K=>
  aV C (fY 183 jQ (F H ah)) λL=>W C (dC 52 L (ai c).2.a7) K λ_ dI=>bb dI:=by
 refine Eu h.q1 d (h.r0 ah f).aW λaA N O=>Eu N f (h.r0 c d).aW λax P R=>?_;have u:Q [et] w ax:=O.R R B;refine Eu (h.u1.J u (by simp;exactλe=>h.g1 e.symm)) d (h.u2 ah f).aW λad V X=>Eu V f (h.u2 c d).aW λm aa ab=>?_;have v:Q [gb] ax m:=X.R ab B;have r:Q [et,gb] w m:=(u.bw B).R v B;have al:∀t,t<ac->(if t=ah then c else if t=c then ah else t)<ac:=λt b=>by split;exact d;split;exact f;exact b
 have x:∀i j,i≠j->(if i=ah then c else if i=c then ah else i)≠(if j=ah then c else if j=c then ah else j):=λi j q=>by split<;>split<;>(try split)<;>(try split)<;>omega
 refine k m ⟨?_,?_,λt b=>(h.r0 _ (al t b)).J r (λg s n=>?_),λt b=>(h.u2 _ (al t b)).J r (λg s n=>?_),h.g1,h.Es,h.Et,λt b=>h.wg _ (al t b),λt b=>h.wh _ (al t b),λi o j p=>h.u3 _ (al i o) _ (al j p),λi o j p q=>h.Bj _ (al i o) _ (al j p) (x i j q),λi o j p q=>h.Bk _ (al i o) _ (al j p) (x i j q)⟩ r
 ·have:=P.J v (by simp;exact h.g1);refine cast (congrArg (λl=>bP m 52 1 rj ac l [et]) (amO λt _=>?_)) this;unfold y6;split
  ·rfl
  ·split<;>rfl
 ·refine cast (congrArg (λl=>bP m 52 1 jQ ac l [gb]) (amO λt _=>?_)) aa;unfold y6;split
  ·rfl
  ·split<;>rfl
 ·have:=h.wg _ (al t b) g s;simp at n;rcases n with rfl|rfl
  ·exact this.2.1 rfl
  ·exact this.2.2 rfl
 ·have:=h.wh _ (al t b) g s;simp at n;rcases n with rfl|rfl
  ·exact this.2.1 rfl
  ·exact this.2.2 rfl
def nk(ai:Nat->pA)(i:Nat)(d b:List UInt8):Nat->pA:=λt=>if t=i then(⟨(ai i).1.a7,(ai i).1.gD,d⟩,⟨(ai i).2.a7,(ai i).2.gD,b⟩)else ai t
def mT.jJ(h:mT bv w rj jQ ac ai et gb)(al:i<ac){d b:List UInt8}(p:Q ((ai i).1.gD++(ai i).2.gD) w a)(s:bP a 5 1 (ai i).1.a7 d.length (d.flatMap bs) (ai i).1.gD)(u:bP a 5 1 (ai i).2.a7 b.length (b.flatMap bs) (ai i).2.gD):mT bv a rj jQ ac (nk ai i d b) et gb:=by
 have l:∀t,(nk ai i d b t).1.a7=(ai t).1.a7/\(nk ai i d b t).1.gD=(ai t).1.gD/\(nk ai i d b t).2.a7=(ai t).2.a7/\(nk ai i d b t).2.gD=(ai t).2.gD:=λt=>by
  unfold nk;split
  ·rename_i e;subst e;exact⟨rfl,rfl,rfl,rfl⟩
  ·exact⟨rfl,rfl,rfl,rfl⟩
 have r:∀g,g∈(ai i).1.gD++(ai i).2.gD->g≠et/\g≠gb:=λg c=>by
  rcases b4.1 c with c|c
  ·exact(h.wg i al g c).2
  ·exact(h.wh i al g c).2
 have v:=h.q1.J p (λg c f=>by simp at c;exact(r g f).1 c);have x:=h.u1.J p (λg c f=>by simp at c;exact(r g f).2 c);refine⟨?_,?_,λt k=>?_,λt k=>?_,h.g1,h.Es,h.Et,λt k=>by rw[(l t).2.1];exact h.wg t k,λt k=>by rw[(l t).2.2.2];exact h.wh t k,λm n j o=>by rw[(l m).2.1,(l j).2.2.2];exact h.u3 m n j o,λm n j o q=>by rw[(l m).2.1,(l j).2.1];exact h.Bj m n j o q,λm n j o q=>by rw[(l m).2.2.2,(l j).2.2.2];exact h.Bk m n j o q⟩
 ·rw[show(c9 ac).map (λt=>(nk ai i d b t).1.a7)=(c9 ac).map λt=>(ai t).1.a7 from amO λt _=>(l t).1];exact v
 ·rw[show(c9 ac).map (λt=>(nk ai i d b t).2.a7)=(c9 ac).map λt=>(ai t).2.a7 from amO λt _=>(l t).2.2.1];exact x
 ·by_cases e:t=i
  ·subst e;unfold nk;rw[if_pos rfl];exact s
  ·unfold nk;rw[if_neg e];refine(h.r0 t k).J p (λg c f=>?_);rcases b4.1 f with f|f
   ·exact h.Bj t k i al e g c f
   ·exact h.u3 t k i al g c f
 ·by_cases e:t=i
  ·subst e;unfold nk;rw[if_pos rfl];exact u
  ·unfold nk;rw[if_neg e];refine(h.u2 t k).J p (λg c f=>?_);rcases b4.1 f with f|f
   ·exact h.u3 i al t k g f c
   ·exact h.Bk t k i al e g c f
def afc{d b:List UInt8}(t:Nat):h1 (nk ai i d b) t=if t=i then(d,b)else h1 ai t:=by unfold h1 nk;split<;>rfl
def mq(ai:Nat->pA)(c n:Nat):Nat->pA:=λt=>if t=c\/n<=t then ai t else(⟨(ai t).1.a7,(ai t).1.gD,(t4 (h1 ai t) (h1 ai c) c).1⟩,⟨(ai t).2.a7,(ai t).2.gD,(t4 (h1 ai t) (h1 ai c) c).2⟩)
def Ev(ai:Nat->pA)(c n:Nat):h1 (mq ai c n)=rT (h1 ai) c n:=by
 funext t;unfold h1 mq rT;by_cases e:t=c\/n<=t
 ·rw[if_pos e,if_pos e]
 ·rw[if_neg e,if_neg e];rfl
def afd(ai:Nat->pA)(c:Nat):mq ai c 0=ai:=by funext t;unfold mq;rw[if_pos (Z A)]
def afe(ai:Nat->pA)(c n:Nat):mq ai c n c=ai c:=by unfold mq;rw[if_pos (Y rfl)]
def RC(ai:Nat->pA){c:Nat}(h:n<=t):mq ai c n t=ai t:=by unfold mq;rw[if_pos (Z h)]
def aff(b:n≠c):mq ai c (n+1)=nk (mq ai c n) n (oQ (ai n).1.c6 (ai c).1.c6 ((ai n).1.c6.getD c 0)) (oQ (ai n).2.c6 (ai c).2.c6 ((ai n).1.c6.getD c 0)):=by
 funext t;unfold nk;rw[RC ai (fF n)];by_cases e:t=n
 ·subst e;rw[if_pos rfl];unfold mq;rw[if_neg A];rfl
 ·rw[if_neg e];unfold mq;by_cases a:t=c\/n<=t
  ·rw[if_pos a,if_pos A]
  ·rw[if_neg a,if_neg A]
def afg(h:n=c\/((ai n).1.c6.length=(ai c).1.c6.length/\(ai n).2.c6.length=(ai c).2.c6.length/\(ai n).1.c6.getD c 0=0)):mq ai c (n+1)=mq ai c n:=by
 funext t;unfold mq;by_cases e:t=n
 ·subst e;rw[if_pos (show t=c\/t<=t from Z (fF _))];rcases h with h|⟨a,b,d⟩
  ·rw[if_pos (Y h)]
  ·by_cases f:t=c
   ·rw[if_pos (Y f)]
   ·rw[if_neg A];unfold t4 h1;simp only;rw[d,QU a,QU b]
 ·by_cases a:t=c\/n<=t
  ·rw[if_pos a,if_pos A]
  ·rw[if_neg a,if_neg A]
end
def oV(cj:List gN)(aD:List Nat):List Nat:=aD++cj.flatMap gN.gD
def y7.Id(h:jv rf av bv w aa cj aD):∀g∈oV cj aD,g<w.heap.size:=by
 intro g a;rcases b4.1 a with a|a
 ·exact h.c4.aL g a
 ·obtain⟨ab,b,c⟩:=tm.1 a;exact(h.cL ab b).aL g c
def y7.RD(h:jv rf av bv w aa cj aD)(d:Q bU w a)(c:∀g∈oV cj aD,g∉bU):jv rf av bv a aa cj aD:=
 h.J d (λg b=>c g (hg _ b)) (λab e g b=>c g (h3 _ (tm.2 ⟨ab,e,b⟩)))
def mr:gN:=⟨T I 0 0,[],[]⟩
def RE(aj:aU->jA)(ag:aU)(l:List aU):l.map aj=(c9 l.length).map λi=>aj (l.getD i ag):=by
 apply qC;intro i;by_cases al:i<l.length
 ·rw[Bl al,e1,cr al,iI al];rfl
 ·rw[jy (by simp;omega),jy (by simp;omega)]
def Ie:∀{cj:List gN},(cj.flatMap gN.gD).Nodup->∀i j,i<cj.length->j<cj.length->i≠j->∀g∈(cj.getD i mr).gD,g∉(cj.getD j mr).gD
 |[],_,i,j,al,_,_=>by simp at al
 |ab::cj,d,i,j,al,h,k=>by
  rw[iA]at d;obtain⟨m,l,e⟩:=us.1 d;have f:∀t,t<cj.length->∀g∈(cj.getD t mr).gD,g∈cj.flatMap gN.gD:=λt b g a=>tm.2 ⟨_,by rw[iI b]at a;exact dX b,by rw[iI b]at a;exact a⟩;simp only[gF]at al h;cases i with
  |zero=>
   cases j with
   |zero=>exact absurd rfl k
   |succ j=>
    intro g a c;exact e g a g (f j A g c) rfl
  |succ i=>
   cases j with
   |zero=>
    intro g a c;exact e g c g (f i A g a) rfl
   |succ j=>exact Ie l i j A A A
def mT.afh{db b:List gN}{n o:List Nat}{ac:Nat}(c:jv 52 5 bv w rj db n)(d:jv 52 5 bv w jQ b o)(f:∀g∈oV db n,g∉oV b o)(t:db.length=ac)(u:b.length=ac)(x:0<ac):
  ∃et gb,mT bv w rj jQ ac (λi=>(db.getD i mr,b.getD i mr)) et gb:=by
 have h:=c.c4;have k:=d.c4;obtain⟨et,_,_,_,rfl⟩:=h.gm A;obtain⟨gb,_,_,_,rfl⟩:=k.gm A;rw[RE gN.a7 mr,t]at h;rw[RE gN.a7 mr,u]at k;have pY:∀i,i<ac->db.getD i mr∈db:=λi al=>by rw[iI A];exact dX _
 have ou:∀i,i<ac->b.getD i mr∈b:=λi al=>by rw[iI A];exact dX _
 have p:∀i,i<ac->∀g∈(db.getD i mr).gD,g∈oV db [et]:=λi al g a=>h3 _ (tm.2 ⟨_,pY i al,a⟩);have q:∀i,i<ac->∀g∈(b.getD i mr).gD,g∈oV b [gb]:=λi al g a=>h3 _ (tm.2 ⟨_,ou i al,a⟩);have r:et∈oV db [et]:=hg _ B;have s:gb∈oV b [gb]:=hg _ B;exact⟨et,gb,⟨h,k,λi al=>c.cL _ (pY i al),λi al=>d.cL _ (ou i al),λe=>f et r (e▸s),c.oT et B,d.oT gb B,
  λi al g a=>⟨(c.qf _ (pY i al) g a).1,λe=>(c.qf _ (pY i al) g a).2 (by simp[e]),λe=>f g (p i al g a) (e▸s)⟩,
  λi al g a=>⟨(d.qf _ (ou i al) g a).1,λe=>f et r (e▸q i al g a),λe=>(d.qf _ (ou i al) g a).2 (by simp[e])⟩,
  λi al j l g a v=>f g (p i al g a) (q j l g v),λi al j l m=>Ie c.hj i j A A m,λi al j l m=>Ie d.hj i j A A m⟩⟩
def Ew:f4:=⟨0,T I 0 0,[]⟩
def oW(k:Nat)(l:List f4):Nat->oR:=λt=>(n6 k (l.getD t Ew).fO.toNat,(l.getD t Ew).eX)
def mT.afi{ac:Nat}{ai:Nat->pA}(h:mT bv w rj jQ ac ai et gb):ju w jQ ((c9 ac).map λi=>(ai i).2.c6):=by
 refine⟨(c9 ac).map λi=>((ai i).2.a7,(ai i).2.c6),?_,λab a=>?_,by rw[ts];rfl⟩
 ·have:=h.u1;have e:((c9 ac).map λi=>(ai i).2.a7)=((c9 ac).map λi=>((ai i).2.a7,(ai i).2.c6)).flatMap kl:=by
   generalize c9 ac=l;induction l with
   |nil=>rfl
   |cons d l b=>rw[ge,ge,iA,<-b];rfl
  rw[e]at this;exact bP.eF (a6:=1) (l:=(c9 ac).map λi=>((ai i).2.a7,(ai i).2.c6)) (be:=kl) (by rw[dU,uw];exact this) (λ_=>rfl) A
 ·obtain⟨i,al,rfl⟩:=fS.1 a;exact(h.u2 i (iK.1 al)).eF
section
variable{aj:Nat}{ak af:S}{ac dy:Nat}{ai:Nat->pA}{bb:aN->Prop}
def afj(h:rW w ah k n aj vw)(j:mT w aA ak af ac ai et gb)(R:Q [] w aA)(al:i<ac)(m:dy<ac)(z:i≠dy){x:UInt8}(A:(ai i).1.c6.length=(ai dy).1.c6.length)(D:(ai i).2.c6.length=(ai dy).2.c6.length)(V:(ai i).1.c6.length<=1000000)(X:(ai i).2.c6.length<=1000000)
  (aa:∀a,mT w a ak af ac (nk ai i (oQ (ai i).1.c6 (ai dy).1.c6 x) (oQ (ai i).2.c6 (ai dy).2.c6 x)) et gb->Q [] w a->bb a):
  aV C (ov (aE (E ⟨ah,0,I⟩))) λab=>aV C (gB 416 ab 1) λad=>aZ C (a4 413 ad) aA.drew λae=>
  aV C (fY 183 ak (F H i)) λag=>aZ C (a4 52 ag) aA.drew λam=>
  aV C (fY 183 ak (F H dy)) λan=>aZ C (a4 52 an) aA.drew λao=>
  W C (ck 298 #[ae,am,ao,F cl x.toNat]) aA.drew λ_ o=>
  aV C (ov (aE (E ⟨ah,0,I⟩))) λap=>aV C (gB 416 ap 1) λaq=>aZ C (a4 413 aq) o.drew λar=>
  aV C (fY 183 af (F H i)) λau=>aZ C (a4 52 au) o.drew λav=>
  aV C (fY 183 af (F H dy)) λaw=>aZ C (a4 52 aw) o.drew λay=>
  W C (ck 298 #[ar,av,ay,F cl x.toNat]) o.drew λ_ az=>bb az:=by
 have r:=cD [] aA;have l:=j.V r;have s:=R.R r B;obtain⟨aL,aB,aM⟩:=h.kB s;have aO:=h.bg.aL;have aP:=h.sI.aL;simp only[M,aB];refine(sX l.q1 al).2 ((sX l.q1 m).2 ?_);have aow:=j.wg i al;have aoE:=j.wh i al;apply aH Gy (H1 (h.sI.J s B) (λf=>by have:=(aow aj f).1;omega) (l.r0 i al) (l.r0 dy m).eF A (λ_ b t n c e f=>j.Bj i al dy m z b f (bP.rt (l.r0 dy m) b t n c e)) V);rintro _ ax ⟨aC,u⟩;have aD:Q [] w ax:=s.R u (λg d=>Z (aow g d).1);have p:=cD [] ax;have v:=aD.R p B;obtain⟨aQ,aF,aR⟩:=h.kB v;simp only[M,aF];have q:Q (ai i).1.gD aA.drew ax.drew:=u.R p B;have J:∀g∈[gb],g∉(ai i).1.gD:=λg d f=>by simp at d;exact(aow g f).2.2 d
 refine(sX (l.u1.J q J) al).2 ((sX (l.u1.J q J) m).2 ?_);have aG:=(l.u2 i al).J q (λg d f=>j.u3 i al i al g f d);have K:=(l.u2 dy m).J q (λg d f=>j.u3 i al dy m g f d);apply aH Gy (H1 (h.sI.J v B) (λf=>by have:=(aoE aj f).1;omega) aG K.eF D (λ_ b t n c e f=>j.Bk i al dy m z b f (bP.rt K b t n c e)) X);rintro _ L ⟨aI,y⟩;have aJ:Q ((ai i).1.gD++(ai i).2.gD) aA L:=(((r.bw B).R u (λg d=>Y (hg _ d))).R p B).R y (λg d=>Y (h3 _ d));refine aa L (j.jJ al aJ ?_ ?_) (v.R y (λg d=>Z (aoE g d).1))
 ·rw[rS A];exact(aC.J p B).J y (λg d f=>j.u3 i al i al g d f)
 ·rw[rS D];exact aI
end
structure RF(w a:aN)(ak af:S)(ac s:Nat)(a1:Nat->oR)(dy:Nat):Prop where
 bd:∃ai et gb,mT w a ak af ac ai et gb/\oS ac s (h1 ai)/\px ac (h1 ai)/\qd ac dy (h1 ai)/\∀aO,mm ac s aO (h1 ai)->mm ac s aO a1
 J:Q [] w a
def If{bb:S->Prop}(h:bP w 52 1 aa n aS am):aV C (dG .len #[183] #[aa]) bb↔bb (F H n):=by obtain⟨d,c,rfl,_,_⟩:=h.jD;exact zY pe
def Ig{x:List UInt8}{bb:S->Prop}(h:aT w bs aa x)(al:i<x.length):(aV C (fY 52 aa (F H i)) λae=>aZ C (a4 5 ae) w bb)↔bb (F cl (x.getD i 0).toNat):=by rw[p4.ek h (Q.b0 _ _) al,iI al]
def afk{d:UInt8}:((d.toNat:Int)≠0)↔d≠0:=not_congr Ek
def afl{aj:Nat}{l:List f4}(h:rW w ah k n aj vw)(bk:aT w km aa l)(bI:xy w l)(a2:∀ai∈l,0<=ai.fO/\ai.fO<n)(cq:l.length=k)(cs:(l.map f4.fO).Nodup)(ao:∀ai∈l,ai.eX.length=s)(ct:s<=1000000):
  a0 C 259 #[aE (E ⟨ah,0,I⟩),aa] w λae a=>∃aO:List (List UInt8),aO.length=k/\(∀b∈aO,b.length=s)/\ju a ae aO/\mm k s (λj=>aO.getD j []) (oW k l)/\Q [] w a:=by
 have c8:=h.kh;have dc:=h.El;have dd:=h.Bd;have de:=h.bg.aL;have df:=h.sI.aL;refine a9 N5 2 Tryz.func259 K rfl λa1 cu=>?_;simp+decide only[↓a8,ba,N5,Tryz.f259];subst cu;obtain⟨bJ,bK,rfl,cw,cx⟩:=bk;have bk:aT w km (T bJ l.length bK) l:=⟨bJ,bK,rfl,cw,cx⟩;simp only[M];refine c1 (λq a=>∃(i:Nat)(ak af:S)(db v:List gN)(aD an:List Nat),q=[ak,af,F H i]/\i<=l.length/\jv 52 5 w a ak db aD/\jv 52 5 w a af v an/\(∀g∈oV db aD,g∉oV v an)/\db.map gN.c6=(l.take i).map (λai=>n6 k ai.fO.toNat)/\v.map gN.c6=(l.take i).map f4.eX/\Q [] w a)
  (λq _=>match q with|[_,_,F _ i]=>l.length-i.toNat|_=>0) ⟨0,_,_,[],[],[],[],rfl,A,y0 _ _,y0 _ _,by simp[oV],rfl,rfl,Q.b0 _ _⟩ ?_
 rintro _ _ aA ⟨i,ak,af,db,v,aD,an,rfl,al,J,L,aF,aq,ar,aG⟩;simp only[M,bi];refine⟨λa3=>?_,λcy=>?_⟩
 ·have aI:i<l.length:=A;have au:=a2 _ (dX aI);have cz:=bI _ (dX aI);have cA:=ao _ (dX aI);have bL:l.take (i+1)=l.take i++[l[i]]:=by rw[List.take_add_one,cr aI];rfl
  refine Ia bk bI aG aI λax aJ aL dg=>?_;have bm:db.length=i:=by have:=congrArg jm aq;rw[dU,dU,ea]at this;omega
  have bM:v.length=i:=by have:=congrArg jm ar;rw[dU,dU,ea]at this;omega
  generalize l[i]=ai at*;obtain⟨d,bn,ag⟩:=ai;obtain⟨t,rfl⟩:=nL au.1;have u:t<n:=by have:=au.2;simp at this;omega
  have aM:=cD [] ax;have bo:=(aG.R aL B).R aM B;have aJ:aC ax.drew aA.heap.size 412 [F H t,bn]:=aJ;obtain⟨cB,bP,bR⟩:=h.kB bo;simp only[M,bR];refine(bl bZ (aa:=F H t) (aJ.bh (af:=0))).2 (h.mn.ek y2 bo (by rw[Be];exact u) λap av=>?_);rw[Q6 u]at av;have bp:∀a,Q [] ax.drew a->a.cell? ⟨aA.heap.size,1,I⟩=E bn:=λa cC=>(aJ.J cC B).bh (af:=1);refine(bl nb (bp _ (Q.b0 _ _))).2 (Ic (av.V bo) (by rw[Eg];omega) λm br bU a4 a5 aP=>(dz nb (bp _ aP)).2 (y1 mK bU.aW λa6 cE W dh=>?_));have bs:=aP.R W B;apply(dz nb (bp _ bs)).2;have bt:Q [] aA a6:=(aL.R aM B).R bs B;have dj:=aG.aI;have dk:ax.drew.heap.size=ax.heap.size:=rfl;have dl:=aP.aI;refine(J.V bt).p8 (ab:=m) mK (bU.V W) (λg c=>⟨by have:=a5 g c;omega,λp=>by have:=a5 g c;have:=J.c4.aL g p;omega,λab bu p=>by have:=a5 g c;have:=(J.cL ab bu).aL g p;omega⟩) cE A A A λbV X bv bW ac cF=>?_;have cG:aA.heap.size∉aD:=λp=>by have:=J.c4.aL _ p;omega
  have cH:X.cell? ⟨aA.heap.size,1,I⟩=E bn:=((aJ.J bs B).J ac cG).bh (af:=1);apply(dz nb cH).2;have a7:Q [] w X:=(aG.R bt B).R ac (λg c=>Z (J.oT g c));refine Ic (cz.V a7) (by rw[cA];exact ct) λr bX bY bc bd aw=>y1 mK bY.aW λb0 cI ay dm=>?_;have bw:=aw.R ay B;have dn:=ac.aI;have dp:=aw.aI;have cJ:jv 52 5 w X af v an:=y7.RD (L.V bt) ac (λg c p=>aF g (hg _ p) c);refine(cJ.V bw).p8 (ab:=r) mK (bY.V ay) (λg c=>⟨by have:=bd g c;omega,λp=>by have:=bd g c;have:=L.c4.aL g p;omega,λab bu p=>by have:=bd g c;have:=(L.cL ab bu).aL g p;omega⟩) cI A A A λcK cL b1 cM b2 cO=>?_;try simp only[M]
  rw[bq A A];have cP:=y7.Id J;have b3:=y7.Id L;have b7:∀g∈oV (db++[m]) bv,g∈oV db aD\/(aA.heap.size<=g/\g<X.heap.size):=λg c=>by
   have a3:=y7.Id bW g c;rcases b4.1 c with c|c
   ·rcases cF g c with c|c
    ·exact Y (hg _ c)
    ·exact Z ⟨A,a3⟩
   ·rw[hL]at c;rcases b4.1 c with c|c
    ·exact Y (h3 _ c)
    ·simp at c;exact Z ⟨by have:=a5 g c;omega,a3⟩
  have b8:∀g∈oV (v++[r]) b1,g∈oV v an\/X.heap.size<=g:=λg c=>by
   rcases b4.1 c with c|c
   ·rcases cO g c with c|c
    ·exact Y (hg _ c)
    ·exact Z A
   ·rw[hL]at c;rcases b4.1 c with c|c
    ·exact Y (h3 _ c)
    ·simp at c;exact Z (bd g c)
  have cQ:jv 52 5 w cL bV (db++[m]) bv:=y7.RD (bW.V bw) b2 (λg c p=>by
   have R:g∈oV v an:=hg _ p;rcases b7 g c with c|c
   ·exact aF g c R
   ·have:=b3 g R;omega)
  refine⟨⟨i+1,bV,cK,db++[m],v++[r],bv,b1,rfl,A,cQ,cM,λg c p=>?_,by rw[bL,g6,g6,aq];simp[a4],by rw[bL,g6,g6,ar];simp[bc],(a7.R bw B).R b2 (λg c=>Z (L.oT g c))⟩,A⟩;rcases b7 g c with bx|⟨bx,dq⟩
  ·rcases b8 g p with p|p
   ·exact aF g bx p
   ·have:=cP g bx;omega
  ·rcases b8 g p with p|p
   ·have:=b3 g p;omega
   ·omega
 ·obtain rfl:i=l.length:=A;rw[j3]at aq ar;have bm:db.length=k:=by have:=congrArg jm aq;rw[dU,dU]at this;omega
  have bM:v.length=k:=by have:=congrArg jm ar;rw[dU,dU]at this;omega
  have a4:∀t,t<k->(db.getD t mr).c6=(oW k l t).1:=λt u=>by have:=congrArg (λl:List (List UInt8)=>l[t]?) aq;simp only[e1]at this;rw[cr A,cr A]at this;simp only[m1,vq]at this;unfold oW;rw[iI A,iI A];exact this
  have bc:∀t,t<k->(v.getD t mr).c6=(oW k l t).2:=λt u=>by have:=congrArg (λl:List (List UInt8)=>l[t]?) ar;simp only[e1]at this;rw[cr A,cr A]at this;simp only[m1,vq]at this;unfold oW;rw[iI A,iI A];exact this
  obtain⟨et,gb,y⟩:=mT.afh J L aF bm bM A;have aQ:∀t,t<k->h1 (λi=>(db.getD i mr,v.getD i mr)) t=oW k l t:=λt u=>by unfold h1;rw[a4 t u,bc t u]
  have az:oS k s (h1 λi=>(db.getD i mr,v.getD i mr)):=⟨λt u=>by
    rw[aQ t u];exact Eg _ _,λt u=>by
    rw[aQ t u];show(l.getD t Ew).eX.length=s;rw[iI A];exact ao _ (dX _)⟩
  have aR:px k (h1 λi=>(db.getD i mr,v.getD i mr)):=λae cR=>by
   refine QT (j4:=l.map λai=>ai.fO.toNat) ?_ (by rw[dU];exact cq) A ?_ ?_
   ·refine rd.2 λd b aB be cS=>?_;rw[dU]at aB be;rw[ic,ic];have:=rd.1 cs d b (by rwa[dU]) (by rwa[dU]) cS;rw[ic,ic]at this;have z:=(a2 _ (dX aB)).1;have R:=(a2 _ (dX be)).1;intro e;exact this A
   ·intro d aB;obtain⟨ai,au,rfl⟩:=fS.1 aB;have:=a2 ai au;omega
   ·intro d aB;obtain⟨ai,au,rfl⟩:=fS.1 aB;obtain⟨t,u,rfl⟩:=ns au;have:=cR t A;rw[aQ t A]at this;unfold oW at this;rw[iI u]at this;exact this
  have aS:∀aO,mm k s aO (h1 λi=>(db.getD i mr,v.getD i mr))->mm k s aO (oW k l):=λaO bf t u ap av=>by have:=bf t u ap av;rwa[aQ t u]at this
  have b9:RF w aA ak af k s (oW k l) 0:=⟨⟨_,et,gb,y,az,aR,λt _ j ca=>A,aS⟩,aG⟩;have bz:=J.c4;rw[bm]at bz;apply(If bz).2;clear aS aR az aQ y a4 bc aq ar aF L J bz;apply c1 (λq a=>∃dy:Nat,q=[F H dy]/\dy<=k/\RF w a ak af k s (oW k l) dy) (λq _=>match q with|[F _ i]=>k-i.toNat|_=>0) ⟨0,rfl,A,b9⟩;clear b9;rintro _ _ ax ⟨dy,rfl,dr,⟨⟨ai,et,gb,y,az,aR,bB,aS⟩,aL⟩⟩;simp only[M,bi];refine⟨λa3=>?_,λcy=>?_⟩
  ·have f:dy<k:=A;obtain⟨cb,cU,ds,bC⟩:=aec bB aR f;apply c1 (λq a=>∃o:Nat,q=[F H o]/\dy<=o/\o<k/\(∀t,dy<=t->t<o->(h1 ai t).1.getD dy 0=0)/\ax=a) (λq _=>match q with|[F _ i]=>k-i.toNat|_=>0) ⟨dy,rfl,fF _,f,λt z R=>A,rfl⟩;rintro _ _ _ ⟨o,rfl,cV,D,cc,rfl⟩;refine bT (λq a=>q=[aK (decide (o+1<k/\(h1 ai o).1.getD dy 0=0))]/\ax=a) ?_ ?_
   ·apply(If y.q1).2;try simp only[M]
    rw[bq A A,bi];refine⟨λz=>?_,λz=>⟨by rw[decide_eq_false A],by trivial⟩⟩;refine(sX y.q1 D).2 ((Ig (y.r0 o D).eF (by have e:(ai o).1.c6.length=k:=az.kk o D;omega)).2 ?_);try simp only[M]
    refine⟨?_,by trivial⟩;rw[decide_eq_decide.2 (show(((ai o).1.c6.getD dy 0).toNat:Int)=0↔(o+1<k/\(h1 ai o).1.getD dy 0=0)from Ek.trans ⟨λe=>⟨A,e⟩,λe=>e.2⟩)]
   rintro _ _ _ ⟨rfl,rfl⟩;simp only[kt,bi];refine⟨λbg=>?_,λcW=>?_⟩
   ·try simp only[M]
    rw[bq A A];refine⟨⟨o+1,rfl,A,A,λt z R=>?_,by trivial⟩,A⟩;by_cases bD:t=o
    ·rw[bD];exact bg.2
    ·exact cc t z A
   ·have cd:(h1 ai o).1.getD dy 0≠0:=by
     intro e;by_cases z:o+1<k
     ·exact cW ⟨z,e⟩
     ·by_cases R:cb=o
      ·rw[R]at bC;exact bC e
      ·exact bC (cc cb cU A)
    have aM:=cD [] ax;have aU:=y.V aM;try simp only[M]
    refine(sX aU.q1 D).2 ((sX aU.q1 f).2 ((sX aU.u1 D).2 ((sX aU.u1 f).2 (aU.afb f D λbr bD aP=>?_))));have cX:Q [] w br:=(aL.R aM B).R aP (by intro g c;simp at c;rcases c with rfl|rfl;exact Z y.Es;exact Z y.Et);have bh:=az.A9 f D;have cf:=aR.A9 f D;have cg:=bB.A9 f D cV;have ch:qe (h1 ai) dy o dy=h1 ai o:=aee;rw[<-afa]at bh cf cg ch;have cY:h1 (y6 ai dy o)=qe (h1 ai) dy o:=rfl;generalize y6 ai dy o=m at*;have ci:=cD [] br;have aV:=bD.V ci;have bE:=cX.R ci B;obtain⟨cB,bP,bR⟩:=h.kB bE;refine RB aV.q1 f λdt cZ=>RB aV.u1 f λdu c0=>?_;simp only[M,bP];apply(sX aV.q1 f).2;have dv:(m dy).1.c6.length=k:=bh.kk dy f;have dw:(m dy).2.c6.length=s:=bh.lh dy f;refine(Ig (aV.r0 dy f).eF A).2 (Q2 (h.sI.J bE B) λa6 W=>(dz nb (c0 a6 W)).2 ((dz nb (cZ a6 W)).2 ?_));have V:=aV.V W;have bG:=bE.R W B;have cj:(m dy).1.c6=(h1 ai o).1:=congrArg (·.1) ch;have ck:h0 ((m dy).1.c6.getD dy 0)≠0:=by rw[cj];exact QP cd
    have c2:(sT (h1 m) dy (h0 ((m dy).1.c6.getD dy 0)) dy).1.getD dy 0=1:=by rw[yZ,A8];show eP (h0 ((m dy).1.c6.getD dy 0)) ((m dy).1.c6.getD dy 0)=1;rw[cj,rQ,v6 cd]
    generalize h0 ((m dy).1.c6.getD dy 0)=x at*;apply aH ZM (ae9 (h.bg.J bG B) (h.sI.J bG B) (V.r0 dy f) (V.u2 dy f) (λg c=>by have:=(V.wg dy f g c).1;omega) (λg c=>by have:=(V.wh dy f g c).1;omega) (V.u3 dy f dy f) A A);rintro _ X ⟨L,c3,ac⟩;have cm:=V.jJ f ac (d:=kY (m dy).1.c6 x) (b:=kY (m dy).2.c6 x) (by rw[uY];exact L) (by rw[uY];exact c3);have a7:Q [] w X:=bG.R ac (λg c=>by
     rcases b4.1 c with c|c
     ·exact Z (V.wg dy f g c).1
     ·exact Z (V.wh dy f g c).1)
    have aW:h1 (nk m dy (kY (m dy).1.c6 x) (kY (m dy).2.c6 x))=sT (h1 m) dy x:=by funext t;rw[afc];rfl
    generalize nk m dy (kY (m dy).1.c6 x) (kY (m dy).2.c6 x)=r at*;have aX:oS k s (sT (h1 m) dy x):=bh.kY;have c4:px k (sT (h1 m) dy x):=cf.kY ck;have c6:qd k dy (sT (h1 m) dy x):=cg.kY;refine(If cm.q1).2 (c1 (λq a=>∃i:Nat,q=[F H i]/\i<=k/\mT w a ak af k (mq r dy i) et gb/\Q [] w a) (λq _=>match q with|[F _ i]=>k-i.toNat|_=>0) ⟨0,rfl,A,by rw[afd];exact cm,a7⟩ ?_);rintro _ _ bX ⟨i,rfl,al,aY,aw⟩;simp only[M,bi];refine⟨λdx=>?_,λdB=>?_⟩
    ·have aZ:i<k:=A;refine bT (λq a=>q=[]/\mT w a ak af k (mq r dy (i+1)) et gb/\Q [] w a) ?_ ?_
     ·have ad:mq r dy i i=r i:=RC _ (fF _);have bH:mq r dy i dy=r dy:=afe _ _ _;have bj:oS k s (h1 r):=by rw[aW];exact aX
      have cv:(r i).1.c6.length=k:=bj.kk i aZ;have c5:(r i).2.c6.length=s:=bj.lh i aZ;have da:(r dy).1.c6.length=k:=bj.kk dy f;have cn:(r dy).2.c6.length=s:=bj.lh dy f;refine(sX aY.q1 aZ).2 ((Ig (aY.r0 i aZ).eF (by rw[ad];omega)).2 ?_);rw[ad];refine bT (λq a=>q=[aK (decide (i≠dy/\(r i).1.c6.getD dy 0≠0))]/\bX=a) ?_ ?_
      ·try simp only[M]
       try rw[bi]
       refine⟨λz=>⟨?_,by trivial⟩,λz=>⟨by rw[decide_eq_false (λR=>z A)],by trivial⟩⟩;rw[decide_eq_decide.2 (show(((r i).1.c6.getD dy 0).toNat:Int)≠0↔(i≠dy/\(r i).1.c6.getD dy 0≠0)from afk.trans ⟨λe=>⟨A,e⟩,λe=>e.2⟩)]
      rintro _ _ _ ⟨rfl,rfl⟩;simp only[kt,bi];refine⟨λbg=>?_,λc7=>?_⟩
      ·have:=afj (x:=(r i).1.c6.getD dy 0) (bb:=λa=>([]:List S)=[]/\mT w a ak af k (mq r dy (i+1)) et gb/\Q [] w a) h aY aw aZ f bg.1 (by rw[ad,bH,cv,da]) (by rw[ad,bH,c5,cn]) (by rw[ad];omega) (by rw[ad];omega) λb0 am ay=>by rw[ad,bH]at am;rw[aff bg.1];exact⟨rfl,am,ay⟩
       try simp only[M]
       simpa only[M]using this
      ·rw[afg (Classical.byContradiction λcp=>c7 ⟨λe=>cp (Y e),λe=>cp (Z ⟨by rw[cv,da],by rw[c5,cn],e⟩)⟩)];exact⟨by trivial,aY,aw⟩
     rintro _ _ b0 ⟨rfl,am,ay⟩;rw[bq A A];exact⟨⟨i+1,rfl,A,am,ay⟩,A⟩
    ·obtain rfl:i=k:=A;rw[bq A A];refine⟨⟨dy+1,rfl,A,⟨⟨mq r dy i,et,gb,aY,?_,?_,?_,?_⟩,aw⟩⟩,A⟩
     ·rw[Ev,aW];exact aX.xs f _
     ·rw[Ev,aW];exact c4.xs aX f
     ·rw[Ev,aW];exact c6.xs aX f c2
     ·intro aO bf;rw[Ev,aW]at bf;have am:=(bf.aei aX f).aeg ck;rw[cY]at am;exact aS aO (am.aed f D)
  ·obtain rfl:dy=k:=A;refine⟨(c9 dy).map λi=>(ai i).2.c6,B,λb be=>?_,y.afi,aS _ ?_,aL⟩
   ·obtain⟨i,al,rfl⟩:=fS.1 be;exact az.lh i (iK.1 al)
   ·have:=bB.aej (s:=s);intro t u ap av;rw[this t u ap av];refine aeb λj ca=>?_;show(ai j).2.c6.getD ap 0=(((c9 dy).map λi=>(ai i).2.c6).getD j []).getD ap 0;rw[iI (l:=(c9 dy).map λi=>(ai i).2.c6) (by simpa using ca),ic,List.getElem_range]
def RG:ByteArray:=⟨#[99,111,100,101,46,68,101,99,111,100,101]⟩
def lu(l:List f4):Nat:=(l.getD 0 Ew).eX.length
def nH(n:Nat)(l:List f4)(ai:f4):Bool:=decide (ai.fO<0\/(n:Int)<=ai.fO\/ai.eX.length≠lu l)
def afm(a:aN)(k n:Nat)(l:List f4)(ae:S):Prop:=
 (l.findIdx (nH n l)<l.length/\ae=bQ #[T I 0 0,hQ (.d2 RG (l.findIdx (nH n l):Nat) (.dD 2))])\/
 (l.findIdx (nH n l)=l.length/\(jM k l).length<k/\ae=bQ #[T I 0 0,hQ (.d2 RG ((jM k l).length:Nat) (.dD 3))])\/
 (l.findIdx (nH n l)=l.length/\(jM k l).length=k/\∃ap aO,ae=bQ #[ap,cT]/\aO.length=k/\(∀b∈aO,b.length=lu l)/\ju a ap aO/\mm k (lu l) (λj=>aO.getD j []) (oW k (jM k l)))
def RH{ah:f4->Bool}{l:List f4}(h:l.findIdx ah=l.length):∀ai∈l,ah ai=U:=λai a=>by
 cases b:ah ai with
 |false=>rfl
 |true=>
  have:=List.findIdx_lt_length_of_exists ⟨ai,a,b⟩;omega
def afn{aj:Nat}{l:List f4}(h:rW w ah k n aj vw)(g:aT w km aa l)(m:xy w l)(ak:l.length<=1000000)(am:lu l<=1000000):
  a0 C 214 #[aE (E ⟨ah,0,I⟩),aa] w λae a=>afm a k n l ae/\Q [] w a:=by
 have aP:=h.kh;have aQ:=h.El;have aR:=h.Bd;refine a9 NK 2 Tryz.func214 K rfl λa1 an=>?_;simp+decide only[↓a8,ba,NK,Tryz.f214];subst an;obtain⟨aS,cC,L⟩:=h.mn.cY;rw[Be]at L;obtain⟨t,u,rfl,ao,aq⟩:=g;have g:aT w km (T t l.length u) l:=⟨t,u,rfl,ao,aq⟩;simp only[M];apply c1 (λo a=>∃i:Nat,o=[F H i]/\i<=l.length/\(∀j,(e:j<l.length)->j<i->nH n l l[j]=U)/\Q [] w a) (λo _=>match o with|[F _ i]=>l.length-i.toNat|_=>0) ⟨0,rfl,A,λj _ h=>A,Q.b0 _ _⟩;rintro _ _ aA ⟨i,rfl,al,v,f⟩;simp only[M,bi];refine⟨λaU=>?_,λaW=>?_⟩
 ·have q:i<l.length:=A;have ar:=m _ (dX q);have R:nH n l l[i]=G->l.findIdx (nH n l)=i:=λp=>(List.findIdx_eq q).2 ⟨p,λj e=>v j A e⟩;refine Ia g m f q λax r x aX=>?_;have au:=cD [] ax;have d:=(f.R x B).R au B;have r:aC ax.drew aA.heap.size 412 (km l[i]):=r;obtain⟨V,av,W⟩:=h.kB d;obtain⟨aY,a2,aw,_,_⟩:=ar;refine bT (λo a=>o=[aK (nH n l l[i])]/\ax.drew=a) ?_ ?_
  ·have X:ax.drew.cell? ⟨aA.heap.size,0,I⟩=E (F H l[i].fO):=r.bh (af:=0);have ay:ax.drew.cell? ⟨aA.heap.size,1,I⟩=E l[i].a7:=r.bh (af:=1);simp only[M];apply(bl bZ X).2;simp only[M,bi];refine⟨λab=>⟨by unfold nH;rw[decide_eq_true (Y ab)],by trivial⟩,λab=>?_⟩;apply(bl bZ X).2;simp only[M,W];rw[L];simp only[M,bi];refine⟨λac=>⟨by unfold nH;rw[decide_eq_true (Z (Y ac))],by trivial⟩,λac=>?_⟩;apply(bl nb ay).2;rw[aw];simp only[M];have y:0<l.length:=A;obtain⟨a3,a5,az,_,_⟩:=m _ (dX y);have bz:∀{bb:S->Prop},(aV C (fY 366 (T t l.length u) (F H 0)) λaa=>aV C (gB 412 aa 1) λc=>aZ C (a4 52 c) ax.drew bb)↔bb l[0].a7:=λ{bb}=>Rq.sI (i:=0) g d y (show wY C 412 1 1=G by kernel_rfl) nb rfl;apply bz.2;rw[az];simp only[M];refine⟨?_,by trivial⟩;unfold nH lu;rw[iI y];rw[decide_eq_decide.2 (show((l[i].eX.length:Int)≠(l[0].eX.length:Nat))↔(l[i].fO<0\/(n:Int)<=l[i].fO\/l[i].eX.length≠l[0].eX.length)by omega)]
  rintro _ _ _ ⟨rfl,rfl⟩;simp only[kt];cases p:nH n l l[i]with
  |true=>
   simp only[k9];exact En ⟨Y ⟨by rw[R p];exact q,by rw[R p];rfl⟩,d⟩
  |false=>
   simp only[kN,M];rw[bq A A];refine⟨⟨i+1,rfl,A,λj e a6=>?_,d⟩,A⟩;by_cases aB:j=i
   ·subst aB;exact p
   ·exact v j e A
 ·obtain rfl:i=l.length:=A;have z:l.findIdx (nH n l)=l.length:=List.findIdx_eq_length_of_false λai b=>by obtain⟨j,e,rfl⟩:=ns b;exact v j e e
  have D:∀ai∈l,0<=ai.fO/\ai.fO<n/\ai.eX.length=lu l:=λai b=>by have:=RH z ai b;unfold nH at this;simp only[decide_eq_false_iff_not,not_or]at this;omega
  apply aH Zl (ae3 (h.V f) (g.V f) (m.V f) (λai b=>by have:=D ai b;omega) ak);rintro ae ax ⟨J,x⟩;have d:=f.R x B;have a7:=Ru k l;obtain⟨ad,ag,rfl,aD,aF⟩:=J;have J:aT ax km (T ad (jM k l).length ag) (jM k l):=⟨ad,ag,rfl,aD,aF⟩;obtain⟨V,av,W⟩:=h.kB d;simp only[M,V,bi];refine⟨λbc=>?_,λbd=>?_⟩
  ·exact En ⟨Z (Y ⟨z,A,rfl⟩),d⟩
  ·apply aH Zm (afl (s:=lu l) (h.V d) J (λai b=>(m ai (Bi b)).V d) (λai b=>by have:=D ai (Bi b);omega) A (Rx k l) (λai b=>(D ai (Bi b)).2.2) am);rintro ap be ⟨aO,aG,aI,aJ,aL,aM⟩;exact⟨Z (Z ⟨z,A,ap,aO,rfl,aG,aI,aJ,aL⟩),d.R aM B⟩
end
end Go.Proofs.YtepeilglbedgdaaGreatDoor.eR
namespace Go.Proofs.YtepeilglbedgdaaGreatDoor
open Go.X
attribute[local irreducible]Go.X.W
variable{am:List Nat}{a w:aN}{ab af ag b h5 i k n s t:Nat}{aa ae:S}{ac:S -> aN -> Prop}{c:dR}{l:List UInt8}{x:iX}
section
open Go.RowKit ey
variable{aG:List b3}{aq:b3}
def RI(af:Nat):∀(l:List S)(n:Nat)(bo:Array S),((l.zipIdx n).foldl (λbo x=>bo.setIfInBounds (af+x.2) x.1) bo).size=bo.size/\∀i,((l.zipIdx n).foldl (λbo x=>bo.setIfInBounds (af+x.2) x.1) bo)[i]?=if af+n<=i/\i<af+n+l.length/\i<bo.size then l[i-(af+n)]? else bo[i]?
 |[],n,bo=>⟨rfl,λi=>by simp;intros;omega⟩
 |x::l,n,bo=>by
  obtain⟨b,c⟩:=RI af l (n+1) (bo.setIfInBounds (af+n) x);rw[List.zipIdx_cons,List.foldl_cons];refine⟨by rw[b];simp,λi=>?_⟩;rw[c i];simp only[Array.size_setIfInBounds,gF];by_cases al:i=af+n
  ·subst al;rw[if_neg A];by_cases ao:af+n<bo.size
   ·rw[if_pos ⟨A,A,ao⟩,k6];simp[ao]
   ·rw[if_neg A,Array.getElem?_eq_none (by simp;omega),Array.getElem?_eq_none A]
  ·by_cases a:af+(n+1)<=i/\i<af+(n+1)+l.length/\i<bo.size
   ·rw[if_pos a,if_pos ⟨A,A,a.2.2⟩,show i-(af+n)=(i-(af+(n+1)))+1 by omega,List.getElem?_cons_succ]
   ·rw[if_neg a,if_neg A,Array.getElem?_setIfInBounds_ne A]
def afo{d b c ag:Int}{ac:Array S}:C.built 317 #[(0,F H d),(1,F H b),(2,F H c),(3,F H ag),(4,b6 ac)].toList=(if(decide (ac.size≠108)||decide (4+ac.size>112))=G then I else E (ac.zipIdx.foldl (λbo x=>bo.setIfInBounds (4+x.2) x.1) (fa ⟨d,b,c,ag,pt⟩).toArray)):=K
def afp{d b c ag:Int}{ap:kC}:C.built 317 #[(0,F H d),(1,F H b),(2,F H c),(3,F H ag),(4,b6 (eL ap).toArray)].toList=E (fa ⟨d,b,c,ag,ap.1⟩).toArray:=by
 rw[afo];have ao:(eL ap).toArray.size=108:=by simp[nG]
 rw[if_neg (by rw[ao];decide)];congr 1;rw[<-Array.foldl_toList,Array.toList_zipIdx];obtain⟨j,g⟩:=RI 4 (eL ap) 0 (fa ⟨d,b,c,ag,pt⟩).toArray;apply Array.ext_getElem?;intro i;have a:=pu (aj:=⟨d,b,c,ag,pt⟩) hd;rw[g i,nG,List.getElem?_toArray,List.getElem?_toArray,List.size_toArray,a];have h:fa ⟨d,b,c,ag,pt⟩=[F H d,F H b,F H c,F H ag]++pt.flatMap bs:=rfl;have e:fa ⟨d,b,c,ag,ap.1⟩=[F H d,F H b,F H c,F H ag]++eL ap:=rfl;by_cases f:i<4
 ·rw[if_neg A,h,e,pR (by simpa using f),pR (by simpa using f)]
 ·by_cases k:i<112
  ·rw[if_pos A,e,nr (by simp;omega)];rfl
  ·rw[if_neg A,jy (by rw[a];omega),jy (by rw[pu ap.2];omega)]
section
def Ex(b:c.bp)(i:t<c.bd):a0 C 176 #[fQ c,F H t] w λae a=>ae=F H ((fg c+t:Nat):Int)/\Q [] w a:=by have j:=Er b;have k:=b.jZ;refine a9 .D 2 Tryz.func176 K rfl λa1 d=>?_;simp+decide only[↓a8,ba,Tryz.f176];subst d;refine kX λaA e f l=>?_;obtain⟨m,g,n,o,h⟩:=iV e;simp only[M,g,h];unfold fg at*;rw[<-uq];generalize c.cY*c.aJ=x at*;rw[bq (x:=(x:Int)) A A,bq (x:=1+(x:Int)) A A,bq A A];exact⟨B,f⟩
def Ih(h:dH w ab aG am)(f:lv aG c)(j:t<c.bd):a0 C 174 #[aP ab,fQ c,F H t] w λae a=>ae=aK G/\Q [] w a:=by refine a9 .D 3 Tryz.func174 K rfl λa1 g=>?_;simp+decide only[↓a8,ba,Tryz.f174];subst g;refine kX λaA b d k=>?_;refine(fj b).2 ?_;refine yT (h.V d) f λax e=>?_;obtain⟨l,m,n,i,o⟩:=iV (b.J e B);simp only[M,i];rw[decide_eq_true (show(0:Int)<=(t:Int)by omega)];simp only[M];rw[decide_eq_true (show(t:Int)<(c.bd:Int)by omega)];exact⟨rfl,d.R e B⟩
def Ey:mI C 294 5 108:=by unfold mI;kernel_rfl
def afq(c:108<=n)(k:ac (aE (E ⟨b,af,I⟩)) w){d:Nat}:W C (Ad 294 (T (E ⟨b,af,I⟩) n d)) w ac:=by refine(j9 (aa:=aE (E ⟨b,af,I⟩)) (a:=w) ?_).2 k;unfold Ad;refine gv C _ w ?_;have e:C.underlying 294=E (.array 108 5):=Ey;simp[Instr.arrayAt,fK e,c];omega
def RJ(e:aT w bs ae l)(c:l.length=108)(k:ac (b6 (eL ⟨l,c⟩).toArray) w):W C (Ad 294 ae) w λah a=>aZ C (a4 294 ah) a λap=>ac ap a:=by obtain⟨d,j,rfl,m,f⟩:=e;obtain⟨b,af,rfl,g⟩:=f.resolve_left (by intro h;subst h;simp at c);rw[c];refine afq A ?_;have i:fu w b af (eL ⟨l,c⟩):=g;exact(gC (by rw[nG];exact Li) i).2 k
def pB(c:dR)(t h5:Nat)(l:List kC)(ag:Nat):dQ:=⟨3,ag,t,h5,xt c l ag⟩
end
def Ez:eH C 183 52 1 kl (λab=>ab.1):=eH.aW pe mJ nb
def RK(k n:Nat)(an:List (List UInt8))(s:Nat):(eR.rX k n an s).length=n:=by simp[eR.rX]
def afr{an:List (List UInt8)}(a:ag<n):((eR.rX k n an s).getD ag []).length=s:=by unfold eR.rX sU;rw[gp,e1,qD a];simp
section
variable{l:List kC}
def RL(k:∀a,aC a w.heap.size 294 (eL jL)->Q [] w a->a.heap.size=w.heap.size+1->ac (aE (E ⟨w.heap.size,0,I⟩)) a):W C (hV 294) w ac:=by
 have b:du C 294 (b6 (eL jL).toArray):=by unfold du;kernel_rfl
 exact gI b λa c d b=>k a (by simpa[bF]using c) d b
def RM{ap bm:kC}(h:aC w b 294 (eL bm))(k:∀a,aC a b 294 (eL ap)->Q [b] w a->a.heap.size=w.heap.size->ac bS a):W C (dC 294 (aE (E ⟨b,0,I⟩)) (b6 (eL ap).toArray)) w ac:=by refine f0 (cv:=[]) (c5:=eL bm) (da:=[]) CU (by simpa using h) rfl (nG bm) (by simp[bF,nG]) (by simpa[bF]using Eo ap) λa c d e=>k a (by simpa[bF]using c) d e
def RN(n:c.bp)(o:l.length=c.aJ)(y:aT w eL aa l):
  a0 C 175 #[fQ c,F H t,F H h5,aa] w λae a=>∃z a2,ae=bQ #[z,cT]/\aT a jx z a2/\a2.map (·.1)=(c9 c.aR).map (pB c t h5 l)/\gx w.heap.size z/\Q [] w a:=by
 have ac:=n.kh;have au:=n.jY;have av:=n.i6;have ba:=n.nj;obtain⟨bb,aw⟩:=Rn;obtain⟨ad,cC,rfl,ay,az⟩:=y;have y:aT w eL (T ad l.length cC) l:=⟨ad,cC,rfl,ay,az⟩;apply Z8;unfold Nt;refine kX λaA aB aC bc=>?_;obtain⟨bd,aF,aG,be,bf⟩:=iV aB;simp only[M,aF,aG];apply aH L4 (eR.Ra ac au av);rintro _ ax ⟨ah,aj,vw,rfl,aI,aJ⟩;have aL:=aC.R aJ B;simp only[cV,cX];apply(fp dk).2;simp only[M];apply c1 (λe a=>∃(i:Nat)(ae:S)(cj:List gN)(aD:List Nat),e=[ae,F H i]/\i<=l.length/\jv 52 294 ax a ae cj aD/\cj.map gN.c6=(l.take i).map (·.1)/\Q [] ax a) (λe _=>match e with|[_,F _ i]=>l.length-i.toNat|_=>0) ⟨0,_,[],[],rfl,A,y0 _ _,B,Q.b0 _ _⟩;rintro _ _ j ⟨i,ae,cj,aD,rfl,al,k,p,q⟩;have af:=aL.R q B;simp only[M,bi];refine⟨λbg=>?_,λbh=>?_⟩
 ·have ag:i<l.length:=A;refine(H6.ek y af ag).2 (RL λD aM r bj=>RM aM λJ aO f bk=>(yc Ey el).2 ?_);have ak:=k;have aP:Q [j.heap.size] j J:=(r.bw B).R f B;have am:jv 52 294 ax J ae cj aD:=k.J aP (λg b K=>by have:=k.c4.aL g b;simp at K;omega) (λai L g b K=>by have:=(k.cL ai L).aL g b;simp at K;omega);have aQ:=q.aI;refine y1 mK rfl λaR aS s bl=>?_;have aU:=aO.J s B;let ai:gN:=⟨T (E ⟨j.heap.size,0,I⟩) 108 108,[j.heap.size],l[i].1⟩;have L:ai.bp 294 aR:=by
   refine⟨?_,Z ⟨j.heap.size,0,108,eL l[i],by rw[l[i].2],rfl,aU,by rw[l[i].2];omega,by unfold d0;omega,by rw[nG];omega,?_⟩⟩
   ·rw[qb,gA]
   ·rw[List.drop_zero,l[i].2,mv (by rw[nG];omega)];rfl
  have an:cj.length=i:=by have:=congrArg jm p;rw[dU,dU,ea]at this;omega
  refine jv.p8 (ab:=ai) mK (am.V s) L (λg b=>?_) aS A A (by have:=s.aI;omega) λaV aW ez aX R bm=>?_
  ·simp[ai]at b;subst b;exact⟨aQ,λh=>by have:=ak.c4.aL _ h;omega,λap aY h=>by have:=(ak.cL ap aY).aL _ h;omega⟩
  rw[bq A A];refine⟨⟨i+1,aV,cj++[ai],ez,rfl,A,aX,?_,?_⟩,by simp;omega⟩
  ·rw[g6,p,jO ag,g6];rfl
  ·exact(((q.R r B).R f (by simp;omega)).R s B).R R (λg b=>Z (am.oT g b))
 ·obtain rfl:i=l.length:=A;rw[j3]at p;have ao:=k.mn;rw[p]at ao;have V:eR.rY (l.map (·.1))=108:=by
   unfold eR.rY;cases aZ:l with
   |nil=>rw[aZ]at o;simp at o;omega
   |cons d dK=>simp[d.2]
  have a1:eR.wa c.aJ (l.map (·.1))=U:=by unfold eR.wa;rw[V,dU,o];simp;intro x a3 _;exact a3
  apply aH YW (eR.aeK (aI.V q) ao (by rw[dU];omega) (by rw[V];omega));rintro _ D ⟨r,aq⟩;rw[a1,V]at aq;obtain⟨ap,bn,bo,rfl,a4,a5⟩:=aq;simp only[cV,cX];apply(fp dk).2;simp only[M];have u:=a4.mn;rw[a5]at u;obtain⟨bp,br,rfl⟩:=u.cY;simp only[M];rw[RK]at u⊢;have ar:=af.R r B;apply c1 (λe a=>∃(a2:List xx)(ae:S),e=[ae,F H a2.length]/\a2.length<=c.aR/\hn D a 317 112 jx ae a2/\a2.map (·.1)=(c9 a2.length).map (pB c t h5 l)/\Q [] D a) (λe _=>match e with|[_,F _ i]=>c.aR-i.toNat|_=>0) ⟨[],_,rfl,B,hn.D _ _ _ _ _,rfl,Q.b0 _ _⟩;rintro _ _ J ⟨a2,a6,rfl,bs,W,X,f⟩;simp only[M,bi];refine⟨λbt=>?_,λbu=>?_⟩
  ·have m:a2.length<c.aR:=A;refine ju.ek Ez u f (by rw[RK];exact m) λbv a7=>?_;have an:((eR.rX c.aJ c.aR (l.map (·.1)) 108).getD a2.length []).length=108:=afr m;refine RJ (a7.V f) an ((bY afp).2 ?_);let v:xx:=⟨pB c t h5 l a2.length,Bf ac o m⟩;refine hn.yQ aw W f (x:=v) qh (by simp[bF,v,jx,pB,xt]) (Rl v) A (by unfold d0;omega) A λa8 aW a9 R=>?_;rw[bq A A];refine⟨⟨a2++[v],a8,B,by simp;omega,a9,?_,R⟩,by simp;omega⟩;rw[g6,X,di,nt,nK,g6];rfl
  ·have m:a2.length=c.aR:=A;rw[m]at X;refine⟨a6,a2,rfl,W.eF qh A,X,W.AW.bw ar.aI,ar.R f B⟩
end
def sY(c:dR)(t h5:Nat)(l:List kC)(ag s:Nat):Option (List UInt8):=if s=fg c+t then E (pB c t h5 l ag).e5 else I
section
variable{l:List kC}
def afs(a:c.bp)(b:ag<c.aR)(e:t<c.bd)(f:h5<=1152921504606846976)(d:l.length=c.aJ):(pB c t h5 l ag).bp:=by have:=a.i6;have:=a.jZ;exact⟨by simp[pB],by simp[pB],by simp[pB],by simp[pB];omega,by simp[pB],by simp[pB];omega,by simp[pB],by simp[pB];omega,Bf a.kh d b⟩
def aft(h:dH w ab aG am)(J:lv aG c)(bg:∀aq∈aG,aq.dp=λ_=>I)(an:t<c.bd)(b0:1<=h5)(bh:h5<=1152921504606846976)(ao:l.length=c.aJ)(ar:aT w eL aa l):
  a0 C 123 #[aP ab,fQ c,F H t,F H h5,aa] w λae a=>ae=cT/\∃fo az,dH a ab fo az/\bX am az w a/\he aG fo λag aq=>if aq.dW then aq else jJ aq (sY c t h5 l ag):=by
 have au:=h.aL;have L:=J.cL;have b1:=L.i6;obtain⟨aJ,cC,rfl,bj,bk⟩:=ar;have ar:aT w eL (T aJ l.length cC) l:=⟨aJ,cC,rfl,bj,bk⟩;refine a9 M0 5 Tryz.func123 K rfl λa1 bl=>?_;simp+decide only[↓a8,ba,M0,Tryz.f123];subst bl;refine kX λaA R aL b2=>bT (λf a=>f=[aK U]/\Q [] aA a) ?_ ?_
 ·refine(fj R).2 (aH Gr (Ih (h.V aL) J an) ?_);rintro _ ax ⟨rfl,u⟩;obtain⟨b7,bm,b8,b9,ca⟩:=iV (R.J u B);simp only[M,hq,bm,ao];rw[decide_eq_false (show¬((h5:Int)<1)by omega),decide_eq_false (show¬((1152921504606846976:Int)<h5)by omega)];simp only[M,ne_eq,not_true_eq_false,decide_false];exact⟨by trivial,u⟩
 rintro _ _ ax ⟨rfl,u⟩;simp only[M];have av:=aL.R u B;have bn:=R.J u B;refine(fj bn).2 (aH LQ (RN L ao (ar.V av)) ?_);rintro _ bo ⟨bp,a2,rfl,aM,aO,br,aQ⟩;simp only[cV,cX];apply(fp dk).2;simp only[M];have aw:=av.R aQ B;refine t0 (h.V aw) λcB V W bs ay=>?_;have aR:=aw.R ay B;have b:eo V am ew cB (dZ (cH aG)):=eo.cq (a:=bo) W (by intro ap;simp[ew]) bs (λg aB=>iL (au g aB) aw.aI);have o:fb V am w.heap.size 25 (en c):=(((fb.cq R au).V u).V aQ).V ay;have p:eo V am jx bp a2:=(eo.cq (a:=ax) aM (λap=>by rw[qh];omega) br (λg aB=>iL (au g aB) av.aI)).V ay;have bt:a2.length=c.aR:=by have:=congrArg jm aO;simpa using this
 have bu:∀ag,(aS:ag<a2.length)->a2[ag].1=pB c t h5 l ag:=by
  intro ag aS;have:(a2.map (·.1))[ag]?=E a2[ag].1:=by rw[e1,cr aS];rfl
  rw[aO,e1,qD A]at this;exact(re this).symm
 obtain⟨bv,bw,rfl,_,_⟩:=id aM;rw[bt]at p⊢;generalize w.heap.size=bx at o;have X:(dZ (cH aG)).length=(cH aG).length:=by simp[dZ]
 have cb:(cH aG).length<=8:=gz (H4 aG) h.dT.2;obtain⟨aU,aV,rfl,_,_⟩:=id b.1;simp only[M];rw[X];have b:eo V am ew (T aU (cH aG).length aV) (dZ (cH aG)):=by rw[<-X];exact b
 have ad:=H5 aG;refine c1 (λf a=>∃(ak:Nat)(fo:List b3)(az:List Nat),f=[F H ak]/\ak<=(cH aG).length/\dH a ab fo az/\bX am az w a/\he aG fo (λag aq=>if ag∈(cH aG).take ak then{aq with dp:=sY c t h5 l ag}else aq)/\fb a az bx 25 (en c)/\eo a az jx (T bv c.aR bw) a2/\eo a az ew (T aU (cH aG).length aV) (dZ (cH aG)))
  (λf _=>match f with|[F _ ak]=>(cH aG).length-ak.toNat|_=>0) ⟨0,aG,am,rfl,A,h.V aR,.iu aR,(he.b0 aG).hu B,o,p,b⟩ ?_
 clear o b p;rintro _ _ aC ⟨ak,fo,az,rfl,bz,k,v,d,o,p,x⟩;simp only[M,bi];refine⟨λcc=>?_,λcf=>?_⟩
 ·have m:ak<(cH aG).length:=A;apply(xo.ek (l:=dZ (cH aG)) x.1 (Q.b0 _ _) A).2;obtain⟨aq,i,aD⟩:=sS.1 (dX m);rw[show(dZ (cH aG))[ak]'A=(((cH aG)[ak]:Nat):Int)by simp[dZ]];have aF:=xw ad m;have q:=λe=>t7 ad m e;generalize(cH aG)[ak]=ag at*;have bB:ag<c.aR:=by rw[<-J.aR];exact(fi.1 i).1
  apply(fj (bD o.1)).2;have aW:ag<a2.length:=A;obtain⟨af,ah,cg,aX,aY⟩:=p.1.sH qh aW;simp only[zI]at aX;obtain⟨rfl,_,rfl⟩:=aX;apply(hP Au Ap (show ag<c.aR by omega)).2;have bC:∀{a},fu a af (ah+ag*112) (jx a2[ag])->∀ac:S->Prop,aZ C (a4 317 (aE (E ⟨af,ah+ag*112,I⟩))) a ac↔ac (iU a2[ag].1):=λh ac=>gC (l:=jx a2[ag]) (by rw[qh];exact tN) h;have bE:fu aC.drew af (ah+ag*112) (jx a2[ag]):=aY;refine(bC bE _).2 (aH De (Ex L an) ?_);rintro _ ai ⟨rfl,aj⟩;have a3:=(cD [] aC).R aj B;have bG:fu ai af (ah+ag*112) (jx a2[ag]):=aY.J a3 B;apply(mE (l:=jx a2[ag]) (by rw[qh];exact tN) bG).2;have a5:=afs (h5:=h5) (l:=l) L bB an bh ao;rw[bu ag aW];refine Eb a5 λch bH bI ci bJ=>?_;have a6:=a3.R bJ B;have z:fo[ag]?=E aq:=(d.2 ag aq i).trans (congrArg E (if_neg aF));have aI:∀gX∈fo,gX.d3.length=c.e6:=(d.ei J (λe y _=>by split<;>rfl)).cP;refine Ea (k.V a6) z aD (λgX bK=>by rw[aI gX bK];exact(aI _ (gP z)).symm) (by rw[aI _ (gP z)];unfold dR.e6 fg;omega) a5 bI λcd bL bM bP=>?_;have al:=bP.mN a6;apply(fp dk).2;simp only[M];rw[bq A A];refine⟨⟨ak+1,_,bL,rfl,A,bM,v.dP al,(d.tG i).hu (λe y n=>?_),o.de al,p.de al,x.de al⟩,by simp;omega⟩;by_cases r:e=ag
  ·subst r;rw[i]at n;cases n;rw[if_pos rfl,if_pos ((q _).2 (Y rfl))];have bR:=bg aq (gP i);unfold b3.kW;congr 1;funext s;unfold sY;rw[bR]
  ·rw[if_neg r];by_cases j:e∈(cH aG).take ak
   ·rw[if_pos j,if_pos ((q _).2 (Z j))]
   ·rw[if_neg j,if_neg (λh=>((q _).1 h).elim r j)]
 ·obtain rfl:ak=(cH aG).length:=A;rw[j3]at d;have bU:cH fo=cH aG:=d.cH (λe y _=>by split<;>rfl);refine t0 k λcB ai W bV aj=>?_;rw[bU]at W;have b:eo ai az ew cB (dZ (cH aG)):=eo.cq (a:=aC) W (by intro ap;simp[ew]) bV k.aL;obtain⟨a7,bb,rfl,_,_⟩:=id b.1;simp only[M];rw[X];have b:eo ai az ew (T a7 (cH aG).length bb) (dZ (cH aG)):=by rw[<-X];exact b
  refine c1 (λf a=>∃(ak:Nat)(D:List b3)(cM:List Nat),f=[F H ak]/\ak<=(cH aG).length/\dH a ab D cM/\bX am cM w a/\he aG D (λag aq=>if ag∈(cH aG).take ak then jJ aq (sY c t h5 l ag)else if ag∈cH aG then{aq with dp:=sY c t h5 l ag}else aq)/\eo a cM ew (T a7 (cH aG).length bb) (dZ (cH aG)))
   (λf _=>match f with|[F _ ak]=>(cH aG).length-ak.toNat|_=>0) ⟨0,fo,az,rfl,A,k.V aj,v.oM aj,d.hu B,b⟩ ?_
  clear k v d o x b p;rintro _ _ cj ⟨ak,D,cM,rfl,bz,k,v,d,x⟩;simp only[M,bi];refine⟨λck=>?_,λcm=>?_⟩
  ·have m:ak<(cH aG).length:=A;refine(xo.ek (l:=dZ (cH aG)) x.1 (Q.b0 _ _) A).2 ?_;obtain⟨aq,i,aD⟩:=sS.1 (dX m);have bW:(cH aG)[ak]∈cH aG:=dX m;rw[show(dZ (cH aG))[ak]'A=(((cH aG)[ak]:Nat):Int)by simp[dZ]];have aF:=xw ad m;have q:=λe=>t7 ad m e;generalize(cH aG)[ak]=ag at*;have z:D[ag]?=E {aq with dp:=sY c t h5 l ag}:=(d.2 ag aq i).trans (congrArg E ((if_neg aF).trans (if_pos bW)));refine A0 k z aD λbH bY bZ bc=>(fp dk).2 ?_;simp only[M];rw[bq A A];refine⟨⟨ak+1,_,bY,rfl,A,bZ,v.dP bc,(d.tG i).hu (λe y n=>?_),x.de bc⟩,by simp;omega⟩;by_cases r:e=ag
   ·subst r;rw[i]at n;cases n;rw[if_pos rfl,if_pos ((q _).2 (Y rfl))];rfl
   ·rw[if_neg r];by_cases j:e∈(cH aG).take ak
    ·rw[if_pos j,if_pos ((q _).2 (Z j))]
    ·rw[if_neg j,if_neg (λh=>((q _).1 h).elim r j)]
  ·obtain rfl:ak=(cH aG).length:=A;refine⟨rfl,D,cM,k,v,d.hu (λe y n=>?_)⟩;rw[j3];cases bd:y.dW with
   |true=>
    have:e∉cH aG:=λh=>by obtain⟨cn,be,bf⟩:=sS.1 h;rw[n]at be;cases be;rw[bd]at bf;cases bf
    rw[if_neg this,if_neg this,if_pos rfl]
   |false=>
    rw[if_pos (sS.2 ⟨y,n,bd⟩)];rfl
end
end
end Go.Proofs.YtepeilglbedgdaaGreatDoor
namespace Go.Proofs.YtepeilglbedgdaaGreatDoor.eR
open Go.X
attribute[local irreducible]Go.X.W
variable{k n s:Nat}
section
open Go.RowKit
def afu{l:List f4}(c:∀ai∈l,0<=ai.fO/\ai.fO<n)(q:n<=256)(h:k<=256)(i:l.length=k)(j:(l.map f4.fO).Nodup):px k (oW k l):=λae m=>by
 refine QT (j4:=l.map λai=>ai.fO.toNat) ?_ (by rw[dU];exact i) h ?_ ?_
 ·refine rd.2 λd b a g o=>?_;rw[dU]at a g;rw[ic,ic];have:=rd.1 j d b (by rwa[dU]) (by rwa[dU]) o;rw[ic,ic]at this;have r:=(c _ (dX a)).1;have s:=(c _ (dX g)).1;intro e;exact this A
 ·intro d a;obtain⟨ai,f,rfl⟩:=fS.1 a;have:=c ai f;omega
 ·intro d a;obtain⟨ai,f,rfl⟩:=fS.1 a;obtain⟨t,p,rfl⟩:=ns f;have:=m t A;unfold oW at this;rw[iI p]at this;exact this
def afv{aO an:List (List UInt8)}(h:aO.length=an.length)(d:∀b∈aO,b.length=s)(e:∀b∈an,b.length=s)(f:∀j,j<aO.length->∀ap,ap<s->(aO.getD j []).getD ap 0=(an.getD j []).getD ap 0):aO=an:=by refine List.ext_getElem h λj a c=>?_;have g:=d _ (dX a);have i:=e _ (dX c);refine HY (by rw[g,i]) λap k=>?_;have:=f j a ap A;rwa[iI a,iI c]at this
def afw{l:List f4}{aO an:List (List UInt8)}(q:n<=8)(c:l.findIdx (nH n l)=l.length)(d:(jM k l).length=k)(r:k<=8)(u:aO.length=k)(e:∀b∈aO,b.length=s)(f:an.length=k)(g:∀b∈an,b.length=s)
  (h:mm k s (λj=>aO.getD j []) (oW k (jM k l))) (i:∀ai∈jM k l,ai.eX=sU (n6 k ai.fO.toNat) an s):aO=an:=by
 have m:=afu (k:=k) (n:=n) (l:=jM k l) (λai o=>by
  have:=RH c ai (Bi o);unfold nH at this;simp only[decide_eq_false_iff_not,not_or]at this;omega) A A d (Rx k l)
 have p:mm k s (λj=>an.getD j []) (oW k (jM k l)):=λt v ap a=>by unfold oW;simp only;rw[iI (l:=jM k l) A,i _ (dX _),ael a,f]
 exact afv A e g λj w ap a=>h.zU m p j A ap a
end
end Go.Proofs.YtepeilglbedgdaaGreatDoor.eR
namespace Go.Proofs.YtepeilglbedgdaaGreatDoor
open Go.X
attribute[local irreducible]Go.X.W
variable{am bU:List Nat}{a w:aN}{ab ag ak h5 i j k n s t:Nat}{aB:Nat -> Bool}{aU:Type}{aa:S}{ac:S -> aN -> Prop}{bB xU:Nat -> Nat -> Bool}{au gg:eW}{c:dR}{x:iX}
section
open Go.RowKit ey
variable{aG fo:List b3}{aq:b3}
def ia(c:dR)(bB:Nat->Nat->Bool)(t ag:Nat):Bool:=bB ag (fg c+t)
def u4(g:Nat->Bool)(n:Nat):List Nat:=(c9 n).filter g
def afx(g:Nat->Bool)(n:Nat):u4 g (n+1)=u4 g n++if g n then[n]else[]:=by unfold u4;rw[nK,List.filter_append];cases h:g n<;>simp[h]
section
def y8(c:dR)(au:eW)(t ag:Nat):List UInt8:=xt c (au.bg t) ag
def Bm(w:aN)(aD:List Nat)(c:dR)(au:eW)(t:Nat)(a:List eR.f4)(b:List Nat):Prop:=a.map (λai=>(ai.fO,ai.eX))=b.map (λ(e:Nat)=>((e:Int),y8 c au t e))/\∀ai∈a,eo w aD bs ai.a7 ai.eX
def afy:hO C 366 412 2 32 (b6 #[F H 0,T I 0 0]):=Gc
def RO(h:dH w ab aG am)(m:hA c au aG bB aB)(y:t<c.bd):
  a0 C 212 #[aP ab,fQ c,F H t] w λae a=>∃f cB,ae=bQ #[F H (if bV (ia c bB t) c.aR=0 then 0 else au.g4 t:Nat),cB]/\aT a eR.km cB f/\Bm a [] c au t f (u4 (ia c bB t) c.aR)/\gx w.heap.size cB/\Q [] w a:=by
 have V:=m.ei.cL;have br:=V.i6;obtain⟨bt,bu⟩:=m.cL.v0 t y;refine a9 NJ 3 Tryz.func212 K rfl λa1 aQ=>?_;simp+decide only[↓a8,ba,NJ,Tryz.f212];subst aQ;refine kX λaA ak al bv=>(fj ak).2 (aH Gr (Ih (h.V al) m.ei y) ?_);rintro _ ax ⟨rfl,an⟩;have W:=al.R an B;have ao:=ak.J an B;obtain⟨bw,bx,aR,bz,bC⟩:=iV ao;simp only[M,hq,aR];let g:=ia c bB t;refine c1 (λi a=>∃(ag:Nat)(f:List eR.f4)(cB:S)(aD:List Nat),i=[F H (if bV g ag=0 then 0 else au.g4 t:Nat),cB,F H ag]/\ag<=c.aR/\bP a 412 2 cB f.length (f.flatMap eR.km) aD/\(∀x∈aD,ax.heap.size<=x)/\Bm a aD c au t f (u4 g ag)/\Q [] ax a) (λi _=>match i with|[_,_,F _ ag]=>c.aR-ag.toNat|_=>0)
  ⟨0,[],T I 0 0,[],rfl,A,gJ _ _ _,B,⟨rfl,B⟩,Q.b0 _ _⟩ ?_
 rintro _ _ aS ⟨ag,f,cB,aD,rfl,bD,z,X,q,r⟩;have bE:=yU g ag;have bG:f.length=bV g ag:=by have:=congrArg jm q.1;rw[dU,dU]at this;exact this
 simp only[M,bi];refine⟨λbH=>?_,λbI=>?_⟩
 ·have aa:ag<c.aR:=A;refine bT (λi a=>∃(f:List eR.f4)(cB:S)(aD:List Nat),i=[F H (if bV g (ag+1)=0 then 0 else au.g4 t:Nat),cB]/\bP a 412 2 cB f.length (f.flatMap eR.km) aD/\(∀x∈aD,ax.heap.size<=x)/\Bm a aD c au t f (u4 g (ag+1))/\Q [] ax a) ?_ ?_
  ·refine(fj (ao.J r B)).2 (aH De (Ex V y) ?_);rintro _ aU ⟨rfl,D⟩;have eu:ag<aG.length:=by rw[m.ei.aR];exact aa
   have aq:aG[ag]?=E aG[ag]:=cr eu;have ar:fg c+t<c.e6:=by unfold dR.e6 fg;omega
   refine HK (h.V ((W.R r B).R D B)) aq (by rw[m.ei.cP _ (dX eu)];exact ar) λav aV=>?_;rw[m.ec aq ar (by rw[xv];simp[e0,jw]),xv];have aW:((if bB ag (fg c+t)=G then E (jw c au t ag)else I).getD hz)=if g ag then jw c au t ag else hz:=by show _=if bB ag (fg c+t)=G then _ else _;split<;>rfl
   have aX:(if bB ag (fg c+t)=G then E (jw c au t ag)else I).isSome=g ag:=by show _=bB ag (fg c+t);cases bB ag (fg c+t)<;>rfl
   rw[aW,aX];simp only[cV,cX];have J:(jw c au t ag).hy.length=108:=Bf V.kh (m.cL.wc t y) aa;have aY:(if g ag then jw c au t ag else hz).hy.length=108:=by split;exact J;exact hd
   refine nF λbJ aZ a2 bK=>lT aZ hd aY λk s a3 bL=>?_;have aw:=D.R aV B;have L:Q [av.heap.size] aS k:=((aw.R a2 B).bw B).R a3 B;have bM:=aw.aI;have ac:Q [] ax k:=r.R L (by simp;have:=r.aI;omega);have ay:=z.aL;have az:bP k 412 2 cB f.length (f.flatMap eR.km) aD:=z.J L (λx j u=>by have:=ay x j;simp at u;omega);have ad:Bm k aD c au t f (u4 g ag):=⟨q.1,λai v=>by
    obtain⟨l,o⟩:=q.2 ai v;rcases o with o|⟨b,af,ah,e,aC,a4⟩
    ·refine⟨?_,Y o⟩;obtain⟨d,a5,e,a6,_⟩:=l;exact⟨d,a5,e,a6,Y o⟩
    ·exact⟨l.J L (by intro bR bU bW bX gh u;rw[e]at gh;cases gh;simp at u;omega),Z ⟨b,af,ah,e,aC,iL a4 L.aI⟩⟩⟩
   generalize bZ:av.heap.size=n at*;rw[afx,uX];cases a7:g ag with
   |false=>
    simp only[fc,if_false,qA,kJ];refine bT (λi a=>i=[aK G]/\k=a) ?_ ?_
    ·simp only[M,lE];exact⟨by trivial,by trivial⟩
    ·rintro _ _ _ ⟨rfl,rfl⟩;simp only[M];exact⟨f,cB,aD,rfl,az,X,ad,ac⟩
   |true=>
    rw[a7]at s;simp only[if_true]at s⊢;obtain⟨b0,b1,b2,aF⟩:=uW s;have aI:(jw c au t ag).g4=(au.g4 t:Nat):=rfl;refine bT (λi a=>i=[aK U]/\k=a) ?_ ?_
    ·simp only[M,hq,aF,aI];rw[decide_eq_false (show¬((au.g4 t:Int)=0)by omega)];simp only[M];refine⟨?_,by trivial⟩;rw[decide_eq_false];split<;>omega
    ·rintro _ _ _ ⟨rfl,rfl⟩;simp only[M];refine bT (λi a=>∃(f:List eR.f4)(cB:S)(aD:List Nat),i=[F H (au.g4 t:Nat),cB]/\bP a 412 2 cB f.length (f.flatMap eR.km) aD/\(∀x∈aD,ax.heap.size<=x)/\n∉aD/\Bm a aD c au t f (u4 g ag)/\k=a) ?_ ?_
     ·simp only[M,aF,aI,bi];refine⟨λl=>?_,λl=>?_⟩
      ·have aJ:bV g ag=0:=by
        by_cases j:bV g ag=0
        ·exact j
        ·rw[if_neg j]at l;omega
       have bb:f=[]:=rc A;subst bb;exact⟨[],T I 0 0,[],rfl,gJ _ _ _,B,B,⟨ad.1,B⟩,by trivial⟩
      ·have aJ:¬bV g ag=0:=by intro j;rw[if_pos j]at l;omega
       rw[if_neg aJ];exact⟨f,cB,aD,rfl,az,X,λu=>by have:=ay _ u;omega,ad,by trivial⟩
     ·rintro _ _ _ ⟨aL,b3,bc,rfl,bd,aM,be,aj,rfl⟩;have b7:aL.length=bV g ag:=by have:=congrArg jm aj.1;rw[dU,dU]at this;exact this
      simp only[M];refine(yc tY el).2 ((bY (gT:=#[F H ag,T (E ⟨n,4,I⟩) 108 108]) K).2 ?_);let ai:eR.f4:=⟨ag,T (E ⟨n,4,I⟩) 108 108,y8 c au t ag⟩;have bf:fu k n 4 ((y8 c au t ag).flatMap bs):=by have:=s.cy.vF 4;simpa[fa,jw,y8]using this
      have v:eo k bc bs ai.a7 ai.eX:=⟨⟨_,108,by rw[show ai.eX.length=108 from J],by rw[show ai.eX.length=108 from J];omega,Z ⟨n,4,rfl,bf⟩⟩,Z ⟨n,4,108,by rw[show ai.eX.length=108 from J],be,s.aL⟩⟩;refine yR afy bd (x:=ai) (ae:=b6 #[F H ag,T (E ⟨n,4,I⟩) 108 108]) eR.Bh rfl (by intro ae aO;simp[eR.km,ai]at aO;rcases aO with rfl|rfl<;>rfl) A (by unfold d0;omega) A λpW b8 bg bh R b9=>⟨aL++[ai],pW,bg,?_,bh,λx j=>(R.cq x j).elim (aM x) (λca=>by have:=ac.aI;omega),⟨?_,λap p=>?_⟩,ac.R R.J (λx j=>Z (aM x j))⟩
      ·rw[if_neg A]
      ·rw[g6,aj.1,g6];rfl
      ·rcases b4.1 p with p|p
       ·exact(aj.2 ap p).de R
       ·simp at p;subst p;exact v.de R
  ·rintro _ _ aU ⟨bj,bk,bl,rfl,bm,bn,bo,D⟩;simp only[M];rw[bq A A];exact⟨⟨ag+1,bj,bk,bl,rfl,aa,bm,bn,bo,D⟩,by simp;omega⟩
 ·obtain rfl:ag=c.aR:=A;refine⟨f,cB,rfl,z.eF eR.Bh A,⟨q.1,λai v=>?_⟩,(gx.c4 z X).bw W.aI,W.R r B⟩;obtain⟨l,o⟩:=q.2 ai v;exact⟨l,o.imp id (λ⟨b,af,ah,e,aC,bp⟩=>⟨b,af,ah,e,B,bp⟩)⟩
end
def Ii{k:Nat}:∀(l eg:List eR.f4),((eg++l).map eR.f4.fO).Nodup->eg.length<=k->(l.foldl (eR.oU k) eg).length=min k (eg.length+l.length)
 |[],eg,_,h=>by simp;omega
 |ai::l,eg,a,h=>by
  rw[List.foldl_cons];rw[g6]at a;have c:=(us.1 a).2.2;have d:eR.sV eg ai.fO=U:=eR.Rv.2 λab f e=>c _ (mz f) _ (mz (fE)) e;rw[<-g6]at a;by_cases b:eg.length=k
  ·have e:eR.oU k eg ai=eg:=by unfold eR.oU;rw[if_pos (Z b)]
   rw[e,Ii l eg ?_ h]
   ·simp;omega
   ·exact a.sublist (List.Sublist.map _ (List.Sublist.append_left (List.sublist_cons_self ai l) eg))
  ·have e:eR.oU k eg ai=eg++[ai]:=by unfold eR.oU;rw[if_neg (by rw[d];simp[b])]
   rw[e,Ii l (eg++[ai]) (by rwa[gq]) (by simp;omega)];simp;omega
def EA:ByteArray:=eS #[115,116,114,105,112,101,46,71,101,116]
section
theorem RP:sF C 215=G:=K
def EB(h:dH w ab aG am)(m:hA c au aG bB aB)(u:t<c.bd)(bn:c.aJ<=(cH aG).length):
  a0 C 153 #[aP ab,fQ c,F H t] w λae a=>Q [] w a/\if c.aJ<=bV (ia c bB t) c.aR then∃b1,ae=bQ #[b1,F H (au.g4 t:Nat),cT]/\aT a eL b1 (au.bg t)/\gx w.heap.size b1 else ae=bQ #[T I 0 0,F H 0,ff (E (.d2 EA t (.lK t (bV (ia c bB t) c.aR:Nat) c.aJ)))]:=by
 have v:=m.ei.cL;have ad:=v.i6;have ag:=v.kh;have aU:=v.jY;obtain⟨bo,aV⟩:=H8;have ak:=m.cL.wc t u;apply Z6;unfold Nh;refine kX λaA an ao bp=>(fj an).2 (aH Gr (Ih (h.V ao) m.ei u) ?_);rintro _ ax ⟨rfl,aq⟩;simp only[M,hq];have y:=ao.R aq B;have z:=an.J aq B;refine bT (λj a=>j=[aK U]/\Q [] ax a) ?_ ?_
 ·have D:=cD [] ax;refine aH yn (AV ((h.V y).V D)) ?_;rintro _ _ ⟨rfl,rfl⟩;obtain⟨aW,J,ar,aX,aY⟩:=iV (bD z);simp only[M,J];refine t0 ((h.V y).V D) λcB aZ k br l=>(dz bZ (((bD z).J l B).bh (af:=1))).2 ?_;obtain⟨L,R,rfl,_,_⟩:=k;simp only[M];rw[decide_eq_false (by simp[dZ];omega)];exact⟨rfl,D.R l B⟩
 rintro _ _ aZ ⟨rfl,l⟩;simp only[M];have av:=y.R l B;have aw:=z.J l B;refine(fj aw).2 (aH L3 (RO (h.V av) m u) ?_);rintro _ a1 ⟨d,cB,rfl,k,o,bs,ay⟩;have az:=av.R ay B;have aC:d.length=bV (ia c bB t) c.aR:=by have:=congrArg jm o.1;rw[dU,dU]at this;exact this
 have bt:=yU (ia c bB t) c.aR;simp only[cV,cX];obtain⟨L,R,rfl,a2,a3⟩:=k;have k:aT a1 eR.km (T L d.length R) d:=⟨L,R,rfl,a2,a3⟩;obtain⟨aW,J,ar,aX,aY⟩:=iV (aw.J ay B);simp only[M,J,ar,aC,bi];refine⟨λbu=>?_,λbv=>?_⟩
 ·refine(bY (gT:=#[F H t,F H (bV (ia c bB t) c.aR:Nat),F H c.aJ]) K).2 ((hk RP).2 (aH nz (Dm (e:=.lK t (bV (ia c bB t) c.aR:Nat) c.aJ)) ?_));rintro _ _ ⟨rfl,rfl⟩;exact⟨az,by rw[if_neg A];rfl⟩
 ·have a4:c.aJ<=bV (ia c bB t) c.aR:=A;apply aH L4 (eR.Ra ag aU ad);rintro _ bw ⟨ah,aj,vw,rfl,a5,V⟩;simp only[cV,cX];apply(fp dk).2;simp only[M];have W:∀ai∈d,∃e:Nat,e<c.aR/\ai.fO=e/\ai.eX=y8 c au t e:=by intro ai f;have:(ai.fO,ai.eX)∈d.map λai=>(ai.fO,ai.eX):=mz f;rw[o.1]at this;obtain⟨e,p,aD⟩:=fS.1 this;exact⟨e,iK.1 (ol.1 p).1,(congrArg (·.1) aD).symm,(congrArg (·.2) aD).symm⟩
  have eu:∀ai∈d,ai.eX.length=108:=λai f=>by obtain⟨e,g,_,X⟩:=W ai f;rw[X];exact Bf ag ak g
  have a6:0<d.length:=A;have aF:eR.lu d=108:=by unfold eR.lu;rw[iI a6];exact eu _ (dX _)
  have a7:(d.map eR.f4.fO).Nodup:=by
   have e:d.map eR.f4.fO=(u4 (ia c bB t) c.aR).map λ(e:Nat)=>(e:Int):=by have:=congrArg (List.map Prod.fst) o.1;simpa[ts,Function.comp_def]using this
   rw[e];exact List.pairwise_map.2 (List.Pairwise.imp (λa8 p=>a8 A) (List.nodup_range.filter (ia c bB t)))
  have a9:d.findIdx (eR.nH c.aR d)=d.length:=List.findIdx_eq_length_of_false λai f=>by obtain⟨e,g,aI,_⟩:=W ai f;unfold eR.nH;rw[aF,eu ai f,decide_eq_false];omega
  have bx:(eR.jM c.aJ d).length=c.aJ:=by unfold eR.jM;rw[Ii d [] (by simpa using a7) B];simp;omega
  apply aH YM (eR.afn a5 (by rw[<-aC];exact k.V V) (λai f=>((o.2 ai f).1).V V) A A);rintro _ aa ⟨ba,bb⟩;rcases ba with⟨g,_⟩|⟨_,g,_⟩|⟨_,bc,ap,aO,rfl,ac,aJ,aL,aM⟩
  ·omega
  ·omega
  simp only[cV,cX];apply(fp dk).2;simp only[M];rw[aF]at aJ aM;have bd:aO=(au.bg t).map (·.1):=by
   refine eR.afw (n:=c.aR) (s:=108) ad a9 bc A ac aJ (by rw[dU];exact ak) (λb be=>?_) aM (λai f=>?_)
   ·obtain⟨bf,_,rfl⟩:=fS.1 be;exact bf.2
   ·obtain⟨e,g,aI,X⟩:=W ai (eR.Bi f);rw[X,aI,hf];unfold y8 xt eR.rX;rw[gp,e1,qD g];rfl
  subst bd;obtain⟨bg,bh,rfl⟩:=aL.cY;simp only[M];rw[ac];have aQ:=(az.R V B).R bb B;apply c1 (λj a=>∃(i:Nat)(ae:S),j=[ae,F H i]/\i<=c.aJ/\hn aa a 294 108 eL ae ((au.bg t).take i)/\Q [] aa a) (λj _=>match j with|[_,F _ i]=>c.aJ-i.toNat|_=>0) ⟨0,_,rfl,A,hn.D _ _ _ _ _,Q.b0 _ _⟩;rintro _ _ bz ⟨i,ae,rfl,al,q,r⟩;simp only[M,bi];refine⟨λbC=>?_,λbE=>?_⟩
  ·have aR:i<(au.bg t).length:=A;have bj:ju aa (T bg c.aJ bh) ((au.bg t).map (·.1)):=by rw[<-ac];exact aL
   refine ju.ek Ez bj r (by rw[dU];omega) λu8 aS=>?_;have p:((au.bg t).map (·.1)).getD i []=(au.bg t)[i].1:=by rw[gp,e1,cr aR];rfl
   rw[p]at aS;refine RJ (aS.V r) (au.bg t)[i].2 (hn.yQ aV q r (x:=(au.bg t)[i]) nG (by simp[bF]) (Eo _) (by simp;omega) (by unfold d0;simp;omega) A λbk cd bl bm=>?_);rw[bq A A];exact⟨⟨i+1,bk,rfl,A,by rw[jO aR];exact bl,bm⟩,by simp;omega⟩
  ·obtain rfl:i=c.aJ:=A;rw[mv A]at q;refine⟨aQ.R r B,?_⟩;rw[if_pos a4];refine⟨ae,?_,q.eF nG A,q.AW.bw aQ.aI⟩;rw[if_neg A]
end
def RQ(h:aq.dp=λ_=>I):jJ aq (λ_=>I)=aq:=by obtain⟨a,b,c,aB⟩:=aq;simp only at h;subst h;unfold jJ b3.pv b3.rJ;simp
def iw(w:aN)(ab:Nat)(am:List Nat)(c:dR)(au:eW)(bB:Nat->Nat->Bool)(aB:Nat->Bool):Prop:=∃aG,dH w ab aG am/\hA c au aG bB aB
def r1(bB:Nat->Nat->Bool)(aB:Nat->Bool)(ad:Nat->Bool)(ag s:Nat):Bool:=!aB ag&&(ad s||bB ag s)
section
def hA.dp(h:hA c au aG bB aB):∀aq∈aG,aq.dp=λ_=>I:=λaq a=>by obtain⟨ag,b⟩:=List.getElem?_of_mem a;exact(h.ih ag aq b).dp
def hA.hu(h:hA c au aG bB aB)(e:∀ag s,ag<c.aR->bB ag s=xU ag s):hA c au aG xU aB:=
 ⟨h.ei,h.cL,λag aq a=>by
  have b:ag<c.aR:=by rw[<-h.ei.aR];exact(fi.1 a).1
  have:bB ag=xU ag:=by funext s;exact e ag s b
  exact this▸h.ih ag aq a⟩
def iw.hu(h:iw w ab am c au bB aB)(e:∀ag s,ag<c.aR->bB ag s=xU ag s):iw w ab am c au xU aB:=by obtain⟨aG,a,b⟩:=h;exact⟨aG,a,b.hu e⟩
def iw.V(h:iw w ab am c au bB aB)(b:Q [] w a):iw a ab am c au bB aB:=by obtain⟨aG,d,e⟩:=h;exact⟨aG,d.V b,e⟩
def iw.J(h:iw w ab am c au bB aB)(b:Q bU w a)(d:∀g∈am,g∉bU):iw a ab am c au bB aB:=by obtain⟨aG,e,f⟩:=h;exact⟨aG,e.J b d,f⟩
def iw.aL(h:iw w ab am c au bB aB):∀g∈am,g<w.heap.size:=by obtain⟨aG,a,b⟩:=h;exact a.aL
def iw.cL(h:iw w ab am c au bB aB):c.bp/\au.bp c:=by obtain⟨aG,b,a⟩:=h;exact⟨a.ei.cL,a.cL⟩
def n7(c:dR)(j s:Nat):Bool:=decide (1+j*c.aJ<=s/\s<1+j*c.aJ+c.aJ)
def r2(c:dR)(t s:Nat):Bool:=decide (s=fg c+t)
def Bn:(kD c j x c.aJ s).isSome=n7 c j s:=by
 unfold kD n7;by_cases h:1+j*c.aJ<=s/\s<1+j*c.aJ+c.aJ
 ·rw[if_pos h,decide_eq_true h];rfl
 ·rw[if_neg h,decide_eq_false h];rfl
def RR{l:List kC}:(sY c t h5 l ag s).isSome=r2 c t s:=by
 unfold sY r2;by_cases h:s=fg c+t
 ·rw[if_pos h,decide_eq_true h];rfl
 ·rw[if_neg h,decide_eq_false h];rfl
def hA.lw(h:hA c au aG bB aB)(g:gg.bp c)(k:j<c.cY)(ao:he aG fo λ_ aq=>if aq.dW then aq else jJ aq (kD c j x c.aJ))(l:∀i,i<c.aJ->(gg.dh j).eQ i=x.eQ i)
  (m:∀ag s,ag<c.aR->s<c.e6->n7 c j s=U->gg.eQ c ag s=au.eQ c ag s):hA c gg fo (r1 bB aB (n7 c j)) aB:=by
 refine(h.dt (bE:=λ_=>kD c j x c.aJ) g ao (λag s b d f a=>?_) (λag s d f n _=>m ag s d f (by rw[<-Bn (x:=x),n];rfl))).hu (λag s _=>by unfold r1;rw[Bn]);unfold kD at a;split at a
 ·rename_i o;have e:s=1+j*c.aJ+(s-(1+j*c.aJ)):=A;have al:s-(1+j*c.aJ)<c.aJ:=A;rw[e,y4 k al,l _ al];exact(re a).symm
 ·cases a
def hA.e4{l:List kC}(h:hA c au aG bB aB)(f:gg.bp c)(ao:he aG fo λag aq=>if aq.dW then aq else jJ aq (sY c t h5 l ag))(g:gg.g4 t=h5)(i:gg.bg t=l)
  (j:∀ag s,ag<c.aR->s<c.e6->r2 c t s=U->gg.eQ c ag s=au.eQ c ag s):hA c gg fo (r1 bB aB (r2 c t)) aB:=by
 refine(h.dt (bE:=λag=>sY c t h5 l ag) f ao (λag s b d e a=>?_) (λag s d e k _=>j ag s d e (by rw[<-RR (h5:=h5) (l:=l) (ag:=ag),k];rfl))).hu (λag s _=>by unfold r1;rw[RR]);unfold sY at a;split at a
 ·rename_i m;rw[m,xv];unfold jw;rw[g,i];exact(re a).symm
 ·cases a
def hA.afz{e:Nat}{a:b3}(h:hA c au aG bB aB)(f:aG[e]?=E a)(k:a.dW=U):hA c au (aG.set e (a.kW 0 (jt c e).e5).pv) (λag s=>bB ag s||(decide (ag=e)&&decide (s=0))) aB:=by
 have q:=(fi.1 f).1;have l:a.kW 0 (jt c e).e5={a with dp:=λs=>if s=0 then E (jt c e).e5 else I}:=by unfold b3.kW;rw[(h.ih e a f).dp]
 have m:he aG (aG.set e (a.kW 0 (jt c e).e5).pv) λag aq=>if aq.dW then aq else jJ aq (λs=>if ag=e/\s=0 then E (jt c e).e5 else I):=by
  refine((he.b0 aG).tG f).hu λag aq g=>?_;by_cases d:ag=e
  ·subst d;rw[f]at g;cases g;rw[if_pos rfl,if_neg (by rw[k];simp),l];unfold jJ;simp
  ·rw[if_neg d];split
   ·rfl
   ·have:(λs=>if ag=e/\s=0 then E (jt c e).e5 else I)=λ_=>I:=by funext s;rw[if_neg (λh=>d h.1)]
    rw[this,RQ (h.ih ag aq g).dp]
 refine(h.dt (bE:=λag s=>if ag=e/\s=0 then E (jt c e).e5 else I) h.cL m (λag s b r t i=>?_) (λ_ _ _ _ _ _=>rfl)).hu (λag s n=>?_)
 ·split at i
  ·rename_i o;obtain⟨rfl,rfl⟩:=o;exact(re i).symm
  ·cases i
 ·by_cases d:ag=e
  ·subst d;have j:aB ag=U:=by rw[<-(h.ih ag a f).dW];exact k
   rw[j];by_cases ao:s=0<;>simp[ao]
  ·have p:(if ag=e/\s=0 then E (jt c e).e5 else I)=I:=by rw[if_neg (λh=>d h.1)]
   rw[p];cases j:aB ag with
   |false=>simp[d]
   |true=>
    have eu:ag<aG.length:=by rw[h.ei.aR];exact n
    rw[(h.ih ag _ (cr eu)).t6 j s];simp[d]
end
def afA(bn:Nat):(b3.cq bn).d3.length=bn:=by simp[b3.cq]
def afB(bn:Nat):((b3.cq bn).kW 0 jH).pv=b3.cq bn:=by
 unfold b3.pv b3.rJ b3.kW b3.cq;simp only[b3.mk.injEq,and_true,true_and];refine⟨?_,?_⟩
 ·apply qC;intro i;rw[e1,List.getElem?_zipIdx,List.getElem?_replicate];by_cases al:i<bn
  ·rw[if_pos al];by_cases a:i=0<;>simp[a]
  ·rw[if_neg al];rfl
 ·funext j;split<;>rfl
def RS{ct an:aU}(h:ak<n):(cN ak ct++cN (n-ak) an).set ak ct=cN (ak+1) ct++cN (n-(ak+1)) an:=by rw[sr _ _ B,tt,k6,show n-ak=(n-(ak+1))+1 by omega,List.replicate_succ,aoi,List.replicate_succ',gq];rfl
def RT{ct an:aU}(h:ak<n):(cN ak ct++cN (n-ak) an)[ak]?=E an:=by rw[nr B,tt,k6,List.getElem?_replicate,if_pos A]
section
variable{bn:Nat}
def afC(h:dH w ab (cN n (b3.cq bn)) am)(J:0<bn):a0 C 73 #[aP ab] w λae a=>ae=cT/\∃az,dH a ab (cN n (b3.cq bn)) az/\bX am az w a:=by
 have u:=h.dT.2;rw[tt]at u;refine a9 MA 1 Tryz.func73 K rfl λa1 v=>?_;simp+decide only[↓a8,ba,MA,Tryz.f73];subst v;apply aH Aw (AU h);rintro _ _ ⟨rfl,rfl⟩;rw[tt];let cs:=(b3.cq bn).kW 0 jH;let an:=b3.cq bn;apply c1 (λb a=>∃(ak:Nat)(az:List Nat),b=[F H ak]/\ak<=n/\dH a ab (cN ak cs++cN (n-ak) an) az/\bX am az w a) (λb _=>match b with|[F _ ak]=>n-ak.toNat|_=>0) ⟨0,am,rfl,A,by simpa using h,bX.b0 _ _⟩;rintro _ _ aA ⟨ak,bJ,rfl,L,d,g⟩;simp only[M,bi];refine⟨λQ=>?_,λR=>?_⟩
 ·have k:ak<n:=A;refine ey.P2 λai ax x V y p W=>aH LG (Qt (i:=ak) (s:=0) (aq:=an) (d.V p) (RT k) rfl ?_ (by simp[an,b3.cq];omega) (y▸x.eF) (by simp[jH])) ?_
  ·intro gX f;rcases b4.1 f with f|f<;>rw[(List.mem_replicate.1 f).2]<;>rfl
  rintro _ z ⟨rfl,l,c,m⟩;apply(fp dk).2;simp only[M];rw[bq A A];have e:(cN ak cs++cN (n-ak) an).set ak (an.kW ((0:Nat)) jH)=cN (ak+1) cs++cN (n-(ak+1)) an:=RS k;rw[e]at c;exact⟨⟨ak+1,l,rfl,k,c,g.dP (m.mN p)⟩,by simp;omega⟩
 ·obtain rfl:ak=n:=A;apply aH Aw (AU d);rintro _ _ ⟨rfl,rfl⟩;have q:dH aA ab (cN 0 an++cN (ak-0) cs) bJ:=by simpa using d
  have D:(cN ak cs++cN (ak-ak) an).length=ak:=B;rw[D];apply c1 (λb a=>∃(j:Nat)(az:List Nat),b=[F H j]/\j<=ak/\dH a ab (cN j an++cN (ak-j) cs) az/\bX am az w a) (λb _=>match b with|[F _ j]=>ak-j.toNat|_=>0) ⟨0,bJ,rfl,A,q,g⟩;clear d g q;rintro _ _ ax ⟨j,cM,rfl,X,r,t⟩;simp only[M,bi];refine⟨λaa=>?_,λac=>?_⟩
  ·have o:j<ak:=A;refine A0 r (RT o) rfl λz l c m=>(fp dk).2 ?_;simp only[M];rw[bq A A];have e:(cN j an++cN (ak-j) cs).set j cs.pv=cN (j+1) an++cN (ak-(j+1)) cs:=by rw[show cs.pv=an from afB bn];exact RS o
   rw[e]at c;exact⟨⟨j+1,l,rfl,o,c,t.dP m⟩,by simp;omega⟩
  ·obtain rfl:j=ak:=A;exact⟨rfl,cM,by simpa using r,t⟩
def ms(c:dR):eW:=⟨λ_=>1,λ_=>cN c.aJ jL,λ_=>⟨0,0,[]⟩⟩
def RU(h:c.bp):(ms c).bp c:=⟨λ_ _=>⟨by simp[ms],by simp[ms]⟩,λ_ _=>by simp[ms],λj _=>⟨h.lR,by simp[ms],Y ⟨rfl,rfl,λi=>by simp[ms]⟩⟩⟩
def RV:xi jH:=PT (by intro h;simp[jH]at h)
def RW(h:c.bp):hA c (ms c) (cN c.aR (b3.cq c.e6)) (λ_ _=>U) (λ_=>U):=by refine⟨⟨h,B,λaq a=>by rw[(List.mem_replicate.1 a).2,afA]⟩,RU h,λag aq a=>?_⟩;have b:aq=b3.cq c.e6:=(List.mem_replicate.1 (gP a)).2;subst b;refine⟨rfl,rfl,λd=>absurd d B,λs ao=>⟨jH,?_,by simp[jH],RV,Z rfl⟩⟩;simp[b3.cq,ao]
def afD(ak n:Nat)(x:S)(a:0<ak):madeCells (b6 (cN ak x).toArray).cells n=(cN n x).toArray:=by
 unfold madeCells;apply Array.ext
 ·simp
 ·intro j c d;simp only[bF,Array.getElem_map,Array.getElem_range,List.getElem_toArray,List.getElem_replicate,List.size_toArray,tt];have b:j%ak<ak:=Nat.mod_lt _ a;rw[getElem!_pos _ _ (by simpa using b)];simp
def RX:eL jL=cN 108 (F cl 0):=by unfold eL;rw[D5];show(cN 108 0).map _=_;rw[List.map_replicate];rfl
def RY(q:k<=8)(r:1<=k)(e:∀a,aC a w.heap.size 294 ((cN k jL).flatMap eL)->Q [] w a->ac (T (E ⟨w.heap.size,0,I⟩) k k) a):W C (uA 211 (F H k) (F H k)) w ac:=by
 obtain⟨bm,c⟩:=H8;obtain⟨f,i,al,g,ao,h⟩:=c.wZ;have j:=run_make (P:=C) w 211 294 i bm f al g H H k k A (Int.le_refl _) (by rw[h];omega) A;have l:bm=b6 (eL jL).toArray:=by
  have d:du C 294 bm:=c.Kv;have b:du C 294 (b6 (eL jL).toArray):=by unfold du;kernel_rfl
  unfold du at d b;rw[d]at b;simpa using b
 refine(j9 (aa:=T (E ⟨w.heap.size,0,I⟩) k k) (a:=w.alloc (amv (madeCells bm.cells (k*i.size)) 294)) ?_).2 ?_
 ·unfold uA;exact gv C _ w j
 have m:madeCells bm.cells (k*i.size)=((cN k jL).flatMap eL).toArray:=by
  rw[l,ao,RX];have n:∀k,(cN k jL).flatMap eL=cN (k*108) (F cl 0):=by
   intro k;induction k with
   |zero=>rfl
   |succ k o=>rw[List.replicate_succ,iA,o,RX,List.replicate_append_replicate];congr 1;omega
  rw[n];exact afD _ _ _ A
 rw[m];have p:=sz w 294 ((cN k jL).flatMap eL);exact e _ p (ox _ _ _)
def afE(d:k<=8)(f:1<=k)(g:∀ae a,aT a eL ae (cN k jL)->gx w.heap.size ae->Q [] w a->ac ae a):W C (uA 211 (F H k) (F H k)) w ac:=
 RY d f λa h d=>g _ _ (by
  have:=p3 (l:=cN k jL) h;rwa[tt]at this) (λb af n c e=>by cases e;exact fF _) d
def hA.uF(h:hA c au aG bB aB)(e:∀ag s,ag<c.aR->s<c.e6->bB ag s=G)(f:∀ag,ag<c.aR->aB ag=U):hA c au aG (λ_ _=>G) (λ_=>U):=
 ⟨h.ei,h.cL,λag aq b=>by
  have d:ag<c.aR:=by rw[<-h.ei.aR];exact(fi.1 b).1
  have a:=h.ih ag aq b;refine⟨a.dp,by rw[a.dW,f ag d],λg=>absurd g B,λs ao=>?_⟩;have:=a.d3 s ao;rw[e ag s d ao]at this;exact this⟩
end
section
variable{l:List kC}
def afF(h:iw w ab am c au bB aB)(d:j<c.cY)(e:∀i,i<c.aJ->(au.dh j).eQ i=(⟨0,0,[]⟩:iX).eQ i)(k:∀a az,iw a ab az c au (r1 bB aB (n7 c j)) aB->bX am az w a->ac cT a):
  W C (ck 122 #[aP ab,fQ c,F H j]) w ac:=by
 obtain⟨aG,f,b⟩:=h;apply aH XY (aeQ f b.ei b.dp d);rintro _ a ⟨rfl,fo,az,g,l,m⟩;exact k a az ⟨fo,g,b.lw b.cL d m e (λ_ _ _ _ _=>rfl)⟩ l
def RZ(h:iw w ab am c au bB aB)(f:gg.bp c)(d:x.L%c.cY=j)(g:2<=x.L)(l:x.e4<c.bd)(m:x.L<=1152921504606846976)(n:x.ii.length=c.aJ)(o:eo w am eL aa x.ii)(p:∀i,i<c.aJ->(gg.dh j).eQ i=x.eQ i)
  (q:∀ag s,ag<c.aR->s<c.e6->n7 c j s=U->gg.eQ c ag s=au.eQ c ag s) (k:∀a az,iw a ab az c gg (r1 bB aB (n7 c j)) aB->bX am az w a->ac cT a):
  W C (ck 253 #[aP ab,fQ c,mS x aa]) w ac:=by
 obtain⟨aG,r,b⟩:=h;apply aH Zg (aeP r b.ei b.dp g l m n o);rintro _ a ⟨rfl,fo,az,t,u,e⟩;rw[d]at e;have v:=b.ei.cL.kk;exact k a az ⟨fo,t,b.lw f (by rw[<-d];exact Nat.mod_lt _ A) e p q⟩ u
def Ij(h:iw w ab am c au bB aB)(d:gg.bp c)(e:t<c.bd)(f:1<=h5)(g:h5<=1152921504606846976)(i:l.length=c.aJ)(j:aT w eL aa l)(m:gg.g4 t=h5)(n:gg.bg t=l)
  (o:∀ag s,ag<c.aR->s<c.e6->r2 c t s=U->gg.eQ c ag s=au.eQ c ag s) (k:∀a az,iw a ab az c gg (r1 bB aB (r2 c t)) aB->bX am az w a->ac cT a):
  W C (ck 123 #[aP ab,fQ c,F H t,F H h5,aa]) w ac:=by
 obtain⟨aG,p,b⟩:=h;apply aH XZ (aft p b.ei b.dp e f g i j);rintro _ a ⟨rfl,fo,az,q,r,u⟩;exact k a az ⟨fo,q,b.e4 d u m n o⟩ r
def R0(h:iw w ab am c au bB aB)(g:ag<c.aR)(i:aB ag=U)(k:∀a az,iw a ab az c au (λe s=>bB e s||(decide (e=ag)&&decide (s=0))) aB->bX am az w a->ac cT a):
  W C (ck 124 #[aP ab,fQ c,F H ag]) w ac:=by
 obtain⟨aG,j,b⟩:=h;have eu:ag<aG.length:=by rw[b.ei.aR];exact g
 have d:=cr eu;have f:(aG[ag]).dW=U:=by rw[(b.ih ag _ d).dW];exact i
 apply aH X0 (adD j b.ei d f);rintro _ a ⟨rfl,az,l,m⟩;exact k a az ⟨_,l,b.afz d f⟩ m
def afG(h:iw w ab am c (ms c) (λ_ _=>U) (λ_=>U)):a0 C 74 #[aP ab,fQ c] w λae a=>ae=cT/\∃az,iw a ab az c (ms c) (λ_ _=>G) (λ_=>U)/\bX am az w a:=by
 have g:=h.cL.1;have W:=h.aL;have X:c.aJ<=8:=by have:=g.jY;have:=g.i6;omega
 have aC:=g.kk;have aD:=g.lh;have aF:=g.jZ;have aI:=g.i6;have aa:=g.kh;refine a9 MB 2 Tryz.func74 K rfl λa1 ac=>?_;simp+decide only[↓a8,ba,MB,Tryz.f74];subst ac;refine kX λaA D J aJ=>?_;obtain⟨q,j,r,k,m⟩:=iV D;simp only[M,m];have ad:fb aA am w.heap.size 25 (en c):=fb.cq D W;generalize w.heap.size=u at*;let et:Nat->Nat->Nat->Bool:=λak _ s=>decide (1<=s/\s<1+ak*c.aJ);apply c1 (λd a=>∃(ak:Nat)(az:List Nat),d=[F H ak]/\ak<=c.cY/\iw a ab az c (ms c) (et ak) (λ_=>U)/\bX am az w a/\fb a az u 25 (en c)) (λd _=>match d with|[F _ ak]=>c.cY-ak.toNat|_=>0) ⟨0,am,rfl,A,(h.V J).hu (λag s _=>by simp only[et];rw[decide_eq_false];omega),.iu J,ad⟩;rintro _ _ ax ⟨ak,cM,rfl,L,e,f,b⟩;simp only[M,bi];refine⟨λaL=>?_,λaM=>?_⟩
 ·refine(fj b.1).2 (afF e A (λi _=>rfl) λv n af Q=>(fp dk).2 ?_);simp only[M];rw[bq A A];refine⟨⟨ak+1,n,rfl,A,af.hu (λag s _=>?_),f.dP Q,b.de Q⟩,by simp;omega⟩;unfold r1 n7;simp only[et,lE,pV];rw[<-Bool.decide_or];apply decide_eq_decide.2;rw[iM,sq];omega
 ·obtain rfl:ak=c.cY:=A;obtain⟨q,j,r,k,m⟩:=iV b.1;simp only[M,k];let gb:Nat->Nat->Nat->Bool:=λak _ s=>decide (1<=s/\s<fg c+ak);apply c1 (λd a=>∃(ak:Nat)(az:List Nat),d=[F H ak]/\ak<=c.bd/\iw a ab az c (ms c) (gb ak) (λ_=>U)/\bX am az w a/\fb a az u 25 (en c)) (λd _=>match d with|[F _ ak]=>c.bd-ak.toNat|_=>0) ⟨0,cM,rfl,A,e.hu (λag s _=>by simp only[et,gb,fg];exact decide_eq_decide.2 (by rw[qA])),f,b⟩;clear e f b q j r k m;rintro _ _ v ⟨ak,n,rfl,L,e,f,b⟩;simp only[M,bi];refine⟨λaO=>?_,λaQ=>?_⟩
  ·apply(fj (bD b.1)).2;obtain⟨q,j,r,k,m⟩:=iV (bD b.1);simp only[M,j];refine afE X aa λae ah ai aR aj=>?_;have x:=(cD [] v).R aj B;refine(mE ye (b.V x).1.cy).2 (Ij (h5:=1) (e.V x) (RU g) (t:=ak) (l:=cN c.aJ jL) A A A B ai rfl rfl (λ_ _ _ _ _=>rfl) λal y z o=>(fp dk).2 ?_);simp only[M];rw[bq A A];have R:=o.mN x;refine⟨⟨ak+1,y,rfl,A,z.hu (λag s _=>?_),f.dP R,b.de R⟩,by simp;omega⟩;unfold r1 r2;simp only[gb,lE,pV];rw[<-Bool.decide_or];apply decide_eq_decide.2;have:1<=fg c:=by unfold fg;omega
   omega
  ·obtain rfl:ak=c.bd:=A;have an:∃aG,dH v ab aG n/\aG.length=c.aR:=by obtain⟨aG,ap,aq⟩:=e;exact⟨aG,ap,aq.ei.aR⟩
   obtain⟨aG,V,ar⟩:=an;apply aH Aw (AU V);rintro _ _ ⟨rfl,rfl⟩;rw[ar];let p:Nat->Nat->Nat->Bool:=λak ag s=>decide (1<=s/\s<fg c+c.bd)||(decide (ag<ak)&&decide (s=0));apply c1 (λd a=>∃(ak:Nat)(az:List Nat),d=[F H ak]/\ak<=c.aR/\iw a ab az c (ms c) (p ak) (λ_=>U)/\bX am az w a/\fb a az u 25 (en c)) (λd _=>match d with|[F _ ak]=>c.aR-ak.toNat|_=>0) ⟨0,n,rfl,A,e.hu (λag s _=>by simp[p,gb]),f,b⟩;clear e f b V;rintro _ _ ah ⟨ak,au,rfl,L,e,f,b⟩;simp only[M,bi];refine⟨λaS=>?_,λaT=>?_⟩
   ·refine(fj b.1).2 (R0 e (ag:=ak) A rfl λal y z o=>(fp dk).2 ?_);simp only[M];rw[bq A A];refine⟨⟨ak+1,y,rfl,A,z.hu (λag s _=>?_),f.dP o,b.de o⟩,by simp;omega⟩;simp only[p];rw[Bool.or_assoc,<-Bool.and_or_distrib_right,<-Bool.decide_or];congr 2;exact decide_eq_decide.2 A
   ·obtain rfl:ak=c.aR:=A;obtain⟨av,aw,ay⟩:=e;refine⟨rfl,au,⟨av,aw,ay.uF (λag s aB ao=>?_) (λ_ _=>rfl)⟩,f⟩;simp only[p,decide_eq_true aB,pV];rw[<-Bool.decide_or];apply decide_eq_true;unfold dR.e6 at ao;unfold fg;omega
def afH(h:dH w ab aG am)(q:aG=cN c.aR (b3.cq c.e6))(k:c.bp):a0 C 35 #[aP ab,fQ c] w λae a=>ae=cT/\∃az,iw a ab az c (ms c) (λ_ _=>G) (λ_=>U)/\bX am az w a:=by
 subst q;have r:=h.aL;have s:lv (cN c.aR (b3.cq c.e6)) c:=(RW k).ei;have t:(cH (cN c.aR (b3.cq c.e6))).length=c.aR:=by
  unfold cH rP;rw[List.filter_eq_self.2 ?_]
  ·simp
  ·intro d e;have e:=iK.1 e;rw[cr e,List.getElem_replicate];rfl
 refine a9 Mm 2 Tryz.func35 K rfl λa1 u=>?_;simp+decide only[↓a8,ba,Mm,Tryz.f35];subst u;refine kX λaA v l W=>?_;have m:fb aA am w.heap.size 25 (en c):=fb.cq v r;generalize w.heap.size=X at*;refine bT (λf a=>f=[cT]/\∃az,iw a ab az c (ms c) (λ_ _=>G) (λ_=>U)/\bX am az w a) ?_ ?_
 ·refine(fj m.1).2 (yT (h.V l) s λax n=>?_);simp only[M,hq];have g:=l.R n B;have i:=m.V n;refine bT (λf a=>f=[aK U]/\Q [] ax a) ?_ ?_
  ·have j:=cD [] ax;refine aH yn (AV ((h.V g).V j)) ?_;rintro _ _ ⟨rfl,rfl⟩;obtain⟨aa,ac,x,ad,ag⟩:=iV (bD i.1);simp only[M,x];refine t0 ((h.V g).V j) λcB y z ah b=>(dz bZ (((bD i.1).J b B).bh (af:=2))).2 ?_;obtain⟨ai,aj,rfl,_,_⟩:=z;simp only[M];rw[decide_eq_false (by simp[dZ,t])];exact⟨rfl,j.R b B⟩
  rintro _ _ y ⟨rfl,b⟩;simp only[M];have o:=g.R b B;apply aH Xx (afC (h.V o) (by unfold dR.e6;omega));rintro _ ak ⟨rfl,al,A,p⟩;apply(ry dk).2;simp only[M];refine(fj ((i.V b).de p).1).2 (aH Xy (afG ⟨_,A,RW k⟩) ?_);rintro _ an ⟨rfl,D,J,L⟩;exact⟨rfl,D,J,(p.dP L).mN o⟩
 ·rintro _ _ ax ⟨rfl,cM,R,V⟩;simp only[M];exact tZ ⟨rfl,cM,R,V⟩
end
end
end Go.Proofs.YtepeilglbedgdaaGreatDoor
namespace Go.X
variable{am:List Nat}{w:aN}{a6 af b j n:Nat}{aU:Type}{ae:S}{ac:S -> aN -> Prop}{ad:ft}{av:co}
section
open Go.RowKit
def R1{aU:Type}{be:aU->List S}{a6:Nat}(a:∀x,(be x).length=a6):∀(l:List aU)(j:Nat)(x:aU),j<l.length->(l.set j x).flatMap be=(l.flatMap be).take (j*a6)++be x++(l.flatMap be).drop (j*a6+a6)
 |[],j,x,h=>by simp at h
 |ap::l,0,x,_=>by rw[aoi,iA,iA,Nat.zero_mul,List.take_zero,gQ,<-a ap,List.drop_left];rfl
 |ap::l,j+1,x,h=>by
  rw[List.set_cons_succ,iA,iA,R1 a l j x (by simpa using h),iM,sq];have b:(be ap++l.flatMap be).take (j*a6+a6)=be ap++(l.flatMap be).take (j*a6):=by rw[List.take_append,a ap,show j*a6+a6-a6=j*a6 by omega];congr 1;exact mv (by rw[a];omega)
  have c:(be ap++l.flatMap be).drop (j*a6+a6+a6)=(l.flatMap be).drop (j*a6+a6):=by rw[List.drop_append,a ap,show j*a6+a6+a6-a6=j*a6+a6 by omega];rw[show(be ap).drop (j*a6+a6+a6)=[]from uu (by rw[a];omega),m2]
  rw[b,c];simp
def R2{c:Nat}{be:aU->List S}{l:List aU}{x:aU}(s:ep ad av a6=G)(h:bP w av a6 (T (E ⟨b,af,I⟩) n c) l.length (l.flatMap be) am)(d:∀x,(be x).length=a6)(m:j<l.length)
  (f:ae.cells.toList=be x) (t:∀aa∈be x,aa.oneCell'=G)
  (k:∀a,bP a av a6 (T (E ⟨b,af,I⟩) n c) l.length ((l.set j x).flatMap be) am->Q am w a->ac bS a):W ad (dC av (aE (E ⟨b,af+j*a6,I⟩)) ae) w ac:=by
 have dI:=h.1;rcases h.2 with⟨e,_,_⟩|⟨g,N,bL,cf,e,o,u,p,v,O,y⟩
 ·cases e
 ·simp only[zI,vq,Addr.mk.injEq,and_true]at e;obtain⟨⟨rfl,rfl⟩,rfl,rfl⟩:=e;have P:l.length*a6<=c*a6:=mw _ p;have z:(j+1)*a6<=l.length*a6:=mw _ m;rw[iM,sq]at z;have B:cf=cf.take (af+j*a6)++(cf.drop (af+j*a6)).take a6++cf.drop (af+j*a6+a6):=by rw[<-oq (i:=a6),gq,l3,l3]
  have q:ae.cells.toList.length=a6:=by rw[f,d]
  refine f0 (cv:=cf.take (af+j*a6)) (c5:=(cf.drop (af+j*a6)).take a6) (da:=cf.drop (af+j*a6+a6)) s (B▸u) (by rw[ea];omega) (by rw[ea,e8];omega) (by rw[<-tj];exact q) (by rw[f];exact t) λa D J R=>k a ⟨?_,Z ⟨b,af,c,_,rfl,o,D,p,v,?_,?_⟩⟩ (by rw[o];exact J)
  ·rw[kx d,i9]
  ·rw[di,di,ea,e8,q];omega
  ·rw[R1 d l j x m,<-y,f];rw[gq,List.drop_append_of_le_length (by rw[ea];omega),List.drop_take,Nat.add_sub_cancel_left];have K:(List.take (l.length*a6) (cf.drop af)).take (j*a6)=(cf.drop af).take (j*a6):=by rw[List.take_take,my A]
   have L:(List.take (l.length*a6) (cf.drop af)).drop (j*a6+a6)=(cf.drop (af+j*a6+a6)).take (l.length*a6-(j*a6+a6)):=by rw[List.drop_take,oq,sp]
   rw[K,L,<-gq,List.take_append];have r:((cf.drop af).take (j*a6)++be x).length=j*a6+a6:=by rw[di,ea,e8,d];omega
   rw[r,mv (by rw[r];omega)]
end
end Go.X
namespace Go.Proofs.YtepeilglbedgdaaGreatDoor
open Go.X
attribute[local irreducible]Go.X.W
variable{aD aO am az bU ez gf:List Nat}{a bv w:aN}{ab ag ah ai ak b bu i j n s t:Nat}{aB:Nat -> Bool}{aU:Type}{aa cB:S}{ac:S -> aN -> Prop}{al ay bB:Nat -> Nat -> Bool}{ar:co}{au gg:eW}{c:dR}{ht:Bool}{x:iX}
section
open Go.RowKit ey
variable{aG:List b3}{aq:b3}
abbrev q2:=iX×S
def t9(ai:q2):List S:=j1 ai.1 ai.2
def xz(ai:q2):(t9 ai).length=3:=rfl
def Bo:eH C 363 310 3 t9 (λai=>mS ai.1 ai.2):=eH.rx Av yj xz CV
def afI(c:n<=255):a0 C 287 #[F hr n] w λae a=>(∃ak,ae=F H ak)/\w=a:=by
 refine a9 .D 1 Tryz.func287 K rfl λa1 d=>?_;simp+decide only[↓a8,ba,Tryz.f287];subst d;simp only[M];refine aH ZQ (bu:=λae a=>(∃ak,ae=F H ak)/\w=a) ?_ (λae a h=>h);apply aaa;unfold Oi;refine bT (λb a=>b=[F hr n,F H 0]/\w=a) ?_ ?_
 ·simp only[M];rw[decide_eq_false A];simp only[M];exact⟨by trivial,by trivial⟩
 rintro _ _ _ ⟨rfl,rfl⟩;refine bT (λb a=>b=[F hr n,F H 0]/\w=a) ?_ ?_
 ·simp only[M];rw[decide_eq_false A];simp only[M];exact⟨by trivial,by trivial⟩
 rintro _ _ _ ⟨rfl,rfl⟩;refine bT (λb a=>b=[F hr n,F H 0]/\w=a) ?_ ?_
 ·simp only[M];rw[decide_eq_false A];simp only[M];exact⟨by trivial,by trivial⟩
 rintro _ _ _ ⟨rfl,rfl⟩;simp only[M];apply(fv AS pr).2;rw[pa,show((n:Int)%256)=(n:Nat)by omega];refine(z2 (i:=n) HG (Nat.lt_of_le_of_lt c (by decide))).2 ((fv pr nh).2 ?_);simp only[M];exact⟨⟨_,rfl⟩,rfl⟩
section
def afJ{ah ai:q2}(c:ah.2.cells=#[ah.2])(d:ai.2.cells=#[ai.2]):a0 C 255 #[mS ah.1 ah.2,mS ai.1 ai.2] w λae a=>(∃ak,ae=F H ak)/\Q [] w a:=by refine a9 .D 2 Tryz.func255 K rfl λa1 e=>?_;simp+decide only[↓a8,ba,Tryz.f255];subst e;refine Bg c λaA f g k=>?_;refine Bg d λax h b l=>?_;obtain⟨i,m,n⟩:=rZ (f.J b B);obtain⟨j,o,p⟩:=rZ h;simp only[M,i,j];exact⟨⟨_,rfl⟩,g.R b B⟩
def r3(aa:S):Prop:=∃d n c,aa=T d n c
def r3.Ik(h:r3 aa):aa.cells=#[aa]:=by obtain⟨d,n,c,rfl⟩:=h;rfl
def r3.aW(h:r3 aa):aa.oneCell'=G:=by obtain⟨d,n,c,rfl⟩:=h;rfl
def Il{ai:q2}(h:r3 ai.2):∀ae∈t9 ai,ae.oneCell'=G:=by
 intro ae a;simp only[t9,j1,ce,iZ,or_false]at a;rcases a with rfl|rfl|rfl
 ·rfl
 ·rfl
 ·exact h.aW
def EC(c0:S)(n:Nat):Prop:=∃d c,c0=T d n c/\(n=0\/∃b af,d=E ⟨b,af,I⟩)
def Bp(bv w:aN)(c0:S)(aD:List Nat)(fG:List q2):Prop:=∃a:List q2,a.Perm fG/\bP w 310 3 c0 a.length (a.flatMap t9) aD/\Q aD bv w
variable{fG:List q2}
def afK{c0:S}(D:EC c0 fG.length)(m:bP w 310 3 c0 fG.length (fG.flatMap t9) aD)(J:∀ai∈fG,r3 ai.2)(ar:fG.length<=12):
  a0 C 319 #[c0,F H 0,F H fG.length,.func (.func 255) #[] #[]] w λ_ a=>Bp w a c0 aD fG:=by
 refine a9 Ok 4 Tryz.func319 K rfl λa1 L=>?_;simp+decide only[↓a8,ba,Ok,Tryz.f319];subst L;simp only[M];rw[bq A A];apply c1 (λf a=>∃(i:Nat),f=[F H i]/\1<=i/\Bp w a c0 aD fG) (λf _=>match f with|[F _ i]=>fG.length-i.toNat|_=>0) ⟨1,rfl,A,fG,List.Perm.refl _,m,Q.b0 _ _⟩;clear m;rintro _ _ aA ⟨i,rfl,al,ao⟩;simp only[M,bi];refine⟨λau=>?_,λ_=>ao⟩;apply c1 (λf a=>∃(j:Nat),f=[F H j]/\j<=i/\Bp w a c0 aD fG) (λf _=>match f with|[F _ j]=>j.toNat|_=>0) ⟨i,rfl,A,ao⟩;clear ao;rintro _ _ ax ⟨j,rfl,av,e,o,m,s⟩;have R:=o.length_eq;have t:=m.eF xz A;have p:∀ai∈e,r3 ai.2:=λai V=>J ai (o.mem_iff.1 V);refine bT (λf a=>∃ap:Bool,f=[aK ap]/\(ap=G->0<j)/\Q [] ax a) ?_ ?_
 ·simp only[M,bi];refine⟨λu=>?_,λu=>⟨U,rfl,B,(Q.b0 _ _).h6⟩⟩;have h:j<e.length:=A;have k:j-1<e.length:=A;apply(Bo.ek (l:=e) t (Q.b0 _ _).h6 h).2;rw[bq A A,show(j:Int)-1=(j-1:Nat)by omega];refine(Bo.ek (l:=e) t (Q.b0 _ _).h6 k).2 (x4 Zi (afJ (p _ (dX h)).Ik (p _ (dX k)).Ik) ?_);rintro _ v ⟨⟨ak,rfl⟩,n⟩;simp only[M];exact⟨_,rfl,λ_=>A,(Q.b0 _ _).h6.R n B⟩
 rintro _ _ v ⟨ap,rfl,W,n⟩;simp only[M,cG];refine⟨λX=>?_,λ_=>?_⟩
 ·have u:=W X;have h:j<e.length:=A;have k:j-1<e.length:=A;have q:=m.J n B;have y:=q.eF xz A;have aa:Q aD w v:=s.R n B;rw[bq A A,show(j:Int)-1=(j-1:Nat)by omega];refine(Bo.ek (l:=e) y (Q.b0 _ _).h6 k).2 ((Bo.ek (l:=e) y (Q.b0 _ _).h6 h).2 ?_);have ab:=p _ (dX h);have ac:=p _ (dX k);obtain⟨d,c,ad,ae⟩:=D;obtain⟨b,af,rfl⟩:=ae.resolve_left A;have ag:c0=T (E ⟨b,af,I⟩) e.length c:=by rw[ad,R]
  rw[ag]at q⊢;refine(hP Av yj h).2 (R2 (x:=e[j-1]) yj (q.J (bU:=[]) (Q.b0 _ _).h6 B) xz h (by rfl) (Il ac) λaw ah aj=>?_);have z:(e.set j e[j-1]).length=e.length:=B;refine(hP Av yj k).2 (R2 (x:=e[j]) (l:=e.set j e[j-1]) (am:=aD) yj (by rw[z];exact ah) xz (by rw[z];exact k) (by rfl) (Il ab) λay an aq=>⟨⟨j-1,rfl,A,((e.set j e[j-1]).set (j-1) e[j]),(List.set_set_perm h A).trans o,?_,?_⟩,?_⟩)
  ·simpa using an
  ·exact(aa.h6.R aj λg r=>Y r).R aq λg r=>Y r
  ·simp;omega
 ·rw[bq A A];refine⟨⟨i+1,B,A,e,o,m.J n B,s.R n B⟩,?_⟩;simp;omega
def afL{c0 ag:S}(b:EC c0 fG.length)(c:bP w 310 3 c0 fG.length (fG.flatMap t9) aD)(d:∀ai∈fG,r3 ai.2)(e:fG.length<=12):
  a0 C 296 #[c0,F H 0,F H fG.length,ag,.func (.func 255) #[] #[]] w λ_ a=>Bp w a c0 aD fG:=by
 refine a9 Of 5 Tryz.func296 K rfl λa1 f=>?_;simp+decide only[↓a8,ba,Of,Tryz.f296];subst f;apply c1 (λg a=>g=[F H 0,F H fG.length,ag,aK G,aK G]/\a=w) (λ_ _=>0) ⟨rfl,rfl⟩;rintro _ _ _ ⟨rfl,rfl⟩;simp only[M];rw[bq A A,decide_eq_true A];simp only[M];exact aH ZS (afK b c d e) λ_ ax h=>h
def afM{c0:S}(b:EC c0 fG.length)(f:bP w 310 3 c0 fG.length (fG.flatMap t9) aD)(g:∀ai∈fG,r3 ai.2)(i:fG.length<=12):
  a0 C 254 #[c0,.func (.func 255) #[] #[]] w λ_ a=>Bp w a c0 aD fG:=by
 refine a9 .D 2 Tryz.func254 K rfl λa1 j=>?_;simp+decide only[↓a8,ba,Tryz.f254];subst j;obtain⟨d,c,e,k⟩:=id b;rw[e];simp only[M];apply(fv kd tP).2;rw[l8 A A];apply aH ZE (afI A);rintro _ _ ⟨⟨ak,rfl⟩,rfl⟩;rw[<-e];exact aH ZL (afL b f g i) λ_ ax h=>h
end
def qi(ab:Nat)(c:dR)(ai:Nat)(ht:Bool):List S:=aP ab::en c++[F H ai,aK ht]
def eY(w:aN)(ab:Nat)(am:List Nat)(c:dR)(au:eW)(aB:Nat->Bool)(ay al:Nat->Nat->Bool):Prop:=∃bB,iw w ab am c au bB aB/\∀ag s,ag<c.aR->(ay ag s=G->bB ag s=G)/\(bB ag s=G->al ag s=G)
section
def eY.J(h:eY w ab am c au aB ay al)(b:Q bU w a)(d:∀g∈am,g∉bU):eY a ab am c au aB ay al:=by obtain⟨bB,e,f⟩:=h;exact⟨bB,e.J b d,f⟩
def eY.V(h:eY w ab am c au aB ay al)(b:Q [] w a):eY a ab am c au aB ay al:=h.J b B
def eY.aL(h:eY w ab am c au aB ay al):∀g∈am,g<w.heap.size:=by obtain⟨bB,a,b⟩:=h;exact a.aL
def eY.cL(h:eY w ab am c au aB ay al):c.bp/\au.bp c:=by obtain⟨bB,a,b⟩:=h;exact a.cL
def iw.afN(h:iw w ab am c au bB aB)(b:ag<c.aR)(d:aB ag=G):bB ag s=U:=by
 obtain⟨aG,f,a⟩:=h;have e:ag<aG.length:=by rw[a.ei.aR];exact b
 exact(a.ih ag _ (cr e)).t6 d s
def eY.ED{ad:Nat->Bool}(h:iw w ab am c au bB aB)(g:∀ag s,ag<c.aR->(ay ag s=G->bB ag s=G)/\(bB ag s=G->al ag s=G))(i:iw a ab aD c gg (r1 bB aB ad) aB)(j:∀ag s,ag<c.aR->ad s=G->al ag s=G):eY a ab aD c gg aB ay al:=by
 refine⟨_,i,λag s d=>⟨λb=>?_,λb=>?_⟩⟩
 ·have e:=(g ag s d).1 b;have:aB ag=U:=by
   cases k:aB ag with
   |false=>rfl
   |true=>rw[h.afN d k]at e;cases e
  simp[r1,this,e]
 ·unfold r1 at b;simp only[dA,pP]at b;rcases b.2 with f|f
  ·exact j ag s d f
  ·exact(g ag s d).2 f
def r4{aj g:Nat->Bool}(h:∀ag,ag<n->aj ag=G->g ag=G):bV aj n<=bV g n:=by
 induction n with
 |zero=>simp[bV]
 |succ n a=>
  rw[uX,uX];have c:=a λag d=>h ag A;cases b:aj n with
  |false=>simp;omega
  |true=>rw[h n A b];simp;omega
def _root_.Go.X.bX.qj{ct c an dO:List Nat}(h:bX ct c w a)(d:∀g∈ct,g∈an)(e:∀g∈dO,g∈c\/g∈an):bX an dO w a:=
 ⟨h.J.bw λg b=>Y (d g b),λg b=>(e g b).elim (λf=>(h.cq g f).imp (d g) id) Y⟩
def lX(h:aC w b ar (qi ab c ai ht)):
  (∀ac,aZ C (a4 63 (aE (E ⟨b,0,I⟩))) w ac↔ac (aP ab))/\(∀ac,aZ C (a4 25 (aE (E ⟨b,1,I⟩))) w ac↔ac (fQ c))/\(∀ac,aZ C (a4 3 (aE (E ⟨b,2,I⟩))) w ac↔ac (F H c.aJ))/\(∀ac,aZ C (a4 3 (aE (E ⟨b,4,I⟩))) w ac↔ac (F H c.bd))/\(∀ac,aZ C (a4 3 (aE (E ⟨b,5,I⟩))) w ac↔ac (F H c.cY))/\(∀ac,aZ C (a4 3 (aE (E ⟨b,6,I⟩))) w ac↔ac (F H ai))/\(∀ac,aZ C (a4 4 (aE (E ⟨b,7,I⟩))) w ac↔ac (aK ht)):=
 ⟨λ_=>bl CP (h.bh (af:=0)),λ_=>gC ye (h.cy.d1 1 5),λ_=>bl bZ (h.bh (af:=2)),λ_=>bl bZ (h.bh (af:=4)),λ_=>bl bZ (h.bh (af:=5)),λ_=>bl bZ (h.bh (af:=6)),λ_=>bl Ai (h.bh (af:=7))⟩
def Im{dL:Nat}(h:aC w b ar (qi ab c ai ht))(k:∀a,aC a b ar (qi ab c dL ht)->Q [b] w a->a.heap.size=w.heap.size->ac bS a):W C (dC 3 (aE (E ⟨b,6,I⟩)) (F H dL)) w ac:=by refine f0 (cv:=aP ab::en c) (c5:=[F H ai]) (da:=[aK ht]) hl (by simpa[qi]using h) rfl rfl rfl (by simp[bF,Value.oneCell']) λa d e f=>k a (by simpa[bF,qi]using d) e f
def In{ac:S->Prop}{d b c ag:S}:(aV C (gH (bQ #[d,b,c,ag]) 0) ac↔ac d)/\(aV C (gH (bQ #[d,b,c,ag]) 1) ac↔ac b)/\(aV C (gH (bQ #[d,b,c,ag]) 2) ac↔ac c)/\(aV C (gH (bQ #[d,b,c,ag]) 3) ac↔ac ag):=
 ⟨qO rfl,qO rfl,qO rfl,qO rfl⟩
structure r5(c:dR)(au:eW)(bu:Nat):Prop where
 Bq:1<=bu/\bu<=1152921504606846976
 sZ:∀t,t<c.bd->au.g4 t<=bu
 y9:∀j,j<c.cY->(au.dh j).L<=bu
 Io:Rb c au
def Br{be:aU->List S}{l:List aU}(h:aT w be aa l):r3 aa:=by obtain⟨d,c,rfl,_⟩:=h;exact⟨_,_,_,rfl⟩
def Bs(w:aN)(aO:List Nat)(c:dR)(au:eW)(x:q2):Prop:=(∃j,j<c.cY/\x.1=au.dh j/\2<=x.1.L)/\r3 x.2/\eo w aO eL x.2 x.1.ii
def Bs.de{x:q2}(h:Bs w aO c au x)(b:bX aO gf w a):Bs a gf c au x:=⟨h.1,h.2.1,h.2.2.de b⟩
def afO(h:(au.dh j).ii.length=c.aJ):lW au j c.aJ=(au.dh j).ii:=by unfold lW;rw[<-h];refine List.ext_getElem B λi b a=>?_;rw[ic,List.getElem_range,gp,cr a];rfl
def eW.bp.R3(h:au.bp c)(b:j<c.cY)(f:2<=(au.dh j).L):(au.dh j).ii.length=c.aJ/\(au.dh j).L%c.cY=j:=by
 obtain⟨g,i,d⟩:=h.t5 j b;rcases d with⟨a,_⟩|⟨_,a,e⟩
 ·omega
 ·exact⟨e,a⟩
structure r6(bv w:aN)(ab b:Nat)(dc am aD:List Nat)(c:dR)(au:eW)(aB:Nat->Bool)(ay al:Nat->Nat->Bool)(ai j dL:Nat)(cB:S)(fG:List q2):Prop where
 r7:eY w ab am c au aB ay al
 bg:fb w am b 291 (qi ab c dL U)
 hm:ai<=dL
 kU:∀bu,r5 c au bu->ai<=bu->dL<=bu
 uF:∀i,i<j->(au.dh i).L<=dL
 c4:bP w 310 3 cB fG.length (fG.flatMap t9) aD
 pn:∀g∈aD,g∉am/\g≠b
 dT:fG.length<=j
 za:∀x∈fG,Bs w (b::am++aD) c au x
 de:bX (b::dc) (b::am++aD) bv w
def _root_.Go.X.eo.d1{be:aU->List S}{l:List aU}(h:eo w aO be aa l)(ao:∀g∈gf,g∈aO):eo w gf be aa l:=by refine⟨h.1,h.2.imp id ?_⟩;rintro⟨b,af,c,a,d,e⟩;exact⟨b,af,c,a,λf=>d (ao b f),e⟩
section
variable{dc:List Nat}{dL:Nat}{tw:S}{x:q2}
variable{fG:List q2}
def r6.zb(h:r6 bv w ab b dc am aD c au aB ay al ai j dL cB fG)(f:bX am az w a)(k:eY a ab az c au aB ay al):r6 bv a ab b dc az aD c au aB ay al ai j dL cB fG:=by
 have i:bX (b::am++aD) (b::az++aD) w a:=f.qj (λg d=>by simp[d]) (λg d=>by
  simp only[jN,ce,b4]at d⊢;rcases d with e|e|e
  ·exact Z (Y e)
  ·exact Y e
  ·exact Z (Z (Z e)))
 exact⟨k,h.bg.de f,h.hm,h.kU,h.uF,h.c4.J f.J (λg d=>(h.pn g d).1),λg d=>⟨f.pn (aO:=aD) (λg d=>(h.pn g d).1) h.c4.aL g d,(h.pn g d).2⟩,h.dT,λx l=>(h.za x l).de i,h.de.dP i⟩
def r6.afP(h:r6 bv w ab b dc am aD c au aB ay al ai j dL cB fG)(k:bX aD ez w a)(m:bP a 310 3 tw (fG++[x]).length ((fG++[x]).flatMap t9) ez)(n:Bs w (b::am++aD) c au x)(q:fG.length<j):r6 bv a ab b dc am ez c au aB ay al ai j dL tw (fG++[x]):=by
 have l:bX (b::am++aD) (b::am++ez) w a:=k.qj (λg f=>by simp[f]) (λg f=>by
  simp only[jN,ce,b4]at f⊢;rcases f with d|d|d
  ·exact Z (Y d)
  ·exact Z (Z (Y d))
  ·exact Y d)
 have o:=h.r7.aL;have r:=h.bg.1.aL;refine⟨h.r7.J k.J (λg f i=>(h.pn g i).1 f),⟨h.bg.1.J k.J (λi=>(h.pn b i).2 rfl),h.bg.2⟩,h.hm,h.kU,h.uF,m,λg f=>?_,by simp;omega,λap p=>?_,h.de.dP l⟩
 ·rcases k.cq g f with d|d
  ·exact h.pn g d
  ·exact⟨λi=>by have:=o g i;omega,λe=>A⟩
 ·rcases b4.1 p with d|d
  ·exact(h.za ap d).de l
  ·rw[ku.1 d];exact n.de l
end
def afQ(h:eY w ab am c au aB ay al)(aW:fb w am b 291 (qi ab c ai U))(be:∀j i,j<c.cY->i<c.aJ->0<bV (mo c ay j i) c.aR)(bf:∀ag s,ag<c.aR->s<fg c->al ag s=G):
  a0 C 211 #[aP b] w λae a=>∃fG cB az aD dL,ae=bQ #[cB,cT]/\r6 w a ab b am az aD c au aB ay al ai c.cY dL cB fG:=by
 obtain⟨av,aa⟩:=h.cL;have bK:=av.lh;have bM:c.aJ<=8:=by have:=av.jY;have:=av.i6;omega
 refine a9 NI 1 Tryz.func211 K rfl λa1 bg=>?_;simp+decide only[↓a8,ba,NI,Tryz.f211];subst bg;obtain⟨y,z,ac,ad,D,J,aj⟩:=lX aW.1;simp only[M,D];apply c1 (λt a=>∃(j:Nat)(fG:List q2)(cB:S)(az aD:List Nat)(dL:Nat),t=[cB,F H j]/\j<=c.cY/\r6 w a ab b am az aD c au aB ay al ai j dL cB fG) (λt _=>match t with|[_,F _ j]=>c.cY-j.toNat|_=>0) ⟨0,[],T I 0 0,am,[],ai,rfl,A,h,aW,fF _,λbu _ l=>l,A,gJ _ _ _,B,B,B,by simpa using bX.b0 _ _⟩;clear y z ac ad D J aj;rintro _ _ ax ⟨j,fG,cB,cM,o,L,rfl,bP,d⟩;simp only[M,bi];refine⟨λbR=>?_,λbU=>?_⟩
 ·have p:j<c.cY:=A;obtain⟨bB,aX,bh⟩:=id d.r7;have aY:∀i,i<c.aJ->0<bV (mo c bB j i) c.aR:=λi al=>iL (be j i p al) (r4 λag aw l=>(bh ag _ aw).1 l);refine bT (λt a=>∃ah b1,t=[aP ah,aK G,F H (au.dh j).L,cT]/\aC a ah 310 (j1 (au.dh j) b1)/\ax.heap.size<=ah/\aT a eL b1 (lW au j c.aJ)/\gx ax.heap.size b1/\Q [] ax a) ?_ ?_
  ·obtain⟨y,z,ac,ad,D,J,aj⟩:=lX (bD d.bg.1);simp only[M,y,z];refine⟨?_,?_⟩
   ·obtain⟨aG,aA,aF⟩:=aX.V (cD [] ax);apply aH Gt (H9 aA aF p aY);rintro _ ak ⟨b1,rfl,q,u,m⟩;simp only[In];have an:=m.aI;refine wd λr aI k aZ=>we (ap:=au.dh j) (ae:=b1) aI rfl (Br q).aW λn aJ R bj=>?_;have aL:Q [] ax n:=(((cD [] ax).R m B).R k B).R R (by simp;exact an);exact⟨_,b1,rfl,aJ,an,q.V (k.R R B),u,aL⟩
   ·refine wd λak bk m an=>?_;have ao:=(cD [] ax).R m B;refine(mE ye (by exact((d.bg.V ao).1.cy.d1 1 5))).2 ((dz CP ((d.bg.V ao).1.bh (af:=0))).2 ?_);obtain⟨aG,aA,aF⟩:=aX.V ao;apply aH Gt (H9 aA aF p aY);rintro _ r ⟨b1,rfl,q,u,k⟩;simp only[In];have aZ:=k.aI;refine we (ap:=au.dh j) (ae:=b1) (bk.J k B) rfl (Br q).aW λn aJ R bj=>?_;have bW:ax.drew.heap.size=ax.heap.size:=rfl;have aL:Q [] ax n:=(ao.R k B).R R (by simp<;>omega);exact⟨_,b1,rfl,aJ,A,q.J R (u.cW (by simp<;>omega)),u.bw A,aL⟩
  rintro _ _ ak ⟨ah,b1,rfl,bl,v,q,u,m⟩;simp only[M];apply(fp dk).2;obtain⟨y,z,ac,ad,D,J,aj⟩:=lX (d.bg.V m).1;simp only[M,J];rw[show max (L:Int) ((au.dh j).L:Int)=((max L (au.dh j).L:Nat):Int)by omega];refine Im (d.bg.V m).1 λr aI k aZ=>?_;have a2:=d.bg.2;have bm:=d.bg.1.aL;have a3:bX (b::cM++o) (b::cM++o) ax r:=(bX.iu m).dP ⟨k.bw B,λg f=>Y f⟩;have aM:aC r ah 310 (j1 (au.dh j) b1):=bl.J k (by simp;omega);have a4:aT r eL b1 (lW au j c.aJ):=q.J k (u.cW (by simp;omega));have a5:eY r ab cM c au aB ay al:=(d.r7.V m).J k (λg f e=>by simp at e;subst e;exact a2 f);have bn:=(d.c4.J m B).J k (λg f e=>by simp at e;subst e;exact(d.pn _ f).2 rfl);have aq:r6 w r ab b am cM o c au aB ay al ai (j+1) (max L (au.dh j).L) cB fG:=⟨a5,⟨aI,a2⟩,by have:=d.hm;omega,λbu a6 l=>by have:=d.kU bu a6 l;have:=a6.y9 j p;omega,λi al=>by
   rcases Nat.lt_succ_iff_lt_or_eq.1 al with bo|rfl
   ·have:=d.uF i bo;omega
   ·omega,bn,d.pn,by have:=d.dT;omega,λx V=>(d.za x V).de a3,d.de.dP a3⟩
  have bY:=aq.c4.aL;have bZ:=a5.aL;have an:=m.aI;have aO:eo r (b::cM++o) eL b1 (lW au j c.aJ):=eo.cq (a:=ax) a4 (λx=>by rw[nG];omega) u (by
   intro g f;simp only[jN,ce,b4]at f;rcases f with rfl|f|f
   ·exact bm
   ·exact d.r7.aL g f
   ·exact d.c4.aL g f)
  refine bT (λt a=>∃(aQ:List q2)(tw:S)(az ez:List Nat),t=[tw,cT]/\r6 w a ab b am az ez c au aB ay al ai (j+1) (max L (au.dh j).L) tw aQ) ?_ ?_
  ·simp only[M,hq];obtain⟨bp,b0,b2⟩:=rZ aM;simp only[M,bp,bi];refine⟨λb3=>?_,λ_=>⟨fG,cB,cM,o,rfl,aq⟩⟩;have aR:2<=(au.dh j).L:=A;obtain⟨a7,br⟩:=aa.R3 p aR;rw[afO a7]at aO a4;refine(u0 aM).2 (yR WX (x:=((au.dh j,b1):q2)) aq.c4 xz rfl (Il (Br q)) (by have:=d.dT;omega) (by have:=d.dT;simp only[d0];omega) A λaS n ar bs aU _=>?_);have W:=aq.afP aU bs ⟨⟨j,p,rfl,aR⟩,Br q,aO⟩ (by have:=d.dT;omega);have bt:bX (b::cM++o) (b::cM++ar) r n:=aU.qj (λg f=>by simp[f]) (λg f=>by
    simp only[jN,ce,b4]at f⊢;rcases f with X|X|X
    ·exact Z (Y X)
    ·exact Z (Z (Y X))
    ·exact Y X)
   obtain⟨y,z,ac,ad,D,J,aj⟩:=lX (bD W.bg.1);simp only[M,y,z];have bv:aC n ah 310 (j1 (au.dh j) b1):=aM.J aU.J (λl=>by have:=d.c4.aL ah l;omega);apply(u0 (bD bv)).2;obtain⟨b7,bb,bw⟩:=W.r7.V (cD [] n);refine RZ (gg:=au) bb aa br aR (aa.t5 j p).1 (aa.t5 j p).2.1 a7 (((aO.de bt).d1 (λg f=>by simp[f])).V (cD [] n)) (λ_ _=>rfl) (λ_ _ _ _ _=>rfl) λb8 bx bz bC=>⟨_,aS,bx,ar,rfl,W.zb (bC.mN (cD [] n)) (eY.ED bb bw bz λag s aw v=>bf ag s aw ?_)⟩;unfold n7 at v;have v:=of_decide_eq_true v;have:=(iM j 1 c.aJ).symm;have bE:(j+1)*c.aJ<=c.cY*c.aJ:=mw _ p;rw[iM,sq]at bE;unfold fg;omega
  ·rintro _ _ n ⟨bG,aS,bH,ar,rfl,W⟩;simp only[M];apply(fp dk).2;simp only[M];rw[bq A A];exact⟨⟨j+1,bG,aS,bH,ar,_,rfl,A,W⟩,by simp;omega⟩
 ·obtain rfl:j=c.cY:=A;have bI:EC cB fG.length:=by
   rcases d.c4.2 with⟨rfl,bc,_⟩|⟨g,af,bL,cf,rfl,_⟩
   ·exact⟨I,0,by rw[bc],Y bc⟩
   ·exact⟨_,_,rfl,Z ⟨g,af,rfl⟩⟩
  apply aH Zh (afM bI d.c4 (λx V=>(d.za x V).2.1) (by have:=d.dT;omega));rintro _ ak ⟨aQ,v,bJ,aV⟩;have bd:bX (b::cM++o) (b::cM++o) ax ak:=⟨aV.bw λg f=>by simp[f],λg f=>Y f⟩;exact⟨aQ,cB,cM,o,L,rfl,d.r7.J aV (λg f l=>(d.pn g l).1 f),⟨d.bg.1.J aV (λl=>(d.pn b l).2 rfl),d.bg.2⟩,d.hm,d.kU,d.uF,bJ,d.pn,by rw[v.length_eq];exact d.dT,λx V=>(d.za x (v.mem_iff.1 V)).de bd,d.de.dP bd⟩
end
section
def hA.cH(h:hA c au aG bB aB):(cH aG).length=bV (λag=>!aB ag) c.aR:=by
 unfold Go.Proofs.YtepeilglbedgdaaGreatDoor.cH rP bV;rw[h.ei.aR];congr 1;refine List.filter_congr λag b=>?_;have a:ag<aG.length:=by rw[h.ei.aR];exact iK.1 b
 rw[cr a];simp only[(h.ih ag _ (cr a)).dW]
def Ip(bv w:aN)(ab b:Nat)(am az:List Nat)(c:dR)(au:eW)(aB:Nat->Bool)(ay al:Nat->Nat->Bool)(ai dL:Nat):Prop:=
 eY w ab az c au aB ay al/\fb w az b 291 (qi ab c dL U)/\bX (b::am) (b::az) bv w/\ai<=dL/\(∀bu,r5 c au bu->ai<=bu->dL<=bu)/\∀j,j<c.cY->(au.dh j).L<=dL
def afR(h:eY w ab am c au aB ay al)(bd:Rb c au)(be:fb w am b 291 (qi ab c ai U))(bf:∀j i,j<c.cY->i<c.aJ->0<bV (mo c ay j i) c.aR)(bg:∀ag s,ag<c.aR->s<fg c->al ag s=G)
  (bh:∀j,j<c.cY->2<=(au.dh j).L->∀ag,ag<c.aR->al ag (fg c+(au.dh j).e4)=G) (bj:c.aJ<=bV (λag=>!aB ag) c.aR):
  a0 C 152 #[aP b] w λae a=>∃az dL,Ip w a ab b am az c au aB ay al ai dL/\((ae=cT/\∀t,t<c.bd->au.g4 t<=dL/\c.aJ<=bV (ia c al t) c.aR)\/∃(t ak:Nat),t<c.bd/\bV (ia c ay t) c.aR<c.aJ/\ae=ff (E (.d2 EA t (.lK t ak c.aJ)))):=by
 obtain⟨aV,X⟩:=h.cL;have bP:=aV.lh;have bR:=aV.jZ;refine a9 Ng 1 Tryz.func152 K rfl λa1 bk=>?_;simp+decide only[↓a8,ba,Ng,Tryz.f152];subst bk;apply aH YL (afQ h be bf bg);rintro _ aA ⟨fG,cB,bJ,aD,aa,rfl,d⟩;obtain⟨aW,aX,rfl,bU⟩:=d.c4.jD;have bW:=d.dT;simp only[M,cV,cX];apply(fp dk).2;simp only[M];apply c1 (λf a=>∃(i:Nat)(az:List Nat),f=[F H i]/\i<=fG.length/\r6 w a ab b am az aD c au aB ay al ai c.cY aa (T aW fG.length aX) fG) (λf _=>match f with|[F _ i]=>fG.length-i.toNat|_=>0) ⟨0,bJ,rfl,A,d⟩;clear d;rintro _ _ ax ⟨i,cM,rfl,bX,d⟩;simp only[M,bi];refine⟨λbl=>?_,λbm=>?_⟩
 ·have aY:i<fG.length:=A;refine bT (λf a=>f=[]/\∃az,r6 w a ab b am az aD c au aB ay al ai c.cY aa (T aW fG.length aX) fG) ?_ ?_
  ·apply(Bo.ek (l:=fG) (d.c4.eF xz A) (Q.b0 _ _) aY).2;obtain⟨⟨j,p,q,aF⟩,bn,bo⟩:=d.za _ (dX aY);generalize fG[i]=x at*;obtain⟨aZ,bp⟩:=X.R3 p (q▸aF);obtain⟨a2,a3⟩:=bd j p (q▸aF);rw[<-q]at aZ bp a2 a3;have a4:x.1.e4<c.bd:=by rw[q];exact(X.t5 j p).1
   have br:x.1.L<=1152921504606846976:=by rw[q];exact(X.t5 j p).2.1
   refine wd λv bs bt bY=>we (ap:=x.1) (ae:=x.2) bs rfl bn.aW λac a5 aI bZ=>?_;have aJ:Q [] ax ac:=bt.R aI B;have ad:=d.zb (.iu aJ) (d.r7.V aJ);have bv:=bo.V aJ;obtain⟨m,n,y,r,z,u,D⟩:=lX (bD ad.bg.1);obtain⟨af,ah,aL⟩:=rZ (bD a5);simp only[M,m,n,ah];obtain⟨bB,⟨aG,aM,aj⟩,aO⟩:=ad.r7.V (cD [] ac);refine aH L3 (RO aM aj a4) ?_;rintro _ J ⟨b0,b2,rfl,-,-,-,an⟩;have ao:=(cD [] ac).R an B;have aq:=ad.zb (.iu ao) (ad.r7.V ao);have ar:=a5.J ao B;have bw:=(bv.V ao).V (cD [] J);obtain⟨af,ah,aL⟩:=rZ ar;simp only[M,cV,cX,af,bi];refine⟨λ_=>⟨by trivial,cM,aq⟩,λ_=>?_⟩;obtain⟨m,n,y,r,z,u,D⟩:=lX (bD aq.bg.1);obtain⟨af,ah,aL⟩:=rZ (bD ar);simp only[M,m,n,af,ah,aL];obtain⟨b3,a6,bx⟩:=aq.r7.V (cD [] J);refine Ij (gg:=au) (h5:=x.1.L) (l:=x.1.ii) a6 X a4 A br aZ bw.1 a2 a3 (λ_ _ _ _ _=>rfl) λb7 bz bC bE=>(fp dk).2 ?_;simp only[M];refine⟨by trivial,bz,aq.zb (bE.mN (cD [] J)) (eY.ED a6 bx bC λag s L bG=>?_)⟩;rw[show s=fg c+x.1.e4 from of_decide_eq_true bG,q];exact bh j p (q▸aF) ag L
  ·rintro _ _ v ⟨rfl,bH,bI⟩;rw[bq A A];exact⟨⟨i+1,bH,B,A,bI⟩,by simp;omega⟩
 ·obtain⟨m,n,y,r,z,u,D⟩:=lX d.bg.1;simp only[M,r];have a7:Ip w ax ab b am cM c au aB ay al ai aa:=⟨d.r7,d.bg,d.de.qj (λ_ h=>h) (λg k=>Y (by simp at k;simp;rcases k with h|h<;>simp[h])),d.hm,d.kU,d.uF⟩;apply c1 (λf a=>∃(t o:Nat),f=[F H t]/\t<=c.bd/\Ip w a ab b am cM c au aB ay al ai o/\∀i,i<t->au.g4 i<=o/\c.aJ<=bV (ia c al i) c.aR) (λf _=>match f with|[F _ t]=>c.bd-t.toNat|_=>0) ⟨0,aa,rfl,A,a7,A⟩;clear d a7 m n y r z u D;rintro _ _ v ⟨t,o,rfl,b8,⟨av,R,aQ,bb,aR,aS⟩,k⟩;simp only[M,bi];refine⟨λbl=>?_,λbm=>?_⟩
  ·have aT:t<c.bd:=A;obtain⟨m,n,y,r,z,u,D⟩:=lX (bD R.1);simp only[M,m,n];obtain⟨bB,⟨aG,aM,aj⟩,aO⟩:=id (av.V (cD [] v));apply aH Dc (EB aM aj aT (by rw[aj.cH];exact bj));rintro _ ac ⟨aI,aw⟩;have V:=(cD [] v).R aI B;have aU:=R.V V;by_cases aC:c.aJ<=bV (ia c bB t) c.aR
   ·rw[if_pos aC]at aw;obtain⟨b1,rfl,-,-⟩:=aw;simp only[M,na,oB,oC];apply(fp dk).2;obtain⟨m,n,y,r,z,u,D⟩:=lX aU.1;simp only[M,u];rw[show max (o:Int) (au.g4 t:Int)=((max o (au.g4 t):Nat):Int)by omega];refine Im aU.1 λJ ar an b9=>?_;rw[bq A A];have bK:Q [b] v J:=(V.bw B).R an B;refine⟨⟨t+1,max o (au.g4 t),B,A,⟨(av.V V).J an (λg k e=>by simp at e;subst e;exact R.2 k),⟨ar,R.2⟩,aQ.dP ⟨bK.bw B,λg k=>Y k⟩,A,λbu bc W=>by have:=aR bu bc W;have:=bc.sZ t aT;omega,λj p=>by have:=aS j p;omega⟩,λi bL=>?_⟩,by simp;omega⟩;rcases Nat.lt_succ_iff_lt_or_eq.1 bL with bM|rfl
    ·have:=k i bM;exact⟨A,this.2⟩
    ·exact⟨A,gz aC (r4 λag L W=>(aO ag _ L).2 W)⟩
   ·rw[if_neg aC]at aw;subst aw;simp only[M,na,oB,oC];apply(rz dk).2;simp only[M];exact⟨cM,o,⟨av.V V,aU,aQ.oM V,bb,aR,aS⟩,Z ⟨t,_,aT,Nat.lt_of_le_of_lt (r4 λag L W=>(aO ag _ L).1 W) (Nat.lt_of_not_le aC),rfl⟩⟩
  ·exact⟨cM,o,⟨av,R,aQ,bb,aR,aS⟩,Y ⟨rfl,λsw ca=>k sw A⟩⟩
end
def afS:ByteArray:=eS #[118,111,108,117,109,101,46,79,112,101,110]
section
def afT:C.built 291 #[(0,aP ah),(1,fQ c),(2,F H 1)].toList=E (qi ah c 1 U).toArray:=K
def hA.R4(h:hA c au aG bB aB)(a:aG[i]?=E aq):Go.Proofs.YtepeilglbedgdaaGreatDoor.ec aq 0 1 i 0=if bB i 0 then E (jt c i)else I:=by rw[h.ec (s:=0) a (by unfold dR.e6;omega) (by simp[e0,eW.eQ,jt])];rfl
structure zc(c:dR)(au:eW)(aB:Nat->Bool)(ay al:Nat->Nat->Bool):Prop where
 Iq:c.aJ<=bV (λag=>ay ag 0) c.aR
 lw:∀j i,j<c.cY->i<c.aJ->0<bV (mo c ay j i) c.aR
 afU:∀ag s,ag<c.aR->s<fg c->al ag s=G
 afV:∀j,j<c.cY->2<=(au.dh j).L->∀ag,ag<c.aR->al ag (fg c+(au.dh j).e4)=G
 mt:c.aJ<=bV (λag=>!aB ag) c.aR
structure ib(w:aN)(b:Nat)(am:List Nat)(ab:Nat)(c:dR)(au:eW)(aB:Nat->Bool)(ay al:Nat->Nat->Bool)(ai:Nat):Prop where
 gm:∃dc,am=b::dc/\eY w ab dc c au aB ay al/\fb w dc b 291 (qi ab c ai U)
 kU:r5 c au ai
def afW(h:eY w ab am c au aB ay al)(j:zc c au aB ay al)(e:r5 c au bu):
  a0 C 100 #[aP ab] w λae a=>(∃b az dL,ae=bQ #[aP b,cT]/\ib a b az ab c au aB ay al dL/\dL<=bu/\bX am az w a/\∀t,t<c.bd->c.aJ<=bV (ia c al t) c.aR)\/
   ∃(az:List Nat)(t ak:Nat),eY a ab az c au aB ay al/\bX am az w a/\t<c.bd/\bV (ia c ay t) c.aR<c.aJ/\ae=bQ #[aE I,ff (E (.d2 afS 0 (.d2 EA t (.lK t ak c.aJ))))]:=by
 obtain⟨aR,aS⟩:=h.cL;have W:=h.aL;refine a9 MP 1 Tryz.func100 K rfl λa1 X=>?_;simp+decide (maxSteps:=9999999)only[↓a8,ba,MP,Tryz.f100];subst X;obtain⟨bB,⟨aG,o,p⟩,aa⟩:=id h;refine aH yn (AV o) ?_;rintro _ _ ⟨rfl,rfl⟩;simp only[M];refine aH Yj (adE (g:=λi=>bB i 0) o p.ei (λi aq ac=>p.R4 ac) (gz j.Iq (r4 λag l ad=>(aa ag _ l).1 ad))) ?_;rintro _ aA ⟨rfl,v⟩;simp only[cV,cX];refine mR λax ah ai aT=>ml (g:=c) ah rfl λx y aj aU=>(fp dk).2 ?_;have z:Q [] w x:=(v.R ai B).R aj (by simp;exact v.aI);obtain⟨aV,an,aW,aX,aY⟩:=iV (bD y);simp only[M,an];have l:=cD [] x;refine t0 ((o.V z).V l) λcB q ao aZ A=>?_;have D:=(bD y).J A B;refine(dz bZ (D.bh (af:=1))).2 ?_;obtain⟨a2,a3,rfl,_,_⟩:=ao;simp only[M];rw[decide_eq_false (by have:=j.mt;rw[<-p.cH]at this;simp only[dZ,dU];omega)];simp only[M];have r:Q [] w q:=(z.R l B).R A B;refine(fj D).2 ((bY afT).2 (eA λap ar av a4=>?_));have s:=r.R av B;have aw:fb ap am q.heap.size 291 (qi ab c 1 U):=⟨by simpa[bF]using ar,λaC=>by have:=W _ aC;have:=r.aI;omega⟩;refine aH Yk (afR (h.V s) e.Io aw j.lw j.afU j.afV j.mt) ?_;rintro ae aD ⟨m,aF,⟨J,aI,L,aJ,R,aL⟩,aM⟩;generalize aO:q.heap.size=n at*;have V:w.heap.size<=n:=by rw[<-aO];exact r.aI
 have u:bX am (n::m) w aD:=⟨(s.bw B).R L.J (λg d=>by
   rcases ce.1 d with rfl|f
   ·exact Z V
   ·exact Y f),λg d=>by
   rcases L.cq g d with f|f
   ·rcases ce.1 f with rfl|f
    ·exact Z V
    ·exact Y f
   ·exact Z (gz s.aI f)⟩
 rcases aM with⟨rfl,d⟩|⟨t,ak,k,aQ,rfl⟩
 ·apply(fp dk).2;simp only[M];exact Y ⟨n,n::m,aF,rfl,⟨⟨m,rfl,J,aI⟩,⟨⟨aJ,gz (R bu e e.Bq.1) e.Bq.2⟩,λt k=>(d t k).1,aL,e.Io⟩⟩,R bu e e.Bq.1,u,λt k=>(d t k).2⟩
 ·apply(rz dk).2;simp only[M];exact rO (Z ⟨m,t,ak,J,⟨u.J,λg d=>u.cq g (by simp[d])⟩,k,aQ,rfl⟩)
end
def afX:ByteArray:=eS #[118,111,108,117,109,101,46,82,101,97,100]
def eW.lY(au:eW)(c:dR)(s:Nat)(l:List kC)(ai:Nat):eW:=⟨λt=>if t=s then ai else au.g4 t,λt=>if t=s then l else au.bg t,λj=>if j=ai%c.cY then⟨ai,s,l⟩else au.dh j⟩
def eW.dw(au:eW)(j:Nat)(x:iX):eW:=⟨au.g4,au.bg,λi=>if i=j then x else au.dh i⟩
section
variable{l:List kC}
def afY(b:1<=c.aJ)(d:s≠0)(h:n7 c j s=U):(s-1)/c.aJ≠j:=by intro e;have f:=of_decide_eq_false h;have a:=Nat.div_add_mod (s-1) c.aJ;have g:=Nat.mod_lt (s-1) (show 0<c.aJ by omega);rw[e,Nat.mul_comm]at a;omega
def afZ(a:1<=c.aJ)(h:n7 c j s=U):(au.dw j x).eQ c ag s=au.eQ c ag s:=by
 unfold eW.eQ;split
 ·rfl
 ·rename_i b;split
  ·have:=afY a b h;show iX.eQ (if _=j then x else _) _=_;rw[if_neg this]
  ·rfl
def af0(h:r2 c t s=U):(au.lY c t l ai).eQ c ag s=(au.dw (ai%c.cY) ⟨ai,t,l⟩).eQ c ag s:=by
 have a:=of_decide_eq_false h;unfold eW.eQ;split
 ·rfl
 ·split
  ·rfl
  ·rename_i b d;have:s-fg c≠t:=A;unfold jw eW.lY eW.dw;simp only[if_neg this]
def R5(h:au.bp c)(ao:s<c.bd)(a:2<=ai)(b:ai<=1152921504606846976)(d:l.length=c.aJ):(au.dw (ai%c.cY) ⟨ai,s,l⟩).bp c:=by
 refine⟨h.v0,h.wc,λj f=>?_⟩;show(if j=_ then _ else au.dh j).e4<_/\_;by_cases e:j=ai%c.cY
 ·simp only[eW.dw,if_pos e];exact⟨ao,b,Z ⟨a,e.symm,d⟩⟩
 ·simp only[eW.dw,if_neg e];exact h.t5 j f
def af1(h:au.bp c)(ao:s<c.bd)(d:2<=ai)(e:ai<=1152921504606846976)(b:l.length=c.aJ):(au.lY c s l ai).bp c:=by
 refine⟨λt a=>?_,λt a=>?_,(R5 h ao d e b).t5⟩
 ·simp only[eW.lY];split
  ·omega
  ·exact h.v0 t a
 ·simp only[eW.lY];split
  ·exact b
  ·exact h.wc t a
def af2(h:r5 c au ai)(f:ai+1<=1152921504606846976)(d:∀j,j<c.cY->2<=(au.dh j).L->(au.dh j).e4≠s):r5 c (au.lY c s l (ai+1)) (ai+1):=by
 refine⟨⟨A,f⟩,λt g=>?_,λj a=>?_,λj a=>?_⟩
 ·simp only[eW.lY];split
  ·omega
  ·have:=h.sZ t g;omega
 ·simp only[eW.lY];split
  ·simp
  ·have:=h.y9 j a;omega
 ·simp only[eW.lY];by_cases e:j=(ai+1)%c.cY
  ·simp only[if_pos e];simp
  ·simp only[if_neg e];intro b;rw[if_neg (d j a b),if_neg (d j a b)];exact h.Io j a b
def ua(h:ib w b am ab c au aB ay al ai):a0 C 101 #[aP b] w λae a=>ae=fQ c/\Q [] w a:=by obtain⟨dc,rfl,m,e⟩:=h.gm;refine a9 .D 1 Tryz.func101 K rfl λa1 f=>?_;simp+decide only[↓a8,ba,Tryz.f101];subst f;refine mR λax i d n=>?_;obtain⟨o,j,p,q,r,s,t⟩:=lX (e.V d).1;simp only[M,j];refine ml (g:=c) i rfl λu k l v=>?_;refine(fj k).2 ?_;exact⟨rfl,d.R l B⟩
def Ir(h:ib w b am ab c au aB ay al ai):a0 C 132 #[aP b] w λae a=>ae=aP ab/\w=a:=by obtain⟨dc,rfl,g,d⟩:=h.gm;refine a9 .D 1 Tryz.func132 K rfl λa1 e=>?_;simp+decide only[↓a8,ba,Tryz.f132];subst e;obtain⟨f,i,j,k,l,m,n⟩:=lX d.1;simp only[M,f];exact⟨rfl,rfl⟩
def R6(h:ib w b am ab c au aB ay al ai):a0 C 131 #[aP b] w λae a=>ae=aK U/\w=a:=by obtain⟨dc,rfl,g,d⟩:=h.gm;refine a9 .D 1 Tryz.func131 K rfl λa1 e=>?_;simp+decide only[↓a8,ba,Tryz.f131];subst e;obtain⟨i,j,k,l,m,n,f⟩:=lX d.1;simp only[M,f];exact⟨rfl,rfl⟩
def R7(h:ib w b am ab c au aB ay al ai)(p:c.aJ<=bV (λag=>!aB ag) c.aR)(ao:s<c.bd):a0 C 102 #[aP b,F H s] w λae a=>Q [] w a/\
  ((∃b1,ae=bQ #[b1,F H (au.g4 s),cT]/\aT a eL b1 (au.bg s)/\gx w.heap.size b1/\c.aJ<=bV (ia c al s) c.aR)\/∃ak:Nat,bV (ia c ay s) c.aR<c.aJ/\ae=bQ #[T I 0 0,F H 0,ff (E (.d2 afX s (.d2 EA s (.lK s ak c.aJ))))]):=by
 obtain⟨dc,rfl,q,i⟩:=h.gm;refine a9 MQ 2 Tryz.func102 K rfl λa1 r=>?_;simp+decide only[↓a8,ba,MQ,Tryz.f102];subst r;obtain⟨j,k,t,u,v,x,l⟩:=lX i.1;simp only[M,l];obtain⟨j,k,t,u,v,x,l⟩:=lX (bD i.1);simp only[M,j,k];obtain⟨bB,⟨aG,y,m⟩,n⟩:=id (q.V (cD [] w));apply aH Dc (EB y m ao (by rw[m.cH];exact p));rintro _ J ⟨z,d⟩;have o:=(cD [] w).R z B;by_cases e:c.aJ<=bV (ia c bB s) c.aR
 ·rw[if_pos e]at d;obtain⟨b1,rfl,A,D⟩:=d;simp only[M,na,oB,oC];exact tZ ⟨o,Y ⟨b1,rfl,A,D,gz e (r4 λag f g=>(n ag _ f).2 g)⟩⟩
 ·rw[if_neg e]at d;subst d;simp only[M,na,oB,oC];exact rO ⟨o,Z ⟨_,Nat.lt_of_le_of_lt (r4 λag f g=>(n ag _ f).1 g) (Nat.lt_of_not_le e),rfl⟩⟩
def af3(h:ib w b am ab c au aB ay al ai)(ao:s<c.bd)(L:aT w eL aa l)(R:l.length=c.aJ)(V:c.aJ<=bV (ia c ay s) c.aR)(t:c.aJ<=bV (λag=>!aB ag) c.aR)(an:ai+1<=1152921504606846976):
  a0 C 252 #[aP b,F H s,aa] w λae a=>ae=cT/\Q [] w a:=by
 obtain⟨dc,rfl,W,u⟩:=h.gm;obtain⟨ap,cC,rfl,-,-⟩:=L;refine a9 N0 3 Tryz.func252 K rfl λa1 X=>?_;simp+decide only[↓a8,ba,N0,Tryz.f252];subst X;refine bT (λo a=>o=[aK U]/\Q [] w a) ?_ ?_
 ·obtain⟨d,f,e,g,k,i,j⟩:=lX u.1;simp only[M];rw[decide_eq_false A];simp only[M,g];rw[decide_eq_false A];simp only[M,e];rw[R,decide_eq_false B];exact⟨rfl,Q.b0 _ _⟩
 rintro _ _ aA ⟨rfl,p⟩;simp only[M];have v:=W.V p;have q:=u.V p;refine bT (λo a=>o=[aK U]/\aA=a) ?_ ?_
 ·obtain⟨d,f,e,g,k,i,j⟩:=lX q.1;simp only[M,j,d];obtain⟨bB,⟨aG,m,n⟩,x⟩:=id v;apply aH yn (AV m);rintro _ _ ⟨rfl,rfl⟩;exact⟨rfl,rfl⟩
 rintro _ _ _ ⟨rfl,rfl⟩;obtain⟨d,f,e,g,k,i,j⟩:=lX (bD q.1);simp only[M,d,e];obtain⟨bB,⟨aG,m,n⟩,x⟩:=id (v.V (cD [] aA));refine t0 m λcB y ac aq z=>?_;have D:=(cD [] aA).R z B;have r:=q.V D;apply(dz bZ (r.1.bh (af:=2))).2;obtain⟨ar,av,rfl,_,_⟩:=ac;obtain⟨d,f,e,g,k,i,j⟩:=lX r.1;simp only[M];rw[decide_eq_false (by have:=t;rw[<-n.cH]at this;simp only[dZ,dU];omega)];simp only[M,i];rw[decide_eq_false A];obtain⟨d,f,e,g,k,i,j⟩:=lX (bD r.1);simp only[M,d,f];apply aH Dc (EB ((m.V z).V (cD [] y)) n ao (by rw[n.cH];exact t));rintro _ aw ⟨ad,J⟩;have ah:c.aJ<=bV (ia c bB s) c.aR:=gz V (r4 λag aj ak=>(x ag _ aj).1 ak);rw[if_pos ah]at J;obtain⟨b1,rfl,-,-⟩:=J;simp only[M,na,oB,oC];exact⟨rfl,((p.R D B).R (cD [] y) B).R ad B⟩
def af4{d b:Int}{ah:Option es}:C.built 310 #[(0,F H d),(1,F H b),(2,T ah n ak)].toList=E #[F H d,F H b,T ah n ak]:=K
def af5(h:ib w b am ab c au aB ay al ai)(ao:s<c.bd)(u:eo w am eL aa l)(n:l.length=c.aJ)(aJ:c.aJ<=bV (ia c ay s) c.aR)(aL:c.aJ<=bV (λag=>!aB ag) c.aR)(k:ai+1<=1152921504606846976)
  (aM:∀j,j<c.cY->2<=(au.dh j).L->(au.dh j).e4≠s) (aO:∀ag s,ag<c.aR->s<fg c->al ag s=G) (aQ:∀ag,ag<c.aR->al ag (fg c+s)=G):
  a0 C 210 #[aP b,F H s,aa] w λae a=>ae=cT/\∃az,ib a b az ab c (au.lY c s l (ai+1)) aB ay al (ai+1)/\bX am az w a:=by
 have aR:=af2 (l:=l) h.kU k aM;have bc:=h.kU.Bq;have aS:=af3 h ao u.1 n aJ aL k;obtain⟨dc,rfl,Q,R⟩:=h.gm;obtain⟨V,W⟩:=Q.cL;have bd:=V.kk;have aT:=V.kh;obtain⟨be,cC,rfl,-,-⟩:=id u.1;refine a9 NH 3 Tryz.func210 K rfl λa1 aU=>?_;simp+decide only[↓a8,ba,NH,Tryz.f210];subst aU;apply aH Zf aS;rintro _ aA ⟨rfl,v⟩;apply(fp dk).2;have X:=R.V v;obtain⟨q,r,ac,ad,af,o,ah⟩:=lX X.1;simp only[M,o];rw[bq A A,show(ai:Int)+1=(ai+1:Nat)by omega];refine Im X.1 λax aj ak bf=>?_;have an:=R.2;have aV:eY ax ab dc c au aB ay al:=(Q.V v).J ak (λg d e=>by simp at e;subst e;exact an d);have ap:bX (b::dc) (b::dc) w ax:=(bX.iu v).dP ⟨ak.bw B,λg d=>Y d⟩;have aq:=u.de ap;obtain⟨q,r,ac,ad,af,o,ah⟩:=lX (bD aj);simp only[M,q,r,o];apply(bY af4).2;obtain⟨bB,ar,aW⟩:=aV.V (cD [] ax);have av:=cD [] ax;refine RZ (x:=⟨ai+1,s,l⟩) (gg:=au.dw ((ai+1)%c.cY) ⟨ai+1,s,l⟩) (j:=(ai+1)%c.cY) ar (R5 W ao A k n) rfl (by simp;omega) ao k n ((aq.d1 (λg d=>by simp[d])).V av) (λi _=>by simp[eW.dw]) (λag s _ _ f=>afZ aT f) λm y aX aY=>?_;have aZ:=eY.ED ar aW aX λag s z f=>aO ag s z (by
  have f:=of_decide_eq_true f;have a2:=Nat.mod_lt (ai+1) (show 0<c.cY by omega);have a3:((ai+1)%c.cY+1)*c.aJ<=c.cY*c.aJ:=mw _ a2;rw[iM,sq]at a3;unfold fg;omega)
 have aw:=aY.mN av;have aC:fb m y b 291 (qi ab c (ai+1) U):=fb.de ⟨aj,an⟩ aw;have aD:bX (b::dc) (b::y) ax m:=aw.qj (λg d=>by simp[d]) (λg d=>by
  rcases ce.1 d with rfl|D
  ·exact Z B
  ·exact Y D)
 have a4:=aq.de aD;refine bT (λa5 a=>a5=[cT]/\∃az,eY a ab az c (au.lY c s l (ai+1)) aB ay al/\fb a az b 291 (qi ab c (ai+1) U)/\bX (b::dc) (b::az) w a) ?_ ?_
 ·apply(ry dk).2;obtain⟨q,r,ac,ad,af,o,ah⟩:=lX (bD aC.1);simp only[M,q,r,o];obtain⟨bg,aF,a6⟩:=aZ.V (cD [] m);refine Ij (gg:=au.lY c s l (ai+1)) (h5:=ai+1) (l:=l) aF (af1 W ao A k n) ao A k n (a4.1.V (cD [] m)) (by simp[eW.lY]) (by simp[eW.lY]) (λag t _ _ f=>af0 f) λaG p J L=>?_;have aI:=L.mN (cD [] m);have a7:bX (b::y) (b::p) m aG:=aI.qj (λg d=>by simp[d]) (λg d=>by
   rcases ce.1 d with rfl|D
   ·exact Z B
   ·exact Y D)
  refine⟨rfl,p,eY.ED aF a6 J (λag t z f=>?_),aC.de aI,(ap.dP aD).dP a7⟩;rw[show t=fg c+s from of_decide_eq_true f];exact aQ ag z
 ·rintro _ _ aG ⟨rfl,p,J,bb,L⟩;simp only[M];apply(fp dk).2;simp only[M];exact⟨rfl,b::p,⟨⟨p,rfl,J,bb⟩,aR⟩,L⟩
end
end
end Go.Proofs.YtepeilglbedgdaaGreatDoor
namespace Go.X
variable{w:aN}{a6 af b n:Nat}{cf:List S}{aU:Type}{ac:S -> aN -> Prop}{ad:ft}{av pX:co}{l:List UInt8}
section
open Go.RowKit
def amj(ag s:List UInt8):List UInt8:=s.take ag.length++ag.drop (s.take ag.length).length
def aT.Is{be:aU->List S}{d:Option es}{c:Nat}{l:List aU}(a:∀x,(be x).length=a6)(h:aT w be (T d l.length c) l)(b:1<=l.length):aT w be (T (if c=1 then d else d.map (·.add (1*a6))) (l.length-1) (c-1)) (l.drop 1):=by have:=aT.d1 (i:=1) (j:=l.length) a h b (fF _);rwa[mv (by rw[e8];omega)]at this
def af6{aq bn:co}{c:Nat}{q:S}
  (J:gV ad aq av=G) (K:ep ad av 1=G) (g:aC w b pX cf) (am:af+n<=cf.length) (ao:aT w bs q l)
  (k:∀a ak,aC a b pX (cf.take af++(l.take n).flatMap bs++cf.drop (af+(l.take n).length))->Q [b] w a->a.heap.size=w.heap.size->ac (F H ak) a):
  W ad (dG .copy #[aq,bn] #[T (E ⟨b,af,I⟩) n c,q]) w ac:=by
 have h:=o8 J;obtain⟨i,al,L⟩:=tH K;have r:(ad.info? av).map (·.size)=E 1:=by rw[al];simp[L]
 obtain⟨d,m,rfl,an,dI⟩:=ao;by_cases s:l=[]
 ·subst s;refine(j9 (aa:=F H 0) (a:=w) ?_).2 ?_
  ·show(do fh (fw (<-Builtin.copy_ #[aq,bn] 0 #[T (E ⟨b,af,I⟩) n c,T d 0 m])):Sem fD).run ad w=_;exact gv ad _ w (run_copy_none w aq bn 0 av _ d n c 0 m h r B)
  ·refine k w 0 ?_ (Q.b0 _ _) rfl;simpa using g
 ·obtain⟨dB,o,rfl,N⟩:=dI.resolve_left s;have t:((l.take n).flatMap bs).length=(l.take n).length:=by rw[kx e2,gA]
  have u:((l.take n).flatMap bs).length=Nat.min l.length n:=by rw[t,ea];exact Nat.min_comm _ _
  have O:∀j ae,((l.take n).flatMap bs)[j]?=E ae->(l.flatMap bs)[j]?=E ae:=λj ae f=>by
   have e:(l.take n).flatMap bs=(l.flatMap bs).take (n*1):=(Cv e2 l n).symm;rw[e,List.getElem?_take]at f;split at f
   ·exact f
   ·cases f
  have R:∀j ae,((l.take n).flatMap bs)[j]?=E ae->w.cell? ((⟨dB,o,I⟩:es).add j)=E ae:=λj ae f=>by have:=O j ae f;rw[jC,N j (fi.1 this).1,this]
  have p:∀ae∈(l.take n).flatMap bs,ae.oneCell'=G:=λae h=>by obtain⟨x,_,V⟩:=tm.1 h;exact uZ x ae V
  have ap:((l.take n).flatMap bs).length<=n:=by rw[u];exact Nat.min_le_right _ _
  rw[<-t]at k;generalize(l.take n).flatMap bs=bo at*;have v:∀j,j<bo.length->(w.cell? ⟨b,af+j,I⟩).isSome=G:=λj f=>by rw[g.bh,cr A];rfl
  have y:∀j,j<bo.length->w.frozen? ⟨b,af+j,I⟩=U:=λj _=>g.Fz;have z:=run_copy_cells (P:=ad) w aq bn 0 av b af n c ⟨dB,o,I⟩ l.length m bo h r u R v y p;have X:cf=cf.take af++(cf.drop af).take bo.length++cf.drop (af+bo.length):=by rw[<-oq,gq,l3,l3]
  obtain⟨a,D,ab,ag,ah⟩:=x3 (ad:=ad) b af pX bo (cf.take af) ((cf.drop af).take bo.length) (cf.drop (af+bo.length)) w 0 (X▸g) (by rw[ea,e8];omega) p (by rw[ea];omega);have ai:=run_storeCells_cells (P:=ad) b af bo 0 w (by simpa using v) (by simpa using y) p;rw[ai]at D;have aj:w.setCells b af bo=a:=by simpa using D
  rw[aj]at z;refine(j9 (aa:=F H bo.length) (a:=a) ?_).2 (k a _ ab ag ah);show(do fh (fw (<-Builtin.copy_ #[aq,bn] 0 #[T (E ⟨b,af,I⟩) n c,T (E ⟨dB,o,I⟩) l.length m])):Sem fD).run ad w=_;exact gv ad _ w z
end
end Go.X
namespace Go.Proofs.YtepeilglbedgdaaGreatDoor
open Go.X
attribute[local irreducible]Go.X.W
variable{aD am:List Nat}{a bv w:aN}{b i j n:Nat}{aa ae:S}{ac:S -> aN -> Prop}{c:dR}
section
open Go.RowKit ey
def qk:Nat->List UInt8->List kC
 |0,_=>[]
 |k+1,b=>⟨xj 108 (b.take 108),Hq (by rw[ea];omega)⟩::qk k (b.drop 108)
def R8:∀(k:Nat)(b:List UInt8),(qk k b).map (·.1)=jh 108 k b
 |0,_=>rfl
 |k+1,b=>by rw[qk,ge,R8 k,jh]
def It:∀(k:Nat)(b:List UInt8),(qk k b).length=k
 |0,_=>rfl
 |k+1,b=>by rw[qk,gF,It k]
def R9:∀(k:Nat)(b:List UInt8),(qk k b).flatMap eL=(jh 108 k b).flatten.flatMap bs
 |0,_=>rfl
 |k+1,b=>by rw[qk,iA,R9 k,jh,List.flatten_cons,hL];rfl
section
variable{l:List (List UInt8)}{b x:List UInt8}
def af7(h:bP w 5 1 aa b.length (b.flatMap bs) am)(ao:aT w bs ae x)(f:b.length+x.length<=1000000000)(k:∀dd a az,bP a 5 1 dd (b++x).length ((b++x).flatMap bs) az->Q am w a->(∀g∈az,g∈am\/w.heap.size<=g)->ac dd a):
  W C (dG lp #[52,52] #[aa,ae]) w ac:=by
 refine tJ ky h (sE.x7 (o8 fP) ao e2 uZ) A (by unfold d0;omega) λdd a az c d e _=>k dd a az ?_ d e;rw[hL,di];exact c
def af8(b:c.bp):a0 C 251 #[fQ c] w λae a=>ae=F H (c.aJ*108:Nat)/\Q [] w a:=by
 have h:c.aJ<=8:=by have:=b.jY;have:=b.i6;omega
 refine a9 .D 1 Tryz.func251 K rfl λa1 d=>?_;simp+decide only[↓a8,ba,Tryz.f251];subst d;refine kX λaA e f i=>?_;obtain⟨j,g,k,l,m⟩:=iV e;simp only[M,g];rw[bq A A];exact⟨B,f⟩
def Sa(b:c.bp)(k:∀a,Q [] w a->ac (F H (c.aJ*108:Nat)) a):W C (ck 251 #[fQ c]) w ac:=
 aH Ze (af8 b) (by rintro _ a ⟨rfl,d⟩;exact k a d)
def Sb(a:n<65536):(ga n).flatMap bs=[F cl ((n:Int)%256),F cl ((n:Int)/256%256)]:=by
 simp only[ga,iA,List.flatMap_nil,bs,kJ,jN,m2,mx];refine List.cons_eq_cons.2 ⟨?_,List.cons_eq_cons.2 ⟨?_,rfl⟩⟩
 ·congr 1
 ·congr 1
def Sc(c:n<65536)(k:∀ae a,aT a bs ae (ga n)->Q [] w a->ac ae a):W C (jR 52 2 #[(0,F cl ((n:Int)%256)),(1,F cl ((n:Int)/256%256))]) w ac:=
 hw ky [F cl ((n:Int)%256),F cl ((n:Int)/256%256)] rfl rfl (by intro aa b;simp at b;rcases b with rfl|rfl<;>rfl) A A λa d e _=>k _ _ (p3 (l:=ga n) (by rw[Sb c];simpa[bF]using d)) e
def ql(bv w:aN)(aa:S)(b:List UInt8):Prop:=∃aD,bP w 5 1 aa b.length (b.flatMap bs) aD/\∀g∈aD,bv.heap.size<=g
def Bt(h:ql bv w aa b)(d:Q [] bv w)(ao:aT w bs ae x)(f:b.length+x.length<=1000000000)(k:∀dd a,ql bv a dd (b++x)->Q [] bv a->ac dd a):
  W C (dG lp #[52,52] #[aa,ae]) w ac:=by
 obtain⟨aD,i,e⟩:=h;refine af7 i ao f λdd a az j l m=>k dd a ⟨az,j,λg c=>(m g c).elim (e g) (λn=>gz d.aI n)⟩ (d.R l λg c=>Z (e g c))
def ql.V(h:ql bv w aa b)(c:Q [] w a):ql bv a aa b:=by obtain⟨aD,d,e⟩:=h;exact⟨aD,d.J c B,e⟩
def ql.cY(h:ql bv w aa b):∃d c,aa=T d b.length c:=by obtain⟨aD,a,f⟩:=h;obtain⟨d,c,e,_⟩:=a.jD;exact⟨d,c,e⟩
def ql.eF(h:ql bv w aa b):aT w bs aa b:=by obtain⟨aD,a,c⟩:=h;exact a.eF e2 A
end
end
section
open Go.RowKit
def zd:ByteArray:=eS #[97,98,99,100,101,102,103,104,105,106,107,108,109,110,111,112,113,114,115,116,117,118,119,120,121,122,48,49,50,51,52,53,54,55,56,57,45,46]
def pC:List Nat:=[97,98,99,100,101,102,103,104,105,106,107,108,109,110,111,112,113,114,115,116,117,118,119,120,121,122,48,49,50,51,52,53,54,55,56,57,45,46]
def af9:∀n,n<256->decide (n∈pC)=(decide (97<=n/\n<=122)||decide (48<=n/\n<=57)||decide (n=45)||decide (n=46)):=by decide+kernel
def aga(b:UInt8):decide (b.toNat∈pC)=pk b:=af9 _ b.toNat_lt
def Iu:pC.length=38:=rfl
def Bu:zd.size=38:=rfl
def agb(i:Nat)(h:i<38):(zd[i]'(by rw[Bu];exact h)).toNat=pC[i]'(by rw[Iu];exact h):=by
 have bz:∀i:Fin 38,(zd[i.1]'(by rw[Bu];exact i.2)).toNat=pC[i.1]'(by rw[Iu];exact i.2):=by decide+kernel
 exact bz ⟨i,h⟩
def mu(i:Nat):List S:=(c9 256).map λn=>aK (decide (n∈pC.take i))
def ze(i:Nat):(mu i).length=256:=by simp[mu]
def agc:∀n∈pC,n<256:=by decide+kernel
def agd(h:i<pC.length):(mu i).set pC[i] (aK G)=mu (i+1):=by
 refine List.ext_getElem (by simp[ze]) λj c b=>?_;rw[ze]at b;rw[List.getElem_set];simp only[mu,ic,List.getElem_range];rw[jO h];by_cases a:pC[i]=j
 ·rw[if_pos a];simp[a]
 ·rw[if_neg a];congr 1;rw[decide_eq_decide,b4,ku];exact⟨Y,λh=>h.resolve_right (Ne.symm a)⟩
def n8:mF C 9:=by unfold mF;kernel_rfl
def Sd:mI C 444 4 256:=by unfold mI;kernel_rfl
def Iv(s:ByteArray)(i j:Nat):eO (s.extract i j)=((eO s).drop i).take (j-i):=by unfold eO;simp only[ByteArray.data_extract,Array.toList_extract]
def Se(s:ByteArray)(i:Nat)(h:i<s.size):s[i]=(eO s)[i]'(by rw[oy];exact h):=by unfold eO;rw[Array.getElem_toList];rfl
section
variable{s:ByteArray}
def Sf(k:∀a,aC a w.heap.size 444 (mu 0)->Q [] w a->a.heap.size=w.heap.size+1->ac (aE (E ⟨w.heap.size,0,I⟩)) a):W C (hV 444) w ac:=by
 have b:du C 444 (b6 (mu 0).toArray):=by unfold du;kernel_rfl
 exact gI b λa c d b=>k a (by simpa[bF]using c) d b
def Sg{ac:S->Prop}(h:aC w b 444 (mu i)):aZ C (a4 444 (aE (E ⟨b,0,I⟩))) w ac↔ac (b6 (mu i).toArray):=
 gC (by rw[ze];kernel_rfl) h.cy
def age(i:Nat):∀ae∈mu i,ae.oneCell'=G:=by intro ae a;unfold mu at a;obtain⟨n,_,rfl⟩:=fS.1 a;rfl
def Sh(h:aC w b 444 (mu i))(k:∀a,aC a b 444 (mu j)->Q [b] w a->a.heap.size=w.heap.size->ac bS a):W C (dC 444 (aE (E ⟨b,0,I⟩)) (b6 (mu j).toArray)) w ac:=by refine f0 (cv:=[]) (c5:=mu i) (da:=[]) (n:=256) K (by simpa using h) rfl (ze i) (by simp[bF,ze]) (by simpa[bF]using age j) λa c d e=>k a (by simpa[bF]using c) d e
def agf:a0 C 280 #[bO zd] w λae a=>ae=bQ #[b6 (mu 38).toArray,aK G]/\Q [] w a:=by
 refine a9 (.L .D (.L (.L .D (.aW (.cJ [4] .D))) .D)) 1 Tryz.func280 K rfl λa1 l=>?_;simp+decide only[↓a8,ba,Tryz.f280];subst l;refine Sf λaA m o s=>?_;have t:w.heap.size<aA.heap.size:=A;generalize u:w.heap.size=b at*;apply c1 (λd a=>∃i:Nat,d=[F H i]/\i<=38/\aC a b 444 (mu i)/\Q [] w a) (λd _=>match d with|[F _ i]=>38-i.toNat|_=>0) ⟨0,rfl,A,m,o⟩;rintro _ _ ax ⟨i,rfl,al,e,j⟩;simp only[M];apply(rv n8).2;rw[Bu];simp only[M,bi];refine⟨λv=>?_,λx=>?_⟩
 ·have f:i<38:=A;apply(z2 n8 (show i<zd.size from f)).2;rw[agb i f];have g:i<pC.length:=by rw[Iu];exact f
  have k:=agc _ (dX g);have p:∀n∈pC,n<128:=by decide+kernel
  have y:=p _ (dX g);simp only[M,bi];refine⟨λz=>A,λ_=>?_⟩;apply(kc Sd yd k).2;rw[gA,gQ];refine eK yd e (by rw[ze];exact k) rfl λq c h r=>?_;rw[agd g]at c;rw[bq A A];exact⟨⟨i+1,rfl,A,c,j.R h (by simp;omega)⟩,by simp;omega⟩
 ·obtain rfl:i=38:=A;exact(Sg e).2 (Sh e λq c h r=>(Sg c).2 ⟨rfl,j.R h (by simp;omega)⟩)
def Si(h:aC w b 444 (mu 38))(x:UInt8):a0 C 302 #[aP b,F cl x.toNat] w λae a=>ae=aK (pk x)/\w=a:=by refine a9 .D 2 Tryz.func302 K rfl λa1 c=>?_;simp+decide only[↓a8,ba,Tryz.f302];subst c;simp only[M];refine(kc Sd yd x.toNat_lt).2 ?_;rw[gA,gQ];refine(bl (aa:=aK (pk x)) Ai ?_).2 ⟨rfl,rfl⟩;rw[h.bh (af:=x.toNat)];unfold mu;rw[e1,qD x.toNat_lt];show E (aK (decide (x.toNat∈pC.take 38)))=_;rw[show pC.take 38=pC from rfl,aga]
def agh(h:aC w b 444 (mu 38))(ao:s.size<=9223372036854775807):a0 C 282 #[bO s,aP b] w λae a=>∃j,j<=s.size/\ae=bO (s.extract 0 j)/\((eO s).drop j).all pk=G/\(j=0\/∃x,(eO s)[j-1]?=E x/\pk x=U)/\w=a:=by
 refine a9 (.L .D (.bK [0] (.aW (.cJ [0] .D)) .D)) 2 Tryz.func282 K rfl λa1 l=>?_;simp+decide only[↓a8,ba,Tryz.f282];subst l;refine bT (λd a=>∃j,j<=s.size/\d=[bO (s.extract 0 j)]/\((eO s).drop j).all pk=G/\(j=0\/∃x,(eO s)[j-1]?=E x/\pk x=U)/\w=a) ?_ ?_
 ·apply c1 (λd a=>∃j,j<=s.size/\d=[bO (s.extract 0 j)]/\((eO s).drop j).all pk=G/\w=a) (λd _=>match d with|[bO t]=>t.size|_=>0) ⟨s.size,fF _,by rw[ByteArray.extract_zero_size],by rw[uu (by rw[oy];exact fF _)];rfl,rfl⟩;rintro _ _ _ ⟨j,k,rfl,f,rfl⟩;have c:(s.extract 0 j).size=j:=by rw[ByteArray.size_extract];omega
  simp only[M];apply(rv n8).2;rw[c];simp only[M,bi];refine⟨λr=>?_,λu=>⟨j,k,rfl,f,Y A,by trivial⟩⟩;have v:0<j:=A;apply(rv n8).2;rw[c];simp only[M];rw[bq A A,show(j:Int)-1=((j-1:Nat):Int)by omega];apply(z2 n8 (show j-1<(s.extract 0 j).size by rw[c];omega)).2;have g:j-1<(eO s).length:=by rw[oy];omega
  have m:(s.extract 0 j)[j-1]'(by rw[c];omega)=(eO s)[j-1]:=by
   rw[Se];have e:=Iv s 0 j;have:(eO (s.extract 0 j))[j-1]?=(eO s)[j-1]?:=by rw[e,List.getElem?_take,if_pos A,List.drop_zero]
   rw[cr g]at this;exact(fi.1 this).2
  rw[m];apply aH Ma (Si h _);rintro _ _ ⟨rfl,rfl⟩;simp only[M,cG];refine⟨λi=>⟨j,k,rfl,f,Z ⟨_,cr g,by simpa using i⟩,by trivial⟩,λi=>?_⟩;apply(rv n8).2;rw[c];simp only[M];rw[bq A A,show(j:Int)-1=((j-1:Nat):Int)by omega];apply(Vy n8 A (by rw[c];omega)).2;rw[hf];have n:(s.extract 0 j).extract 0 (j-1)=s.extract 0 (j-1):=by rw[ByteArray.extract_extract];simp
  rw[n];refine⟨⟨j-1,A,rfl,?_,by trivial⟩,?_⟩
  ·rw[ot g,List.all_cons,show j-1+1=j by omega,f];simpa using i
  ·simp only[ByteArray.size_extract];omega
 rintro _ _ _ ⟨j,o,rfl,p,q,rfl⟩;exact⟨j,o,rfl,p,q,rfl⟩
def agi(h:aC w b 444 (mu 38))(ao:s.size<=9223372036854775807):a0 C 281 #[bO s,aP b] w λae a=>∃j,j<=s.size/\ae=bO (s.extract j s.size)/\((eO s).take j).all pk=G/\(j=s.size\/∃x,(eO s)[j]?=E x/\pk x=U)/\w=a:=by
 refine a9 (.L .D (.bK [0] (.aW (.cJ [0] .D)) .D)) 2 Tryz.func281 K rfl λa1 m=>?_;simp+decide only[↓a8,ba,Tryz.f281];subst m;refine bT (λc a=>∃j,j<=s.size/\c=[bO (s.extract j s.size)]/\((eO s).take j).all pk=G/\(j=s.size\/∃x,(eO s)[j]?=E x/\pk x=U)/\w=a) ?_ ?_
 ·apply c1 (λc a=>∃j,j<=s.size/\c=[bO (s.extract j s.size)]/\((eO s).take j).all pk=G/\w=a) (λc _=>match c with|[bO t]=>t.size|_=>0) ⟨0,Nat.zero_le _,by rw[ByteArray.extract_zero_size],rfl,rfl⟩;rintro _ _ _ ⟨j,l,rfl,f,rfl⟩;have d:(s.extract j s.size).size=s.size-j:=by rw[ByteArray.size_extract];omega
  simp only[M];apply(rv n8).2;rw[d];simp only[M,bi];refine⟨λu=>?_,λv=>⟨j,l,rfl,f,Y A,by trivial⟩⟩;have y:j<s.size:=A;have g:j<(eO s).length:=by rw[oy];omega
  apply(z2 (i:=0) n8 (show 0<(s.extract j s.size).size by rw[d];omega)).2;have n:(s.extract j s.size)[0]'(by rw[d];omega)=(eO s)[j]:=by
   rw[Se];have e:=Iv s j s.size;have:(eO (s.extract j s.size))[0]?=(eO s)[j]?:=by rw[e,List.getElem?_take,if_pos A,oo,qA]
   rw[cr g]at this;exact(fi.1 this).2
  rw[n];apply aH Ma (Si h _);rintro _ _ ⟨rfl,rfl⟩;simp only[M,cG];refine⟨λk=>⟨j,l,rfl,f,Z ⟨_,cr g,by simpa using k⟩,by trivial⟩,λk=>?_⟩;apply(KC n8 A (by rw[d];omega)).2;have o:(s.extract j s.size).extract 1 (s.extract j s.size).size=s.extract (j+1) s.size:=by rw[ByteArray.extract_extract,d];congr 1;omega
  rw[show(1:Int).toNat=1 from rfl,o];refine⟨⟨j+1,A,rfl,?_,by trivial⟩,?_⟩
  ·rw[jO g,List.all_append,f];simpa using k
  ·simp only[ByteArray.size_extract];omega
 rintro _ _ _ ⟨j,p,rfl,q,r,rfl⟩;exact⟨j,p,rfl,q,r,rfl⟩
def EE{s:ByteArray}:s=eS #[]↔s.size=0:=by
 constructor
 ·rintro rfl;rfl
 ·intro h;apply ByteArray.ext;exact Array.eq_empty_of_size_eq_zero h
def GJ(ao:s.size<=9223372036854775807):a0 C 239 #[bO s,bO zd] w λae a=>∃t:ByteArray,ae=bO t/\(t=eS #[]↔(eO s).all pk=G)/\Q [] w a:=by
 refine a9 NW 2 Tryz.func239 K rfl λa1 n=>?_;simp+decide only[↓a8,ba,NW,Tryz.f239];subst n;refine bT (λc a=>c=[aK (decide (s=eS #[]))]/\w=a) ?_ ?_
 ·refine w2.2 (bi.2 ⟨λh=>⟨by rw[decide_eq_true h],rfl⟩,λh=>?_⟩);refine w2.2 ⟨by rw[decide_eq_false h,decide_eq_false (by rw[EE,Bu];omega)],rfl⟩
 rintro _ _ _ ⟨rfl,rfl⟩;simp only[M,bi];refine⟨λh=>⟨s,rfl,?_,.b0 _ _⟩,λh=>?_⟩
 ·subst h;exact⟨λ_=>rfl,λ_=>rfl⟩
 refine bT (λc a=>c=[aK U]/\w=a) ?_ ?_
 ·apply(rv n8).2;rw[Bu];simp only[M];rw[decide_eq_false (by decide)];simp only[M];exact⟨by trivial,by trivial⟩
 rintro _ _ _ ⟨rfl,rfl⟩;simp only[M];apply aH ZB agf;rintro _ aA ⟨rfl,k⟩;simp only[cV,cX];refine Sf λax o p z=>Sh o λq l r D=>?_;simp only[M];have u:Q [] w q:=(k.R p B).R r (by simp;exact k.aI);apply aH ZD (agh l ao);rintro _ _ ⟨j,J,rfl,v,L,rfl⟩;have d:(s.extract 0 j).size=j:=by rw[ByteArray.size_extract];omega
 apply aH ZC (agi l (by rw[d];omega));rintro _ _ ⟨i,al,rfl,f,g,rfl⟩;refine⟨_,rfl,?_,u⟩;rw[d]at al g;rw[EE,ByteArray.size_extract,d];have e:=Iv s 0 j;rw[List.drop_zero,Nat.sub_zero]at e;rw[e]at f g;constructor
 ·intro R;have:i=j:=A;subst this;rw[List.take_take,Nat.min_self]at f;rw[<-l3 i (eO s),List.all_append,f,v];rfl
 ·intro y;rcases g with rfl|⟨x,b,m⟩
  ·omega
  ·rw[List.getElem?_take]at b;split at b
   ·have:=pO.1 y x (gP b);rw[this]at m;cases m
   ·cases b
def Bv(ao:s.size<=9223372036854775807):a0 C 192 #[bO s] w λae a=>ae=aK (jV s)/\Q [] w a:=by
 refine a9 .D 1 Tryz.func192 K rfl λa1 c=>?_;simp+decide only[↓a8,ba,Tryz.f192];subst c;refine CA.2 (cG.2 ⟨λh=>?_,λh=>?_⟩)
 ·have d:s.size≠0:=by intro b;rw[<-EE]at b;simp[b]at h
  apply(rv n8).2;simp only[M,bi];refine⟨λe=>?_,λe=>⟨?_,.b0 _ _⟩⟩
  ·apply aH Y7 (GJ ao);rintro _ aA ⟨t,rfl,f,g⟩;refine w2.2 ⟨?_,g⟩;unfold jV;rw[decide_eq_true (show 1<=s.size/\s.size<=24 by omega),pV];congr 1;rw[Bool.eq_iff_iff,decide_eq_true_iff];exact f
  ·unfold jV;rw[decide_eq_false (show¬(1<=s.size/\s.size<=24)by omega),Bool.false_and]
 ·have d:s.size=0:=by rw[<-EE];simpa using h
  refine⟨?_,.b0 _ _⟩;unfold jV;rw[decide_eq_false (show¬(1<=s.size/\s.size<=24)by omega),Bool.false_and]
end
end
end Go.Proofs.YtepeilglbedgdaaGreatDoor
namespace Go.X
variable{w:aN}{a6 k:Nat}{aU:Type}{aa:S}{ad:ft}{ar av:co}
section
open Go.RowKit Go.ChangeShapes Go.WideShapes Go.Deep
def zf{aU:Type}(ad:ft)(w:aN)(ar:co)(be:aU->List S)(d8:aU->Prop):Prop:=
 ∀(ams:Type)(a:co×S->ams)(b:Nat)(bo:List S)(x:DataW ams×List MemPlace),DataW.trod a ad w 0 (λ_=>G) G b ar bo=E x->∃ap,bo=be ap/\d8 ap
section
variable{be:aU->List S}{d8:aU->Prop}
def agk(h:ad.underlying ar=E (.int cl)):zf ad w ar bs λ_=>True:=by
 intro ams c d bo x a;obtain⟨n,rfl,_,b⟩:=DataW.trod_int h a;have e:0<=n/\n<=255:=by simpa[Lit.wf,IntKind.min,IntKind.max,IntKind.signed,IntKind.bits]using b
 refine⟨ed n.toNat,?_,trivial⟩;simp only[bs,ss,Value.int.injEq,true_and,and_true];rw[mx];omega
def Sj{bb:Nat->aU->Prop}:∀n:Nat,(∀i,i<n->∃ap,bb i ap)->∃l:List aU,l.length=n/\∀i ap,l[i]?=E ap->bb i ap
 |0,_=>⟨[],rfl,λi ap h=>by simp at h⟩
 |n+1,h=>by
  obtain⟨l,b,c⟩:=Sj n (λi al=>h i A);obtain⟨ap,d⟩:=h n A;refine⟨l++[ap],by simp[b],λi bm a=>?_⟩;rcases ut i n with al|al|al
  ·rw[pR A]at a;exact c i bm a
  ·subst al;rw[nr A,b,k6]at a;simp at a;subst a;exact d
  ·rw[jy (by simp;omega)]at a;cases a
def agl{x:es}(h:w.cell? (x.add k)=E aa)(a:k=0):∃b af,x=⟨b,af,I⟩:=by
 subst a;obtain⟨b,af,s⟩:=x;cases s with
 |none=>exact⟨b,af,rfl⟩
 |some ai=>
  unfold World.cell? Addr.add at h;simp at h;split at h<;>simp at h
def Sk(r:ad.underlying ar=E (.slice av))(s:ad.cellsOf av=a6)(f:∀ap,(be ap).length=a6)(h:0<a6)(t:zf ad w av be d8):
  ∀(ams:Type)(g:co×S->ams)(k:Nat)(bo:List S)(x:DataW ams×List MemPlace),DataW.trod g ad w 0 (λ_=>G) G k ar bo=E x->
   ∃aa l,bo=[aa]/\aT w be aa l/\(∀ap∈l,d8 ap)/\l.length<=d0:=by
 intro ams g k bo x u;rcases open_slice r u with⟨rfl,_⟩|⟨d,len,bL,ak,n,aq,dI,rfl,N,O,P,v,Q,al⟩
 ·exact⟨_,[],rfl,aT.gW w be,B,by unfold d0;simp⟩
 ·simp only[if_true]at v;have bz:∀i,i<len->∃ap,d8 ap/\∀j,j<a6->w.cell? ((d.add (i*a6)).add j)=(be ap)[j]?:=by intro i m;obtain⟨y,o,z⟩:=al i A;rw[s]at o;obtain⟨_,R,D⟩:=World.cells?_some o;obtain⟨ap,rfl,a⟩:=t ams g n y _ z;exact⟨ap,a,λj c=>D j c⟩
  obtain⟨l,J,p⟩:=Sj len bz;refine⟨_,l,rfl,⟨E d,bL,by rw[J],A,?_⟩,λap a=>?_,A⟩
  ·rcases Nat.eq_zero_or_pos len with q|q
   ·left;exact rc A
   ·right;obtain⟨V,W,K⟩:=bz 0 q;have e:=K 0 h;rw[cr (by rw[f];exact h)]at e;rw[Nat.zero_mul]at e;have L:(d.add 0).add 0=d.add 0:=by rw[Go.Deep.add_add]
    rw[L]at e;obtain⟨b,af,rfl⟩:=agl e rfl;refine⟨b,af,rfl,KB f l af λi ap a=>?_⟩;intro j c;have:=(p i ap a).2 j (by rw[f]at c;exact c);rw[jC,jC]at this;exact this
  ·obtain⟨i,m,rfl⟩:=ns a;exact(p i _ (cr m)).1
def Sl(a:ad.underlying ar=E (.slice av))(f:ad.cellsOf av=a6)(g:∀ap,(be ap).length=a6)(i:0<a6)(j:zf ad w av be d8){ab:Reach}{k:Nat}{ams:Type}{b:co×S->ams}{ag:DataW ams}{ah:List MemPlace}
  (m:Value.okWide ad w ab k ar aa) (h:DataW.Trod b ad w 0 (λ_=>G) G ar aa ag ah):∃l,aT w be aa l/\(∀ap∈l,d8 ap)/\l.length<=d0:=by
 obtain⟨d,n,c,rfl⟩:=okWide_slice a m;obtain⟨o,p⟩:=h;obtain⟨aa,l,e,ao,q,r⟩:=Sk a f g i j ams b o _ _ p;simp[bF]at e;subst e;exact⟨l,ao,q,r⟩
end
end
end Go.X
namespace Go.Proofs.YtepeilglbedgdaaGreatDoor
open Go.X
attribute[local irreducible]Go.X.W
variable{bU:List Nat}{a w:aN}{ak b g:Nat}{aa:S}{ac:S -> aN -> Prop}
section
open Go.RowKit
def r8(k:rG):List S:=[bO k.dg,bO k.cI,F H k.d9]
def pD(k:rG):S:=b6 (r8 k).toArray
def xA(af:Int):S:=F H af
def agm:yb C 401 [(0,G),(1,G),(2,U)]:=⟨K,K,K,K⟩
def EF:pm C 401 pD:=by
 refine abZ (be:=r8) agm (λd s ao=>?_) (λd b=>?_) (λd=>?_)
 ·simp at ao;rcases ao with rfl|rfl|rfl;all_goals exact⟨_,rfl⟩
 ·obtain⟨a,c,e⟩:=d;obtain⟨f,g,h⟩:=b;simp[r8,m9]
 ·simp[r8,Instr.sameBits,Hd]
def u5:oL C 285 401 3:=by unfold oL;kernel_rfl
def Sm:du C 3 (F H 0):=by unfold du;kernel_rfl
structure n9(w:aN)(g ak:Nat)(l:List (rG×Int)):Prop where
 bg:aC w g 287 [eB (E ak)]
 gk:hx w ak pD xA l
 g1:g≠ak
section
variable{l:List (rG×Int)}{k:rG}{af:Int}{t:ByteArray}
def n9.J(h:n9 w g ak l)(b:Q bU w a)(c:g∉bU)(d:ak∉bU):n9 a g ak l:=⟨h.bg.J b c,h.gk.J b d,h.g1⟩
def n9.V(h:n9 w g ak l)(b:Q [] w a):n9 a g ak l:=h.J b B B
def wi(h:n9 w g ak l):∀ac,aZ C (a4 285 (aE (E ⟨g,0,I⟩))) w ac↔ac (eB (E ak)):=λ_=>bl Wi (h.bg.bh (af:=0))
def agn:a0 C 99 #[] w λae a=>∃g ak,ae=aP g/\n9 a g ak []/\w.heap.size<=g/\w.heap.size<=ak/\Q [] w a:=by refine a9 .D 0 Tryz.func99 K rfl λa1 c=>?_;simp+decide only[↓a8,ba,Tryz.f99];subst c;refine Hb pD xA u5 (Y rfl) λaA d e h=>?_;refine(bY (gT:=#[eB (E w.heap.size)]) K).2 ?_;refine eA λax f b i=>?_;exact⟨_,_,rfl,⟨f,d.V b,A⟩,A,fF _,e.R b B⟩
def Sn:C.built 401 #[(0,bO k.dg),(1,bO k.cI),(2,F H k.d9)].toList=E (r8 k).toArray:=K
def ago(h:n9 w g ak l):a0 C 199 #[aP g,bO k.dg,bO k.cI,F H k.d9] w λae a=>ae=bQ #[F H ((dv l k).getD 0),aK (dv l k).isSome]/\w=a:=by refine a9 .D 4 Tryz.func199 K rfl λa1 b=>?_;simp+decide only[↓a8,ba,Tryz.f199];subst b;simp only[M,wi h];refine(bY Sn).2 ?_;refine(DL u5 EF h.gk Sm (k:=k)).2 ?_;simp only[cV,cX];refine⟨?_,rfl⟩;cases dv l k<;>rfl
def EG:du C 401 (pD ⟨cg,cg,0⟩):=by unfold du;kernel_rfl
def agp(k:rG):∀ae∈r8 k,ae.oneCell'=G:=by intro ae a;simp[r8]at a;rcases a with rfl|rfl|rfl<;>rfl
def So(c:∀a,aC a w.heap.size 401 (r8 k)->Q [] w a->a.heap.size=w.heap.size+1->ac (aP w.heap.size) a):W C (hV 401) w λaa aA=>W C (dC 401 aa (pD k)) aA λ_ ax=>ac aa ax:=by refine gI EG λaA b d g=>?_;refine f0 (cv:=[]) (c5:=r8 ⟨cg,cg,0⟩) (da:=[]) WB (by simpa[pD,bF]using b) rfl rfl rfl (by simpa[pD,bF]using agp k) λax e f h=>?_;exact c ax (by simpa[pD,bF]using e) (d.R f B) A
def EH{ac:S->Prop}(h:aC w b 401 (r8 k)):aZ C (a4 401 (aE (E ⟨b,0,I⟩))) w ac↔ac (pD k):=gC (l:=r8 k) WA h.cy
def Sp:ByteArray:=eS #[103,114,111,117,112,46,83,101,116]
def agq(h:n9 w g ak l)(s:jV k.dg=G)(t:jV k.cI=G)(W:0<=k.d9)(X:k.d9<=3)(ab:0<=af):
  a0 C 219 #[aP g,bO k.dg,bO k.cI,F H k.d9,F H af] w λae a=>(((dv l k).isNone/\32<=l.length)/\ae=ff (E (.d2 Sp k.d9 (.dD 8)))/\Q [] w a)\/(¬((dv l k).isNone/\32<=l.length)/\ae=cT/\n9 a g ak (hb l k af)/\Q [ak] w a):=by
 have ac:=oJ s;have ad:=oJ t;refine a9 NM 5 Tryz.func219 K rfl λa1 z=>?_;simp+decide only[↓a8,ba,NM,Tryz.f219];subst z;refine bT (λm a=>m=[aK U]/\Q [] w a) ?_ ?_
 ·apply aH Ax (Bv A);rintro _ aA ⟨rfl,f⟩;rw[s];simp only[M,hq];apply aH Ax (Bv A);rintro _ ax ⟨rfl,n⟩;rw[t];simp only[M,hq,bi];refine⟨λh=>A,λ_=>⟨λh=>A,λ_=>⟨by rw[decide_eq_false A],f.R n B⟩⟩⟩
 rintro _ _ aA ⟨rfl,f⟩;simp only[M];refine(bY Sn).2 (So (k:=k) λax u n ag=>?_);have v:=f.R n B;have i:=h.V v;have c:=cD [] ax;have ah:aA.heap.size<ax.heap.size:=A;have ai:=h.gk.aL;have aj:=f.aI;generalize aA.heap.size=b at*;simp only[M,wi (i.V c)];refine(EH (bD u)).2 ((DL u5 EF (i.V c).gk Sm (k:=k)).2 ?_);simp only[cV,cX];refine bT (λm a=>m=[aK (decide ((dv l k).isNone/\32<=l.length))]/\Q [] ax a) ?_ ?_
 ·simp only[M,wi (i.V c)];refine cG.2 ⟨λd=>?_,λd=>⟨?_,c⟩⟩
  ·apply(DM u5 (i.V c).gk).2;simp only[M];refine⟨?_,c⟩;congr 2;rw[decide_eq_decide];have d:(dv l k).isNone=G:=by cases o:dv l k<;>simp[o]at d⊢
   constructor
   ·intro h;exact⟨d,A⟩
   ·intro h;omega
  ·rw[decide_eq_false];rintro⟨D,_⟩;cases o:dv l k<;>simp[o]at d D
 rintro _ _ J ⟨rfl,x⟩;have p:=v.R x B;simp only[M,bi];refine⟨λq=>?_,λq=>?_⟩
 ·refine(hk hY).2 (rO (e:=E (.dD 8)) ?_);have L:ff (E (ex.d2 (eS #[103,114,111,117,112,46,83,101,116]) k.d9 (.dD 8)))=ff (E (.d2 Sp k.d9 (.dD 8))):=rfl;have R:(dv l k).isNone=G/\32<=l.length:=q;refine Y ⟨R,?_,p⟩;exact L
 ·have r:=h.V p;have j:=cD [] J;simp only[M,wi (r.V j)];exact(EH (bD (u.J x B))).2 (Hc u5 EF (r.V j).gk (k:=k) (aa:=af) rfl λal V y am=>Z ⟨q,rfl,⟨(r.V j).bg.J y (by simp;exact h.g1),V,h.g1⟩,((p.R j B).bw B).R y B⟩)
def agr(e:aC w b 9 [bO t]):a0 C 300 #[pD k,aa,aP b] w λae a=>ae=aK (decide (k.cI=t))/\Q [] w a:=by
 refine a9 .D 3 Tryz.func300 K rfl λa1 f=>?_;simp+decide only[↓a8,ba,Tryz.f300];subst f;refine eA λax c d g=>?_;have c:aC ax w.heap.size 401 (r8 k):=by simpa[pD,bF]using c
 simp only[M];refine(bl (aa:=bO k.cI) oD (c.bh (af:=1))).2 ((bl (aa:=bO t) oD ((c|>λ_=>e.J d B).bh (af:=0))).2 (w2.2 ⟨rfl,d⟩))
def Sq{ac:S->Prop}{d:S}:aV C (gH (bQ #[d]) 0) ac↔ac d:=qO rfl
def ags{l a b:List (rG×Int)}{ah:rG×Int}(o:(l.map (·.1)).Nodup)(g:a.Perm (ah::b))(p:∀ai∈a,ai∈l)(k:(a.map (·.1)).Nodup):
  (ah.1.cI≠t->(l.filter λai=>decide (ai.1.cI≠t)||decide (ai.1∈a.map (·.1)))=l.filter λai=>decide (ai.1.cI≠t)||decide (ai.1∈b.map (·.1)))/\
  (ah.1.cI=t->mh (l.filter λai=>decide (ai.1.cI≠t)||decide (ai.1∈a.map (·.1))) ah.1=l.filter λai=>decide (ai.1.cI≠t)||decide (ai.1∈b.map (·.1))):=by
 have i:∀x,x∈a.map (·.1)↔x=ah.1\/x∈b.map (·.1):=λx=>by rw[(g.map _).mem_iff];simp
 have m:ah.1∉b.map (·.1):=by have:=((g.map (·.1)).nodup_iff).1 k;simp only[ge,ks]at this;exact this.1
 constructor
 ·intro c;refine List.filter_congr λai n=>?_;by_cases j:ai.1.cI≠t
  ·simp[j]
  ·have:ai.1≠ah.1:=λe=>j (by rw[e];exact c);have d:(ai.1∈a.map (·.1))↔ai.1∈b.map (·.1):=by rw[i];exact⟨λh=>h.resolve_left this,Z⟩
   simp only[d]
 ·intro c;unfold mh;rw[List.filter_filter];refine List.filter_congr λai n=>?_;by_cases f:ai.1=ah.1
  ·rw[f];simp[c,m]
  ·have d:(ai.1∈a.map (·.1))↔ai.1∈b.map (·.1):=by rw[i];exact⟨λh=>h.resolve_left f,Z⟩
   simp only[d];simp[f]
def agt(n:hx w ak pD xA l)(x:aC w b 9 [bO t])(ag:b≠ak):a0 C 299 #[eB (E ak),.func (.func 300) #[] #[aP b]] w λ_ a=>hx a ak pD xA (l.filter λai=>decide (ai.1.cI≠t))/\Q [ak] w a:=by
 have av:=n.aL;have aw:=x.aL;have y:=n.Ps;refine a9 (.L .D (.aW (.cJ [] .D))) 2 Tryz.func299 K rfl λa1 aj=>?_;simp+decide only[↓a8,ba,Tryz.f299];subst aj;refine Px u5 n λax e am ay=>?_;have az:w.heap.size<ax.heap.size:=A;generalize aA:w.heap.size=gt at*;refine c1 (λaB a=>∃g:List (rG×Int),p7 a gt ak pD xA (l.filter λai=>decide (ai.1.cI≠t)||decide (ai.1∈g.map (·.1))) g/\(∀ai∈g,ai∈l)/\(g.map (·.1)).Nodup/\Q [ak] w a) (λ_ a=>sN a gt ak) ⟨l,?_,λai h=>h,y,am.bw B⟩ ?_
 ·have:(l.filter λai=>decide (ai.1.cI≠t)||decide (ai.1∈l.map (·.1)))=l:=List.filter_eq_self.2 λai h=>by simp[mz (f:=(·.1)) h]
  rw[this];exact e
 clear e;rintro _ _ o ⟨g,e,z,D,p⟩;have aD:=p.aI;refine Py e ?_ ?_
 ·rintro rfl;apply Sq.2;simp only[M];have:=e.gk;simp only[tp,iZ,decide_false,Bool.or_false]at this;exact⟨this,p⟩
 rintro ah d i j J an aF ao;have L:=ags (t:=t) y j z D;have q:(d.map (·.1)).Nodup/\ah.1∉d.map (·.1):=by have:=((j.map (·.1)).nodup_iff).1 D;simp only[ge,ks]at this;exact⟨this.2,this.1⟩
 have ap:g.length=d.length+1:=by rw[j.length_eq];rfl
 have R:∀ai∈d,ai∈l:=λai h=>z ai (j.mem_iff.2 (ev _ h));apply na.2;simp only[M];apply(ao _).2;simp only[cV,cX];have V:Q [ak] w i:=p.R an (by simp;omega);refine So (k:=ah.1) λr W X aG=>?_;have aH:i.heap.size<r.heap.size:=A;have ab:Q [ak] w r:=V.R X B;have aq:=J.J X B B;have aI:=V.aI;have aJ:gt<i.heap.size:=by obtain⟨bx,c,dK,aL,ec,aM,ja,aO,aQ,aR,aS,aT,aU,al,_⟩:=J;exact(so.1 al).1
 generalize i.heap.size=aV at*;refine(EH W).2 (x4 ZO (bu:=λae a=>ae=aK (decide (ah.1.cI=t))/\Q [] r a) (by simpa using agr (k:=ah.1) (aa:=xA ah.2) (x.J ab (by simp;exact ag))) ?_);rintro _ ac ⟨rfl,s⟩;have m:=aq.J s B B;have ad:Q [ak] w ac:=ab.R s B;have af:sN o gt ak=d.length+1:=by rw[e.AJ,ap]
 refine bi.2 ⟨λu=>?_,λu=>?_⟩
 ·refine(EH (W.J s B)).2 (abW u5 EF m q.2 λar v au aW=>?_);rw[L.2 u]at v;exact⟨⟨d,v,R,q.1,ad.R au B⟩,by show sN ar gt ak<sN o gt ak;rw[v.AJ,af];omega⟩
 ·rw[L.1 u]at m;exact⟨⟨d,m,R,q.1,ad⟩,by show sN ac gt ak<sN o gt ak;rw[m.AJ,af];omega⟩
def agu(h:n9 w g ak l):a0 C 262 #[aP g,bO t] w λ_ a=>n9 a g ak (l.filter λai=>decide (ai.1.cI≠t))/\Q [ak] w a:=by
 have m:=h.gk.aL;refine a9 .D 2 Tryz.func262 K rfl λa1 j=>?_;simp+decide only[↓a8,ba,Tryz.f262];subst j;refine eA λax c d n=>?_;have c:aC ax w.heap.size 9 [bO t]:=by simpa[bF]using c
 have b:=h.V d;simp only[M,wi b];apply(DM u5 b.gk).2;try simp only[M,wi b]
 apply aH ZN (agt b.gk c A);rintro _ k ⟨e,f⟩;have i:n9 k g ak (l.filter λai=>decide (ai.1.cI≠t)):=⟨b.bg.J f (by simp;exact h.g1),e,h.g1⟩;try simp only[M,wi i]
 apply(DM u5 e).2;try simp only[M]
 exact⟨i,(d.bw B).R f B⟩
def agv:C.underlying 285=E (.map 401 3):=K
def Sr:sF C 285=G:=K
def agw(h:n9 w g ak l):a0 C 248 #[aP g] w λae a=>∃b d,ae=aP b/\n9 a b d l/\w.heap.size<=b/\w.heap.size<=d/\Q [] w a:=by
 refine a9 .D 1 Tryz.func248 K rfl λa1 c=>?_;simp+decide only[↓a8,ba,Tryz.f248];subst c;simp only[M,wi h];refine aH (bu:=λae a=>ae=eB (E w.heap.size)/\hx a w.heap.size pD xA l/\Q [] w a) ZJ ?_ ?_
 ·refine a9 .D 1 Tryz.func292 K rfl λa1 c=>?_;simp+decide only[↓a8,ba,Tryz.f292];subst c;apply(KU agv).2;simp only[M,hk Sr];obtain⟨a,j,k,m,p⟩:=abS (ad:=C) 285 h.gk;exact qQ (e:=B5) Tryz.func317 K K K K j ((KV Sr).2 ⟨rfl,k,m⟩)
 rintro _ aA ⟨rfl,f,n⟩;have q:=f.aL;exact(bY (gT:=#[eB (E w.heap.size)]) K).2 (eA λax o i r=>⟨_,_,rfl,⟨o,f.V i,A⟩,A,fF _,n.R i B⟩)
end
end
end Go.Proofs.YtepeilglbedgdaaGreatDoor
namespace Go.Proofs.YtepeilglbedgdaaGreatDoor.c7
open Go.X
attribute[local irreducible]Go.X.W
variable{a w:aN}{a2:List ca}{b k:Nat}{aF:List e3}{aa ae:S}{aj:ca}{l:List UInt8}{ee:List l9}
def amk{n ay al:Int}(b:-1152921504606846976<=ay)(c:ay<=al)(d:al<=4611686018427387904):
  a0 C 13 #[F H n,F H ay,F H al] w λaa a=>aa=F H (z4 n ay al)/\w=a:=by
 refine a9 (.L .D (.L .D (.bK [0] .D .D))) 3 Tryz.func13 K rfl λa1 e=>?_;simp+decide only[↓a8,ba,Tryz.f13];subst e;exact VF b c d ⟨rfl,rfl⟩
def agx{l:List Int}{x:Int}(b:aT w ew aa l)(c:l.length<=9223372036854775806):
  a0 C 130 #[aa,F H x] w λae a=>ae=F H (if l.findIdx (λap=>decide (x=ap))<l.length then(l.findIdx (λap=>decide (x=ap)):Int)else-1)/\Q [] w a:=by
 refine a9 (.L .D (.L (.L .D (.aW (.cJ [8] .D))) .D)) 2 Tryz.func130 K rfl λa1 d=>?_;simp+decide only[↓a8,ba,Tryz.f130];subst d;have e:eH C 22 3 1 ew (F H):=eH.aW vL hl bZ;exact VE e b c (λap _ a ac=>uJ) (λa f=>⟨rfl,f⟩)
def agy{l:List Int}{x:Int}(b:aT w ew aa l)(c:l.length<=9223372036854775806):
  a0 C 81 #[aa,F H x] w λae a=>ae=aK (l.any λap=>decide (x=ap))/\Q [] w a:=by
 refine a9 .D 2 Tryz.func81 K rfl λa1 d=>?_;simp+decide only[↓a8,ba,Tryz.f81];subst d;apply aH LH (agx b c);rintro _ aA ⟨rfl,e⟩;simp only[M,CD];exact⟨rfl,e⟩
def oa(h:aC w b 232 (fd aj)):
  (∀ac,aZ C (a4 3 (aE (E ⟨b,0,I⟩))) w ac↔ac (F H aj.a5))/\(∀ac,aZ C (a4 3 (aE (E ⟨b,1,I⟩))) w ac↔ac (F H aj.aI))/\
  (∀ac,aZ C (a4 3 (aE (E ⟨b,2,I⟩))) w ac↔ac (F H aj.iQ))/\(∀ac,aZ C (a4 3 (aE (E ⟨b,3,I⟩))) w ac↔ac (F H aj.gw))/\
  (∀ac,aZ C (a4 3 (aE (E ⟨b,4,I⟩))) w ac↔ac (F H aj.gK))/\(∀ac,aZ C (a4 232 (aE (E ⟨b,0,I⟩))) w ac↔ac (gL aj)):=
 ⟨λ_=>bl bZ (h.bh (af:=0)),λ_=>bl bZ (h.bh (af:=1)),λ_=>bl bZ (h.bh (af:=2)),λ_=>bl bZ (h.bh (af:=3)),λ_=>bl bZ (h.bh (af:=4)),λ_=>gC (l:=fd aj) yi h.cy⟩
def Iw{n:Int}:a0 C 223 #[gL aj,F H n] w λae a=>ae=aK (aj.p2 n)/\Q [] w a:=by
 refine a9 .D 2 Tryz.func223 K rfl λa1 c=>?_;simp+decide only[↓a8,ba,Tryz.f223];subst c;refine eA λaA d b g=>?_;obtain⟨i,j,e,f,k,l⟩:=oa (aj:=aj) d;simp only[M,e,f,bi];refine⟨λh=>⟨?_,b⟩,λh=>⟨?_,b⟩⟩
 ·simp[ca.p2,h]
 ·simp[ca.p2,h]
def agz(aa:aj.gw<=9223372036854775807):a0 C 159 #[gL aj] w λae a=>ae=aK aj.bt/\Q [] w a:=by
 refine a9 Nl 1 Tryz.func159 K rfl λa1 z=>?_;simp+decide only[↓a8,ba,Nl,Tryz.f159];subst z;refine eA λaA k m ab=>?_;obtain⟨D,ac,J,x,L,ad⟩:=oa (aj:=aj) k;refine bT (λaF a=>aF=[aK (decide (aj.iQ<0)||decide (aj.gw<aj.iQ))]/\aA=a) ?_ ?_
 ·simp only[M,J,x,bi];refine⟨λh=>⟨by simp[h],trivial⟩,λh=>⟨by simp[h],trivial⟩⟩
 rintro _ _ _ ⟨rfl,rfl⟩;simp only[M,cG];refine⟨λh=>⟨by simp only[ca.bt,h];rfl,m⟩,λh=>?_⟩;simp only[D];refine bT (λaF a=>(aj.a5=3/\aj.gw<=255/\0<=aj.gK/\aj.gK<=65535/\aC a w.heap.size 232 (fd {aj with gK:=0})\/aj.a5=2/\aC a w.heap.size 232 (fd aj))/\Q [] w a) ?_ ?_
 ·simp only[M,bi];refine⟨λp=>?_,λp=>⟨λf=>?_,λf=>⟨λg=>?_,λg=>?_⟩⟩⟩
  ·refine bT (λaF a=>aF=[aK (decide (aj.aI=1\/aj.aI=2\/aj.aI=4)&&decide (aj.gw/2^(8*aj.aI).toNat=0))]/\Q [] aA a) ?_ ?_
   ·refine hw uM [F H 1,F H 2,F H 4] rfl rfl (by simp[bF]) A A λax i c R=>?_;obtain⟨af,V,ag,ah,ai,ak⟩:=oa (aj:=aj) (k.J c B);simp only[M,V];apply aH Lx (agy (l:=[1,2,4]) ⟨_,_,rfl,B,Z ⟨_,_,rfl,i.cy⟩⟩ B);rintro _ al ⟨rfl,r⟩;obtain⟨s,j,t,n,o,u⟩:=oa (aj:=aj) ((k.J c B).J r B);have e:([1,2,4]:List Int).any (λap=>decide (aj.aI=ap))=decide (aj.aI=1\/aj.aI=2\/aj.aI=4):=by rw[Bool.eq_iff_iff];simp
    rw[e];simp only[bi];refine⟨λao=>?_,λao=>⟨by simp[ao],c.R r B⟩⟩;simp only[M,n,j];have y:0<=8*aj.aI:=A;rw[bq A A];simp only[fv kd tP,l8 y (show 8*aj.aI<=18446744073709551615 by omega)];apply(nS y).2;have W:min (8*aj.aI).toNat H.bits=(8*aj.aI).toNat:=by rw[my];show _<=64;omega
    rw[W];simp only[M];exact⟨by simp[ao],c.R r B⟩
   rintro _ _ ax ⟨rfl,c⟩;obtain⟨s,j,t,n,o,u⟩:=oa (aj:=aj) (k.J c B);have v:Q [] w ax:=m.R c B;simp only[M,o,j,bi,cG];refine⟨λq=>⟨λao=>⟨?_,v⟩,λao=>⟨?_,v⟩⟩,λq=>⟨?_,v⟩⟩
   ·simp only[ca.bt,h,p,q,ao];rfl
   ·simp only[ca.bt,h,p,q,ao];rfl
   ·simp only[ca.bt,h,p,q];rfl
  ·refine bT (λaF a=>aF=[aK (decide (255<aj.gw)||decide (aj.gK<0)||decide (65535<aj.gK))]/\aA=a) ?_ ?_
   ·simp only[M,x,L,bi];refine⟨λd=>⟨by simp[d],trivial⟩,λd=>⟨λb=>⟨by simp[d,b],trivial⟩,λb=>⟨by simp[d,b],trivial⟩⟩⟩
   rintro _ _ _ ⟨rfl,rfl⟩;simp only[M,cG];refine⟨λd=>⟨?_,m⟩,λd=>?_⟩
   ·simp only[ca.bt,h,f,d];rfl
   ·refine eK hl k (by simp[gL,fd,bF]) rfl λax i c R=>?_;simp only[Bool.or_eq_false_iff,decide_eq_false_iff_not]at d;exact⟨Y ⟨f,A,A,A,by simpa[gL,fd,bF]using i⟩,m.R c B⟩
  ·exact⟨Z ⟨g,k⟩,m⟩
  ·refine⟨?_,m⟩;simp only[ca.bt,h,p,g,f];rfl
 rintro _ _ ax ⟨X,c⟩;rcases X with⟨f,am,an,aq,i⟩|⟨g,i⟩
 ·obtain⟨s,j,t,n,o,u⟩:=oa i;simp only[M,j,n,o,bi,decide_true,forall_const,not_true_eq_false,false_implies,and_true];refine⟨λd=>⟨?_,c⟩,λd=>⟨?_,c⟩⟩
  ·simp only[ca.bt,h,f,d];simp;omega
  ·simp only[ca.bt,h,f,d];simp
 ·obtain⟨s,j,t,n,o,u⟩:=oa i;simp only[M,j,n,o,bi];refine⟨λd=>⟨λb=>⟨?_,c⟩,λb=>⟨?_,c⟩⟩,λd=>⟨?_,c⟩⟩
  ·simp only[ca.bt,h,g,d,b];simp
  ·simp only[ca.bt,h,g,d,b];simp
  ·simp only[ca.bt,h,g,d];simp
def Ix:eH C 149 232 5 fd gL:=eH.rx yk vK CE yi
def Iy:eH C 34 9 1 dV (λs:ByteArray=>bO s):=eH.aW Ar vJ oD
def s0:mF C 9:=by unfold mF;kernel_rfl
def Ss:CB C 52:=⟨5,K,K⟩
def qm(a2:List ca):Prop:=∀aj∈a2,aj.gw<=9223372036854775807
def agA(b:aj.gw<=9223372036854775807):a0 C 158 #[gL aj] w λae a=>ae=aK (!aj.bt)/\Q [] w a:=by refine a9 .D 1 Tryz.func158 K rfl λa1 c=>?_;simp+decide only[↓a8,ba,Tryz.f158];subst c;refine eA λaA d e h=>?_;obtain⟨i,j,k,l,m,f⟩:=oa (aj:=aj) d;simp only[f];refine aH Yn (agz b) ?_;rintro _ ax ⟨rfl,g⟩;simp only[M];exact⟨rfl,e.R g B⟩
def St(d:aT w fd aa a2)(e:a2.length<=9223372036854775806)(ao:qm a2):
  a0 C 106 #[aa] w λae a=>ae=F H (if a2.findIdx (λaj=>!aj.bt)<a2.length then(a2.findIdx (λaj=>!aj.bt):Int)else-1)/\Q [] w a:=by
 refine a9 .D 1 Tryz.func106 K rfl λa1 b=>?_;simp+decide only[↓a8,ba,Tryz.f106];subst b;refine aH (bu:=λae a=>ae=F H (if a2.findIdx (λaj=>!aj.bt)<a2.length then(a2.findIdx (λaj=>!aj.bt):Int)else-1)/\Q [] w a) Ym ?_ ?_
 ·refine a9 (.L .D (.L (.L .D (.aW (.cJ [8] .D))) .D)) 2 Tryz.func157 K rfl λa1 b=>?_;simp+decide only[↓a8,ba,Tryz.f157];subst b;exact CC Ix (ah:=λaj=>!aj.bt) K d e (λaj f a _=>agA (ao aj f)) (λa c=>⟨rfl,c⟩)
 rintro _ aA ⟨rfl,c⟩;exact⟨rfl,c⟩
def u6{x:l9}(h:aC w b 152 (fA x)):
  (∀ac,aZ C (a4 3 (aE (E ⟨b,0,I⟩))) w ac↔ac (F H x.aR))/\(∀ac,aZ C (a4 9 (aE (E ⟨b,1,I⟩))) w ac↔ac (bO x.cP))/\
  (∀ac,aZ C (a4 34 (aE (E ⟨b,2,I⟩))) w ac↔ac x.jq)/\(∀ac,aZ C (a4 152 (aE (E ⟨b,0,I⟩))) w ac↔ac (ls x)):=
 ⟨λ_=>bl bZ (h.bh (af:=0)),λ_=>bl oD (h.bh (af:=1)),λ_=>bl mc (h.bh (af:=2)),λ_=>gC (l:=fA x) Lf h.cy⟩
def agB{s:ByteArray}(c:aC w b 232 (fd aj)):
  a0 C 225 #[bO s,aE (E ⟨b,0,I⟩)] w λae a=>ae=aK (decide (aj.gK<s.size))/\Q [] w a:=by
 refine a9 .D 2 Tryz.func225 K rfl λa1 d=>?_;simp+decide only[↓a8,ba,Tryz.f225];subst d;obtain⟨f,g,h,i,e,j⟩:=oa c;simp only[M,rv s0,e];exact⟨rfl,Q.b0 _ _⟩
def agC{aa:e3}{x:l9}(y:jE w x aa)(z:aa.df.length<=9223372036854775806):
  a0 C 164 #[gL aj,ls x] w λae a=>ae=aK (aj.e0 aa)/\Q [] w a:=by
 refine a9 Nn 2 Tryz.func164 K rfl λa1 k=>?_;simp+decide only[↓a8,ba,Nn,Tryz.f164];subst k;refine eA λaA A D am=>eA λax J r an=>?_;have j:Q [] w ax.drew:=(D.R r B).h6;have m:=bD (A.J r B);have t:=bD J;generalize w.heap.size=b at*;generalize aA.heap.size=ao at*;obtain⟨L,ap,aq,ar,au,R⟩:=oa (aj:=aj) m;obtain⟨V,W,X,av⟩:=u6 (x:=x) t;obtain⟨ab,ac,u⟩:=y;have ad:=u.V j;obtain⟨d,c,n,aw,ay⟩:=u;generalize ax.drew=v at*;simp only[M,V,W,X,L,R,CA,n];rw[<-n,ab,ac];have af:(decide ((0:Int)<(aa.df.length:Int)))=!aa.df.isEmpty:=by
  cases aa.df with
  |nil=>rfl
  |cons=>simp
 have ag:(decide (aa.aR≠0))=!decide (aa.aR=0):=B;have bx:(eS #[]:ByteArray)=cg:=rfl;simp only[af,ag,bx,bi];refine⟨λl=>?_,λl=>⟨λo=>?_,λo=>?_⟩⟩
 ·apply aH Gw Iw;rintro _ p ⟨rfl,i⟩;have f:=j.R i B;simp only[M,cG];have g:aj.e0 aa=(aj.p2 aa.aR&&!!decide (aa.cP=cg)&&!!aa.df.isEmpty):=by unfold ca.e0;exact if_pos l
  exact⟨λe=>⟨λh=>⟨by rw[g,e,h];rfl,f⟩,λh=>⟨by rw[g,e,h];rfl,f⟩⟩,λe=>⟨by rw[g,e];rfl,f⟩⟩
 ·simp only[rv s0];apply aH Gw Iw;rintro _ p ⟨rfl,i⟩;have f:=j.R i B;simp only[M,cG];have g:aj.e0 aa=(aj.p2 aa.cP.size&&!!decide (aa.aR=0)&&!!aa.df.isEmpty):=by unfold ca.e0;exact(if_neg l).trans (if_pos o)
  exact⟨λe=>⟨λh=>⟨by rw[g,e,h];rfl,f⟩,λh=>⟨by rw[g,e,h];rfl,f⟩⟩,λe=>⟨by rw[g,e];rfl,f⟩⟩
 ·refine aH (bu:=λae a=>ae=aK (aa.df.any λs=>decide (aj.gK<s.size))/\Q [] v a) YV ?_ ?_
  ·refine a9 .D 2 Tryz.func224 K rfl λa1 k=>?_;simp+decide only[↓a8,ba,Tryz.f224];subst k;refine aH (bu:=λae a=>ae=F H (if aa.df.findIdx (λs=>decide (aj.gK<s.size))<aa.df.length then(aa.df.findIdx (λs=>decide (aj.gK<s.size)):Int)else-1)/\Q [] v a) Zt ?_ ?_
   ·refine a9 (.L .D (.L (.L .D (.aW (.cJ [8] .D))) .D)) 2 Tryz.func268 K rfl λa1 k=>?_;simp+decide only[↓a8,ba,Tryz.f268];subst k;exact CC Iy (ah:=λs=>decide (aj.gK<s.size)) K ad z (λs _ a j=>agB (m.J j B)) (λa j=>⟨rfl,j⟩)
   rintro _ p ⟨rfl,i⟩;simp only[M,CD];exact⟨rfl,i⟩
  rintro _ p ⟨rfl,i⟩;obtain⟨az,aB,aC,aD,aF,ai⟩:=oa (aj:=aj) (m.J i B);obtain⟨aG,aI,ak,aJ⟩:=u6 (x:=x) (t.J i B);simp only[M,ai,ak,n];apply aH Gw Iw;rintro _ aL ⟨rfl,al⟩;have f:=(j.R i B).R al B;simp only[M,cG];have g:aj.e0 aa=(aj.p2 aa.df.length&&!(aa.df.any λs=>decide (aj.gK<s.size))&&!!decide (aa.aR=0)&&!!decide (aa.cP=cg)):=by unfold ca.e0;exact(if_neg l).trans (if_neg o)
  exact⟨λe=>⟨λh=>⟨λq=>⟨by rw[g,e,h,q];rfl,f⟩,λq=>⟨by rw[g,e,h,q];rfl,f⟩⟩,λh=>⟨by rw[g,e,h];rfl,f⟩⟩,λe=>⟨by rw[g,e];rfl,f⟩⟩
def nl(w a:aN)(aa:S)(l:List UInt8):Prop:=∃am,bP a 5 1 aa l.length (l.flatMap bs) am/\(∀g∈am,w.heap.size<=g)/\Q [] w a
def EI{n:Int}(s:k<=8):a0 C 226 #[F H n,F H k] w λae a=>nl w a ae (eU n k):=by
 refine a9 NP 2 Tryz.func226 K rfl λa1 h=>?_;simp+decide only[↓a8,ba,NP,Tryz.f226];subst h;refine x6 ky (l:=k) A (by unfold d0;omega) λaA j m o=>?_;simp only[M];refine c1 (λaF a=>∃i:Nat,aF=[F H i]/\i<=k/\aC a w.heap.size 5 ((eU n i).flatMap bs++cN (k-i) (F cl 0))/\Q [] w a/\a.heap.size=w.heap.size+1)
  (λaF _=>match aF with|[F _ i]=>k-i.toNat|_=>0) ⟨0,rfl,A,j,m,o⟩ ?_
 rintro _ _ ax ⟨i,rfl,al,b,d,t⟩;simp only[M,bi];have c:((eU n i).flatMap bs).length=i:=by rw[kx e2,jp,gA]
 refine⟨λu=>?_,λv=>?_⟩
 ·have e:i<k:=A;have f:(0:Int)<=8*i:=A;rw[bq A A];simp only[fv kd tP,l8 f (show(8*(i:Int))<=18446744073709551615 by omega)];apply(nS f).2;have p:min (8*(i:Int)).toNat H.bits=8*i:=by
   rw[my]
   ·omega
   ·show _<=64;omega
  rw[p];simp only[fv kd oE,pa,KF];apply(hP fP el e).2;simp only[M,gA];refine eK el b (by rw[di,c,tt];omega) rfl λx g q y=>?_;rw[bq A A];refine⟨⟨i+1,rfl,e,?_,d.R q B,A⟩,A⟩;have r:k-i=(k-(i+1))+1:=A;rw[r,KG c]at g;rw[CF,hL];simpa[bs]using g
 ·obtain rfl:i=k:=A;rw[k6,List.replicate_zero,kJ]at b;refine⟨[w.heap.size],?_,B,d⟩;rw[jp];exact x5 b (by rw[c,gA]) (by unfold d0;omega)
def agD:C.underlying 52=E (.slice 5):=K
def nl.Su(h:nl w a aa l):Src C 1 52 aa l.length (l.flatMap bs) a:=by obtain⟨am,b,_,_⟩:=h;exact sE.x7 agD (b.eF e2 A) e2 z5
def Sv(s:ByteArray):(iR s).length=2+s.size:=by simp[iR,jp,oy]
def Bw{ak:Nat}:∀(l:List ByteArray),(∀s∈l,s.size<=ak)->(l.flatMap iR).length<=l.length*(2+ak)
 |[],_=>B
 |s::l,h=>by have b:=h s fE;have c:=Bw l (λx a=>h x (ev _ a));rw[iA,di,gF,Sv,iM];omega
def Iz(h:aj.bt=G)(a:aj.a5=1):aj.aI=1\/aj.aI=2\/aj.aI=4\/aj.aI=8:=by unfold ca.bt at h;rw[if_pos a]at h;simp at h;omega
def vS{aa:e3}(h:aj.bt=G)(a:aj.e0 aa=G)(b:aj.a5=2):aa.cP.size<=65535:=by unfold ca.bt at h;unfold ca.e0 ca.p2 at a;simp[b]at h a;omega
def uQ{aa:e3}(h:aj.bt=G)(a:aj.e0 aa=G)(b:aj.a5≠1)(c:aj.a5≠2):aa.df.length<=255/\∀s∈aa.df,s.size<=65535:=by unfold ca.bt at h;unfold ca.e0 ca.p2 at a;simp[b,c]at h a;refine⟨A,λs ao=>?_⟩;have:=a.1.1.2 s ao;omega
def agE{aa:e3}{x:l9}(ap:jE w x aa)(y:aj.bt=G)(L:aj.e0 aa=G):
  a0 C 165 #[gL aj,ls x] w λae a=>nl w a ae (aj.jS aa):=by
 refine a9 No 2 Tryz.func165 K rfl λa1 aq=>?_;simp+decide only[↓a8,ba,No,Tryz.f165];subst aq;refine eA λaA R ar a5=>eA λax r V a6=>?_;have o:Q [] w ax:=ar.R V B;have au:=R.J V B;generalize a7:w.heap.size=b at*;generalize bb:aA.heap.size=bc at*;obtain⟨av,aw,bd,be,bf,bg⟩:=oa (aj:=aj) au;obtain⟨ay,bh,az,bj⟩:=u6 (x:=x) r;obtain⟨bk,aB,bl,bm⟩:=u6 (x:=x) (bD r);obtain⟨aC,W,aD⟩:=ap;have z:=aD.V o;simp only[M,ay,az,aB,av,aw,bi,aC,W];refine⟨λn=>?_,λn=>⟨λp=>?_,λp=>?_⟩⟩
 ·obtain⟨k,aG,X⟩:∃k:Nat,k<=8/\aj.aI=k:=by rcases Iz y n with h|h|h|h<;>exact⟨aj.aI.toNat,A,A⟩
  rw[X];apply aH Df (EI aG);rintro ae t ⟨am,f,j,l⟩;have q:aj.jS aa=eU aa.aR k:=by unfold ca.jS;rw[if_pos n,X,hf]
  rw[<-q]at f;exact⟨am,f,λg e=>by have:=j g e;omega,o.R l B⟩
 ·have D:=vS y L p;simp only[rv s0];apply aH Df (EI (k:=2) A);rintro ae t ⟨am,f,j,l⟩;have ab:=l.aI;have ac:Q [] ax t:=(Q.b0 _ _).h6.R l B;refine(dz oD (aa:=bO aa.cP) (by rw[<-W];exact(r.J ac B).bh (af:=1))).2 (tJ ky f (sE.KE s0 aa.cP) (by rw[jp];omega) (by rw[jp];unfold d0;omega) λbn aI aJ aL m aM bo=>?_);have q:aj.jS aa=eU aa.cP.size 2++eO aa.cP:=by unfold ca.jS;rw[if_neg n,if_pos p];rfl
  have aO:=m.aI;have bp:t.heap.size>=ax.heap.size:=ab;refine⟨aJ,?_,λg e=>?_,(o.R ac B).R m (λg e=>Z (by have:=j g e;have:ax.drew.heap.size=ax.heap.size:=rfl;omega))⟩
  ·rw[q,hL,di,oy];exact aL
  ·rcases aM g e with h|h
   ·have:=j g h;have:ax.drew.heap.size=ax.heap.size:=rfl;omega
   ·omega
 ·obtain⟨br,D⟩:=uQ y L n p;obtain⟨d,c,u,aP,aQ⟩:=z;have z:aT ax dV x.jq aa.df:=⟨d,c,u,aP,aQ⟩;simp only[M,u];apply aH Df (EI (k:=1) A);rintro ae t ⟨am,f,j,l⟩;have ab:=l.aI;obtain⟨bt,bu,aR,bv⟩:=u6 (x:=x) (r.J l B);simp only[M,aR,u];rw[<-u];refine c1 (λaF a=>∃(i:Nat)(ae:S)(am:List Nat),aF=[ae,F H i]/\i<=aa.df.length/\bP a 5 1 ae (eU aa.df.length 1++(aa.df.take i).flatMap iR).length ((eU aa.df.length 1++(aa.df.take i).flatMap iR).flatMap bs) am/\(∀g∈am,ax.heap.size<=g)/\Q [] ax a)
   (λaF _=>match aF with|[_,F _ i]=>aa.df.length-i.toNat|_=>0) ⟨0,ae,am,rfl,A,by simpa using f,j,l⟩ ?_
  rintro _ _ aI ⟨i,ae,am,rfl,al,f,j,m⟩;simp only[M,bi];have aO:=m.aI;refine⟨λbw=>?_,λbx=>?_⟩
  ·have v:i<aa.df.length:=A;apply(Iy.ek z m v).2;have bz:=D _ (dX v);simp only[rv s0];apply aH Df (EI (k:=2) A);rintro bB bC ad;have ag:=ad.Su;obtain⟨bE,bG,bH,J⟩:=ad;have bI:=J.aI;have bJ:=Bw (ak:=65535) (aa.df.take i) (λs ao=>D s (List.mem_of_mem_take ao));have aS:(aa.df.take i).length<=255:=by rw[ea];omega
   have bK:(aa.df.take i).length*(2+65535)<=255*(2+65535):=mw _ aS;rw[jp]at ag;have R:(eU aa.df.length 1++(aa.df.take i).flatMap iR).length<=16711936:=by rw[di,jp];omega
   refine tJ ky (f.J J B) ag A (by unfold d0;omega) λbL bM aU aV ah aW _=>?_;have bR:=ah.aI;refine tJ ky aV (sE.KE s0 _) A (by unfold d0;omega) λaX bT ai aY aZ a2 _=>?_;rw[bq A A];have an:∀g∈aU,ax.heap.size<=g:=λg e=>(aW g e).elim (j g) (λh=>A);have a3:∀g∈ai,ax.heap.size<=g:=λg e=>(a2 g e).elim (an g) (λh=>A);refine⟨⟨i+1,aX,ai,rfl,v,?_,a3,((m.R J B).R ah (λg e=>Z (j g e))).R aZ (λg e=>Z (an g e))⟩,A⟩;have a4:eU aa.df.length 1++(aa.df.take (i+1)).flatMap iR=(eU aa.df.length 1++(aa.df.take i).flatMap iR)++eU aa.df[i].size 2++eO aa.df[i]:=by rw[jO v,hL];simp[iR]
   rw[a4,hL,hL,di,di,jp,oy];exact aY
  ·obtain rfl:i=aa.df.length:=A;rw[j3]at f;have q:aj.jS aa=eU aa.df.length 1++aa.df.flatMap iR:=by unfold ca.jS;rw[if_neg n,if_neg p]
   rw[<-q]at f;exact⟨am,f,λg e=>by have:=j g e;have:=o.aI;omega,o.R m B⟩
def agF{aa:e3}(c:aj.bt=G)(d:aj.e0 aa=G):(aj.jS aa).length<=16711936:=by
 unfold ca.jS;by_cases a:aj.a5=1
 ·rw[if_pos a,jp];have:=Iz c a;omega
 ·rw[if_neg a];by_cases b:aj.a5=2
  ·rw[if_pos b,Sv];have:=vS c d b;omega
  ·rw[if_neg b];obtain⟨e,ao⟩:=uQ c d a b;have f:=Bw aa.df ao;have g:aa.df.length*(2+65535)<=255*(2+65535):=mw _ e;rw[di,jp];omega
def Bx:eH C 146 152 3 fA ls:=eH.rx rC tM w4 Lf
def agG:ByteArray:=⟨#[103,114,97,109,46,80,117,116]⟩
def li(w:aN)(a2:List ca)(aF:List e3)(ab:S)(a:aN):Prop:=match g9 a2 aF with
 |bA fT=>∃ae,ab=bQ #[ae,cT]/\nl w a ae fT
 |b5 (i,k)=>ab=bQ #[T I 0 0,vP agG i (qR k)]/\Q [] w a
def zg(e:aT w fd aa a2)(ao:qm a2)(a4:a2.length<=1000000)(f:aT w fA ae ee)(ai:ee.length=aF.length)(J:∀(i:Nat) x ap,ee[i]?=E x->aF[i]?=E ap->jE w x ap)(a5:aF.length<=1000000)(ak:∀ap∈aF,ap.df.length<=9223372036854775806):
  a0 C 112 #[aa,ae] w λab a=>li w a2 aF ab a:=by
 refine a9 MY 2 Tryz.func112 K rfl λa1 aq=>?_;simp+decide only[↓a8,ba,MY,Tryz.f112];subst aq;apply aH LA (St e A ao);rintro _ aA ⟨rfl,s⟩;unfold li g9;by_cases c:a2.findIdx (λaj=>!aj.bt)<a2.length
 ·rw[if_pos c,if_pos c];have t:(0:Int)<=(a2.findIdx (λaj=>!aj.bt):Nat):=A;simp only[M,t,decide_true,hk hY];apply aH nz qS;rintro _ _ ⟨rfl,rfl⟩;exact⟨rfl,s⟩
 rw[if_neg c,if_neg c];have t:¬(0:Int)<=-1:=A;obtain⟨L,R,rfl,ar,j⟩:=e;have e:aT w fd (T L a2.length R) a2:=⟨L,R,rfl,ar,j⟩;obtain⟨V,cC,rfl,au,av⟩:=f;have f:aT w fA (T V ee.length cC) ee:=⟨V,cC,rfl,au,av⟩;simp only[M,t,decide_false,bi];refine⟨λaw=>?_,λW=>?_⟩
 ·rw[if_neg (by intro h;apply aw;omega)];simp only[hk hY];apply aH nz qS;rintro _ _ ⟨rfl,rfl⟩;rw[ai];exact⟨rfl,s⟩
 have a6:ee.length=a2.length:=by
  rcases ut ee.length a2.length with h|h|h
  ·exact absurd (show((ee.length:Nat):Int)≠(a2.length:Nat)by omega) W
  ·exact h
  ·exact absurd (show((ee.length:Nat):Int)≠(a2.length:Nat)by omega) W
 rw[if_pos A];have ay:∀aj∈a2,aj.bt=G:=λaj az=>by
  cases aB:aj.bt with
  |true=>rfl
  |false=>exact absurd (List.findIdx_lt_length_of_exists ⟨aj,az,by simp[aB]⟩) c
 refine c1 (λu a=>∃(i:Nat)(af:S)(am:List Nat)(an:List UInt8),u=[af,F H i]/\i<=a2.length/\bP a 5 1 af an.length (an.flatMap bs) am/\an.length<=i*16711936/\(∀g∈am,w.heap.size<=g)/\Q [] w a/\lI 0 a2 aF=(lI i (a2.drop i) (aF.drop i)).map (an++·))
  (λu _=>match u with|[_,F _ i]=>a2.length-i.toNat|_=>0) ⟨0,T I 0 0,[],[],rfl,A,gJ _ _ _,B,B,s,by simp[nM];cases lI 0 a2 aF<;>rfl⟩ ?_
 rintro _ _ ax ⟨i,af,am,an,rfl,al,X,a7,v,b,y⟩;simp only[M,bi];refine⟨λbb=>?_,λbc=>?_⟩
 ·have k:i<a2.length:=A;have l:i<ee.length:=A;have m:i<aF.length:=A;refine(Ix.ek e b k).2 (gI F6 λbd aD aG be=>f0 (cv:=[]) (c5:=[F H 0,F H 0,F H 0,F H 0,F H 0]) (da:=[]) vK aD rfl rfl rfl (uK a2[i]) λn aI aJ bf=>?_);have ac:aC n ax.heap.size 232 (fd a2[i]):=by simpa[bF,gL]using aI
  have d:Q [] ax n:=aG.dP aJ B B;have bg:=d.aI;obtain⟨bh,bj,bk,bl,bm,aL⟩:=oa (bD ac);simp only[aL];apply(Bx.ek f (b.R d B).h6 l).2;have aM:=(J i _ _ (cr l) (cr m)).V (b.R d B).h6;apply aH Yp (agC aM (ak _ (dX m)));rintro _ o ⟨rfl,aO⟩;have p:Q [] n o:=(Q.b0 _ _).h6.R aO B;have bn:n.heap.size<=o.heap.size:=p.aI;have q:Q [] w o:=(b.R d B).R p B;have ad:lI i (a2.drop i) (aF.drop i)=if a2[i].e0 aF[i]then(lI (i+1) (a2.drop (i+1)) (aF.drop (i+1))).map (a2[i].jS aF[i]++·)else b5 (i,2):=by rw[ot k,ot m];rfl
  simp only[M,cG];refine⟨λag=>?_,λr=>?_⟩
  ·simp only[lq]at ag;simp only[hk hY];apply aH nz qS;rintro _ _ ⟨rfl,rfl⟩;rw[y,ad,if_neg (by simp[ag])];exact⟨rfl,q⟩
  ·simp only[ux]at r;obtain⟨bo,bp,br,bt,bu,aP⟩:=oa (bD (ac.J p B));simp only[aP];apply(Bx.ek f q.h6 l).2;have aQ:=(J i _ _ (cr l) (cr m)).V q.h6;have ah:=ay _ (dX k);apply aH Yq (agE aQ ah r);rintro bv aR j;have aS:=j.Su;obtain⟨bw,bx,bz,aU⟩:=j;have z:Q [] o aR:=(Q.b0 _ _).h6.R aU B;have bB:=z.aI;have bC:=agF ah r;refine tJ ky (((X.J d B).J p B).J z B) aS A (by unfold d0;omega) λaV bE aW aX aY aZ _=>?_;rw[bq A A];have bG:=b.aI;refine⟨⟨i+1,aV,aW,an++a2[i].jS aF[i],rfl,k,by rw[hL,di];exact aX,by rw[di];omega,λg D=>(aZ g D).elim (v g) (λh=>A),(q.R z B).R aY (λg D=>Z (v g D)),?_⟩,A⟩;rw[y,ad,if_pos r];cases lI (i+1) (a2.drop (i+1)) (aF.drop (i+1))<;>simp[nM]
 ·obtain rfl:i=a2.length:=A;have a3:a2.drop a2.length=[]:=aoh;rw[y,a3];simp only[lI,nM];exact⟨af,rfl,am,by simpa using X,v,b⟩
end Go.Proofs.YtepeilglbedgdaaGreatDoor.c7
