import Derived.Test.YtepeilglbedgdaaGreatDoorCards
import Derived.Test.YtepeilglbedgdaaGreatDoorTie
import Derived.ChangeVars
import Derived.JoinedOf
import Derived.RowKit
import Derived.RowKitTokens
import Derived.LaidLaws
import Derived.LaidHandle
import Derived.Stop.Joined
import Derived.SevenTiedAt
import GoSem.PinnedTables
import Derived.OpenShut
import Derived.ShutString
import Derived.ChangeOld
import Derived.Test.YtepeilglbedgdaaGreatDoorET5
/- A part of the proof of this claim: it states and proves what the walk through the program uses. Its names are short ones that a program gave. The last part proves the card: for every input the call returns true, and each argument reads behind the call as it read before. -/
set_option linter.defProp false
set_option linter.all false
set_option maxRecDepth 100000
set_option maxHeartbeats 2000000
open Array renaming getElem?_eq_getElem->ti,length_toList->tj
open Bool renaming and_eq_true->dA,false->U,false_eq_true->fc,not_false->lE,or_eq_true->pP,true->G,true_and->pV
open ByteArray renaming mk->eS
open Go renaming Addr->es,Program->ft,TypeId->co,Value->S,World->aN,maxLen->d0,undef->bS
open Go.Builtin renaming append->lp
open Go.Ending renaming returned->gd
open Go.IntKind renaming i64->H,u32->hS,u8->cl
open Go.Obj renaming cells->amv
open Go.Proofs.Tryz renaming prog->C
open Go.Value renaming agg->b6,bool->aK,cells->bF,iface->eZ,int->F,map->eB,nilIface->cT,pointer->aE,slice->T,string->bO,tuple->bQ
open Int renaming eq_ofNat_of_zero_le->nL
open List renaming append_assoc->gq,append_nil->kJ,drop_eq_getElem_cons->ot,flatMap_append->hL,flatMap_cons->iA,getD_eq_getElem?_getD->gp,getElem?_append_left->pR,getElem?_append_right->nr,getElem?_drop->oo,getElem?_eq_getElem->cr,getElem?_map->e1,getElem_mem->dX,getElem_of_mem->ns,length_append->di,length_map->dU,length_range->uw,length_set->i9,length_take->ea,map_map->ts,map_set->qB,mem_append->b4,mem_cons->ce,mem_filter->ol,mem_map->fS,mem_map_of_mem->mz,mem_range->iK,mem_singleton->ku,range->c9,replicate->cN
open Nat renaming le_refl->fF,le_trans->gz,lt_of_lt_of_le->iL,mul_le_mul_right->mw
open Option renaming getD_some->om,isSome_some->vu,map_some->m1,none->I,some->E
open Option.some renaming inj->re
open Or renaming inl->Y,inr->Z
open Go
namespace Go.Proofs.YtepeilglbedgdaaGreatDoor
open Go.X
attribute[local irreducible]Go.X.W
variable{B7 aoy gY jb:Int}{JV aO am aoq az bU ci d6 gf:List Nat}{a bv w:aN}{aQ aX ab af ag ah ai ak b b8 bu e9 i j jP k n rg s t zJ:Nat}{aB cp dN qG:Nat -> Bool}{aU:Type}{aa ae bc cA cB:S}{ac:S -> aN -> Prop}{ad:ft}{ay vy:Nat -> Nat -> Bool}{an dO:cK}{aoB:List dn}{aoE aow ap fz:kQ}{aoS aoT:dn}{ar:co}{au:eW}{bo:List i8}{c:dR}{d:dl}{dm:List ByteArray}{fT l:List UInt8}{e:eG}{ri:List er}
section
open Go.RowKit fC gO
def ra:cK:=⟨[],nD,[],0⟩
section
def ald{aj:Nat->Bool}(h:∀ag,ag<n->aj ag=G):bV aj n=n:=by unfold bV;rw[List.filter_eq_self.2 (λag a=>h ag (iK.1 a)),uw]
def ale(b:c.bp):q3 c (ms c) []:=⟨B,B,λt a=>by simp at a,λ_ _ _=>rfl,λj _ h=>by simp[ms]at h,λ_ h=>by simp[ms]at h⟩
def alf(a:c.bp):r5 c (ms c) 1:=⟨A,λ_ _=>by simp[ms],λ_ _=>by simp[ms],λj _ h=>by simp[ms]at h⟩
def alg(b:c.bp):a0 C 33 #[F H c.aR,F H (c.e6:Nat)] w λae a=>∃ab am,ae=bQ #[aP ab,cT]/\dH a ab (cN c.aR (ey.b3.cq c.e6)) am/\(∀g∈am,w.heap.size<=g)/\Q [] w a:=by have d:=b.nj;have e:=b.i6;have f:=b.jZ;have:=Er b;unfold fg at this;exact adq d e (by unfold dR.e6;omega) (by unfold dR.e6;omega)
def UH(e:c.bp)(p:jf w):a0 C 10 #[fQ c] w λae a=>∃s am,ae=aP s/\kq a s am c (λ_=>U) 1 ra q8/\(∀g∈am,w.heap.size<=g)/\Q [] w a:=by
 refine a9 Me 1 Tryz.func10 K rfl λa1 v=>?_;simp+decide only[↓a8,ba,Me,Tryz.f10];subst v;refine kX λaA i j ah=>?_;obtain⟨ak,al,x,an,ap⟩:=iV (bD i);try simp only[M,x]
 refine(fj (bD i)).2 (aH Gg (JG e) ?_);rintro _ ax ⟨rfl,y⟩;have k:=(cD [] aA).R y B;refine(dz bZ ((i.J k B).bh (af:=2))).2 (aH Xc (alg e) ?_);rintro _ aq ⟨ab,am,rfl,z,D,J⟩;have l:=k.R J B;simp only[cV,cX];have ar:=(j.R k B).aI;have q:∀g∈am,w.heap.size<=g:=λg d=>by have:=D g d;omega
 refine bT (λL a=>L=[aK U]/\∃az,eY a ab az c (ms c) (λ_=>U) (λ_ _=>G) ix/\(∀g∈az,w.heap.size<=g)/\Q [] w a) ?_ ?_
 ·refine(ru V6).2 (cG.2 ⟨λf=>(by cases f),λ_=>?_⟩);refine(fp dk).2 (cG.2 ⟨λf=>(by cases f),λ_=>?_⟩);refine(fj (i.J l B)).2 (aH Xd (afH z rfl e) ?_);rintro _ R ⟨rfl,m,V,h⟩;exact(fp dk).2 ⟨by trivial,m,⟨_,V,λ_ _ _=>⟨λ_=>rfl,λ_=>rfl⟩⟩,λg d=>(h.cq g d).elim (q g) (λf=>by have:=l.aI;have:=j.aI;omega),((j.R l B).bw B).R h.J (λg d=>Z (q g d))⟩
 rintro _ _ R ⟨rfl,m,W,n,o⟩;try simp only[M]
 have r:∀ag,ag<c.aR->(λ_=>U:Nat->Bool) ag=U->(λ_=>U:Nat->Bool) ag=U/\∀t,(λ_ _=>G:Nat->Nat->Bool) ag t=G:=λ_ _ _=>⟨rfl,λ_=>rfl⟩
 have u:c.aJ<=bV (λag=>!(λ_=>U:Nat->Bool) ag) c.aR:=by rw[ald (aj:=λag=>!(λ_=>U:Nat->Bool) ag) (λ_ _=>rfl)];exact e.jY
 have ao:qo c (λ_=>U) (λ_ _=>G):=JF e u r;have X:0∉m:=λaa=>by have:=n _ aa;have:=p.aL;omega
 apply aH Xe (ako W ao.SO (alf e) (ale e) rfl B (p.V o) X ao.BB);rintro _ au ⟨s,b,ci,ai,rfl,av,ac,ad,h⟩;have aw:=o.aI;refine⟨s,s::(ci++[]),rfl,⟨⟨b,ci,[],_,ab,_,_,_,ai,0,ac,rfl,rfl,r,ad⟩,u⟩,λg d=>?_,o.R h.J (λg d=>Z (n g d))⟩;simp only[kJ,ce]at d;rcases d with rfl|d
 ·omega
 ·exact(h.cq g d).elim (n g) (λf=>A)
end
structure JI where
 aJ:Int
 g2:Int
 sZ:Int
 hH:Int
 aR:Int
 bk:Int
 UI:Int
def JJ(ag:JI):List S:=[F H ag.aJ,F H ag.g2,F H ag.sZ,F H ag.hH,F H ag.aR,F H ag.bk,F H ag.UI]
structure um where
 aJ:Int
 wC:Int
 aR:Int
 eX:JI
 mH:S
def sk(ak:um):List S:=[F H ak.aJ,F H ak.wC,F H ak.aR]++(JJ ak.eX++[ak.mH])
def alh(ak:um):(sk ak).length=11:=rfl
def xR(ak:um):S:=b6 (sk ak).toArray
def Fa(k:Int)(ag:Nat):vn:=⟨k,0,ag,0,0,0,T I 0 0,T I 0 0⟩
def UJ(ag s d x:Nat):vn:=⟨9,0,ag,s,d,x,T I 0 0,T I 0 0⟩
def qy(ak:um)(n rg:Nat):vn:=if kr ak.aJ 0 3=0 then Fa 7 (kr ak.wC 0 (n-1))else if kr ak.aJ 0 3=1 then Fa 8 (kr ak.wC 0 (n-1))else UJ (kr ak.wC 0 (n-1)) (kr ak.aR 0 (rg-1)) (kr ak.aR 0 100) (1+kr ak.aR 0 999)
section
variable{ak:um}{x ap:vn}
def ali(b:x.sM.oneCell'=G)(c:x.ch.oneCell'=G):∀ae∈mY x,ae.oneCell'=G:=by intro ae a;simp[mY]at a;rcases a with rfl|rfl|rfl|rfl|rfl|rfl|rfl|rfl<;>first|rfl|exact b|exact c
def JK:vn:=⟨0,0,0,0,0,0,T I 0 0,T I 0 0⟩
def Fb(k:∀a,aC a w.heap.size 59 (mY JK)->Q [] w a->a.heap.size=w.heap.size+1->ac (aP w.heap.size) a):W C (hV 59) w ac:=by
 have b:du C 59 (lm JK):=by unfold du;kernel_rfl
 exact gI b λa c d b=>k a (by simpa[lm,bF]using c) d b
def Fc{l:List S}(h:aC w jP ar l)(b:l.length=8)(c:x.sM.oneCell'=G)(d:x.ch.oneCell'=G)(k:∀a,aC a jP ar (mY x)->Q [jP] w a->a.heap.size=w.heap.size->ac bS a):W C (dC 59 (aE (E ⟨jP,0,I⟩)) (lm x)) w ac:=
 f0 (cv:=[]) (c5:=l) (da:=[]) Wp (by simpa using h) rfl b (by simp[lm,bF,mY]) (by simpa[lm,bF]using ali c d) λa e f g=>k a (by simpa[lm,bF]using e) f g
def UK{ac:S->Prop}(h:aC w jP 59 (mY x)):aZ C (a4 59 (aE (E ⟨jP,0,I⟩))) w ac↔ac (lm x):=gC Wo h.cy
def UL(h:aC w jP ar (sk ak)):(∀ac,aZ C (a4 3 (aE (E ⟨jP,0,I⟩))) w ac↔ac (F H ak.aJ))/\(∀ac,aZ C (a4 3 (aE (E ⟨jP,1,I⟩))) w ac↔ac (F H ak.wC))/\(∀ac,aZ C (a4 3 (aE (E ⟨jP,2,I⟩))) w ac↔ac (F H ak.aR)):=
 ⟨λ_=>bl bZ (h.bh (af:=0)),λ_=>bl bZ (h.bh (af:=1)),λ_=>bl bZ (h.bh (af:=2))⟩
def UM{k n:Int}:C.built 59 #[(0,F H k),(2,F H n)].toList=E (mY ⟨k,0,n,0,0,0,T I 0 0,T I 0 0⟩).toArray:=K
def alj{n s d x:Int}:C.built 59 #[(0,F H 9),(2,F H n),(3,F H s),(4,F H d),(5,F hS x)].toList=E (mY ⟨9,0,n,s,d,x,T I 0 0,T I 0 0⟩).toArray:=K
def JL(R:1<=n)(V:n<=100)(ao:1<=rg)(X:rg<=200):a0 C 38 #[xR ak,F H n,F H rg] w λae a=>ae=lm (qy ak n rg)/\Q [] w a:=by
 refine a9 Mn 3 Tryz.func38 K rfl λa1 p=>?_;simp+decide only[↓a8,ba,Mn,Tryz.f38];subst p;refine eA λaA d q aa=>?_;have d:aC aA w.heap.size 54 (sk ak):=by simpa[xR,bF]using d
 refine Fb λax e j ac=>?_;have f:=q.R j B;have h:=d.J j B;obtain⟨k,l,m⟩:=UL h;try simp only[M,l]
 rw[show H.wrap ((n:Int)-1)=((n-1:Nat):Int)from by rw[bq A A];omega];apply tc (ay:=0) (al:=n-1) A A;try simp only[M,k]
 apply tc (ay:=0) (al:=3) A A;have eg:∀{b:aN}(x:vn),x.sM=T I 0 0->x.ch=T I 0 0->Q [] w b->aC b aA.heap.size 59 (mY JK)->qy ak n rg=x->
   W C (dC 59 (aP aA.heap.size) (lm x)) b λ_ i=>aZ C (a4 59 (aP aA.heap.size)) i λab=>o5 (λae a=>ae=lm (qy ak n rg)/\Q [] w a) (gd ab) i:=by
  intro b x r s t u v;refine Fc (x:=x) u rfl (by rw[r];rfl) (by rw[s];rfl) λi y z ad=>(UK y).2 ?_;rw[v];exact⟨rfl,t.R z (λg D=>Z (by simp at D;omega))⟩
 try simp only[M,bi]
 refine⟨λJ=>?_,λJ=>⟨λL=>?_,λL=>?_⟩⟩
 ·exact(bY UM).2 (eg (Fa 7 _) rfl rfl f e (by unfold qy;rw[if_pos A]))
 ·exact(bY UM).2 (eg (Fa 8 _) rfl rfl f e (by unfold qy;rw[if_neg A,if_pos A]))
 ·have c:=cD [] ax;obtain⟨k,l,m⟩:=UL (h.J c B);try simp only[M,m]
  rw[show H.wrap ((rg:Int)-1)=((rg-1:Nat):Int)from by rw[bq A A];omega];apply tc (ay:=0) (al:=rg-1) A A;have aX:∀{aO:Prop},(gu C (a4 3 (aE (E ⟨w.heap.size,2,I⟩))) (F H ak.aR) ax.drew aO↔aO):=dz bZ ((h.J c B).bh (af:=2));refine aX.2 (aX.2 (tc (ay:=0) (al:=100) A A (aX.2 (tc (ay:=0) (al:=999) A A ?_))));have ag:=(q9 (n:=ak.aR) (ay:=0) (al:=999) A).2;apply(fv kd Lp).2;try simp only[M]
  have o:∀bm:Int,hS.wrap bm=bm%4294967296:=λ_=>rfl
  rw[show hS.wrap (1+hS.wrap ((kr ak.aR 0 999:Nat):Int))=((1+kr ak.aR 0 999:Nat):Int)from by rw[o,o];omega];exact(bY alj).2 (eg (UJ _ _ _ _) rfl rfl (f.R c B) (e.J c B) (by unfold qy;rw[if_neg A,if_neg A]))
end
section
variable{ak:um}{l:List (Int×Bool)}
def rb(dN:Nat->Bool)(ag e:Nat):Bool:=dN e||decide (e=ag)
def ln(ak:um)(c:dR):Nat:=kr ak.wC 0 (c.aR-1)
def UN(a:c.bp):ln ak c<c.aR:=by have:=(q9 (n:=ak.wC) (ay:=0) (al:=c.aR-1) A).2;have:=a.nj;unfold ln;omega
def alk(h:kq w s am c dN bu an ri)(q:c.aJ<=bV (λe=>!rb dN (ln ak c) e) c.aR):a0 C 15 #[aP s,lm (qy ak c.aR c.e6)] w λae a=>∃az,kq a s az c (rb dN (ln ak c)) bu an ri/\bX am az w a:=by
 obtain⟨K,D⟩:=h.cL;have u:=UN (ak:=ak) D;have L:=h;obtain⟨⟨b,ci,d6,bo,ab,au,aB,ay,ai,aQ,v,x,rfl,J,y⟩,dI⟩:=h;have r:∀e,e<c.aR->rb dN (ln ak c) e=U->e≠ln ak c/\aB e=U/\∀t,ay e t=G:=λe d f=>by unfold rb at f;rw[Bool.or_eq_false_iff,decide_eq_false_iff_not]at f;exact⟨f.2,J e d f.1⟩
 have z:∀g:Nat->Bool,(∀e,e<c.aR->e≠ln ak c->aB e=U->g e=G)->c.aJ<=bV g c.aR:=λg k=>gz q (r4 λe d f=>by
  obtain⟨j,l,m⟩:=r e d (by simpa using f);exact k e d j l)
 have N:1<=c.e6:=by unfold dR.e6;omega
 have O:=(q9 (n:=ak.aR) (ay:=0) (al:=c.e6-1) A).2;have P:=(q9 (n:=ak.aR) (ay:=0) (al:=100) A).2;have Q:=(q9 (n:=ak.aR) (ay:=0) (al:=999) A).2;unfold qy;split
 ·apply(akH (i:=ln ak c) v u (z _ λe d B o=>by simp[B,o])).bw;rintro ae a ⟨_,eT,p,k⟩;exact⟨_,⟨⟨b,eT,d6,bo,ab,au,_,_,ai,aQ,p,x,rfl,λe d f=>by
   obtain⟨j,l,m⟩:=r e d f;exact⟨by simp[j,l],λt=>by simp[o4,j,m t]⟩,y⟩,q⟩,k.xQ⟩
 ·split
  ·apply(akI (i:=ln ak c) v u (z _ λe d B o=>by simp[o])).bw;rintro ae a ⟨_,eT,p,k⟩;exact⟨_,⟨⟨b,eT,d6,bo,ab,au,_,_,ai,aQ,p,x,rfl,λe d f=>by
    obtain⟨j,l,m⟩:=r e d f;exact⟨by simp[l],λt=>by simp[o4,j,m t]⟩,y⟩,q⟩,k.xQ⟩
  ·apply(akJ (i:=ln ak c) v u A A A A (z _ λe d B o=>by simp[o])).bw;rintro ae a ⟨_,eT,p,k⟩;exact⟨_,⟨⟨b,eT,d6,bo,ab,au,_,_,ai,aQ,p,x,rfl,λe d f=>by
    obtain⟨j,l,m⟩:=r e d f;exact⟨l,λt=>by simp[sj,j,m t]⟩,y⟩,q⟩,k.xQ⟩
end
structure td(w:aN)(ah b8:Nat)(c:dR)(l:List (Int×Bool))(dN:Nat->Bool):Prop where
 bg:aC w ah 32 (en c++[eB (E b8)])
 gk:kb w b8 (λb:Bool=>aK b) l
 g1:ah≠b8
 a7:∀ag:Nat,ag<c.aR->fq l ag=if dN ag then E G else I
 a3:bV dN c.aR<=l.length
 hm:l.length+c.aJ<=c.aR
section
variable{aj:Nat->Bool}{ak:um}{l:List (Int×Bool)}
def UO:∀n:Nat,bV aj n+bV (λag=>!aj ag) n=n
 |0=>rfl
 |n+1=>by rw[uX,uX];have:=UO n;cases aj n<;>simp<;>omega
def UP:∀n:Nat,bV (rb dN ag) n<=bV dN n+if ag<n then 1 else 0
 |0=>by simp[bV]
 |n+1=>by
  rw[uX,uX];have:=UP n;have a:(if rb dN ag n=G then 1 else 0)<=(if dN n=G then 1 else 0)+(if n=ag then 1 else 0):=by unfold rb;cases dN n<;>by_cases h:n=ag<;>simp[h]
  have b:(if n=ag then 1 else 0)+(if ag<n then 1 else 0)<=(if ag<n+1 then 1 else 0):=by split<;>split<;>split<;>omega
  omega
def td.J(h:td w ah b8 c l dN)(b:Q bU w a)(d:ah∉bU)(e:b8∉bU):td a ah b8 c l dN:=⟨h.bg.J b d,h.gk.J b e,h.g1,h.a7,h.a3,h.hm⟩
def td.V(h:td w ah b8 c l dN)(b:Q [] w a):td a ah b8 c l dN:=h.J b B B
def alm:(qy ak c.aR rg).aR=(ln ak c:Nat):=by
 unfold qy ln;split
 ·rfl
 ·split<;>rfl
def aln:(qy ak c.aR rg).sM=T I 0 0/\(qy ak c.aR rg).ch=T I 0 0:=by
 unfold qy;split
 ·exact⟨rfl,rfl⟩
 ·split<;>exact⟨rfl,rfl⟩
def alo{ac:S->Prop}(h:aC w jP 54 (sk ak)):aZ C (a4 54 (aE (E ⟨jP,0,I⟩))) w ac↔ac (xR ak):=gC F2 h.cy
def alp(h:kq w s am c dN bu an ri)(k:td w ah b8 c l dN)(aU:ah∉am)(ay:b8∉am)(aV:0≠b8):a0 C 14 #[aP ah,aP s,xR ak] w λae a=>ae=bQ #[]/\∃az dK qG,kq a s az c qG bu an ri/\td a ah b8 c dK qG/\Q (b8::am) w a/\∀g∈az,g∈am\/w.heap.size<=g:=by
 obtain⟨bp,n⟩:=h.cL;have ab:=n.nj;have br:=n.i6;have p:1<=c.e6/\c.e6<=200:=by have:=Er n;have:=n.jZ;unfold fg at*;unfold dR.e6;omega
 have aB:=UN (ak:=ak) n;refine a9 Mh 3 Tryz.func14 K rfl λa1 aW=>?_;simp+decide only[↓a8,ba,Mh,Tryz.f14];subst aW;refine eA λaA ad aX aY=>?_;have ad:aC aA w.heap.size 54 (sk ak):=by simpa[xR,bF]using ad
 generalize q:qy ak c.aR c.e6=x;have aD:x.aR=(ln ak c:Nat):=by rw[<-q];exact alm
 have r:x.sM=T I 0 0/\x.ch=T I 0 0:=by rw[<-q];exact aln
 refine bT (λai a=>∃jP,ai=[aP jP]/\aC a jP 59 (mY x)/\w.heap.size<=jP/\Q [] w a) ?_ ?_
 ·have aF:=cD [] aA;have D:=aX.R aF B;have J:∀{ax:aN},Q [] aA.drew ax->aC ax ah 32 (en c++[eB (E b8)]):=λi=>k.bg.J (D.R i B) B;have u:∀{ax:aN},Q [] aA.drew ax->aC ax w.heap.size 54 (sk ak):=λi=>ad.J (aF.R i B) B;have a2:∀{ax:aN}{ac:S->Prop},Q [] aA.drew ax->(aZ C (a4 25 (aE (E ⟨ah,0,I⟩))) ax ac↔ac (fQ c)):=λi=>gC (l:=en c) ye (by have:=(J i).cy.d1 0 5;simpa[en]using this);have L:∀{ax:aN}{aO:Prop},Q [] aA.drew ax->(gu C (a4 3 (aE (E ⟨ah,2,I⟩))) (F H c.aR) ax aO↔aO):=λi=>dz bZ ((J i).bh (af:=2));have a3:∀{ax:aN}{aO:Prop},Q [] aA.drew ax->(gu C (a4 25 (aE (E ⟨ah,0,I⟩))) (fQ c) ax aO↔aO):=λi=>mE (l:=en c) ye (by have:=(J i).cy.d1 0 5;simpa[en]using this);have R:∀{ax:aN}{aO:Prop},Q [] aA.drew ax->(gu C (a4 54 (aE (E ⟨w.heap.size,0,I⟩))) (xR ak) ax aO↔aO):=λi=>mE (l:=sk ak) F2 (u i).cy;try simp only[M]
  refine(alo (u (.b0 _ _))).2 ((bl (aa:=F H c.aR) bZ ((J (.b0 _ _)).bh (af:=2))).2 ?_);try simp only[M]
  apply(a2 (.b0 _ _)).2;have bs:aA.drew.heap.size=w.heap.size+1:=aY;refine⟨?_,?_⟩
  ·apply aH Gg (JG n);rintro _ ax ⟨rfl,d⟩;refine(L d).2 ((R d).2 ⟨?_,?_⟩)
   ·apply aH Gh (JL ab A p.1 p.2);rintro _ V ⟨rfl,f⟩;rw[q];refine Fb λal v o aG=>Fc (x:=x) v rfl (by rw[r.1];rfl) (by rw[r.2];rfl) λaI y z aJ=>?_;have aL:=d.R f B;have a5:=aL.aI;exact⟨_,rfl,y,A,((D.R aL B).R o B).R z (λg b=>Z (by simp at b;omega))⟩
   ·refine Fb λal v o aG=>?_;have ao:=d.R o B;refine(L ao).2 ((R ao).2 (aH Gh (JL ab A p.1 p.2) ?_));rintro _ V ⟨rfl,f⟩;rw[q];refine Fc (x:=x) (v.J f B) rfl (by rw[r.1];rfl) (by rw[r.2];rfl) λaI y z aJ=>?_;have bt:=d.aI;exact⟨_,rfl,y,A,((D.R ao B).R f B).R z (λg b=>Z (by simp at b;omega))⟩
  ·refine Fb λal v o aG=>(a3 o).2 ((L o).2 ((R o).2 (aH Gg (JG n) ?_)));rintro _ ax ⟨rfl,d⟩;have ap:=o.R d B;refine(L ap).2 ((R ap).2 (aH Gh (JL ab A p.1 p.2) ?_));rintro _ V ⟨rfl,f⟩;rw[q];exact Fc (x:=x) ((v.J d B).J f B) rfl (by rw[r.1];rfl) (by rw[r.2];rfl) λaI y z aJ=>⟨_,rfl,y,A,((D.R ap B).R f B).R z (λg b=>Z (by simp at b;omega))⟩
 rintro _ _ ax ⟨jP,rfl,aq,bv,d⟩;have ar:=k.V d;have aM:=h.V d;have j:=cD [] ax;have aQ:=k.a7 _ aB;have bw:=k.hm;have bx:=k.a3;have bz:ah<w.heap.size:=k.bg.aL;have bB:b8<w.heap.size:=k.gk.aL;have bC:=h.aL;refine bT (λai a=>ai=[aK (!dN (ln ak c)&&decide (c.aR-c.aJ<=l.length))]/\ax.drew=a) ?_ ?_
 ·have m:=ar.V j;try simp only[M]
  apply(bl (aa:=eB (E b8)) CO (m.bg.bh (af:=5))).2;obtain⟨a6,a7,au,bb,bc,bd,be,bf⟩:=vo (bD aq);try simp only[M,au]
  rw[aD];apply(FI vO m.gk (bm:=aK U) (by unfold du;kernel_rfl)).2;rw[aQ];cases av:dN (ln ak c)with
  |true=>
   simp only[if_true,m1,om];try simp only[M]
   exact iY rfl ⟨B,by trivial⟩
  |false=>
   simp only[fc,if_false,Option.map_none,Option.getD_none];try simp only[M]
   refine q6 rfl ((bl (aa:=eB (E b8)) CO (m.bg.bh (af:=5))).2 ((VJ vO m.gk).2 ?_));try simp only[M]
   apply(bl (aa:=F H c.aR) bZ (m.bg.bh (af:=2))).2;try simp only[M]
   apply(bl (aa:=F H c.aJ) bZ (m.bg.bh (af:=1))).2;try simp only[M]
   rw[bq A A];refine⟨?_,by trivial⟩;congr 2;simp only[lE,pV,decide_eq_decide];have:=n.jY;omega
 rintro _ _ _ ⟨rfl,rfl⟩;try simp only[M]
 refine cG.2 ⟨λW=>?_,λW=>?_⟩
 ·refine⟨rfl,am,l,dN,aM.V j,ar.V j,((d.R j B).bw B),λg b=>Y b⟩
 ·have j:=j.R (cD [] ax.drew) B;have m:=ar.V j;try simp only[M]
  apply(bl (aa:=eB (E b8)) CO (m.bg.bh (af:=5))).2;obtain⟨a6,a7,au,bb,bc,bd,be,bf⟩:=vo (aq.J j B);try simp only[M,au]
  rw[aD];refine Ab vO m.gk rfl λV bg f a5=>?_;have bh:jP∉[b8]:=by simp;omega
  apply(UK ((aq.J j B).J f bh)).2;have aR:=d.R j B;have bi:=(aM.V j).J f (λg b u=>ay (by simp at u;exact u▸b)) (by simpa using aV);have aS:bV (rb dN (ln ak c)) c.aR<=(ka l (ln ak c:Nat) G).length/\(ka l (ln ak c:Nat) G).length+c.aJ<=c.aR:=by
   rw[VI,aQ];cases av:dN (ln ak c)with
   |true=>
    have:bV (rb dN (ln ak c)) c.aR<=bV dN c.aR:=r4 λe aw t=>by
     unfold rb at t;rcases Bool.or_eq_true_iff.1 t with t|t
     ·exact t
     ·rw[of_decide_eq_true t];exact av
    simp only[if_true,vu];omega
   |false=>
    have:=UP (dN:=dN) (ag:=ln ak c) c.aR;rw[if_pos aB]at this;rw[av]at W;simp at W;have:=n.jY;simp;omega
  have bj:c.aJ<=bV (λe=>!rb dN (ln ak c) e) c.aR:=by have:=UO (aj:=rb dN (ln ak c)) c.aR;omega
  rw[<-q];apply aH C9 (alk bi bj);rintro ae al ⟨bk,bn,X⟩;have bE:w.heap.size<=V.heap.size:=by have:=aR.aI;have:=f.aI;omega
  refine⟨rfl,bk,_,_,bn,⟨(m.bg.J f (by simpa using k.g1)).J X.J aU,bg.J X.J ay,k.g1,λaT bo=>?_,aS.1,aS.2⟩,((aR.bw B).R f (λg b=>Y (by simp at b;simp[b]))).R X.J (λg b=>Y (by simp[b])),λg b=>(X.cq g b).imp id (λW=>A)⟩
  ·rw[x8,k.a7 aT bo];unfold rb;by_cases aw:aT=ln ak c
   ·subst aw;simp
   ·rw[if_neg A,decide_eq_false aw,Bool.or_false]
end
def zD(first:Int)(bc cA:S):List S:=[F H first,bc,cA]
section
variable{first af:Int}{ad:dn}{b:cw}
def alq:eH C 35 70 2 X.hX qP:=eH.rx C2 yh CK F3
def JM(l:List UInt8):eO (h7 l)=l:=by simp[eO,h7]
def alr{dK:List UInt8}(h:h7 l=h7 dK):l=dK:=by rw[<-JM l,h,JM]
def xM.fO(n:xM ad first dm af){aQ:Int}(al:i<ad.dY.length)(o:0<i->zu first dm aQ (ad.dY.drop i)):
  ∃(d:Int)(b:cw),ad.dY[i].1=d/\first<=d/\b.bt=G/\ad.dY[i].2=h7 b.ch/\d+b.a7.length<=first+dm.length/\b.a7=wx dm first d b.a7.length/\zu first dm (d+b.a7.length) (ad.dY.drop (i+1))/\(0<i->d=aQ)/\(i=0->d<=af/\af<d+b.a7.length):=by
 have p:=n.yL;generalize ad.dY=aw at*;cases i with
 |zero=>
  cases aw with
  |nil=>simp at al
  |cons aj l=>
   obtain⟨q,⟨_,f,b,a,c,g,j,k⟩,r,s,t,u⟩:=p aj l rfl;have v:b=r:=by have e:=alr (c.symm.trans t);have m:=xb a;rw[e,xb s]at m;cases m;rfl
   subst v;exact⟨aj.1,b,rfl,f,a,c,g,j,k,λh=>A,λ_=>⟨q,u⟩⟩
 |succ i=>
  have e:=o A;rw[ot al]at e;obtain⟨w,f,b,a,c,g,j,k⟩:=e;exact⟨aQ,b,w,f,a,c,g,j,k,λ_=>rfl,λh=>A⟩
def als(an:aC w e9 46 (zD first bc cA))(y:aT w Go.X.dV bc dm)(z:ma w fz ad)(D:xM ad first dm af)(bt:0<=first)(bu:first+dm.length<=1000000000000)(bv:ad.dY.length<=4):
  a0 C 16 #[aP e9,je fz,F H af] w λae a=>ae=aK G/\Q [] w a:=by
 refine a9 Mi 3 Tryz.func16 K rfl λa1 aL=>?_;simp+decide only[↓a8,ba,Mi,Tryz.f16];subst aL;refine eA λaA o ao bw=>?_;have o:aC aA w.heap.size 37 (eb fz):=o;have ap:=cD [] aA;have aM:=ao.R ap B;have aq:=an.J aM B;obtain⟨a1,aO,aR,J,aS,L,aU⟩:=c7.hJ (bD o);try simp only[M]
 refine(J _).2 ((bl (aa:=F H first) bZ (aq.bh (af:=0))).2 ?_);try simp only[M]
 apply(bl (aa:=bc) mc (aq.bh (af:=1))).2;have bx:=y;obtain⟨ar,cC,aV,_⟩:=id y;subst aV;try simp only[M]
 rw[bq A A,z.cS,D.cS];try simp only[M]
 refine cG.2 ⟨λe=>(by simp at e),λ_=>?_⟩;try simp only[M]
 apply(L _).2;have R:=z.dY;obtain⟨bz,bB,au,_⟩:=id R;rw[au]at R⊢;try simp only[M]
 apply c1 (λc a=>∃(i:Nat)(aQ:Int),c=[F H aQ,F H i]/\i<=ad.dY.length/\(0<i->zu first dm aQ (ad.dY.drop i))/\Q [] aA a) (λc _=>match c with|[_,F _ i]=>ad.dY.length-i.toNat|_=>0) ⟨0,-1,rfl,A,λh=>A,ap⟩;rintro _ _ ax ⟨i,aQ,rfl,al,aW,V⟩;have p:=ao.R V B;try simp only[M,bi]
 refine⟨λbC=>?_,λbE=>?_⟩
 ·have av:i<ad.dY.length:=A;apply(alq.ek (R.V p) (Q.b0 _ _) av).2;obtain⟨d,b,q,bG,aw,aX,bH,aY,a2,a3,a5⟩:=D.fO av aW;generalize ad.dY[i]=aj at*;have bI:b.a7.length<=8/\1<=b.a7.length:=by have:=(cw.uR.1 (cw.vT aw)).2.2.2;omega
  refine gI Aq λbJ a6 a7 bK=>f0 (cv:=[]) (c5:=X.hX (0,cg)) (da:=[]) yh a6 rfl rfl rfl (by intro ae ay;simp[qP,X.hX,bF]at ay;rcases ay with rfl|rfl<;>rfl) λW r bb bL=>?_;have r:aC W ax.heap.size 70 (X.hX aj):=by simpa[qP,bF]using r
  have az:Q [] ax W:=a7.R bb B;obtain⟨s,aB,bd⟩:=c7.ue r;try simp only[M,aB]
  rw[aX];refine Om n8 IY S4 λbM bP aD be=>?_;rw[JM]at aD;have bR:=b.O9;refine c7.SI aD A λb1 g m _ bU bf=>?_;rw[xb aw]at m⊢;have m:aT g Go.X.dV b1 b.a7:=m;simp only[cV,cX];refine gI CY λbV bg bh bW=>f0 (cv:=[]) (c5:=iS ⟨0,0,0,[]⟩ (T I 0 0)) (da:=[]) yg bg rfl rfl rfl (by simpa[jr,bF]using yy m.aW) λf t bj bX=>?_;have t:aC f g.heap.size 41 (iS b b1):=by simpa[jr,bF,c7.va]using t
  have aF:Q [] g f:=bh.R bj B;have ab:Q [] W f:=(be.R bf B).R aF B;have ag:=r.J ab B;obtain⟨s,aB,bd⟩:=c7.ue ag;have aG:=m.V aF;obtain⟨bk,bm,u,_⟩:=id aG;have v:∀ac,aZ C (a4 34 (aE (E ⟨g.heap.size,3,I⟩))) f ac↔ac b1:=λ_=>bl mc (t.bh (af:=3))
  refine bT (λc a=>c=[aK U]/\f=a) ?_ ?_
  ·refine(fp dk).2 (cG.2 ⟨λe=>(by cases e),λ_=>?_⟩);try simp only[M,bi]
   refine⟨λbY=>?_,λaH=>?_⟩
   ·try simp only[M,s]
    rw[q,a3 A];try simp only[M]
    refine cG.2 ⟨λe=>(by simp at e),λ_=>?_⟩;exact⟨λh=>A,λ_=>⟨by trivial,by trivial⟩⟩
   ·refine⟨λaH=>?_,λh=>A⟩;obtain⟨b0,b2⟩:=a5 A;try simp only[M,s]
    rw[q];try simp only[M,bi]
    refine⟨λe=>A,λ_=>?_⟩;try simp only[M,s,v]
    rw[u];try simp only[M]
    rw[bq A A,decide_eq_false A];exact⟨by trivial,by trivial⟩
  rintro _ _ _ ⟨rfl,rfl⟩;try simp only[M,v]
  rw[u];try simp only[M]
  apply c1 (λc a=>∃k:Nat,c=[F H k]/\k<=b.a7.length/\Q [] f a) (λc _=>match c with|[F _ k]=>b.a7.length-k.toNat|_=>0) ⟨0,rfl,A,.b0 _ _⟩;rintro _ _ cd ⟨k,rfl,b3,n⟩;try simp only[M,bi]
  have ah:=n.R (cD [] cd) B;have aI:Q [] w cd.drew:=((p.R az B).R ab B).R ah B;refine⟨λb7=>?_,λb8=>?_⟩
  ·have ai:k<b.a7.length:=A;apply(BG.ek ((u▸aG:aT f Go.X.dV (T bk b.a7.length bm) b.a7).V n) (Q.b0 _ _) ai).2;obtain⟨ak,bn,bo⟩:=c7.ue (ag.J ah B);have am:=an.J aI B;try simp only[M,ak]
   rw[q];try simp only[M]
   apply(bl (aa:=F H first) bZ (am.bh (af:=0))).2;try simp only[M]
   rw[X.bq (x:=d+(k:Int)) A A,bq A A];obtain⟨j,bp⟩:=nL (show 0<=d+k-first by omega);rw[bp];have aJ:j<dm.length:=A;have br:dm[j]=b.a7[k]:=by have:=congrArg (λl=>l[k]?) aY;simp only[wx]at this;rw[List.getElem?_take_of_lt ai,oo,show(d-first).toNat+k=j by omega,cr ai,cr aJ]at this;exact(re this).symm
   refine bT (λc a=>c=[aK U]/\cd.drew=a) ?_ ?_
   ·try simp only[M,bi]
    refine⟨λe=>A,λ_=>?_⟩;apply(bl (aa:=T ar dm.length cC) mc (am.bh (af:=1))).2;try simp only[M,bi]
    refine⟨λe=>A,λ_=>?_⟩;refine(bl (aa:=T ar dm.length cC) mc (am.bh (af:=1))).2 ((BG.ek (y.V aI) (Q.b0 _ _) aJ).2 (CA.2 ?_));rw[br];exact⟨B,by trivial⟩
   rintro _ _ _ ⟨rfl,rfl⟩;try simp only[M]
   rw[bq A A];exact⟨⟨k+1,by trivial,A,ah⟩,by simp;omega⟩
  ·obtain⟨ak,bn,bo⟩:=c7.ue (ag.J n B);have v:∀ac,aZ C (a4 34 (aE (E ⟨g.heap.size,3,I⟩))) cd ac↔ac b1:=λ_=>bl mc ((t.J n B).bh (af:=3))
   try simp only[M,ak,v]
   rw[u,q];try simp only[M]
   rw[bq A A,bq A A];refine⟨⟨i+1,d+b.a7.length,by trivial,A,λ_=>a2,((V.R az B).R ab B).R n B⟩,by simp;omega⟩
 ·obtain⟨a1,aO,aR,J,aS,L,aU⟩:=c7.hJ (o.J V B);try simp only[M]
  apply(L _).2;rw[au];try simp only[M,bi]
  refine⟨λ_=>⟨by trivial,p⟩,λaH=>?_⟩;try simp only[M]
  apply(J _).2;have bs:ad.dY=[]:=List.length_eq_zero_iff.1 A;rw[z.cS,D.t6 bs];try simp only[M]
  exact⟨B,p⟩
end
section
def BY{ac:S->S->aN->Prop}(h:kq w s am c dN bu an q8)(j:an.cn=[])(l:an.cQ<=100000)(m:aT w Go.X.dV bc d.bk.a7)(n:qt d)(o:d.bt=G)(J:an.cx.length+1<=c.bd)(p:bu<=1000000)
  (k:∀(hs:Nat)(fz:kQ)(a:aN)(az:List Nat),kq a s az c dN (bu+1) (an.e7 c.aJ c.bd d).1 q8->bX am az w a->w.heap.size<=hs->hs∉az->aC a hs 37 (eb fz)->ma a fz (an.e7 c.aJ c.bd d).2->ac (aK G) (aP hs) a):
  W C (ck 11 #[aP s,ho d bc]) w λaa aA=>aV C (gH aa 0) λq=>aV C (gH aa 1) λr=>W C (hV 37) aA λah ax=>W C (dC 37 ah q) ax λ_ b=>ac r ah b:=by
 apply aH W0 (ak7 h j l m n o p);rintro _ aA ⟨K,bJ,rfl,⟨fz,rfl,e,L,dI⟩,g,i,_⟩;simp only[cV,cX];refine qv λax t u N=>mW (x:=fz) t e.gj.aW e.dY.aW λb v y O=>?_;have f:Q [] aA b:=u.R y B;have z:=g.aL;have A:=i.J.aI;exact k _ fz b bJ (g.V f) (i.oM f) A (λD=>by have:=z _ D;omega) v (e.V f)
def apR(h:kq w s am c dN bu an q8)(l:an.cn=[])(m:an.cQ<=100000)(o:aT w Go.X.dV bc d.bk.a7)(p:qt d)(q:d.bt=G)(r:bu<=1000000)
  (k:∀(fz:kQ)(a:aN)(az:List Nat),kq a s az c dN (bu+1) (an.e7 c.aJ c.bd d).1 q8->bX am az w a->ma a fz (an.e7 c.aJ c.bd d).2->(∀b af n c,fz.pb=T (E ⟨b,af,I⟩) n c->w.heap.size<=b/\b∉az)->(∀b af n c,fz.mH=T (E ⟨b,af,I⟩) n c->w.heap.size<=b/\b∉az)->ac (bQ #[je fz,aK G]) a):
  W C (ck 11 #[aP s,ho d bc]) w ac:=by
 apply aH W0 (ak7 h l m o p q r);rintro _ aA ⟨x,bJ,rfl,⟨fz,rfl,t,_,_⟩,u,v,dE,y,z,g,e,i,j⟩;cases Ur e;exact k fz aA bJ u v t (λb af n c e=>⟨by have:=i b af n c e;omega,λf=>by have:=g b f;have:=i b af n c e;omega⟩) (λb af n c e=>⟨by have:=j b af n c e;omega,λf=>by have:=g b f;have:=j b af n c e;omega⟩)
def f6:ByteArray:=eS #[116]
def m0:dR:=⟨7,2,3,4,1⟩
def alt:m0.bp:=⟨by decide,by decide,by decide,by decide,by decide,by decide,by decide,by decide,by decide,by decide⟩
def wD:dl:=⟨1,1,f6,cg,0,1,0,0,0,0,fr⟩
def un:dl:=⟨2,3,f6,cg,0,0,0,0,0,0,⟨0,0,0,[eS #[112],eS #[113]]⟩⟩
def Fd:dl:=⟨3,7,f6,cg,0,0,0,1,0,0,fr⟩
def JN:wD.bt=G:=by decide+kernel
def JO:un.bt=G:=by decide+kernel
def alu:Fd.bt=G:=by decide+kernel
def alv:C.built 43 #[(0,F H 1),(1,F H 1),(2,bO (eS #[116])),(5,F H 1)].toList=E (f1 wD (T I 0 0)).toArray:=K
def alw{x:Option es}{l:Nat}:C.built 41 #[(3,T x l ak)].toList=E (iS un.bk (T x l ak)).toArray:=K
def alx{x:Option es}{l:Nat}:C.built 43 #[(0,F H 2),(1,F H 3),(2,bO (eS #[116])),(10,jr un.bk (T x l ak))].toList=E (f1 un (T x l ak)).toArray:=K
def aly:C.built 43 #[(0,F H 3),(1,F H 7),(2,bO (eS #[116])),(7,F H 1)].toList=E (f1 Fd (T I 0 0)).toArray:=K
def alz:C.built 25 #[(0,F H 7),(1,F H 2),(2,F H 3),(3,F H 4),(4,F H 1)].toList=E (en m0).toArray:=K
def vp(h:d.cI.size<=100/\d.dg.size<=100/\d.bk.a7.length<=100):qt d:=⟨A,A,A⟩
def qz(w:aN)(am:List Nat):Prop:=∀g∈am,w.heap.size<=g
def qz.de(h:qz bv am)(b:bX am az w a)(d:bv.heap.size<=w.heap.size):qz bv az:=λg c=>(b.cq g c).elim (h g) (λe=>A)
def BZ.de(h:Q [] bv w)(b:qz bv am)(c:bX am az w a):Q [] bv a:=h.R c.J (λg d=>Z (b g d))
def Fe.cW(c:bX am az w a)(d:b∉am)(f:b<w.heap.size):b∉az:=λe=>(c.cq b e).elim d (λg=>A)
def alA(J:jf w):a0 C 17 #[] w λae a=>ae=aK G/\Q [] w a:=by
 refine a9 .D 0 Tryz.func17 K rfl λa1 L=>?_;simp+decide only[↓a8,ba,Tryz.f17];subst L;refine(bY alz).2 (aH Lq (UH alt J) ?_);rintro _ aA ⟨s,am,rfl,g,h,i⟩;refine(ru KY).2 (cG.2 ⟨λR=>(by cases R),λ_=>?_⟩);apply(bY alv).2;have V:=g.cL.1;refine BY (d:=wD) g rfl (by decide) (aT.gW _ _) (vp (by decide)) JN (by decide) A λW aow ax cM j m aO n o p=>?_;obtain⟨q,X⟩:=T6 (an:=ra) (k:=m0.aJ) (aX:=m0.bd) (d:=wD) JN rfl rfl (by decide) (by decide) (by decide) (by decide);have r:=(EZ (k:=m0.aJ) (d:=wD) V rfl JN).2;have aP:(ra.e7 m0.aJ m0.bd wD).1.cQ=1:=zw;have aQ:(ra.e7 m0.aJ m0.bd wD).1.cx.length<=1:=zv (an:=ra);have t:qz w cM:=qz.de h m i.aI;have aa:Q [] w ax:=BZ.de i h m;rw[q]at p;clear q;generalize(ra.e7 m0.aJ m0.bd wD).1=b at*;have u:=j.cL.1;refine hw vM [bO (eS #[112]),bO (eS #[113])] rfl rfl (by intro bm v;simp at v;rcases v with rfl|rfl<;>rfl) A A λab ac c aR=>?_;have ad:aT ab Go.X.dV (T (E ⟨ax.heap.size,0,I⟩) 2 2) [eS #[112],eS #[113]]:=p3 (l:=[eS #[112],eS #[113]]) (by simpa[bF,Go.X.dV]using ac);refine(bY alw).2 ((bY alx).2 ?_);have af:=j.V c;refine BY (d:=un) af r A ad (vp (by decide)) JO (by show _+1<=4;omega) A λaS aoE ag ah x e aU ai aj y=>?_;obtain⟨z,ak⟩:=Jp (k:=m0.aJ) (d:=un) X u (by decide) JO rfl rfl (Z rfl) (by show _<4;omega) (by decide) (by decide) (by decide);have al:=(EZ (k:=m0.aJ) (d:=un) u r JO).2;have aV:(b.e7 m0.aJ m0.bd un).1.cQ=b.cQ+1:=zw;have aW:(b.e7 m0.aJ m0.bd un).1.cx.length<=b.cx.length+1:=zv;have D:=aa.R c B;have ao:qz w ah:=qz.de t e D.aI;have ap:Q [] w ag:=BZ.de D t e;have aY:W<ax.heap.size:=o.aL;have aZ:=c.aI;have aq:=(o.J c B).J e.J n;have ar:=Fe.cW e n A;rw[z]at y;clear z;generalize(b.e7 m0.aJ m0.bd un).1=a2 at*;have au:=x.cL.1;refine(bY aly).2 (BY (d:=Fd) x al A (aT.gW _ _) (vp (by decide)) alu (by show _+1<=4;omega) A λa3 a4 av a5 a6 f a7 bb aw ay=>?_);obtain⟨_,_,_,_,_,_,az⟩:=T7 (k:=m0.aJ) (d:=Fd) ak au (by decide) rfl rfl (by decide) (by decide);have aB:=az.cQ (by decide);have aC:Q [] w av:=BZ.de ap ao f;have aD:=aq.J f.J ar;have aF:=aj.J f.J ai;obtain⟨_,aG,_,_,_,_,_⟩:=c7.hJ aD;obtain⟨_,_,_,aI,_,_,_⟩:=c7.hJ aF;obtain⟨_,_,_,_,_,aJ,_⟩:=c7.hJ aw;have aL:=ay.dY;obtain⟨bc,bd,aM,_⟩:=id aL;try simp only[M]
 apply(aG _).2;rw[p.iE];try simp only[M]
 refine q6 (by decide) ((aI _).2 ?_);rw[y.cS];try simp only[M]
 refine q6 (by decide) ((aJ _).2 ?_);rw[aM];try simp only[M]
 rw[aB];exact⟨B,aC⟩
end
section
variable{t:ByteArray}{eM s:Int}{b:cw}{l:List ByteArray}
structure Ff(l:List ByteArray):Prop where
 nj:1<=l.length
 US:l.length<=3
 E9:∀x∈l,x.size<=7
def UU{ah:Int}(h:Ff l):(⟨B7,ah,s,l⟩:cw).ch.length<=48:=by
 cases a:(⟨B7,ah,s,l⟩:cw).bt with
 |false=>rw[cw.AG a];simp
 |true=>
  rw[cw.qT a,Du];have c:=Dv (ak:=7) (l:=l) h.E9;have b:=h.US;have:l.length*(2+7)<=3*9:=mw _ b;simp only;omega
end
section
variable{first:Int}{l:List ByteArray}
def alG(h:kq w s am c dN bu an ri):a0 C 15 #[aP s,lm ⟨6,0,0,0,0,0,T I 0 0,T I 0 0⟩] w λae a=>ae=aK G/\∃az,kq a s az c dN bu ⟨an.cx,an.bd,[],an.cQ⟩ q8/\bX am az w a:=by obtain⟨k,f⟩:=h.cL;obtain⟨⟨b,ci,d6,bo,ab,au,aB,ay,ai,aQ,g,l,rfl,d,m⟩,e⟩:=h;refine(akG g (JF f e d)).bw ?_;rintro ae a ⟨rfl,eT,dL,i,n,j⟩;exact⟨rfl,_,⟨⟨b,eT,[],_,ab,au,aB,ay,dL,0,i,rfl,rfl,d,A⟩,e⟩,j.xQ⟩
end
section
variable{first:Int}{l:List ByteArray}{ad:dn}
def alH:C.built 32 #[(0,fQ c),(1,eB (E b8))].toList=E (en c++[eB (E b8)]).toArray:=K
def alN:eH C 23 54 11 sk xR:=eH.rx Lk Wn alh F2
end
section
variable{ag:JI}
def apn(h:aC w jP ar (JJ ag)):(∀ac,aZ C (a4 3 (aE (E ⟨jP,0,I⟩))) w ac↔ac (F H ag.aJ))/\(∀ac,aZ C (a4 3 (aE (E ⟨jP,1,I⟩))) w ac↔ac (F H ag.g2))/\(∀ac,aZ C (a4 3 (aE (E ⟨jP,2,I⟩))) w ac↔ac (F H ag.sZ))/\(∀ac,aZ C (a4 3 (aE (E ⟨jP,3,I⟩))) w ac↔ac (F H ag.hH))/\(∀ac,aZ C (a4 3 (aE (E ⟨jP,4,I⟩))) w ac↔ac (F H ag.aR))/\(∀ac,aZ C (a4 3 (aE (E ⟨jP,5,I⟩))) w ac↔ac (F H ag.bk))/\(∀ac,aZ C (a4 3 (aE (E ⟨jP,6,I⟩))) w ac↔ac (F H ag.UI)):=
 ⟨λ_=>bl bZ (h.bh (af:=0)),λ_=>bl bZ (h.bh (af:=1)),λ_=>bl bZ (h.bh (af:=2)),λ_=>bl bZ (h.bh (af:=3)),λ_=>bl bZ (h.bh (af:=4)),λ_=>bl bZ (h.bh (af:=5)),λ_=>bl bZ (h.bh (af:=6))⟩
def ano(n:Int):jV (amu n)=G:=by have a:=(q9 (n:=n) (ay:=0) (al:=2) A).2;unfold amu;generalize kr n 0 2=k at*;obtain rfl|rfl|rfl:k=0\/k=1\/k=2:=A;all_goals decide+kernel
def anp(n:Int):(amu n).size=1:=rfl
structure ao2(ag:JI)(e:eG):Prop where
 g2:e.cI=amu ag.g2
 y9:e.bt=G
 E9:e.aI<=105
 aR:e.bk.a7.length<=3
 sZ:e.dg.size<=24
def aoY(h:e.Dw)(a:e.cI=amu ag.g2)(b:e.a5=3->e.bk.ch.length<=48)(c:e.dg.size<=24)(d:e.bk.a7.length<=3):ao2 ag e:=by
 refine⟨a,eG.rE.2 h,?_,d,c⟩;have ao:e.cI.size=1:=by rw[a];exact anp _
 unfold eG.aI;split
 ·omega
 ·split
  ·omega
  ·split
   ·rename_i f;have:=b f;omega
   ·split<;>omega
def apS{ah s:Int}{l:List ByteArray}(h:Ff l)(d:0<=ah/\ah<=2/\0<=s/\s<=3/\(ah=0->s=0))(a:0<=B7/\B7<=1000):(⟨B7,ah,s,l⟩:cw).bt=G:=by have b:=h.nj;have e:=h.US;unfold cw.bt;rw[dA,cw.uR];refine⟨⟨⟨a.1,by simp only;omega⟩,⟨by simp only;omega,by simp only;omega⟩,⟨by simp only;omega,by simp only;omega⟩,b,by simp only;omega,λx c=>by have:=h.E9 x c;omega⟩,?_⟩;simp only[pP,decide_eq_true_iff];omega
def aoZ(ag:JI):S:=b6 (JJ ag).toArray
def apa(t:ByteArray):eG:=⟨3,t,cg,0,0,0,0,fr⟩
def apT{t:ByteArray}:C.built 82 #[(0,F H 3),(1,bO t)].toList=E (ha (apa t) (T I 0 0)).toArray:=K
def apU{t:ByteArray}{i j:Int}:C.built 82 #[(0,F H 1),(1,bO t),(4,F H i),(5,F H j)].toList=E (ha ⟨1,t,cg,0,i,j,0,fr⟩ (T I 0 0)).toArray:=K
def apV{t:ByteArray}{i:Int}:C.built 82 #[(0,F H 1),(1,bO t),(4,F H i)].toList=E (ha ⟨1,t,cg,0,i,0,0,fr⟩ (T I 0 0)).toArray:=K
def apW{t:ByteArray}:C.built 82 #[(0,F H 2),(1,bO t)].toList=E (ha ⟨2,t,cg,0,0,0,0,fr⟩ (T I 0 0)).toArray:=K
def apX{t g:ByteArray}{i j:Int}:C.built 82 #[(0,F H 4),(2,bO g),(1,bO t),(3,F H i),(6,F H j)].toList=E (ha ⟨4,t,g,i,0,0,j,fr⟩ (T I 0 0)).toArray:=K
def apY{t:ByteArray}{i j:Int}:C.built 82 #[(0,F H 5),(1,bO t),(3,F H i),(6,F H j)].toList=E (ha ⟨5,t,cg,i,0,0,j,fr⟩ (T I 0 0)).toArray:=K
def apZ{i:Int}{x:Option es}{l:List ByteArray}:C.built 41 #[(0,F H i),(3,T x n ak)].toList=E (iS ⟨i,0,0,l⟩ (T x n ak)).toArray:=K
def apo{ac:S->Prop}(h:aC w jP 82 (ha e bc)):aZ C (a4 82 (aE (E ⟨jP,0,I⟩))) w ac↔ac (jW e bc):=gC An h.cy
def ap0:a0 C 25 #[aoZ ag] w λae a=>∃e bc,ae=jW e bc/\aT a Go.X.dV bc e.bk.a7/\ao2 ag e/\Q [] w a/\gx w.heap.size bc:=by
 refine a9 apj 1 Tryz.func25 K rfl λa1 a7=>?_;simp+decide only[↓a8,ba,apj,Tryz.f25];subst a7;refine eA λaA aw bb bU=>?_;have aw:aC aA w.heap.size 51 (JJ ag):=by simpa[aoZ,bF]using aw
 refine uf λax bd aS bV=>?_;have aU:=bb.R aS B;have bW:=aU.aI;generalize bX:aA.heap.size=m at*;generalize b0:w.heap.size=k at*;have b1:k<m:=A;have aV:=aw.J aS B;have eg:∀{t:aN}{e:eG}{bc:S},aC t m 82 (ha tT (T I 0 0))->Q [] w t->aT t Go.X.dV bc e.bk.a7->(∀b af n c,bc=T (E ⟨b,af,I⟩) n c->k<=b/\b≠m)->ao2 ag e->
   W C (dC 82 (aP m) (jW e bc)) t λ_ ap=>aZ C (a4 82 (aP m)) ap λab=>o5 (λae a=>∃e bc,ae=jW e bc/\aT a Go.X.dV bc e.bk.a7/\ao2 ag e/\Q [] w a/\gx k bc) (gd ab) ap:=by
  intro t e bc be i aW aX bf;exact s3 be rfl aW.aW λap az aq bg=>(apo az).2 ⟨e,bc,rfl,aW.J aq (λb af n c e R=>(aX b af n c e).2 (by simpa using R)),bf,i.R aq (λg j=>Z (by simp at j;omega)),λb af n c e=>(aX b af n c e).1⟩
 obtain⟨aY,a2,bh,bj,bk,bn,bo⟩:=apn aV;try simp only[M,a2]
 apply aH amX am0;rintro _ t ⟨rfl,a3⟩;refine(bY apT).2 (uf λap az aq bg=>s3 (e:=apa (amu ag.g2)) az rfl rfl λo ar bp b2=>?_);have b3:=a3.aI;generalize b7:t.heap.size=u at*;have aB:Q [] ax o:=(a3.R aq B).R bp (λg j=>Z (by simp at j;omega));have V:=aU.R aB B;have au:aC o k 51 (JJ ag):=aV.J aB B;have D:aC o m 82 (ha tT (T I 0 0)):=bd.J aB B;have b8:m<u:=A;obtain⟨aY,a2,bh,bj,bk,bn,bo⟩:=apn au;try simp only[M,aY]
 apply tc (ay:=0) (al:=9) A A;have f:=cD [] o;have a5:=V.R f B;have J:=ano ag.g2;have X:∀{af:Nat}{bm:Int}{aO:Prop}{d:aN},(JJ ag)[af]?=E (F H bm)->Q [] o d->(gu C (a4 3 (aE (E ⟨k,af,I⟩))) (F H bm) d aO↔aO):=λv i=>dz bZ (((au.J i B).bh (af:=_)).trans v);have x:∀{aO:Prop}{d:aN},Q [] o d->(gu C (a4 9 (aE (E ⟨u,1,I⟩))) (bO (amu ag.g2)) d aO↔aO):=λi=>dz oD ((ar.J i B).bh (af:=1));have ad:∀{ac:S->Prop}{d:aN},Q [] o d->(aZ C (a4 9 (aE (E ⟨u,1,I⟩))) d ac↔ac (bO (amu ag.g2))):=λi=>bl oD ((ar.J i B).bh (af:=1));have p:∀{af:Nat}{bm:Int}{ac:S->Prop}{d:aN},(JJ ag)[af]?=E (F H bm)->Q [] o d->(aZ C (a4 3 (aE (E ⟨k,af,I⟩))) d ac↔ac (F H bm)):=λv i=>bl bZ (((au.J i B).bh (af:=_)).trans v);have b9:=q9 (n:=ag.aJ) (ay:=0) (al:=9) A;have ca:=(q9 (n:=ag.hH) (ay:=1) (al:=3) A).2;have cb:=(q9 (n:=ag.aR) (ay:=0) (al:=3) A).2;have cc:=(q9 (n:=ag.hH) (ay:=0) (al:=2) A).2;have cf:=(q9 (n:=ag.aR) (ay:=0) (al:=320) A).2;have ch:=(q9 (n:=ag.aR) (ay:=0) (al:=50) A).2;have ci:=(q9 (n:=ag.bk) (ay:=1) (al:=3) A).2;have cj:=(q9 (n:=ag.UI) (ay:=0) (al:=11) A).2;have ai:∀b af n c,T I 0 0=T (E ⟨b,af,I⟩) n c->k<=b/\b≠m:=λb af n c e=>by cases e
 have aj:fr.a7.length<=3:=by decide
 have am:cg.size<=24:=by decide
 try simp only[M,bi]
 refine⟨λbr=>?_,λbr=>⟨λbs=>?_,λbs=>⟨λaD=>?_,λaD=>⟨λbt=>?_,λbt=>?_⟩⟩⟩⟩
 ·refine(ad f).2 ((p (af:=3) rfl f).2 ((p (af:=4) rfl f).2 (tc (ay:=1) (al:=3) A A ((X (af:=4) rfl f).2 ((x f).2 (tc (ay:=0) (al:=3) A A ((x f).2 ?_)))))));try simp only[M]
  rw[bq A A];exact(bY apU).2 (eg (bD D) a5 (aT.gW _ _) ai (aoY ⟨J,Y ⟨rfl,rfl,rfl,by simp only;omega,by simp only;omega,by simp only;omega,by simp only;omega,rfl,rfl⟩⟩ rfl (by intro h;cases h) am aj))
 ·refine(p (af:=4) rfl (.b0 _ _)).2 (tc (ay:=0) (al:=2) A A ?_);try simp only[M,bi]
  refine⟨λaD=>?_,λaD=>?_⟩
  ·exact(ad (.b0 _ _)).2 ((bY apW).2 (eg D V (aT.gW _ _) ai (aoY ⟨J,Z (Y ⟨rfl,rfl,rfl,rfl,rfl,rfl,rfl⟩)⟩ rfl (by intro h;cases h) am aj)))
  ·exact(ad (.b0 _ _)).2 ((bY apV).2 (eg D V (aT.gW _ _) ai (aoY ⟨J,Y ⟨rfl,rfl,rfl,B,B,B,B,rfl,rfl⟩⟩ rfl (by intro h;cases h) am aj)))
 ·refine(p (af:=2) rfl f).2 ((ad f).2 ((p (af:=3) rfl f).2 ((p (af:=4) rfl f).2 (aH amX am0 ?_))));rintro _ d ⟨rfl,y⟩;have q:=f.R y B;exact(X (af:=4) rfl q).2 ((X (af:=3) rfl q).2 ((x q).2 (tc (ay:=0) (al:=2) A A ((X (af:=4) rfl q).2 ((x q).2 (tc (ay:=0) (al:=320) A A ((x q).2 ((bY apX).2 (eg (D.J q B) (V.R q B) (aT.gW _ _) ai (aoY ⟨J,Z (Z (Z (Y ⟨rfl,ano _,by simp only;omega,by simp only;omega,rfl,rfl,by simp only;omega,by simp only;omega,rfl⟩)))⟩ rfl (by intro h;cases h) (by rw[anp];omega) aj))))))))))
 ·exact(ad f).2 ((p (af:=3) rfl f).2 ((p (af:=4) rfl f).2 (tc (ay:=0) (al:=2) A A ((X (af:=4) rfl f).2 ((x f).2 (tc (ay:=0) (al:=320) A A ((x f).2 ((bY apY).2 (eg (bD D) a5 (aT.gW _ _) ai (aoY ⟨J,Z (Z (Z (Z ⟨rfl,rfl,by simp only;omega,by simp only;omega,rfl,rfl,by simp only;omega,by simp only;omega,rfl⟩)))⟩ rfl (by intro h;cases h) am aj))))))))))
 ·refine(p (af:=3) rfl (.b0 _ _)).2 (tc (ay:=0) (al:=2) A A (eK hl ar (by simp[ha]) rfl λd aF y ck=>?_));have aF:aC d u 82 (ha ⟨3,amu ag.g2,cg,kr ag.hH 0 2,0,0,0,fr⟩ (T I 0 0)):=by simpa[ha,apa]using aF
  have q:Q [u] o d:=y;have aG:aC d k 51 (JJ ag):=au.J y (by simp;omega);have bu:aC d m 82 (ha tT (T I 0 0)):=D.J y (by simp;omega);have aI:∀{af:Nat}{bm:Int}{ac:S->Prop}{L:aN},(JJ ag)[af]?=E (F H bm)->Q [] d L->(aZ C (a4 3 (aE (E ⟨k,af,I⟩))) L ac↔ac (F H bm)):=λv i=>bl bZ (((aG.J i B).bh (af:=_)).trans v);have aJ:∀{af:Nat}{bm:Int}{aO:Prop}{L:aN},(JJ ag)[af]?=E (F H bm)->Q [] d L->(gu C (a4 3 (aE (E ⟨k,af,I⟩))) (F H bm) L aO↔aO):=λv i=>dz bZ (((aG.J i B).bh (af:=_)).trans v);have z:=cD [] d;try simp only[M]
  refine(aI (af:=4) rfl z).2 ((aI (af:=5) rfl z).2 ((aI (af:=4) rfl z).2 (tc (ay:=0) (al:=50) A A ((aJ (af:=4) rfl z).2 ((aJ (af:=5) rfl z).2 (tc (ay:=1) (al:=3) A A ((aJ (af:=4) rfl z).2 (aH W1 (alc (ak:=kr ag.bk 1 3) (wJ:=ag.aR) A) ?_))))))));rintro uy L ⟨⟨cB,r⟩,bv⟩;have aL:Ff cB:=⟨by have:=r.aR;omega,by have:=r.aR;omega,r.E9⟩;obtain⟨aM,cC,bw,_⟩:=id r.cP;subst bw;have an:=z.R bv B;have bx:=aF.J an B;apply(bY (apZ (l:=cB))).2;try simp only[M]
  refine ahy (aou:=⟨kr ag.aR 0 50,0,0,cB⟩) bx rfl λaQ a6 av cm=>?_;have bz:=(aG.J an B).J av (by simp;omega);have bB:=(bu.J an B).J av (by simp;omega);have cn:=an.aI;have cp:d.drew.heap.size=d.heap.size:=rfl;have bC:Q [] w aQ:=((V.R y (λg j=>Z (by simp at j;omega))).R an B).R av (λg j=>Z (by simp at j;omega));have cq:=ar.aL;have cs:=y.aI;have bE:aT aQ Go.X.dV (T aM cB.length cC) cB:=r.cP.J av (λb af n c e R=>by have:=r.zs b af n c e;simp at R;omega);refine bT (λbG a=>bG=[]/\∃ah s:Int,(0<=ah/\ah<=2/\0<=s/\s<=3/\(ah=0->s=0))/\aC a u 82 (ha ⟨3,amu ag.g2,cg,kr ag.hH 0 2,0,0,0,⟨kr ag.aR 0 50,ah,s,cB⟩⟩ (T aM cB.length cC))/\Q [u] aQ a) ?_ ?_
  ·refine(bl (aa:=F H ag.UI) bZ (bz.bh (af:=6))).2 (tc (ay:=0) (al:=11) A A ?_);try simp only[M,bi]
   refine⟨λbH=>?_,λbH=>⟨by trivial,0,0,B,a6,.b0 _ _⟩⟩;have bI:H.wrap ((kr ag.UI 0 11:Int).tdiv 4)=((kr ag.UI 0 11/4:Nat):Int):=by rw[Int.tdiv_eq_ediv_of_nonneg A,bq A A];omega
   have bJ:(kr ag.UI 0 11:Int).tmod 4=((kr ag.UI 0 11%4:Nat):Int):=by rw[Int.tmod_eq_emod_of_nonneg A];omega
   apply(apG A).2;rw[bI];try simp only[M]
   apply(vE A).2;rw[bJ,bq A A];refine eK hl a6 (by simp[ha]) rfl λcd aR ao ct=>?_;try simp only[M]
   exact eK hl aR (by simp[ha]) rfl λcu bK bL cv=>⟨by trivial,1+(kr ag.UI 0 11/4:Nat),(kr ag.UI 0 11%4:Nat),A,by simpa[ha]using bK,ao.R bL (λg j=>Y j)⟩
  rintro _ _ cd ⟨rfl,ah,s,bM,aR,ao⟩;apply(apo aR).2;have bP:=bB.J ao (by simp;omega);have bR:aT cd Go.X.dV (T aM cB.length cC) cB:=bE.J ao (λb af n c e R=>by have:=r.zs b af n c e;simp at R;omega);refine eg (e:=⟨3,amu ag.g2,cg,kr ag.hH 0 2,0,0,0,⟨kr ag.aR 0 50,ah,s,cB⟩⟩) bP (bC.R ao (λg j=>Z (by simp at j;omega))) bR (λb af n c e=>by have:=r.zs b af n c e;omega) (aoY ⟨J,Z (Z (Y ⟨rfl,rfl,by simp only;omega,by simp only;omega,rfl,rfl,rfl,apS aL bM A⟩))⟩ rfl (λ_=>UU aL) am aL.US)
end
section
variable{ag:JI}{first af aQ:Int}{l:List ByteArray}{ad:dn}{aqp:Int×ByteArray}{aoG:List (Int×ByteArray)}
def ao3(gY:Int)(e:eG):dl:=⟨gY,e.a5,e.cI,e.dg,e.d9,e.ie,e.hF,e.cW,0,0,e.bk⟩
def ap1(b:0<=gY/\gY<=4294967295)(a:e.bt=G):(ao3 gY e).bt=G:=by
 have d:=(eG.rE.1 a).a5;have c:i3 e.a5=G:=by unfold i3;simp;omega
 unfold dl.bt;rw[dA,decide_eq_true_iff];refine⟨b,?_⟩;rw[show(ao3 gY e).a5=e.a5 from rfl,c,if_pos rfl,dA,decide_eq_true_iff];exact⟨⟨rfl,rfl⟩,a⟩
def ap2{x:Option es}:C.built 43 #[(0,F H gY),(1,F H e.a5),(2,bO e.cI),(3,bO e.dg),(4,F H e.d9),(5,F H e.ie),(6,F H e.hF),(7,F H e.cW),(10,jr e.bk (T x n ak))].toList=E (f1 (ao3 gY e) (T x n ak)).toArray:=K
end
section
variable{ak:Nat->Nat×Int}{x:Nat}{first:Int}{t:ByteArray}
def amQ(gY:Int):dl:=⟨gY,6,cg,cg,0,0,0,0,0,0,fr⟩
def an3(a:0<=gY/\gY<=4294967295):(amQ gY).bt=G:=by unfold dl.bt;rw[dA,decide_eq_true_iff];refine⟨a,?_⟩;show(amQ 0).p6=G;decide+kernel
end
section
variable{ag:JI}{ak:um}{t g:ByteArray}{ah af k:Int}
def aox(gY kind:Int)(t g:ByteArray)(part eM gG B7:Int):dl:=⟨gY,kind,t,g,part,0,0,eM,gG,B7,fr⟩
def apb(a:0<=d.dF/\d.dF<=4294967295)(h:7<=d.a5/\d.a5<=9)(b:d.le=G)(ao:(nC d.a5 (jg d)).lO d=G)(c:∀ai∈(jG d.a5).zip (jg d),ai.1.e0 ai.2=G)(e:d.gj=G):d.bt=G:=by
 have f:i3 d.a5=U:=by unfold i3;exact decide_eq_false A
 have g:rF d.a5=G:=by unfold rF;exact decide_eq_true A
 unfold dl.bt;rw[dA,decide_eq_true_iff,f];refine⟨a,?_⟩;show d.p6=G;unfold dl.p6;rw[dA,dA,dA,dA];exact⟨⟨⟨g,(xc (vU _) (sL d)).2 c⟩,b⟩,ao,e⟩
def app(a:jV t=G)(f:0<=gY/\gY<=4294967295)(b:0<=ah/\ah<=3)(c:0<=af/\af<=9223372036854775807)(d:0<=k/\k<=1048576):(aox gY 7 t cg ah af k 0).bt=G:=by
 have g:=oJ a;refine apb f (by simp[aox]) (by simp[dl.le,aox,fr]) (by simp[dl.lO,nC,jg,aox,gl,ig,hZ]) (λai e=>?_) ?_
 ·simp[jG,jg,aox]at e;rcases e with rfl|rfl|rfl|rfl
  ·exact uT.2 A
  ·exact(ca.p5 rfl).2 ⟨b.1,b.2,rfl,rfl⟩
  ·exact(ca.p5 rfl).2 ⟨c.1,c.2,rfl,rfl⟩
  ·exact(ca.p5 rfl).2 ⟨d.1,d.2,rfl,rfl⟩
 ·show((decide ((7:Int)=6)||jV t)&&(decide ((7:Int)≠9)||jV cg))=G;rw[a];rfl
def apq(a:jV t=G)(d:0<=gY/\gY<=4294967295)(b:0<=ah/\ah<=3)(e:0<=B7/\B7<=1000):(aox gY 8 t cg ah 0 0 B7).bt=G:=by
 have f:=oJ a;refine apb d (by simp[aox]) (by simp[dl.le,aox,fr]) (by simp[dl.lO,nC,jg,aox,gl,ig,hZ]) (λai c=>?_) ?_
 ·simp[jG,jg,aox]at c;rcases c with rfl|rfl|rfl
  ·exact uT.2 A
  ·exact(ca.p5 rfl).2 ⟨b.1,b.2,rfl,rfl⟩
  ·exact(ca.p5 rfl).2 ⟨e.1,by show B7<=1125899906842624;omega,rfl,rfl⟩
 ·show((decide ((8:Int)=6)||jV t)&&(decide ((8:Int)≠9)||jV cg))=G;rw[a];rfl
def ap3(a:jV t=G)(b:jV g=G)(e:0<=gY/\gY<=4294967295)(c:0<=ah/\ah<=3):(aox gY 9 t g ah 0 0 0).bt=G:=by
 have f:=oJ a;have h:=oJ b;refine apb e (by simp[aox]) (by simp[dl.le,aox,fr]) (by simp[dl.lO,nC,jg,aox,gl,ig,hZ]) (λai d=>?_) ?_
 ·simp[jG,jg,aox]at d;rcases d with rfl|rfl|rfl
  ·exact uT.2 A
  ·exact uT.2 A
  ·exact(ca.p5 rfl).2 ⟨c.1,c.2,rfl,rfl⟩
 ·show((decide ((9:Int)=6)||jV t)&&(decide ((9:Int)≠9)||jV g))=G;rw[a,b];rfl
def ap4:C.built 43 #[(0,F H gY),(1,F H 6)].toList=E (f1 (amQ gY) (T I 0 0)).toArray:=K
def ap5:C.built 43 #[(0,F H gY),(1,F H 7),(2,bO t),(4,F H ah),(7,F H af),(8,F H k)].toList=E (f1 (aox gY 7 t cg ah af k 0) (T I 0 0)).toArray:=K
def ap6:C.built 43 #[(0,F H gY),(1,F H 8),(2,bO t),(4,F H ah),(9,F H B7)].toList=E (f1 (aox gY 8 t cg ah 0 0 B7) (T I 0 0)).toArray:=K
def ap7:C.built 43 #[(0,F H gY),(1,F H 9),(3,bO g),(2,bO t),(4,F H ah)].toList=E (f1 (aox gY 9 t g ah 0 0 0) (T I 0 0)).toArray:=K
def ao4{j a:Int}(b:t.size<=100)(c:g.size<=100):qt (aox j a t g ah af jb aoy):=vp ⟨b,c,by simp[aox,fr]⟩
def ap8(q:0<=gY/\gY<=4294967295):a0 C 65 #[aoZ ag,F H gY] w λae a=>∃d bc,ae=ho d bc/\aT a Go.X.dV bc d.bk.a7/\d.bt=G/\qt d/\Q [] w a:=by
 refine a9 apl 2 Tryz.func65 K rfl λa1 ap=>?_;simp+decide only[↓a8,ba,apl,Tryz.f65];subst ap;refine eA λax y V a2=>?_;have y:aC ax w.heap.size 51 (JJ ag):=by simpa[aoZ,bF]using y
 refine uj λm aa ad a3=>?_;have z:=y.J ad B;have aq:=V.R ad B;have a5:w.heap.size<=ax.heap.size:=V.aI;generalize a6:w.heap.size=D at*;generalize a7:ax.heap.size=t at*;have j:∀{af:Nat}{bm:Int}{ac:S->Prop}{h:aN},(JJ ag)[af]?=E (F H bm)->Q [] m h->(aZ C (a4 3 (aE (E ⟨D,af,I⟩))) h ac↔ac (F H bm)):=λJ o=>bl bZ (((z.J o B).bh (af:=_)).trans J);have g:∀{af:Nat}{bm:Int}{gf:Prop}{h:aN},(JJ ag)[af]?=E (F H bm)->Q [] m h->(gu C (a4 3 (aE (E ⟨D,af,I⟩))) (F H bm) h gf↔gf):=λJ o=>dz bZ (((z.J o B).bh (af:=_)).trans J);have i:=cD [] m;have r:∀{h:aN}{d:dl}{bc:S},Q [] m h->aT h Go.X.dV bc d.bk.a7->(∀b af n c,bc=T (E ⟨b,af,I⟩) n c->b≠t)->d.bt=G->qt d->W C (dC 43 (aP t) (ho d bc)) h λ_ s=>aZ C (a4 43 (aP t)) s λab=>o5 (λae a=>∃d bc,ae=ho d bc/\aT a Go.X.dV bc d.bk.a7/\d.bt=G/\qt d/\Q [] w a) (gd ab) s:=by intro h d bc o ah ai ar ao;refine qu (d:=d) (aa.J o B) rfl ah.aW λs L p au=>?_;obtain⟨bb,bd,be,bf,bg,bh,bj,bk,bn,bo,bp,av⟩:=gc L;exact(av _).2 ⟨d,bc,rfl,ah.J p (λb af n c e aw=>ai b af n c e (by simpa using aw)),ar,ao,(aq.R o B).R p (by simp;omega)⟩
 have u:∀b af n c,T I 0 0=T (E ⟨b,af,I⟩) n c->b≠t:=λb af n c e=>by cases e
 try simp only[M]
 refine(j (af:=2) rfl (.b0 _ _)).2 (tc (ay:=0) (al:=9) A A ?_);generalize kr ag.sZ 0 9=bm at*;try simp only[M,bi]
 refine⟨λaz=>?_,λaz=>⟨λaA=>?_,λaA=>⟨λaB=>?_,λaB=>?_⟩⟩⟩
 ·exact(bY ap4).2 (r (d:=amQ gY) (.b0 _ _) (aT.gW _ _) u (an3 q) (vp ⟨by show cg.size<=100;decide,by show cg.size<=100;decide,by simp[amQ,fr]⟩))
 ·refine(j (af:=1) rfl i).2 ((j (af:=3) rfl i).2 ((j (af:=4) rfl i).2 (aH amX am0 ?_)));rintro _ h ⟨rfl,k⟩;have f:=i.R k B;refine(g (af:=4) rfl f).2 ((g (af:=3) rfl f).2 (tc (ay:=0) (al:=2) A A ((g (af:=4) rfl f).2 (tc (ay:=0) (al:=51) A A ?_))));have aj:=(q9 (n:=ag.hH) (ay:=0) (al:=2) A).2;have bq:=(q9 (n:=ag.aR) (ay:=0) (al:=51) A).2;exact(bY ap6).2 (r (d:=aox gY 8 (amu ag.g2) cg (kr ag.hH 0 2) 0 0 (kr ag.aR 0 51)) f (aT.gW _ _) u (apq (ano _) q A A) (ao4 (by rw[anp];omega) (by decide)))
 ·refine(j (af:=5) rfl i).2 ((j (af:=1) rfl i).2 ((j (af:=3) rfl i).2 (aH amX am0 ?_)));rintro _ h ⟨rfl,k⟩;have f:=i.R k B;refine(g (af:=3) rfl f).2 ((g (af:=1) rfl f).2 (aH amX am0 ?_));rintro _ s ⟨rfl,p⟩;have ak:=f.R p B;refine(g (af:=3) rfl ak).2 (tc (ay:=0) (al:=2) A A ?_);have aj:=(q9 (n:=ag.hH) (ay:=0) (al:=2) A).2;exact(bY ap7).2 (r (d:=aox gY 9 (amu ag.g2) (amu ag.bk) (kr ag.hH 0 2) 0 0 0) ak (aT.gW _ _) u (ap3 (ano _) (ano _) q A) (ao4 (by rw[anp];omega) (by rw[anp];omega)))
 ·refine bT (λaD a=>aD=[aK (decide (bm=3\/bm=4))]/\m=a) ?_ ?_
  ·try simp only[M,bi]
   refine⟨λR=>⟨?_,by trivial⟩,λR=>⟨?_,by trivial⟩⟩
   ·congr 2;rw[decide_eq_decide];omega
   ·congr 2;rw[decide_eq_decide];omega
  rintro _ _ _ ⟨rfl,rfl⟩;try simp only[M,bi]
  refine⟨λR=>?_,λR=>?_⟩
  ·refine(j (af:=1) rfl i).2 ((j (af:=3) rfl i).2 ((j (af:=4) rfl i).2 ((j (af:=5) rfl i).2 ((j (af:=6) rfl i).2 (aH amX am0 ?_)))));rintro _ h ⟨rfl,k⟩;have f:=i.R k B;refine(g (af:=6) rfl f).2 ((g (af:=5) rfl f).2 ((g (af:=4) rfl f).2 ((g (af:=3) rfl f).2 (tc (ay:=0) (al:=2) A A ((g (af:=6) rfl f).2 ((g (af:=5) rfl f).2 ((g (af:=4) rfl f).2 (tc (ay:=0) (al:=12) A A ((g (af:=6) rfl f).2 ((g (af:=5) rfl f).2 (tc (ay:=0) (al:=3) A A ((g (af:=6) rfl f).2 ?_))))))))))));have aj:=(q9 (n:=ag.hH) (ay:=0) (al:=2) A).2;have ai:=(q9 (n:=ag.aR) (ay:=0) (al:=12) A).2;have br:=(q9 (n:=ag.bk) (ay:=0) (al:=3) A).2;have bs:=(q9 (n:=ag.UI) (ay:=0) (al:=9) A).2;try simp only[M]
   rw[X.bq (x:=100*((kr ag.bk 0 3:Nat):Int)) A A,X.bq (x:=((kr ag.aR 0 12:Nat):Int)+100*((kr ag.bk 0 3:Nat):Int)) A A];apply tc (ay:=0) (al:=9) A A;try simp only[M]
   rw[X.bq (x:=40*((kr ag.UI 0 9:Nat):Int)) A A];exact(bY ap5).2 (r (d:=aox gY 7 (amu ag.g2) cg (kr ag.hH 0 2) (kr ag.aR 0 12+100*(kr ag.bk 0 3:Nat)) (40*(kr ag.UI 0 9:Nat)) 0) f (aT.gW _ _) u (app (ano _) q A A A) (ao4 (by rw[anp];omega) (by decide)))
  ·have aF:∀ac,aZ C (a4 51 (aE (E ⟨D,0,I⟩))) m ac↔ac (aoZ ag):=λ_=>gC (l:=JJ ag) aph z.cy
   refine(aF _).2 (aH apI ap0 ?_);rintro _ h ⟨e,cm,rfl,am,v,k,aG⟩;obtain⟨bt,bu,aI,_⟩:=id am;subst aI;refine uf λs L p au=>s3 (e:=e) L rfl rfl λaJ aL aM bv=>?_;have an:Q [] h aJ:=p.R aM B;obtain⟨aor,aO,aQ,aR,aS,aU,aV,aW,aX⟩:=ik aL;try simp only[M,aor,aO,aQ,aR,aS,aU,aV,aW,aX]
   apply(bY (ap2 (e:=e))).2;have bw:=v.aR;have bx:=v.sZ;have bz:e.cI.size=1:=by rw[v.g2];exact anp _
   have bB:=aa.aL;exact r (d:=ao3 gY e) (k.R an B) (am.V an) (λb af n c aY bC=>by have:=aG b af n c aY;omega) (ap1 q v.y9) (vp ⟨by show e.cI.size<=100;omega,by show e.dg.size<=100;omega,by show e.bk.a7.length<=100;omega⟩)
inductive aoU(ak:um)(w a:aN):S->Prop
 |lY:aoU ak w a (lm ⟨2,0,0,0,0,0,T I 0 0,T I 0 0⟩)
 |aoP:aoU ak w a (lm ⟨3,0,0,0,0,0,T I 0 0,T I 0 0⟩)
 |aoQ (i:Nat) (aa:S) (l:List UInt8):i<=2->aT a bs aa l->l.length<=620->(∀b af n c,aa=T (E ⟨b,af,I⟩) n c->l≠[]->(∃d aoy e,ak.mH=T (E ⟨b,d,I⟩) aoy e)\/w.heap.size<=b)->aoU ak w a (lm ⟨1,i,0,0,0,0,T I 0 0,aa⟩)
def apr{i:Int}{x:Option es}{l c:Nat}:C.built 59 #[(0,F H 1),(1,F H i),(7,T x l c)].toList=E (mY ⟨1,i,0,0,0,0,T I 0 0,T x l c⟩).toArray:=K
def ap9(s:aT w bs ak.mH fT)(ag:0<=gY/\gY<=4294967295):a0 C 27 #[xR ak,F H gY] w λae a=>aoU ak w a ae/\Q [] w a:=by
 refine a9 apk 2 Tryz.func27 K rfl λa1 ah=>?_;simp+decide only[↓a8,ba,apk,Tryz.f27];subst ah;refine eA λaA k t aM=>?_;have k:aC aA w.heap.size 54 (sk ak):=by simpa[xR,bF]using k
 refine Fb λax u v aO=>?_;have y:=t.R v B;have m:=k.J v B;have aQ:=t.aI;have aR:=k.aL;generalize aS:w.heap.size=z at*;generalize aU:aA.heap.size=dB at*;obtain⟨ai,aj,aV⟩:=UL m;have am:∀ac,aZ C (a4 51 (aE (E ⟨z,3,I⟩))) ax ac↔ac (aoZ ak.eX):=λ_=>gC (l:=JJ ak.eX) aph (m.cy.d1 3 7)
 have an:∀ac,aZ C (a4 52 (aE (E ⟨z,10,I⟩))) ax ac↔ac ak.mH:=λ_=>bl nb (m.bh (af:=10))
 try simp only[M,aj]
 apply tc (ay:=0) (al:=2) A A;have D:=(q9 (n:=ak.wC) (ay:=0) (al:=2) A).2;generalize kr ak.wC 0 2=i at*;try simp only[M,ai]
 apply tc (ay:=0) (al:=11) A A;generalize kr ak.aJ 0 11=bm at*;have eg:∀{h:aN}(x:vn),x.sM=T I 0 0->x.ch.oneCell'=G->Q [] ax h->(∀f,Q [dB] h f->aoU ak w f (lm x))->
   W C (dC 59 (aP dB) (lm x)) h λ_ f=>aZ C (a4 59 (aP dB)) f λab=>o5 (λae a=>aoU ak w a ae/\Q [] w a) (gd ab) f:=by
  intro h x ao o j ap;exact Fc (x:=x) (u.J j B) rfl (by rw[ao];rfl) o λf aq g aW=>(UK aq).2 ⟨ap f g,(y.R j B).R g (by simp;omega)⟩
 refine bT (λar a=>ar=[aK (decide (bm=0\/bm=1\/bm=2))]/\ax=a) ?_ ?_
 ·try simp only[M,bi]
  refine⟨λp=>⟨?_,by trivial⟩,λp=>⟨λq=>⟨?_,by trivial⟩,λq=>⟨?_,by trivial⟩⟩⟩;all_goals
   congr 2;rw[decide_eq_decide];omega
 rintro _ _ _ ⟨rfl,rfl⟩;try simp only[M,bi]
 refine⟨λau=>?_,λau=>⟨λp=>?_,λp=>⟨λq=>?_,λq=>?_⟩⟩⟩
 ·exact(bY UG).2 (eg ⟨2,0,0,0,0,0,T I 0 0,T I 0 0⟩ rfl rfl (.b0 _ _) λf _=>.lY)
 ·exact(bY UG).2 (eg ⟨3,0,0,0,0,0,T I 0 0,T I 0 0⟩ rfl rfl (.b0 _ _) λf _=>.aoP)
 ·try simp only[M,an]
  have J:=s.V y;obtain⟨aX,cC,L,_⟩:=id J;rw[L];try simp only[M]
  rw[show min (fT.length:Int) 30=((min fT.length 30:Nat):Int)by omega];rw[<-L];refine TJ fP el e2 J A A λaY R av V=>?_;obtain⟨a2,a3,rfl⟩:=av;refine(bY apr).2 (eg ⟨1,i,0,0,0,0,T I 0 0,_⟩ rfl rfl (.b0 _ _) λf g=>.aoQ i _ (fT.take ((min fT.length 30:Nat):Int).toNat) D.2 ?_ (by rw[ea];omega) (λb af n c e _=>Y (V b af n c e)));by_cases X:fT=[]
  ·subst X;obtain⟨d,c,e,aw,_⟩:=R;exact⟨d,c,e,aw,Y B⟩
  ·refine R.J g (λb af n c e r=>?_);obtain⟨az,aoy,aB,o⟩:=V b af n c e;have aD:0<(fT.flatMap bs).length:=by obtain⟨x,l,rfl⟩:=List.exists_cons_of_ne_nil X;rw[iA,di,e2];omega
   have:=s.Ei aD b az aoy aB o;simp at r;omega
 ·try simp only[M,am]
  apply aH apM (ap8 ag);rintro _ h ⟨d,bc,rfl,aF,aG,aI,j⟩;have a5:=ak1 aG;apply aH Xa (akX aF aI A);rintro a6 f ⟨aa,g,ad⟩;obtain⟨a7,bb,rfl,_⟩:=id aa;have aJ:Q [] ax f:=j.R g B;have bd:=j.aI;have be:=u.aL;refine(bY apr).2 (eg ⟨1,i,0,0,0,0,T I 0 0,_⟩ rfl rfl aJ λbf aL=>.aoQ i _ _ D.2 (aa.J aL (λb af n c e r=>by have:=ad b af n c e;simp at r;omega)) (by unfold mZ;rw[di,zB];omega) (λb af n c e _=>Z (by have:=ad b af n c e;omega)))
end
def apc:∀(n:Nat)(c:er),c.bG.length<=n->(er.vk n c).2=I->(er.vk n c).1.bG.length<=1025
 |0,c,h,_=>by have:=c.Ju;show c.d4.bG.length<=1025;omega
 |n+1,c,h,a=>by
  have f:=c.Ju;rw[er.Jt]at a⊢;by_cases b:c.d4.bG.length<2
  ·rw[if_pos b];show c.d4.bG.length<=1025;omega
  ·rw[if_neg b]at a⊢;by_cases d:i7 c.d4.bG<=1024
   ·rw[if_pos d]at a⊢;by_cases e:c.d4.bG.length-2<i7 c.d4.bG
    ·rw[if_pos e];show c.d4.bG.length<=1025;omega
    ·rw[if_neg e]at a;cases a
   ·rw[if_neg d]at a⊢;refine apc n _ ?_ a;simp[er.kG];omega
section
variable{c:er}
def aqa(d:dl):(an.kV cp d).1.cQ=an.cQ+1/\(an.kV cp d).1.cx=an.cx/\(an.kV cp d).1.bd=an.bd:=by
 unfold cK.kV;split
 ·split
  ·split<;>exact⟨rfl,rfl,rfl⟩
  ·exact⟨rfl,rfl,rfl⟩
 ·exact⟨rfl,rfl,rfl⟩
def aqb(a:List UInt8):(j2 cp an c a).2.eJ.length<=c.eJ.length+335*(2+a.length)/\(j2 cp an c a).2.hB.length<=c.hB.length+1/\(j2 cp an c a).1.cQ<=an.cQ+1/\(j2 cp an c a).1.cx=an.cx/\(j2 cp an c a).1.bd=an.bd:=by
 have g:=aj8 (l:=a);unfold j2;rcases i:kS a with⟨d,cz⟩;rw[i]at g;cases cz with
 |some e=>
  have:=Uk (ab:=⟨d.dF,e.a5,0,0,[],[]⟩) rfl rfl;refine⟨?_,by simp[er.kG],by simp only;omega,rfl,rfl⟩;simp only[er.kG,di,zB];omega
 |none=>
  have g:=g rfl;obtain⟨h,b,f⟩:=aqa (an:=an) (cp:=cp) d;simp only;rcases ao:an.kV cp d with⟨dO,bb⟩;rw[ao]at h b f;simp only at h b f;cases bb with
  |some ad=>
   have:=BT ad;refine⟨?_,by simp[er.kG],by simp only;omega,b,f⟩;simp only[er.kG,di,zB];omega
  |none=>exact⟨by simp only;omega,B,by simp only;omega,b,f⟩
def aps:∀(n:Nat)(an:cK)(c:er),c.bG.length<=n->(k4 cp n an c).2.bG.length<=1025/\(k4 cp n an c).2.gE<=max c.gE 65535/\(k4 cp n an c).2.eJ.length+335*(k4 cp n an c).2.bG.length<=c.eJ.length+335*c.bG.length/\(k4 cp n an c).2.hB.length<=c.hB.length+c.bG.length/\(k4 cp n an c).1.cQ<=an.cQ+c.bG.length
 |0,an,c,h=>by
  have b:=Jw c;have l:c.il.2=I:=by
   cases k:c.il.2 with
   |none=>rfl
   |some d=>have:=b.dT;rw[k]at this;simp only[kp]at this;omega
  have e:=apc _ c (fF _) l;have g:=b.dT;have i:=b.gE;have j:=b.eJ;have f:=b.Ul;rw[l]at g j;simp only[kp]at g j;show c.il.1.bG.length<=1025/\c.il.1.gE<=_/\c.il.1.eJ.length+335*c.il.1.bG.length<=_/\c.il.1.hB.length<=_/\an.cQ<=_;exact⟨e,i,A,by rw[f];omega,A⟩
 |n+1,an,c,h=>by
  have b:=Jw c;have e:=apc _ c (fF c.bG.length);rw[Jx];have e:c.il.2=I->c.il.1.bG.length<=1025:=e;rcases k:c.il with⟨a,bb⟩;rw[k]at b e;have g:=b.dT;have i:=b.gE;have j:=b.eJ;have f:=b.Ul;cases bb with
  |none=>
   have o:a.bG.length<=1025:=e rfl;simp only[kp]at g i j f;show a.bG.length<=1025/\a.gE<=max c.gE 65535/\a.eJ.length+335*a.bG.length<=c.eJ.length+335*c.bG.length/\a.hB.length<=c.hB.length+c.bG.length/\an.cQ<=an.cQ+c.bG.length;exact⟨o,i,A,by rw[f];omega,A⟩
  |some d=>
   simp only[kp]at g i j f;obtain⟨w,p,x,y,z⟩:=aqb (cp:=cp) (an:=an) (c:=a) d;obtain⟨m,q⟩:=E5 cp an a d;obtain⟨r,s,t,u,v⟩:=aps n (j2 cp an a d).1 (j2 cp an a d).2 (by rw[m];omega);rw[m]at t u v;rw[q]at s;rw[f]at p;simp only;generalize k4 cp n (j2 cp an a d).1 (j2 cp an a d).2=bb at*;exact⟨r,A,A,A,A⟩
inductive aoM
 |lY
 |aoP
 |aoQ (i:Nat) (l:List UInt8)
def aoM.bp:aoM->Prop
 |.aoQ i l=>i<=3/\l.length<=620
 |_=>True
def aoM.aoK(k aX:Nat)(x:aoM)(an:cK)(ri:List er):cK×List er:=match x with
 |.lY=>((an.j0 k aX).1,ri.map λx=>((an.j0 k aX).2.foldl (λc t=>kH t c) x).kL)
 |.aoP=>(an,ri)
 |.aoQ i l=>((k4 kn ((ri.getD i iy).bG.length+l.length) an {ri.getD i iy with bG:=(ri.getD i iy).bG++l}).1,ri.set i (k4 kn ((ri.getD i iy).bG.length+l.length) an {ri.getD i iy with bG:=(ri.getD i iy).bG++l}).2)
structure apd(n:Nat)(x:er):Prop where
 bG:x.bG.length<=1025
 gE:x.gE<=65535
 eJ:x.eJ.length+335*x.bG.length<=210000*n
 Ul:x.hB.length<=1700*n
structure aoN(n:Nat)(an:cK)(ri:List er):Prop where
 dT:ri.length=4
 cQ:an.cQ<=1700*n
 a3:∀x∈ri,apd n x
def apt:∀{l:List (Nat×dn)}{c:er},(l.foldl (λc t=>kH t c) c).bG=c.bG/\(l.foldl (λc t=>kH t c) c).gE=c.gE
 |[],c=>⟨rfl,rfl⟩
 |t::l,c=>by
  obtain⟨b,d⟩:=apt (l:=l) (c:=kH t c);have a:(kH t c).bG=c.bG/\(kH t c).gE=c.gE:=by unfold kH;split<;>exact⟨rfl,rfl⟩
  simp only[List.foldl_cons];exact⟨b.trans a.1,d.trans a.2⟩
def aqc(k aX:Nat)(an:cK):(an.j0 k aX).1.cQ=an.cQ:=by
 unfold cK.j0;have bz:∀(n:Nat)(an:cK),(ne k aX n an).1.cQ=an.cQ:=by
  intro n;induction n with
  |zero=>intro an;rfl
  |succ n a=>
   intro an;rw[zr];split
   ·rfl
   ·apply(a _).trans;unfold cK.dg;simp only;split
    ·rfl
    ·split<;>rfl
 exact bz _ an
def aoN.bw(h:aoN n an ri)(b:n<=ak):aoN ak an ri:=
 ⟨h.dT,by have:=h.cQ;omega,λx a=>⟨(h.a3 x a).bG,(h.a3 x a).gE,by have:=(h.a3 x a).eJ;omega,by have:=(h.a3 x a).Ul;omega⟩⟩
def aoN.ek(h:aoN n an ri)(al:i<=3):apd n (ri.getD i iy)/\ri.getD i iy∈ri:=by
 have b:=h.dT;have al:i<ri.length:=A;have a:ri.getD i iy∈ri:=by rw[gp,cr al];exact dX al
 exact⟨h.a3 _ a,a⟩
def aoN.aoK(x:aoM)(a:x.bp)(h:aoN n an ri)(b:an.bp aX):aoN (n+1) (x.aoK k aX an ri).1 (x.aoK k aX an ri).2:=by
 cases x with
 |aoP=>exact h.bw A
 |lY=>
  refine⟨by show(List.map _ ri).length=4;rw[dU];exact h.dT,by show(an.j0 k aX).1.cQ<=_;rw[aqc];have:=h.cQ;omega,λx a=>?_⟩;obtain⟨ap,g,rfl⟩:=fS.1 a;obtain⟨d,e,j,m⟩:=h.a3 ap g;obtain⟨f,o⟩:=apt (l:=(an.j0 k aX).2) (c:=ap);obtain⟨v,w⟩:=Uw (l:=(an.j0 k aX).2) (c:=ap) (Uu _ an);have y:(an.j0 k aX).2.length<=an.cn.length:=Uv _ b;have z:=b.iG;unfold er.kL;exact⟨by simp only;rw[f];exact d,by simp only;rw[o];exact e,by simp only;rw[f];omega,B⟩
 |aoQ i l=>
  obtain⟨al,D⟩:=a;obtain⟨⟨d,e,j,m⟩,_⟩:=h.ek al;have J:=h.cQ;obtain⟨p,q,r,s,t⟩:=aps (cp:=kn) ((ri.getD i iy).bG.length+l.length) an {ri.getD i iy with bG:=(ri.getD i iy).bG++l} B;simp only[di]at q r s t;have u:=(h.bw (Nat.le_succ n)).a3;unfold aoM.aoK;simp only;generalize k4 kn ((ri.getD i iy).bG.length+l.length) an {ri.getD i iy with bG:=(ri.getD i iy).bG++l}=bb at*;refine⟨by rw[i9];exact h.dT,A,λx a=>?_⟩;rcases List.mem_or_eq_of_mem_set a with a|rfl
  ·exact u x a
  ·exact⟨p,A,A,A⟩
end
structure aoR(w:aN)(s:Nat)(am:List Nat)(c:dR)(aB:Nat->Bool)(ay:Nat->Nat->Bool)(aQ bu:Nat)(an:cK)(ri:List er):Prop where
 gm:∃b ci d6 bo ab au ai,fR w s b ci d6 bo ab c au aB ay ix ai aQ an/\bo.map (·.a3)=ri/\am=s::(ci++d6)/\ai<=bu
inductive ao0(w:aN):S->aoM->Prop
 |lY:ao0 w (lm ⟨2,0,0,0,0,0,T I 0 0,T I 0 0⟩) .lY
 |aoP:ao0 w (lm ⟨3,0,0,0,0,0,T I 0 0,T I 0 0⟩) .aoP
 |aoQ (i:Nat) (aa:S) (l:List UInt8):aT w bs aa l->ao0 w (lm ⟨1,i,0,0,0,0,T I 0 0,aa⟩) (.aoQ i l)
section
variable{x:aoM}
def kq.aqd(h:kq w s am c dN bu an ri):∃aB ay aQ,aoR w s am c aB ay aQ bu an ri/\qo c aB ay/\∀ag,ag<c.aR->dN ag=U->aB ag=U/\∀t,ay ag t=G:=by have d:=h.cL.2;obtain⟨⟨b,ci,d6,bo,ab,au,aB,ay,ai,aQ,e,f,rfl,a,g⟩,i⟩:=h;exact⟨aB,ay,aQ,⟨b,ci,d6,bo,ab,au,ai,e,f,rfl,g⟩,JF d i a,a⟩
def aoR.sl(h:aoR w s am c aB ay aQ bu an ri)(a:c.aJ<=bV (λag=>!dN ag) c.aR)(d:∀ag,ag<c.aR->dN ag=U->aB ag=U/\∀t,ay ag t=G):kq w s am c dN bu an ri:=by obtain⟨b,ci,d6,bo,ab,au,ai,e,f,rfl,g⟩:=h.gm;exact⟨⟨b,ci,d6,bo,ab,au,aB,ay,ai,aQ,e,f,rfl,d,g⟩,a⟩
def aoR.cL(h:aoR w s am c aB ay aQ bu an ri):an.bp c.bd/\c.bp:=by obtain⟨b,ci,d6,bo,ab,au,ai,a,d,rfl,e⟩:=h.gm;exact a.ak2
def aqe(h:aoR w s am c aB ay aQ bu an ri)(ao:qo c aB ay):a0 C 15 #[aP s,lm ⟨3,0,0,0,0,0,T I 0 0,T I 0 0⟩] w λaa a=>aa=aK G/\∃az,aoR a s az c aB (s2 ay aB (xC c aQ)) ((aQ+1)%qq c) bu an ri/\bX am az w a:=by obtain⟨b,ci,d6,bo,ab,au,ai,d,e,rfl,f⟩:=h.gm;refine(apQ d ao).bw ?_;rintro aa a ⟨rfl,eT,g,i⟩;exact⟨rfl,_,⟨b,eT,d6,bo,ab,au,ai,g,e,rfl,f⟩,i.xQ⟩
def aqf(h:aoR w s am c aB ay aQ bu an ri)(ao:qo c aB ay)(k:aoN n an ri)(Q:n<=32)(R:bu<=1000000)(z:x.bp)(B:ao0 w ae x):
  a0 C 15 #[aP s,ae] w λaa a=>aa=aK G/\∃az vy ds,aoR a s az c aB vy ds (bu+16) (x.aoK c.aJ c.bd an ri).1 (x.aoK c.aJ c.bd an ri).2/\(∀ag t,ay ag t=G->vy ag t=G)/\bX am az w a:=by
 have q:=h.cL.1;cases B with
 |aoP=>
  apply(aqe h ao).bw;rintro aa a ⟨rfl,az,⟨b,ci,d6,bo,ab,au,ai,f,d,rfl,r⟩,D⟩;exact⟨rfl,_,_,_,⟨b,ci,d6,bo,ab,au,ai,f,d,rfl,A⟩,λag t g=>by simp[s2,g],D⟩
 |lY=>
  obtain⟨b,ci,d6,bo,ab,au,ai,f,d,rfl,r⟩:=h.gm;have u:∀ap∈bo,apd n ap.a3:=λap j=>k.a3 _ (by rw[<-d];exact mz j);apply(akC f ao A q.iG (λap j=>by have:=(u ap j).eJ;omega) (λap j=>by have:=(u ap j).Ul;omega)).bw;rintro aa a ⟨rfl,eT,m,J,gg,dL,o,K,p,V⟩;have:=q.iG;refine⟨rfl,_,ay,aQ,⟨b,eT,m,J,ab,gg,dL,o,?_,rfl,A⟩,λ_ _ g=>g,p.xQ⟩;rw[K,<-d];show _=List.map _ (List.map _ bo);rw[ts];rfl
 |aoQ i aa l L=>
  obtain⟨al,W⟩:=z;obtain⟨b,ci,d6,bo,ab,au,ai,f,d,rfl,r⟩:=h.gm;have X:=f.oi;have v:i<bo.length:=A;have e:ri.getD i iy=bo[i].a3:=by rw[<-d,gp,e1,cr v];rfl
  obtain⟨⟨dI,y,N,O⟩,_⟩:=k.ek al;rw[e]at dI y N O;have ac:=k.cQ;apply(akB f v (ak5 ao) L y A A A A).bw;rintro aa a ⟨rfl,eT,m,dx,o,P,p⟩;refine⟨rfl,_,ay,aQ,⟨b,eT,m,bo.set i dx,ab,au,ai,?_,?_,rfl,A⟩,λ_ _ g=>g,p.xQ⟩
  ·unfold aoM.aoK;simp only;rw[e];exact o
  ·unfold aoM.aoK;simp only;rw[e,qB,P,d]
def ape(h:kq w s am c dN bu an ri)(f:aoN n an ri)(g:n<=32)(i:bu<=1000000)(j:x.bp)(k:ao0 w ae x):
  a0 C 15 #[aP s,ae] w λaa a=>aa=aK G/\∃az,kq a s az c dN (bu+16) (x.aoK c.aJ c.bd an ri).1 (x.aoK c.aJ c.bd an ri).2/\bX am az w a:=by
 obtain⟨aB,ay,aQ,l,ao,b⟩:=h.aqd;apply(aqf l ao f g i j k).bw;rintro aa a ⟨rfl,az,vy,ds,m,o,p⟩;exact⟨rfl,az,m.sl h.n1 λag d e=>⟨(b ag d e).1,λt=>o ag t ((b ag d e).2 t)⟩,p⟩
end
def aqg:yb C 70 [(0,U),(1,G)]:=⟨K,K,K,K⟩
def apu(ah:Int×ByteArray):∀s∈[(0,U),(1,G)],nV (X.hX ah).toArray s:=by
 intro s ao;simp at ao;rcases ao with rfl|rfl
 ·exact⟨ah.1,rfl⟩
 ·exact⟨ah.2,rfl⟩
def aqh{aS b7:List (Int×ByteArray)}{d b:S}(c:aT w X.hX d aS)(f:aT w X.hX b b7)(g:aS.length<=9223372036854775806):
  a0 C 68 #[d,b] w λae a=>ae=aK (decide (aS=b7))/\Q [] w a:=by
 refine a9 apm 2 Tryz.func68 K rfl λa1 h=>?_;simp+decide only[↓a8,ba,apm,Tryz.f68];subst h;refine anv alq c f g (λx ap a ac=>?_) (λa i=>⟨rfl,i⟩);apply(apH aqg (λs ao=>⟨apu x s ao,apu ap s ao⟩)).trans;have e:(!([(0,U),(1,G)].all λs=>m9 (X.hX x).toArray[s.1]? (X.hX ap).toArray[s.1]?))=!decide (x=ap):=by obtain⟨g8,lr⟩:=x;obtain⟨j,k⟩:=ap;simp[X.hX,m9,Prod.mk.injEq]
 rw[e]
def aqi{x:kQ}{ad:dn}(c:ma w x ad)(d:ma w ap ad)(W:ad.gj.length<=1000)(X:ad.dY.length<=1000):
  a0 C 32 #[je x,je ap] w λae a=>ae=aK G/\Q [] w a:=by
 refine a9 .D 2 Tryz.func32 K rfl λa1 k=>?_;simp+decide only[↓a8,ba,Tryz.f32];subst k;refine eA λaA l m aa=>eA λax n h ab=>?_;have i:aC ax w.heap.size 37 (eb x):=aC.J l h B;have j:aC ax aA.heap.size 37 (eb ap):=n;have e:Q [] w ax:=m.R h B;generalize w.heap.size=an at*;generalize aA.heap.size=ac at*;obtain⟨o,p,q,r,s,t,af⟩:=c7.hJ i;obtain⟨u,v,y,z,D,J,ag⟩:=c7.hJ j;simp only[M,o,p,q,r,s,t,u,v,y,z,D,J,bi,c.dF,c.iE,c.cu,c.cS,d.dF,d.iE,d.cu,d.cS];refine⟨λ_=>⟨λ_=>⟨λ_=>⟨λ_=>?_,λb=>absurd trivial b⟩,λb=>absurd trivial b⟩,λb=>absurd trivial b⟩,λb=>absurd trivial b⟩;apply aH anA (anK (c.gj.V e) (d.gj.V e) A);rintro _ ah ⟨rfl,f⟩;obtain⟨ai,aj,ak,al,am,L,ao⟩:=c7.hJ (i.J f B);obtain⟨aq,ar,au,av,aw,R,ay⟩:=c7.hJ (j.J f B);have g:=e.R f B;simp only[M,L,R,bi];refine⟨λaz=>?_,λb=>absurd trivial b⟩;apply aH apN (aqh (c.dY.V g) (d.dY.V g) A);rintro _ aB ⟨rfl,V⟩;exact⟨B,g.R V B⟩
structure aoC(bv w:aN)(s:Nat)(am aO:List Nat)(c:dR)(dN:Nat->Bool)(bu:Nat)(an:cK)(ri:List er):Prop where
 sl:kq w s am c dN bu an ri
 qV:Q [] bv w
 B1:qz bv am
 amS:qz bv aO
 eX:bR aO am
 B2:∀g∈aO,g<w.heap.size
section
variable{ao7:List er}{ab:kQ}{ad:dn}
def aoC.alF(h:aoC bv w s am aO c dN bu an ri)(j:kq a s az c qG zJ dO ao7)(e:Q (bU++am) w a)(f:∀g∈az,g∈am\/w.heap.size<=g)(k:∀g∈bU,g∈aO):aoC bv a s az aO c qG zJ dO ao7:=by have i:=h.B2;have m:=h.qV.aI;exact⟨j,h.qV.R e (λg b=>Z ((b4.1 b).elim (λd=>h.amS g (k g d)) (h.B1 g))),λg b=>(f g b).elim (h.B1 g) (λd=>A),h.amS,λg b l=>(f g l).elim (h.eX g b) (λd=>by have:=i g b;omega),λg b=>iL (i g b) e.aI⟩
def aoC.JR(h:aoC bv w s am aO c dN bu an ri)(d:kq a s az c qG zJ dO ao7)(b:bX am az w a):aoC bv a s az aO c qG zJ dO ao7:=
 h.alF (bU:=[]) d b.J b.cq B
def aoC.V(h:aoC bv w s am aO c dN bu an ri)(b:Q [] w a):aoC bv a s am aO c dN bu an ri:=h.JR (h.sl.V b) (.iu b)
def aoC.zb(h:aoC bv w s am aO c dN bu an ri)(l:0<bv.heap.size)(f:Q bU w a)(i:∀g∈bU,g∉am/\bv.heap.size<=g)(j:∀g∈JV,g∈aO\/(w.heap.size<=g/\g<a.heap.size)):aoC bv a s am JV c dN bu an ri:=by have m:=h.qV.aI;have k:=h.sl.aL;exact⟨h.sl.J f (λg b e=>(i g e).1 b) (λe=>by have:=(i _ e).2;omega),h.qV.R f (λg b=>Z (i g b).2),h.B1,λg b=>(j g b).elim (h.amS g) (λd=>A),λg b e=>(j g b).elim (λd=>h.eX g d e) (λd=>by have:=k g e;omega),λg b=>(j g b).elim (λd=>iL (h.B2 g d) f.aI) (λd=>d.2)⟩
def aoC.pI(h:aoC bv w s am aO c dN bu an ri)(d:∀g∈JV,g∈aO\/(bv.heap.size<=g/\g∉am/\g<w.heap.size)):aoC bv w s am JV c dN bu an ri:=
 ⟨h.sl,h.qV,h.B1,λg a=>(d g a).elim (h.amS g) (λb=>b.1),λg a=>(d g a).elim (h.eX g) (λb=>b.2.1),λg a=>(d g a).elim (h.B2 g) (λb=>b.2.2)⟩
def apv(h:an.cQ<=1700*n):aoN n an q8:=⟨rfl,h,λx a=>by
 simp[q8]at a;subst a;exact⟨by simp[iy],by simp[iy],by simp[iy],by simp[iy]⟩⟩
def apw{be:aU->List S}{l:List aU}{aoX:Nat->Prop}(h:aT w be aa l)(i:∀x,0<(be x).length)(j:∀b af n c,aa=T (E ⟨b,af,I⟩) n c->aoX b):∃aoq,hp w aoq be aa l/\∀g∈aoq,aoX g/\g<w.heap.size:=by
 by_cases a:l=[]
 ·exact⟨[],⟨h,Y a⟩,B⟩
 ·obtain⟨d,c,e,m,k⟩:=id h;obtain⟨b,af,rfl,o⟩:=k.resolve_left a;refine⟨[b],⟨h,Z ⟨b,af,c,e,B⟩⟩,λg f=>?_⟩;simp at f;subst f;refine⟨j g af _ _ e,h.Ei ?_ g af _ _ e⟩;obtain⟨x,dK,rfl⟩:=List.exists_cons_of_ne_nil a;rw[iA,di];have:=i x;omega
structure aoH(w:aN)(aoq:List Nat)(ab:kQ)(ad:dn):Prop where
 sx:ma w ab ad
 aR:hp w aoq Go.X.dV ab.pb ad.gj
 bk:hp w aoq Go.X.hX ab.mH ad.dY
def aoH.J(h:aoH w aoq ab ad)(b:Q bU w a)(c:bR aoq bU):aoH a aoq ab ad:=by have d:=h.aR.J b c;have e:=h.bk.J b c;exact⟨⟨h.sx.dF,h.sx.iE,h.sx.cu,h.sx.cS,d.1,e.1⟩,d,e⟩
def aoH.pI{ao8:List Nat}(h:aoH w aoq ab ad)(a:∀g∈aoq,g∈ao8):aoH w ao8 ab ad:=⟨h.sx,h.aR.pI a,h.bk.pI a⟩
def aqj{aoX:Nat->Prop}(h:ma w ab ad)(d:∀b af n c,ab.pb=T (E ⟨b,af,I⟩) n c->aoX b)(e:∀b af n c,ab.mH=T (E ⟨b,af,I⟩) n c->aoX b):∃aoq,aoH w aoq ab ad/\∀g∈aoq,aoX g/\g<w.heap.size:=by obtain⟨f,i,j⟩:=apw h.gj (λx=>by simp[Go.X.dV]) d;obtain⟨k,l,m⟩:=apw h.dY (λx=>by simp[Go.X.hX]) e;exact⟨f++k,⟨h,i.pI (λg a=>by simp[a]),l.pI (λg a=>by simp[a])⟩,λg a=>(b4.1 a).elim (j g) (m g)⟩
structure aoI(w:aN)(aa:S)(aoB:List dn)(gf:List Nat):Prop where
 gm:∃(ee:List kQ)(aD aoq:List Nat),gf=aD++aoq/\bP w 37 6 aa ee.length (ee.flatMap eb) aD/\ee.length=aoB.length/\bR aD aoq/\(∀g∈aoq,g<w.heap.size)/\∀(j:Nat)(ab:kQ)(ad:dn),ee[j]?=E ab->aoB[j]?=E ad->aoH w aoq ab ad
def aoI.D(w:aN):aoI w (T I 0 0) [] []:=⟨[],[],[],rfl,gJ _ _ _,rfl,bR.D _,B,B⟩
def aoI.J(h:aoI w aa aoB gf)(c:Q bU w a)(e:bR gf bU):aoI a aa aoB gf:=by obtain⟨ee,aD,aoq,rfl,f,i,k,l,m⟩:=h.gm;exact⟨ee,aD,aoq,rfl,f.J c (λg b d=>e g (by simp[b]) d),i,k,λg b=>iL (l g b) c.aI,λj ab ad n o=>(m j ab ad n o).J c (λg b d=>e g (by simp[b]) d)⟩
def aoI.aL(h:aoI w aa aoB gf):∀g∈gf,g<w.heap.size:=by obtain⟨ee,aD,aoq,rfl,a,d,e,b,f⟩:=h.gm;exactλg c=>(b4.1 c).elim (a.aL g) (b g)
def apx(x:kQ):(eb x).length=6:=rfl
def apy:eH C 93 37 6 eb je:=eH.rx C4 yf apx F0
def aoI.cY(h:aoI w aa aoB gf):∃ee:List kQ,aT w eb aa ee/\ee.length=aoB.length/\∀(j:Nat)(a:j<ee.length)(c:j<aoB.length),ma w ee[j] aoB[j]:=by obtain⟨ee,aD,aoq,rfl,a,c,f,g,e⟩:=h.gm;exact⟨ee,a.eF apx A,c,λj d b=>(e j _ _ (cr d) (cr b)).sx⟩
def aoI.yQ(h:aoI w aa aoB gf)(n:aoH w aoq aow aoT)(o:aoH w aoq aoE aoS)(r:∀g∈aoq,g<w.heap.size)(s:bR gf aoq)(af:aoB.length<=1000)
  (k:∀dd a t,aoI a dd (aoB++[aoT,aoS]) t->Q gf w a->(∀g∈t,g∈gf\/g∈aoq\/w.heap.size<=g)->ac dd a):
  W C (jR 93 2 #[(0,je aow),(1,je aoE)]) w λd aA=>W C (dG lp #[93,93] #[aa,d]) aA ac:=by
 obtain⟨ee,aD,p,rfl,L,u,v,x,dI⟩:=h.gm;have N:∀ae∈eb aow++eb aoE,ae.oneCell'=G:=by intro ae y;have jb:=n.aR.aW;have aoy:=n.bk.aW;have mB:=o.aR.aW;have lG:=o.bk.aW;simp[eb]at y;rcases y with rfl|rfl|rfl|rfl|rfl|rfl|rfl|rfl|rfl|rfl|rfl|rfl<;>first|rfl|assumption
 refine hw Ll [je aow,je aoE] rfl rfl (by intro ap z;simp at z;rcases z with rfl|rfl<;>rfl) A A λaA q D ag=>?_;have q:aC aA w.heap.size 37 (eb aow++eb aoE):=by simpa[je,bF]using q
 refine m8 Ll (L.J D B) q.cy rfl N A (by unfold d0;omega) A λdd ax ez O P R _=>?_;have m:Q aD w ax:=(D.bw B).R P (λg b=>Y b);have ah:=m.aI;have J:∀g∈ez,g∈aD\/w.heap.size<=g:=λg b=>(R g b).imp id (λl=>A);refine k dd ax (ez++(p++aoq)) ⟨ee++[aow,aoE],ez,p++aoq,rfl,?_,by simp[u],λg b c=>?_,λg b=>?_,λj ab ad e f=>?_⟩ (m.bw (λg b=>Y (by simp[b]))) (λg b=>?_)
 ·rw[di,hL];simpa using O
 ·rcases J g b with l|l
  ·rcases b4.1 c with c|c
   ·exact v g l c
   ·exact s g (by simp[l]) c
  ·rcases b4.1 c with c|c
   ·have:=x g c;omega
   ·have:=r g c;omega
 ·rcases b4.1 b with c|c
  ·have:=x g c;omega
  ·have:=r g c;omega
 ·have K:bR aoq aD:=λg b c=>s g (by simp[c]) b;have V:bR p aD:=λg b c=>v g c b;by_cases X:j<ee.length
  ·rw[pR X]at e;rw[pR A]at f;exact((dI j ab ad e f).J m V).pI (λg b=>by simp[b])
  ·rw[nr A]at e;rw[nr A,<-u]at f;obtain⟨i,al⟩:∃i,j-ee.length=i:=⟨_,rfl⟩;rw[al]at e f
   match i,e,f with
   |0,e,f=>
    simp at e f;subst e f;exact(n.J m K).pI (λg b=>by simp[b])
   |1,e,f=>
    simp at e f;subst e f;exact(o.J m K).pI (λg b=>by simp[b])
   |i+2,e,f=>simp at e
 ·simp only[b4]at b⊢;rcases b with b|b|b
  ·exact(J g b).elim (λl=>Y (Y l)) (λl=>Z (Z l))
  ·exact Y (Z b)
  ·exact Z (Y b)
end
def aoV(av:ji)(aX:c3)(t ah:Nat):dn:=mi av kn aX (aox 9 8 (amu t) cg ah 0 0 0)
def ao1(av:ji)(aX:c3)(t ah:Nat):dn:=mi av kn aX (aox 9 7 (amu t) cg ah (aoV av aX t ah).cu 400 0)
def aoO(av:ji)(aX:c3)(t:Nat):Nat->List dn
 |0=>[]
 |ah+1=>aoO av aX t ah++[aoV av aX t ah,ao1 av aX t ah]
def aoJ(av:ji)(aX:c3):Nat->List dn
 |0=>[]
 |t+1=>aoJ av aX t++aoO av aX t 3
def apf(av:ji)(aX:c3)(t:Nat):∀ah,(aoO av aX t ah).length=2*ah
 |0=>rfl
 |ah+1=>by rw[aoO,di,apf av aX t ah];simp;omega
def apg(av:ji)(aX:c3):∀t,(aoJ av aX t).length=6*t
 |0=>rfl
 |t+1=>by rw[aoJ,di,apg av aX t,apf];omega
section
def apz(a:ah<=3):(aox 9 8 (amu t) cg ah 0 0 0).bt=G:=apq (ano _) A A A
def apA(a:an.bp n)(b:n<=64)(c:ah<=3):(aoV an.cx an.bd t ah).bt=G:=ajO a b (apz c)
def apB(a:an.bp n)(b:n<=64)(c:ah<=3):(aox 9 7 (amu t) cg ah (aoV an.cx an.bd t ah).cu 400 0).bt=G:=
 app (ano _) A A ((Ds _).1 (apA a b c)).1.cu A
def aqk(a:an.bp n)(b:n<=64)(c:ah<=3):(ao1 an.cx an.bd t ah).bt=G:=ajO a b (apB a b c)
def apC(a:an.bp n)(b:n<=64):∀ah,ah<=3->∀ad∈aoO an.cx an.bd t ah,ad.bt=G
 |0,_,ad,h=>by simp[aoO]at h
 |ah+1,c,ad,h=>by
  rw[aoO,b4]at h;rcases h with h|h
  ·exact apC a b ah A ad h
  ·simp at h;rcases h with rfl|rfl
   ·exact apA a b A
   ·exact aqk a b A
def apD(a:an.bp n)(b:n<=64):∀t,∀ad∈aoJ an.cx an.bd t,ad.bt=G
 |0,ad,h=>by simp[aoJ]at h
 |t+1,ad,h=>by rw[aoJ,b4]at h;exact h.elim (apD a b t ad) (apC a b 3 A ad)
end
structure aoF(bv w:aN)(s:Nat)(am:List Nat)(ah b8:Nat)(c:dR)(dN:Nat->Bool)(bu:Nat)(an:cK)(aoL:List (Int×Bool))(aor:ji)(aos:c3)(aoz:Nat)(aoD aoA:S)(aov aot:List Nat)(aoB:List dn):Prop where
 sZ:aoC bv w s am (ah::b8::(aov++aot)) c dN bu an q8
 B0:an.cn=[]
 ao5:td w ah b8 c aoL dN
 ao6:aoz=0\/aoI w aoD (aoJ aor aos 3) aov
 G6:aoI w aoA aoB aot
 lk:bR [ah,b8] (aov++aot)
 lC:bR aov aot
 aoW:an.cx=aor
 g2:an.bd=aos
section
variable{aoz:Nat}{aov aot ao9:List Nat}{aoL:List (Int×Bool)}{aor:ji}{aos:c3}{aoD aoA aqr:S}{aqq:List dn}
def aoF.apE(h:aoF bv w s am ah b8 c dN bu an aoL aor aos aoz aoD aoA aov aot aoB)(f:kq a s az c dN zJ dO q8)(i:dO.cn=[])(b:bX am az w a)(j:dO.cx=an.cx)(ao:dO.bd=an.bd):aoF bv a s az ah b8 c dN zJ dO aoL aor aos aoz aoD aoA aov aot aoB:=by have d:=h.sZ.eX;exact⟨h.sZ.JR f b,i,h.ao5.J b.J (d ah B) (d b8 B),h.ao6.imp id (λk=>k.J b.J (λg e=>d g (by simp[e]))),h.G6.J b.J (λg e=>d g (by simp[e])),h.lk,h.lC,j.trans h.aoW,ao.trans h.g2⟩
def aoF.V(h:aoF bv w s am ah b8 c dN bu an aoL aor aos aoz aoD aoA aov aot aoB)(b:Q [] w a):aoF bv a s am ah b8 c dN bu an aoL aor aos aoz aoD aoA aov aot aoB:=h.apE (h.sZ.sl.V b) h.B0 (.iu b) rfl rfl
def aoF.an5(h:aoF bv w s am ah b8 c dN bu an aoL aor aos aoz aoD aoA aov aot aoB)(i:0<bv.heap.size)(d:Q bU w a)(f:∀g∈bU,g∉am/\g∉ah::b8::(aov++aot)/\bv.heap.size<=g):aoF bv a s am ah b8 c dN bu an aoL aor aos aoz aoD aoA aov aot aoB:=by have e:∀{g:Nat},g∈ah::b8::(aov++aot)->g∉bU:=λb j=>(f _ j).2.1 b;exact⟨h.sZ.zb i d (λg b=>⟨(f g b).1,(f g b).2.2⟩) (λg b=>Y b),h.B0,h.ao5.J d (e B) (e B),h.ao6.imp id (λk=>k.J d (λg b=>e (by simp[b]))),h.G6.J d (λg b=>e (by simp[b])),h.lk,h.lC,h.aoW,h.g2⟩
def aoF.yQ(h:aoF bv w s am ah b8 c dN bu an aoL aor aos aoz aoD aoA aov aot aoB)(t:0<bv.heap.size)(u:aoH w aoq aow aoT)(v:aoH w aoq aoE aoS)(i:∀g∈aoq,g<w.heap.size/\g∉am/\g∉ah::b8::(aov++aot)/\bv.heap.size<=g)(x:aoB.length<=1000)
  (k:∀dd a ao9,aoF bv a s am ah b8 c dN bu an aoL aor aos aoz aoD dd aov ao9 (aoB++[aoT,aoS])->ac dd a):
  W C (jR 93 2 #[(0,je aow),(1,je aoE)]) w λd aA=>W C (dG lp #[93,93] #[aoA,d]) aA ac:=by
 refine h.G6.yQ u v (λg b=>(i g b).1) (λg b e=>(i g e).2.2.1 (by simp[b])) x λdd aA n o l p=>?_;have y:=o.aL;have z:=h.sZ.B2;have j:=h.lk;have q:=h.lC;have r:∀g∈n,g∉ah::b8::aov:=λg b e=>by
  rcases p g b with f|f|f
  ·simp only[ce]at e;rcases e with rfl|rfl|e
   ·exact j g B (by simp[f])
   ·exact j g B (by simp[f])
   ·exact q g e f
  ·exact(i g f).2.2.1 (by simp only[ce,b4]at e⊢;rcases e with e|e|e<;>simp[e])
  ·have:=z g (by simp only[ce,b4]at e⊢;rcases e with e|e|e<;>simp[e]);omega
 have m:∀g∈ah::b8::aov,g∉aot:=λg b e=>by
  simp only[ce]at b;rcases b with rfl|rfl|b
  ·exact j g B (by simp[e])
  ·exact j g B (by simp[e])
  ·exact q g b e
 have A:aoC bv w s am (ah::b8::(aov++(aot++aoq))) c dN bu an q8:=h.sZ.pI λg b=>by
  simp only[ce,b4]at b;rcases b with b|b|b|b|b
  ·exact Y (by simp[b])
  ·exact Y (by simp[b])
  ·exact Y (by simp[b])
  ·exact Y (by simp[b])
  ·exact Z ⟨(i g b).2.2.2,(i g b).2.1,(i g b).1⟩
 refine k dd aA n ⟨A.zb t l (λg b=>⟨h.sZ.eX g (by simp[b]),h.sZ.amS g (by simp[b])⟩) (λg b=>?_),h.B0,h.ao5.J l (m ah B) (m b8 B),h.ao6.imp id (λf=>f.J l (λg b=>m g (by simp[b]))),o,λg b e=>?_,λg b e=>r g e (by simp[b]),h.aoW,h.g2⟩
 ·simp only[ce,b4]at b;rcases b with b|b|b|b
  ·exact Y (by simp[b])
  ·exact Y (by simp[b])
  ·exact Y (by simp[b])
  ·rcases p g b with f|f|f
   ·exact Y (by simp[f])
   ·exact Y (by simp[f])
   ·exact Z ⟨f,y g b⟩
 ·rcases b4.1 e with e|e
  ·exact j g b (by simp[e])
  ·exact r g e (by simp at b⊢;rcases b with rfl|rfl<;>simp)
def aql{t:ByteArray}{ah:Int}:C.built 43 #[(0,F H 9),(1,F H 8),(2,bO t),(4,F H ah)].toList=E (f1 (aox 9 8 t cg ah 0 0 0) (T I 0 0)).toArray:=K
def apF{t:ByteArray}{ah af:Int}:C.built 43 #[(0,F H 9),(1,F H 7),(2,bO t),(4,F H ah),(7,F H af),(8,F H 400)].toList=E (f1 (aox 9 7 t cg ah af 400 0) (T I 0 0)).toArray:=K
def aoF.zF(h:aoF bv w s am ah b8 c dN bu an aoL aor aos aoz aoD aoA aov aot aoB)(j:an.cQ<=100000)(l:d.bk.a7=[])(m:qt d)(n:d.bt=G)(o:i3 d.a5=U)(p:bu<=1000000)
  (k:∀(fz:kQ)(aoq:List Nat)(a:aN)(az:List Nat),aoF bv a s az ah b8 c dN (bu+1) {an with cQ:=an.cQ+1} aoL aor aos aoz aoD aoA aov aot aoB->bX am az w a->aoH a aoq fz (mi aor kn aos d)->(∀g∈aoq,(w.heap.size<=g/\g∉az)/\g<a.heap.size)->ac (bQ #[je fz,aK G]) a):
  W C (ck 11 #[aP s,ho d (T I 0 0)]) w ac:=by
 refine apR h.sZ.sl h.B0 j (by rw[l];exact aT.gW _ _) m n p λfz a az f i e q r=>?_;rw[Jo o]at f e;simp only at f e;rw[h.aoW,h.g2]at e;obtain⟨aoq,t,u⟩:=aqj (aoX:=λb=>w.heap.size<=b/\b∉az) e q r;exact k fz aoq a az (h.apE f h.B0 i rfl rfl) i t u
end
def aqm{ak:um}(h:aoU ak w a ae):∃x:aoM,x.bp/\ao0 a ae x:=by
 cases h with
 |lY=>exact⟨.lY,trivial,.lY⟩
 |aoP=>exact⟨.aoP,trivial,.aoP⟩
 |aoQ i aa l d b c e=>exact⟨.aoQ i l,⟨A,c⟩,.aoQ i aa l b⟩
section
def aqn{aD aF bh:Int}{cj:S}{an aG:List um}(cm:jf w)(cn:aT w sk cB an)(dn:∀ak∈an,∃fT:List UInt8,aT w bs ak.mH fT)(cp:aT w sk cj aG):
  a0 C 8 #[F H aD,F H aF,cB,cj,F H bh] w λae a=>ae=aK G/\Q [] w a:=by
 have cq:(qx aD aF 10 2).bp:=ak8 A A A A;have cs:=cm.aL;apply apP;unfold api;apply aH WZ (ala (k:=aD) (n:=aF) (aX:=10) (qE:=2));rintro _ aA ⟨rfl,dp⟩;have eO:(qx aD aF 10 2).bd=10:=rfl;generalize qx aD aF 10 2=c at*;refine mR λax dq dr eP=>ml (g:=c) dq rfl λds ct dt eQ=>?_;have a1:Q [] w ds:=dp.R (dr.R dt B) B;refine(fj ct).2 (aH Lq (UH cq (cm.V a1)) ?_);rintro _ V ⟨s,am,rfl,bj,du,bk⟩;have eR:=a1.aI;refine(ru KY).2 (cG.2 ⟨λao=>(by cases ao),λ_=>?_⟩);try simp only[M]
 refine(fj (ct.J bk B)).2 (Aa (bI:=λb:Bool=>aK b) vO (Y rfl) λaI cu dv eT=>(bY alH).2 (eA λl a2 cv dw=>?_));have a2:aC l aI.heap.size 32 (en c++[eB (E V.heap.size)]):=by simpa[bF]using a2
 have cw:Q [] V l:=dv.R cv B;have dx:Q [] w l:=(a1.R bk B).R cw B;have dy:qz w am:=λg e=>by have:=du g e;omega
 have dB:=bj.aL;have eU:=(a1.R bk B).aI;have cx:td l aI.heap.size V.heap.size c [] (λ_=>U):=⟨a2,cu.J cv B,A,λag _=>rfl,by unfold bV;simp,by have:=cq.jY;simp;omega⟩;have cy:aoC w l s am [aI.heap.size,V.heap.size] c (λ_=>U) 1 ra q8:=by
  refine⟨bj.V cw,dx,dy,λg e=>?_,λg e f=>?_,λg e=>?_⟩
  ·simp at e;omega
  ·have:=dB g f;simp at e;omega
  ·simp at e;omega
 have dC:0≠V.heap.size/\aI.heap.size≠V.heap.size:=A;generalize aI.heap.size=ah at*;generalize V.heap.size=b8 at*;clear bj a2 cu;obtain⟨eV,eW,dD,_⟩:=id cn;obtain⟨eX,eY,dF,_⟩:=id cp;apply c1 (λh a=>∃(i:Nat)(az:List Nat)(dO:cK)(ri:List er)(zJ:Nat),h=[F H i]/\i<=an.length/\i<=20/\aoC w a s az [ah,b8] c (λ_=>U) zJ dO ri/\td a ah b8 c [] (λ_=>U)/\aoN i dO ri/\zJ<=1+16*i) (λh _=>match h with|[F _ i]=>an.length-i.toNat|_=>0) ⟨0,am,ra,q8,1,rfl,A,A,cy,cx,apv (by simp[ra]),A⟩;rintro _ _ cd ⟨i,e0,cz,cA,e2,rfl,al,e3,z,bl,aJ,e4⟩;clear cy cx;refine bT (λh a=>h=[aK (decide (i<an.length/\i<20))]/\cd=a) ?_ ?_
 ·rw[dD];try simp only[M,bi]
  refine⟨λbm=>⟨?_,by trivial⟩,λbm=>⟨?_,by trivial⟩⟩
  ·congr 2;rw[decide_eq_decide];omega
  ·rw[decide_eq_false A]
 rintro _ _ _ ⟨rfl,rfl⟩;try simp only[M,bi]
 have bn:=z.sl.cL.1;refine⟨λa3=>?_,λe5=>?_⟩
 ·have cC:i<an.length:=a3.1;have e6:i<20:=a3.2;apply(alN.ek (cn.V z.qV) (Q.b0 _ _) cC).2;obtain⟨fT,dG⟩:=dn _ (dX cC);apply aH apJ (ap9 (gY:=i) (dG.V z.qV) A);rintro ae bo ⟨dH,a5⟩;have a6:=z.V a5;obtain⟨x,cE,dL⟩:=aqm dH;apply aH C9 (ape a6.sl aJ A A cE dL);rintro _ aL ⟨rfl,ci,dM,aM⟩;try simp only[M]
  rw[bq A A];exact⟨⟨i+1,ci,_,_,_,by trivial,A,A,a6.JR dM aM,(bl.V a5).J aM.J (a6.eX ah B) (a6.eX b8 B),aJ.aoK x cE bn,A⟩,by simp;omega⟩
 ·refine(bY UG).2 (aH C9 (ape (x:=.lY) z.sl aJ A A trivial .lY) ?_);rintro _ e7 ⟨rfl,d6,cF,bp⟩;have cH:=aJ.aoK (k:=c.aJ) .lY trivial bn;have cI:=z.JR cF bp;have cJ:=bl.J bp.J (z.eX ah B) (z.eX b8 B);generalize(aoM.lY.aoK c.aJ c.bd cz cA).1=br at*;generalize(aoM.lY.aoK c.aJ c.bd cz cA).2=dP at*;have e9:=cH.cQ;clear cF z bl bp aJ bn;obtain⟨aor,dQ⟩:∃aor,br.cx=aor:=⟨_,rfl⟩;obtain⟨lu,dR⟩:∃lu,br.bd=lu:=⟨_,rfl⟩;refine c1 (λh a=>∃(aoz:Nat)(aoD:S)(az:List Nat)(dO:cK)(ri:List er)(zJ:Nat)(dN:Nat->Bool)(aoL:List (Int×Bool))(aov:List Nat),h=[aoD,F H aoz]/\aoz<=2/\aoC w a s az (ah::b8::(aov++[])) c dN zJ dO ri/\td a ah b8 c aoL dN/\(aoz=0\/aoI a aoD (aoJ aor lu 3) aov)/\bR [ah,b8] aov/\dO.cx=aor/\dO.bd=lu/\dO.cQ<=40000+40*aoz/\zJ<=1000+1000*aoz) (λh _=>match h with|[_,F _ aoz]=>2-aoz.toNat|_=>0)
   ⟨0,_,d6,br,dP,_,_,[],[],rfl,A,by simpa using cI,cJ,Y rfl,λg _ f=>by simp at f,dQ,dR,A,A⟩ ?_
  rintro _ _ fa ⟨aoz,aoD,fb,bt,fd,cL,L,X,aov,rfl,fe,ap,cO,bu,dS,dT,dV,ff,fg⟩;clear cI cJ cH;try simp only[M,bi]
  refine⟨λdW=>?_,λdW=>?_⟩
  ·refine(bY UG).2 (aH C9 (alG ap.sl) ?_);rintro _ dY ⟨rfl,cP,cR,a7⟩;have bv:=ap.eX;have cS:aoF w dY s cP ah b8 c L cL ⟨bt.cx,bt.bd,[],bt.cQ⟩ X aor lu aoz aoD (T I 0 0) aov [] []:=
    ⟨ap.JR cR a7,rfl,cO.J a7.J (bv ah B) (bv b8 B),bu.imp id (λao=>ao.J a7.J (λg e=>bv g (by simp[e]))),aoI.D _,λg e f=>dS g e (by simpa using f),λg _ f=>by simp at f,dT,dV⟩
   clear ap cO cR a7;refine c1 (λh a=>∃(t:Nat)(aoA:S)(az:List Nat)(dO:cK)(zJ:Nat)(aot:List Nat),h=[aoA,F H t]/\t<=3/\aoF w a s az ah b8 c L zJ dO X aor lu aoz aoD aoA aov aot (aoJ aor lu t)/\dO.cQ<=40000+40*aoz+6*t/\zJ<=1000+1000*aoz+6*t) (λh _=>match h with|[_,F _ t]=>3-t.toNat|_=>0)
    ⟨0,_,cP,_,cL,[],rfl,A,cS,by simp only;omega,A⟩ ?_
   rintro _ _ cU ⟨t,aoA,bw,aq,aO,aot,rfl,fk,D,fl,fm⟩;clear cS;try simp only[M,bi]
   refine⟨λdZ=>?_,λdZ=>?_⟩
   ·have fn:t<3:=A;refine c1 (λh a=>∃(ai:Nat)(aoA:S)(az:List Nat)(dO:cK)(zJ:Nat)(aot:List Nat),h=[aoA,F H ai]/\ai<=3/\aoF w a s az ah b8 c L zJ dO X aor lu aoz aoD aoA aov aot (aoJ aor lu t++aoO aor lu t ai)/\dO.cQ<=40000+40*aoz+6*t+2*ai/\zJ<=1000+1000*aoz+6*t+2*ai) (λh _=>match h with|[_,F _ ai]=>3-ai.toNat|_=>0)
     ⟨0,_,bw,aq,aO,aot,rfl,A,by simpa[aoO]using D,A,A⟩ ?_
    rintro _ _ a8 ⟨ai,aoA,d1,y,aQ,aot,rfl,fo,q,fp,fq⟩;clear D;try simp only[M,bi]
    refine⟨λd2=>?_,λd2=>?_⟩
    ·have fr:ai<3:=A;have d3:=q.sZ.sl.cL.1;apply aH amX (am0 (n:=(t:Nat)));rintro _ bo ⟨rfl,a5⟩;apply(bY (aql (t:=amu (t:Nat)) (ah:=(ai:Nat)))).2;have bx:=q.V a5;have cW:∀{cY af cZ:Int},qt (aox 9 cY (amu (t:Nat)) cg ai af cZ 0):=λ{cY af cZ}=>ao4 (by rw[anp];omega) (by decide);refine bx.zF (d:=aox 9 8 (amu (t:Nat)) cg ai 0 0 0) A rfl cW (apz A) rfl A λaa ar aL ci aM d4 au bz=>?_;have au:aoH aL ar aa (aoV aor lu t ai):=au;simp only[cV,cX];refine qv λbB d5 bC fs=>mW (x:=aa) d5 au.aR.aW au.bk.aW λv a9 ba fu=>?_;have bD:Q [] aL v:=bC.R ba B;have d7:=aM.V bD;have d8:=au.J bD (bR.D _);have bE:=aM.sZ.sl.aL;have fv:=bD.aI;have bG:=bx.sZ.B2;have fy:=bx.sZ.qV.aI;have bH:∀g∈ar,bo.heap.size<=g/\g<aL.heap.size/\g∉ci:=λg e=>⟨(bz g e).1.1,(bz g e).2,(bz g e).1.2⟩;generalize fA:aL.heap.size=bb at*;have fB:bo.heap.size<=bb:=by have:=d4.J.aI;omega
     have fC:bb<v.heap.size:=a9.aL;have c0:=apB (t:=t) (ah:=ai) d3 A A;rw[q.aoW,q.g2]at c0;have bJ:∀{r:aN}{ac:S->aN->Prop},Q [] v r->(∀(fz:kQ)(aoq:List Nat)(a:aN)(az:List Nat),aoF w a s az ah b8 c L (aQ+1+1) {y with cQ:=y.cQ+1+1} X aor lu aoz aoD aoA aov aot (aoJ aor lu t++aoO aor lu t ai)->bX ci az r a->aoH a aoq fz (ao1 aor lu t ai)->(∀g∈aoq,(r.heap.size<=g/\g∉az)/\g<a.heap.size)->ac (bQ #[je fz,aK G]) a)->
       W C (ck 11 #[aP s,ho (aox 9 7 (amu (t:Nat)) cg ai (aoV aor lu t ai).cu 400 0) (T I 0 0)]) r ac:=
      λbK k=>(d7.V bK).zF (by simp only;omega) rfl cW c0 rfl A k
     obtain⟨bc,c2⟩:∃bc:List S->aN->Prop,bc=λh a=>∃(R:Nat)(m:kQ)(cM:List Nat)(o:List Nat),h=[aP R,aK G]/\aC a R 37 (eb m)/\aC a bb 37 (eb aa)/\aoF w a s cM ah b8 c L (aQ+1+1) {y with cQ:=y.cQ+1+1} X aor lu aoz aoD aoA aov aot (aoJ aor lu t++aoO aor lu t ai)/\aoH a ar aa (aoV aor lu t ai)/\aoH a o m (ao1 aor lu t ai)/\∀g∈ar++o,g<a.heap.size/\g∉cM/\g∉ah::b8::(aov++aot)/\w.heap.size<=g:=⟨_,rfl⟩;have bL:∀{r l ab:aN}{m:kQ}{o cM dE:List Nat}{R:Nat},Q [] v r->aoF w l s cM ah b8 c L (aQ+1+1) {y with cQ:=y.cQ+1+1} X aor lu aoz aoD aoA aov aot (aoJ aor lu t++aoO aor lu t ai)->bX ci cM r l->aoH l o m (ao1 aor lu t ai)->(∀g∈o,(r.heap.size<=g/\g∉cM)/\g<l.heap.size)->Q dE l ab->(∀g∈dE,v.heap.size<=g/\g∉cM/\g∉o)->aC ab R 37 (eb m)->bc [aP R,aK G] ab:=by
      intro r l ab m o cM dE R bM ad p u J aR av aj;have fG:=bM.aI;have dw:=p.J.aI;have bP:=aR.aI;have d9:∀g∈cM,g∈ci\/r.heap.size<=g:=p.cq;have ec:∀g∈ah::b8::(aov++aot),g∉dE:=λg e f=>by have:=bG g e;have:=(av g f).1;omega
      rw[c2];refine⟨R,m,cM,o,rfl,aj,?_,ad.an5 cs aR (λg e=>⟨(av g e).2.1,λf=>ec g f e,by have:=(av g e).1;omega⟩),?_,u.J aR (λg e f=>(av g f).2.2 e),λg e=>?_⟩
      ·exact((a9.J bM B).J p.J (λf=>by have:=bE _ f;omega)).J aR (λf=>by have:=(av _ f).1;omega)
      ·refine((d8.J bM (bR.D _)).J p.J (λg e f=>(bH g e).2.2 f)).J aR (λg e f=>by have:=(av g f).1;have:=(bH g e).2.1;omega)
      ·rcases b4.1 e with e|e
       ·obtain⟨ef,c3,c4⟩:=bH g e;exact⟨A,λf=>(d9 g f).elim c4 (λao=>A),λf=>by have:=bG g f;omega,A⟩
       ·obtain⟨⟨ef,c3⟩,c4⟩:=J g e;exact⟨A,c3,λf=>by have:=bG g f;omega,A⟩
     refine bT bc ?_ ?_
     ·have bW:=cD [] v;obtain⟨_,_,eg,_,_,_,_⟩:=c7.hJ (a9.J bW B);try simp only[M]
      apply(eg _).2;have aX:∀{r:aN}{gf:Prop},Q [] v r->(gu C (a4 3 (aE (E ⟨bb,2,I⟩))) (F H aa.cu) r gf↔gf):=λbK=>dz bZ ((a9.J bK B).bh (af:=2));have b0:=au.sx.cu;refine⟨?_,?_⟩
      ·apply aH amX (am0 (n:=(t:Nat)));rintro _ b1 ⟨rfl,aS⟩;have K:=bW.R aS B;refine(aX K).2 ((bY (apF (t:=amu (t:Nat)) (ah:=(ai:Nat)) (af:=aa.cu))).2 ⟨?_,?_⟩)
       ·rw[b0];refine bJ K λm o l cM ad p u J=>?_;simp only[cV,cX];exact qv λc5 aU aV c6=>mW (x:=m) aU u.aR.aW u.bk.aW λab aj aW bP=>bL K ad p u J (aV.R aW (dE:=[]) B) B aj
       ·refine qv λc5 aU aV c6=>?_;have aw:=K.R aV B;apply(aX aw).2;rw[b0];refine bJ aw λm o l cM ad p u J=>?_;simp only[cV,cX];have eh:=K.aI;have aY:b1.heap.size∉ci:=λf=>by have:=bE _ f;omega
        refine mW (x:=m) (aU.J p.J aY) u.aR.aW u.bk.aW λab aj aW bP=>bL aw ad p u J aW (λg e=>?_) aj;simp at e;subst e;exact⟨eh,λf=>(p.cq _ f).elim aY (λao=>A),λf=>by have:=(J _ f).1.1;omega⟩
      ·refine qv λc5 aU aV c6=>?_;have aw:=bW.R aV B;refine(aX aw).2 (aH amX (am0 (n:=(t:Nat))) ?_);rintro _ b1 ⟨rfl,aS⟩;have K:=aw.R aS B;refine(aX K).2 ((bY (apF (t:=amu (t:Nat)) (ah:=(ai:Nat)) (af:=aa.cu))).2 ?_);rw[b0];refine bJ K λm o l cM ad p u J=>?_;simp only[cV,cX];have fH:v.drew.heap.size=v.heap.size:=rfl;have fI:=aS.aI;have aY:v.drew.heap.size∉ci:=λf=>by have:=bE _ f;omega
       refine mW (x:=m) ((aU.J aS B).J p.J aY) u.aR.aW u.bk.aW λab aj aW bP=>bL K ad p u J aW (λg e=>?_) aj;simp at e;subst e;exact⟨A,λf=>(p.cq _ f).elim aY (λao=>A),λf=>by have:=(J _ f).1.1;omega⟩
     intro h fJ ei c8;rw[c2]at c8;obtain⟨R,m,cM,o,rfl,ej,ek,el,em,eo,ep⟩:=c8;try simp only[M]
     refine bT (λh a=>h=[aK U]/\ei=a) ?_ ?_
     ·try simp only[M]
      exact iY rfl ⟨by trivial,by trivial⟩
     rintro _ _ _ ⟨rfl,rfl⟩;try simp only[M]
     refine((c7.hJ ek).2.2.2.2.2.2 _).2 (((c7.hJ ej).2.2.2.2.2.2 _).2 (el.yQ cs (em.pI (ao8:=ar++o) (λg e=>by simp[e])) (eo.pI (ao8:=ar++o) (λg e=>by simp[e])) ep (by rw[di,apg,apf];omega) λdd fL ao9 eq=>?_));try simp only[M]
     rw[bq A A];refine⟨⟨ai+1,dd,cM,{y with cQ:=y.cQ+1+1},aQ+1+1,ao9,by trivial,A,?_,by show y.cQ+1+1<=_;omega,A⟩,by simp;omega⟩;rw[aoO,<-gq];exact eq
    ·obtain rfl:ai=3:=A;try simp only[M]
     rw[bq A A];exact⟨⟨t+1,aoA,d1,y,aQ,aot,by trivial,A,by rw[aoJ];exact q,A,A⟩,by simp;omega⟩
   ·obtain rfl:t=3:=A;have da:=apD D.sZ.sl.cL.1 A 3;rw[D.aoW,D.g2]at da;obtain⟨ee,db,fM,et⟩:=D.G6.cY;obtain⟨fN,fO,dc,_⟩:=id db;have fP:=apg aor lu 3;refine bT (λh a=>h=[]/\Q [] cU a) ?_ ?_
    ·try simp only[M,bi]
     refine⟨λfQ=>?_,λ_=>⟨by trivial,.b0 _ _⟩⟩;have bu:=D.ao6.resolve_left A;obtain⟨eu,ew,fR,ex⟩:=bu.cY;rw[dc];try simp only[M]
     rw[<-dc];apply c1 (λh a=>∃j:Nat,h=[F H j]/\j<=ee.length/\Q [] cU a) (λh _=>match h with|[F _ j]=>ee.length-j.toNat|_=>0) ⟨0,rfl,A,.b0 _ _⟩;rintro _ _ a8 ⟨j,rfl,ey,bd⟩;try simp only[M,bi]
     refine⟨λez=>?_,λez=>⟨by trivial,bd⟩⟩;have be:j<ee.length:=A;have de:j<eu.length:=A;have b2:j<(aoJ aor lu 3).length:=A;have aZ:=bd.R (cD [] a8) B;refine(apy.ek db aZ be).2 ((apy.ek ew aZ de).2 ?_);have df:=(Ds _).1 (da _ (dX b2));apply aH apK (aqi ((et j be b2).V aZ) ((ex j de b2).V aZ) (by have:=df.1.gj.1;omega) (by have:=df.1.dY.1;omega));rintro _ bB ⟨rfl,bC⟩;try simp only[M]
     apply iY rfl;try simp only[M]
     rw[bq A A];exact⟨⟨j+1,by trivial,A,aZ.R bC B⟩,by simp;omega⟩
    rintro _ _ a8 ⟨rfl,bd⟩;have q:=D.V bd;clear D;have dg:=q.G6;have dh:aoC w a8 s bw (ah::b8::(aot++[])) c L aO aq q8:=q.sZ.pI λg e=>Y (by simp at e⊢;rcases e with e|e|e<;>simp[e]);have dj:bR [ah,b8] aot:=λg e f=>q.lk g e (by simp[f]);have dk:=q.ao5;have eC:=q.aoW;have eD:=q.g2;clear q;apply c1 (λh a=>∃(j:Nat)(az:List Nat)(dK:List (Int×Bool))(qG:Nat->Bool),h=[F H j]/\j<=aG.length/\aoC w a s az (ah::b8::(aot++[])) c qG aO aq q8/\td a ah b8 c dK qG/\aoI a aoA (aoJ aor lu 3) aot) (λh _=>match h with|[F _ j]=>aG.length-j.toNat|_=>0) ⟨0,bw,X,L,rfl,A,dh,dk,dg⟩;rintro _ _ bB ⟨j,eE,dl,b3,rfl,ey,aB,b7,b9⟩;clear dh dk dg;refine bT (λh a=>h=[aK (decide (j<aG.length/\j<6))]/\bB=a) ?_ ?_
    ·rw[dF];try simp only[M,bi]
     refine⟨λbm=>⟨?_,by trivial⟩,λbm=>⟨?_,by trivial⟩⟩
     ·congr 2;rw[decide_eq_decide];omega
     ·rw[decide_eq_false A]
    rintro _ _ _ ⟨rfl,rfl⟩;try simp only[M,bi]
    have ca:=aB.eX;refine⟨λa3=>?_,λfU=>?_⟩
    ·have be:j<aG.length:=a3.1;refine(alN.ek (cp.V aB.qV) (Q.b0 _ _) be).2 (aH W3 (alp aB.sl b7 (ca ah B) (ca b8 B) dC.1) ?_);rintro _ v ⟨rfl,cb,eF,eG,eH,bf,ba,eI⟩;try simp only[M]
     rw[bq A A];refine⟨⟨j+1,cb,eF,eG,by trivial,A,aB.alF (bU:=[b8]) eH ba eI B,bf,b9.J ba (λg e f=>?_)⟩,by simp;omega⟩;rcases ce.1 f with rfl|f
     ·exact dj g B e
     ·exact ca g (by simp[e]) f
    ·apply tc (ay:=0) (al:=20) A A;have fV:=(q9 (n:=bh) (ay:=0) (al:=20) A).2;generalize kr bh 0 20=cc at*;have eJ:aoN 30 aq q8:=apv A;apply c1 (λh a=>∃(n:Nat)(az:List Nat)(zJ:Nat),h=[F H n]/\n<=cc/\aoC w a s az (ah::b8::(aot++[])) c b3 zJ aq q8/\td a ah b8 c dl b3/\aoI a aoA (aoJ aor lu 3) aot/\zJ+16*n<=aO+16*cc) (λh _=>match h with|[F _ n]=>n.toNat|_=>0) ⟨cc,eE,aO,rfl,A,aB,b7,b9,A⟩;rintro _ _ v ⟨n,cb,eK,rfl,fW,bg,bf,dm,fX⟩;clear aB b7 b9;have cf:=bg.eX;try simp only[M,bi]
     refine⟨λfY=>?_,λfZ=>?_⟩
     ·refine(bY UG).2 (aH C9 (ape (x:=.aoP) bg.sl eJ A A trivial .aoP) ?_);rintro _ b1 ⟨rfl,eL,eM,ch⟩;try simp only[M]
      rw[show H.wrap ((n:Int)-1)=((n-1:Nat):Int)from by rw[bq A A];omega];exact⟨⟨n-1,eL,_,by trivial,A,bg.JR eM ch,bf.J ch.J (cf ah B) (cf b8 B),dm.J ch.J (λg e=>cf g (by simp[e])),A⟩,by simp;omega⟩
     ·try simp only[M]
      rw[bq A A];exact⟨⟨aoz+1,aoA,cb,aq,q8,eK,b3,dl,aot,by trivial,A,bg,bf,Z dm,dj,eC,eD,A,A⟩,by simp;omega⟩
  ·apply aH W5 (alA ap.sl.pM);rintro _ f0 ⟨rfl,eN⟩;exact⟨rfl,ap.qV.R eN B⟩
end
end
section
open Go.ChangeShapes Go.WideShapes Go.RowKit
abbrev B3:List (String×DataW Unit):=[("unicode/utf8.acceptRanges",Rows.laid_unicode_utf8_acceptRanges),("errors.errorType",Rows.laid_errors_errorType),("unicode/utf8.first",Rows.laid_unicode_utf8_first)]
def alP:ownKnob C.godebug=I:=K
def alQ:C.globalNamed "errors.errorType"=E 0:=K
def alR:(C.cutTypes.find? (·.1== "internal/reflectlite.rtype")).map (·.2)=E 271:=K
def alS:((c9 542).filter λt=>C.rowNamed t [101,114,114,111,114])=[73]:=K
def alT:C.types.size=542:=K
def UZ:laidOutB C=G:=K
def alU{bE:aN}(h:laidMetH C B3 bE):jf bE:=by have c:laidMet C [("unicode/utf8.acceptRanges",Rows.laid_unicode_utf8_acceptRanges),("unicode/utf8.first",Rows.laid_unicode_utf8_first)] bE/\handlesMet C [("errors.errorType",Rows.laid_errors_errorType)] bE:=h;obtain⟨name,ae,d,e,f,g,i,a⟩:=c.2 _ (ku.2 rfl);have j:name=[101,114,114,111,114]:=(re e).symm;subst j;obtain rfl:=re (alR.symm.trans f);have b:d∈(c9 542).filter λt=>C.rowNamed t [101,114,114,111,114]:=ol.2 ⟨iK.2 (by rw[<-alT];exact g),i⟩;rw[alS]at b;obtain rfl:=ku.1 b;have k:typeHandle C 73=eu 73:=K;rw[k]at a;have:=World.var?_cell alQ a 0;unfold jf iF;simpa using this
def U0(l:List Nat):Array S:=(l.map λn:Nat=>F cl n).toArray
noncomputable def U1(rh:Os):aN:=
 let bv:=World.holding C rh ⟨#[],#[],[]⟩;let put:=λ(h:Array Obj)(b:Nat)(d:Array S)=>h.modify b λ
  |amv _ t a=>amv d t a
  |af=>af
 {bv with heap:=put (put (put bv.heap 0 #[eZ 271 (b6 #[aE (E ⟨4,73,I⟩)])]) ((C.globalNamed "unicode/utf8.acceptRanges").getD 0) (U0 ([128,191,160,191,128,159,144,191,128,143]++cN 22 0))) ((C.globalNamed "unicode/utf8.first").getD 0) (U0 Pinned.utf8FirstZ)}
def alV(rh:Os)(c8:Array S):laidMetH C B3 ((U1 rh).forCall (λ_ _=>0) ⟨#[],c8,[]⟩).memory:=
 laidMetH_of_parts (laidMet_of_run' 8 K K) K
end
section
open Go.RowKit Go.ChangeShapes Go.WideShapes Go.Deep
section
def Fh(ad:ft)(ar:co)(l:List (Nat×co)):Prop:=ad.underlying ar=E (.struct (ad.fieldsOf ar))/\(ad.fieldsOf ar).toList.map (λaj=>(aj.offset,aj.type))=l
def B4{l:List (Nat×co)}(ao:Fh ad ar l){ams:Type}{a:co×S->ams}{c:Nat}{bo:List S}{x:DataW ams×List MemPlace}
  (h:DataW.trod a ad w 0 (λ_=>G) G c ar bo=E x):bo.length=ad.cellsOf ar/\∀ai∈l,∃(n:Nat)(ap:DataW ams×List MemPlace),DataW.trod a ad w 0 (λ_=>G) G n ai.2 ((bo.drop ai.1).take (ad.cellsOf ai.2))=E ap:=by
 obtain⟨d,rfl⟩:=ao;obtain⟨b7,e,o,p,f,q,g⟩:=DataW.trod_struct d h;refine⟨f,λai i=>?_⟩;obtain⟨aj,k,rfl⟩:=fS.1 i;obtain⟨j,b,rfl⟩:=ns k;rw[tj]at b;have m:=g j _ (ti b);simp only[Array.getElem_toList];exact⟨e,b7[j]'A,m.trans (cr A)⟩
def uo{l:List (Nat×co)}(ao:Fh ad ar l){ams:Type}{c:co×S->ams}{d:Nat}{bo:List S}{x:DataW ams×List MemPlace}
  (h:DataW.trod c ad w 0 (λ_=>G) G d ar bo=E x) (e:(af,t)∈l) (f:ad.cellsOf t=1) (g:ad.underlying t=E (.int H)):∃n,bo[af]?=E (F H n)/\-9223372036854775808<=n/\n<=9223372036854775807:=by
 obtain⟨n,ap,a⟩:=(B4 ao h).2 _ e;rw[f]at a;obtain⟨bm,i,_,j⟩:=DataW.trod_int g a;refine⟨bm,?_,Kz j⟩;have b:((bo.drop af).take 1)[0]?=E (F H bm):=by rw[i];rfl
 rw[List.getElem?_take_of_lt A,oo]at b;exact b
end
section
def U2(ag:JI):Prop:=∀n∈[ag.aJ,ag.g2,ag.sZ,ag.hH,ag.aR,ag.bk,ag.UI],-9223372036854775808<=n/\n<=(9223372036854775807:Int)
def wF:Fh C 51 [(0,3),(1,3),(2,3),(3,3),(4,3),(5,3),(6,3)]:=⟨K,K⟩
def U3:C.cellsOf 51=7:=K
def te:C.cellsOf 3=1:=K
def tf:C.underlying 3=E (.int H):=K
def alW:zf C w 51 JJ U2:=by
 intro ams u v bo x a;have h:=(B4 wF a).1;rw[U3]at h;obtain⟨s,i,y⟩:=uo wF a (af:=0) (t:=3) B te tf;obtain⟨jb,j,z⟩:=uo wF a (af:=1) (t:=3) B te tf;obtain⟨aoy,k,A⟩:=uo wF a (af:=2) (t:=3) B te tf;obtain⟨mB,m,D⟩:=uo wF a (af:=3) (t:=3) B te tf;obtain⟨lG,o,J⟩:=uo wF a (af:=4) (t:=3) B te tf;obtain⟨m3,p,K⟩:=uo wF a (af:=5) (t:=3) B te tf;obtain⟨n6,q,L⟩:=uo wF a (af:=6) (t:=3) B te tf;clear a;obtain⟨fH,b,c,d,e,f,g,rfl⟩:∃fH b c d e f g,bo=[fH,b,c,d,e,f,g]:=by rcases bo with _|⟨fH,_|⟨b,_|⟨c,_|⟨d,_|⟨e,_|⟨f,_|⟨g,_|⟨dI,l⟩⟩⟩⟩⟩⟩⟩⟩<;>simp at h;exact⟨_,_,_,_,_,_,_,rfl⟩
 simp at i j k m o p q;subst i j k m o p q;refine⟨⟨s,jb,aoy,mB,lG,m3,n6⟩,rfl,?_⟩;intro n r;simp only[ce,List.mem_nil_iff,or_false]at r;rcases r with rfl|rfl|rfl|rfl|rfl|rfl|rfl<;>assumption
def zG:Fh C 54 [(0,3),(1,3),(2,3),(3,51),(10,52)]:=⟨K,K⟩
def U4:C.cellsOf 54=11:=K
def alX:C.cellsOf 52=1:=K
def alY:C.underlying 52=E (.slice 5):=K
def alZ:C.cellsOf 5=1:=K
def al0:C.underlying 5=E (.int cl):=K
def al1(w:aN)(ak:um):Prop:=(∀n∈[ak.aJ,ak.wC,ak.aR],-9223372036854775808<=n/\n<=(9223372036854775807:Int))/\U2 ak.eX/\∃l:List UInt8,aT w bs ak.mH l
def al2:zf C w 54 sk (al1 w):=by
 intro ams K L bo x a;have p:=(B4 zG a).1;rw[U4]at p;obtain⟨q,r,dI⟩:=uo zG a (af:=0) (t:=3) B te tf;obtain⟨jb,s,N⟩:=uo zG a (af:=1) (t:=3) B te tf;obtain⟨aoy,u,O⟩:=uo zG a (af:=2) (t:=3) B te tf;obtain⟨P,Q,b⟩:=(B4 zG a).2 (3,51) B;obtain⟨R,V,k⟩:=(B4 zG a).2 (10,52) B;rw[U3]at b;rw[alX]at k;obtain⟨ag,b,z⟩:=alW _ _ _ _ _ b;obtain⟨aa,l,v,D,_⟩:=Sk alY alZ (λ_=>rfl) A (agk al0) _ _ _ _ _ k;clear a;obtain⟨fH,m,o,d,e,f,g,h,i,j,c,rfl⟩:∃fH m o d e f g h i j c,bo=[fH,m,o,d,e,f,g,h,i,j,c]:=by rcases bo with _|⟨fH,_|⟨m,_|⟨o,_|⟨d,_|⟨e,_|⟨f,_|⟨g,_|⟨h,_|⟨i,_|⟨j,_|⟨c,_|⟨W,l⟩⟩⟩⟩⟩⟩⟩⟩⟩⟩⟩⟩<;>simp at p;exact⟨_,_,_,_,_,_,_,_,_,_,_,rfl⟩
 simp at r s u;have J:c=aa:=by simpa using v
 have b:[d,e,f,g,h,i,j]=JJ ag:=b;clear v k;subst r s u J;refine⟨⟨q,jb,aoy,ag,c⟩,?_,?_,z,l,D⟩
 ·show[F H q,F H jb,F H aoy,d,e,f,g,h,i,j,c]=_;unfold sk;rw[<-b];rfl
 ·intro n y;simp only[ce,List.mem_nil_iff,or_false]at y;rcases y with rfl|rfl|rfl<;>assumption
def al3:C.underlying 23=E (.slice 54):=K
end
end
end Go.Proofs.YtepeilglbedgdaaGreatDoor
namespace Go.Proofs.YtepeilglbedgdaaGreatDoor.topSame
open Go.X
section
open Go.ChangeShapes Go.WideShapes Go.ChangeAt Go.RowKit Go.Proofs.YtepeilglbedgdaaGreatDoor
set_option maxRecDepth 100000 in
theorem al4 (rh:Os) (u:rh.Started) (ams:Type) (be:co×S->ams):
  ReturnsInHanded {} Tryz.checked rh 8 .any (λw c8=>(Rows.topSameSpec.pre be C Tryz.f8 [] U w c8/\laidMetH C B3 w)/\sizedMet be C Tryz.f8 (OpenSpec.ofChange Rows.topSameSpec) U w c8)
   (Rows.topSameSpec.post be C Tryz.f8 U G U U):=by
 refine returnsInHanded_of_change_and (C:=Tryz.checked) (X:=λw _=>laidMetH C B3 w) (λ_ _ _ v h=>h.of_heap v) alP u K Tryz.func8
  (ChangeSpec.witness_at (enc:=be) (C:=Tryz.checked) (os:=rh) (X:=λw _=>laidMetH C B3 w) U (U1 rh) #[F H 0,F H 0,T I 0 0,T I 0 0,F H 0] 8 rfl K K K K K (alV rh _)) ?_
 intro bC y c8 z al am d f _ _ B _;have a:∀(j:Nat) t aa,Tryz.f8.params[j]?=E t->c8[j]?=E aa->Value.okWide C bC .any y t aa:=d;have D:=f;obtain⟨ah,ai,g,J,rfl,an,ao⟩:=f;have i:DataW.TrodAll be C bC 0 (λ_=>G) G Tryz.f8.params.toList c8.toList z ah:=g;rw[Tryz.params8]at i a;obtain⟨k,ap,aq,ar,U6,au,av,rfl,rfl,L,dI⟩:=trodAll_cons i;obtain⟨l,aw,ax,ay,az,aB,rfl,rfl,rfl,N,aow⟩:=trodAll_cons dI;obtain⟨m,aC,aD,aF,O,aG,rfl,rfl,rfl,n,aoE⟩:=trodAll_cons aow;obtain⟨o,aH,aI,aJ,P,aL,rfl,rfl,rfl,p,Q⟩:=trodAll_cons aoE;obtain⟨q,aM,aO,aP,aQ,aR,rfl,rfl,rfl,R,V⟩:=trodAll_cons Q;obtain⟨rfl,rfl,rfl⟩:=trodAll_nil V;obtain rfl:c8=#[k,l,m,o,q]:=by cases c8;simp_all
 obtain⟨rfl,rfl⟩:=trodVars_none J;obtain⟨fH,rfl,rfl,rfl,bv⟩:=open_int Tryz.underlying3 (a 0 3 k rfl rfl) L;obtain⟨aS,rfl,rfl,rfl,aA⟩:=open_int Tryz.underlying3 (a 1 3 l rfl rfl) N;have r:=n;have W:∀x∈O,x.block<bC.heap.size:=by obtain⟨ak,b⟩:=r;exact DataW.trod_lt ak _ _ _ b
 obtain⟨c5,ab,ac,ou⟩:=Sl al3 U4 (λ_=>rfl) A al2 (a 2 23 m rfl rfl) n;have s:=p;have ad:∀x∈P,x.block<bC.heap.size:=by obtain⟨ak,b⟩:=s;exact DataW.trod_lt ak _ _ _ b
 obtain⟨da,ae,aT,aU⟩:=Sl al3 U4 (λ_=>rfl) A al2 (a 3 23 o rfl rfl) p;obtain⟨aV,rfl,rfl,rfl,af⟩:=open_int Tryz.underlying3 (a 4 3 q rfl rfl) R;have ag:=alU B;clear g d;refine(Go.X.a0.Vv (aqn ag ab (λak b=>(ac ak b).2.2) ae)).mono λe aW⟨aj,c⟩=>?_;subst aj;exact⟨_,rfl,_,_,_,[],_,[],D,trodAll_mk1 (shut_bool Tryz.underlying4 _),(trodAll_cons_mk (shut_int Tryz.underlying3 bv) (trodAll_cons_mk (shut_int Tryz.underlying3 aA) (trodAll_cons_mk (Below.trod UZ K (of_decide_eq_true K) r c W) (trodAll_cons_mk (Below.trod UZ K (of_decide_eq_true K) s c ad) (trodAll_cons_mk (shut_int Tryz.underlying3 af) trodAll_mk0))))),rfl,c.frame _,λh=>by cases h⟩
theorem jl{d b:Bool}(h:d=G)(k:b=G):(d&&b)=G:=by rw[h,k];rfl
theorem U5:Tryz.pinned.checked.prog.funcNamed Rows.topSameRow.func=E 8:=K
theorem inst:Tryz.f8.isInstance Tryz.pinned.checked.prog Rows.topSameRow.origin Rows.topSameRow.targs:=of_decide_eq_true K
theorem al5:Tryz.f8.isWrapper Tryz.pinned.checked.prog Rows.topSameRow.wrapper Rows.topSameRow.mainSum:=by unfold Func.isWrapper;first|(rw[if_pos (by decide+kernel)];kernel_rfl)|(rw[if_neg (by decide+kernel)];exact⟨rfl,rfl⟩)
set_option maxHeartbeats 8000000 in
theorem al6:joinedFacts Tryz.pinned.checked.prog 8 Tryz.f8 Rows.topSameSpec Rows.topSameRow=G:=by unfold joinedFacts;refine jl (jl (jl (jl (jl (jl (jl (jl (jl (jl (jl (jl (jl (jl (jl (jl (jl (jl (jl (jl (jl (jl (jl (jl (jl (jl (jl (jl (jl (jl (jl ?_ ?_) ?_) ?_) ?_) ?_) ?_) ?_) ?_) ?_) ?_) ?_) ?_) ?_) ?_) ?_) ?_) ?_) ?_) ?_) ?_) ?_) ?_) ?_) ?_) ?_) ?_) ?_) ?_) ?_) ?_) ?_;all_goals decide+kernel
theorem aqo:Rows.topSameRow.holds Tryz.pinned (OpenSpec.ofChange Rows.topSameSpec):=
 OpenClaim.holds_of_wide 8 Tryz.f8 rfl rfl rfl rfl rfl rfl rfl ⟨rfl,rfl,rfl,rfl,rfl⟩ rfl rfl rfl rfl rfl U5 Tryz.func8 al6
  inst al5
  (λrh a ams be _=>al4 rh a ams be)
theorem al8:U=Rows.topSameRow.goesBy Tryz.pinned.checked.prog:=K
theorem al9:Tryz.pinned.checked.prog.mainIs=E (G,((G, "0cb66b075be2326e287ec28bf4f90176a22813707f997a64b32bd5491fbd1b1a")).2.toList):=K
theorem ama:G=Tryz.pinned.checked.prog.looks []:=K
theorem amb:Tryz.f8.params.all (λt=>!C.wantsStandIn t)=G:=K
theorem proved:Rows.TopSameCardSaid:=
 Claim7.holds_tied_plain_at .later [] [.data,.handle,.pinned] G (G, "0cb66b075be2326e287ec28bf4f90176a22813707f997a64b32bd5491fbd1b1a") G
  aqo (λ_ h=>by cases h) K (λ_ h=>by cases h) topSame_row_tie rfl ⟨rfl,rfl⟩ al9 rfl
  (λaj gr a b=>by
   obtain rfl:aj=8:=re (U5.symm.trans a)|>.symm;obtain rfl:gr=Tryz.f8:=(re (Tryz.func8.symm.trans b)).symm;exact⟨ama,λj t c=>by
    have d:=Array.all_eq_true_iff_forall_mem.1 amb t (Array.mem_of_getElem? c);have e:C.wantsStandIn t=U:=by simpa using d
    exact e⟩)
  al8
end
end Go.Proofs.YtepeilglbedgdaaGreatDoor.topSame
