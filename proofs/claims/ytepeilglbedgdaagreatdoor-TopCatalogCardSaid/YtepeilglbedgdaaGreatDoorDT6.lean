import Derived.Test.YtepeilglbedgdaaGreatDoorCards
import Derived.Test.YtepeilglbedgdaaGreatDoorTie
import Derived.ChangeVars
import Derived.JoinedOf
import Derived.RowKit
import Derived.RowKitTokens
import Derived.LaidLaws
import Derived.LaidHandle
import Derived.Stop.Joined
import Derived.SevenTiedAt
import GoSem.PinnedTables
import Derived.OpenShut
import Derived.ShutString
import Derived.ChangeOld
import Derived.Test.YtepeilglbedgdaaGreatDoorDT5
/- A part of the proof of this claim: it states and proves what the walk through the program uses. Its names are short ones that a program gave. The last part proves the card: for every input the call returns true, and each argument reads behind the call as it read before. -/
set_option linter.defProp false
set_option linter.all false
set_option maxRecDepth 100000
set_option maxHeartbeats 2000000
open Array renaming getElem?_eq_getElem->ti,length_toList->tj
open Bool renaming and_eq_true->dA,false->U,false_eq_true->fc,not_false->lE,true->G,true_and->pV
open ByteArray renaming mk->eS
open Except renaming error->b5,ok->bA
open Go renaming Addr->es,Program->ft,TypeId->co,Value->S,World->aN,maxLen->d0,undef->bS
open Go.Ending renaming returned->gd
open Go.IntKind renaming i64->H,u32->hS,u8->cl
open Go.Obj renaming cells->amv
open Go.Proofs.Tryz renaming prog->C
open Go.Value renaming agg->b6,bool->aK,cells->bF,iface->eZ,int->F,map->eB,pointer->aE,slice->T,string->bO,tuple->bQ
open Int renaming eq_ofNat_of_zero_le->nL,toNat_natCast->hf
open List renaming cons_append->jN,drop_eq_getElem_cons->ot,flatMap_cons->iA,getElem?_drop->oo,getElem?_eq_getElem->cr,getElem_of_mem->ns,length_append->di,length_map->dU,length_singleton->nt,mem_append->b4,mem_cons->ce,mem_filter->ol,mem_map->fS,mem_range->iK,mem_singleton->ku,nil_append->m2,range->c9,replicate->cN
open Nat renaming le_refl->fF,le_trans->gz,lt_of_lt_of_le->iL
open Option renaming bind_some->tg,getD_some->om,isSome_some->vu,map_some->m1,none->I,some->E
open Option.some renaming inj->re
open Or renaming inl->Y,inr->Z
open Go
namespace Go.Proofs.YtepeilglbedgdaaGreatDoor
open Go.X
attribute[local irreducible]Go.X.W
variable{a ax bv w:aN}{af ag ah ak amt b b8 bu e9 i j jP k n rg s t zJ:Nat}{dN qG:Nat -> Bool}{aO am az bU:List Nat}{aa b1 bc cA cB:S}{ac:S -> aN -> Prop}{ad:ft}{an dO:cK}{fz:kQ}{ar:co}{c:dR}{d:dl}{dm:List ByteArray}{l:List UInt8}{gY:Int}{ri:List er}
section
open Go.RowKit fC gO
structure JI where
 aJ:Int
 g2:Int
 sZ:Int
 hH:Int
 aR:Int
 bk:Int
 UI:Int
def JJ(ag:JI):List S:=[F H ag.aJ,F H ag.g2,F H ag.sZ,F H ag.hH,F H ag.aR,F H ag.bk,F H ag.UI]
structure um where
 aJ:Int
 wC:Int
 aR:Int
 eX:JI
 mH:S
def sk(ak:um):List S:=[F H ak.aJ,F H ak.wC,F H ak.aR]++(JJ ak.eX++[ak.mH])
def alh(ak:um):(sk ak).length=11:=rfl
def xR(ak:um):S:=b6 (sk ak).toArray
def Fa(k:Int)(ag:Nat):vn:=⟨k,0,ag,0,0,0,T I 0 0,T I 0 0⟩
def UJ(ag s d x:Nat):vn:=⟨9,0,ag,s,d,x,T I 0 0,T I 0 0⟩
def qy(ak:um)(n rg:Nat):vn:=if kr ak.aJ 0 3=0 then Fa 7 (kr ak.wC 0 (n-1))else if kr ak.aJ 0 3=1 then Fa 8 (kr ak.wC 0 (n-1))else UJ (kr ak.wC 0 (n-1)) (kr ak.aR 0 (rg-1)) (kr ak.aR 0 100) (1+kr ak.aR 0 999)
section
variable{ak:um}{x ap:vn}
def ali(b:x.sM.oneCell'=G)(c:x.ch.oneCell'=G):∀ae∈mY x,ae.oneCell'=G:=by intro ae a;simp[mY]at a;rcases a with rfl|rfl|rfl|rfl|rfl|rfl|rfl|rfl<;>first|rfl|exact b|exact c
def JK:vn:=⟨0,0,0,0,0,0,T I 0 0,T I 0 0⟩
def Fb(k:∀a,aC a w.heap.size 59 (mY JK)->Q [] w a->a.heap.size=w.heap.size+1->ac (aP w.heap.size) a):W C (hV 59) w ac:=by
 have b:du C 59 (lm JK):=by unfold du;kernel_rfl
 exact gI b λa c d b=>k a (by simpa[lm,bF]using c) d b
def Fc{l:List S}(h:aC w jP ar l)(b:l.length=8)(c:x.sM.oneCell'=G)(d:x.ch.oneCell'=G)(k:∀a,aC a jP ar (mY x)->Q [jP] w a->a.heap.size=w.heap.size->ac bS a):W C (dC 59 (aE (E ⟨jP,0,I⟩)) (lm x)) w ac:=
 f0 (cv:=[]) (c5:=l) (da:=[]) Wp (by simpa using h) rfl b (by simp[lm,bF,mY]) (by simpa[lm,bF]using ali c d) λa e f g=>k a (by simpa[lm,bF]using e) f g
def UK{ac:S->Prop}(h:aC w jP 59 (mY x)):aZ C (a4 59 (aE (E ⟨jP,0,I⟩))) w ac↔ac (lm x):=gC Wo h.cy
def UL(h:aC w jP ar (sk ak)):(∀ac,aZ C (a4 3 (aE (E ⟨jP,0,I⟩))) w ac↔ac (F H ak.aJ))/\(∀ac,aZ C (a4 3 (aE (E ⟨jP,1,I⟩))) w ac↔ac (F H ak.wC))/\(∀ac,aZ C (a4 3 (aE (E ⟨jP,2,I⟩))) w ac↔ac (F H ak.aR)):=
 ⟨λ_=>bl bZ (h.bh (af:=0)),λ_=>bl bZ (h.bh (af:=1)),λ_=>bl bZ (h.bh (af:=2))⟩
def UM{k n:Int}:C.built 59 #[(0,F H k),(2,F H n)].toList=E (mY ⟨k,0,n,0,0,0,T I 0 0,T I 0 0⟩).toArray:=K
def alj{n s d x:Int}:C.built 59 #[(0,F H 9),(2,F H n),(3,F H s),(4,F H d),(5,F hS x)].toList=E (mY ⟨9,0,n,s,d,x,T I 0 0,T I 0 0⟩).toArray:=K
def JL(R:1<=n)(V:n<=100)(ao:1<=rg)(X:rg<=200):a0 C 38 #[xR ak,F H n,F H rg] w λae a=>ae=lm (qy ak n rg)/\Q [] w a:=by
 refine a9 Mn 3 Tryz.func38 K rfl λa1 p=>?_;simp+decide (maxSteps:=9999999)only[↓a8,ba,Mn,Tryz.f38];subst p;refine eA λaA d q aa=>?_;have d:aC aA w.heap.size 54 (sk ak):=by simpa[xR,bF]using d
 refine Fb λax e j ac=>?_;have f:=q.R j B;have h:=d.J j B;obtain⟨k,l,m⟩:=UL h;try simp only[M,N,O,P,l]
 rw[show H.wrap ((n:Int)-1)=((n-1:Nat):Int)from by rw[bq A A];omega];refine tc (ay:=0) (al:=n-1) A A ?_;try simp only[M,N,O,P,k]
 refine tc (ay:=0) (al:=3) A A ?_;have eg:∀{b:aN}(x:vn),x.sM=T I 0 0->x.ch=T I 0 0->Q [] w b->aC b aA.heap.size 59 (mY JK)->qy ak n rg=x->
   W C (dC 59 (aP aA.heap.size) (lm x)) b λ_ i=>aZ C (a4 59 (aP aA.heap.size)) i λab=>o5 (λae a=>ae=lm (qy ak n rg)/\Q [] w a) (gd ab) i:=by
  intro b x r s t u v;refine Fc (x:=x) u rfl (by rw[r];rfl) (by rw[s];rfl) λi y z ad=>?_;refine(UK y).2 ?_;rw[v];exact⟨rfl,t.R z (λg D=>Z (by simp at D;omega))⟩
 try simp only[M,N,O,P,bi]
 refine⟨λJ=>?_,λJ=>⟨λL=>?_,λL=>?_⟩⟩
 ·refine(bY UM).2 ?_;exact eg (Fa 7 _) rfl rfl f e (by unfold qy;rw[if_pos A])
 ·refine(bY UM).2 ?_;exact eg (Fa 8 _) rfl rfl f e (by unfold qy;rw[if_neg A,if_pos A])
 ·have c:=cD [] ax;obtain⟨k,l,m⟩:=UL (h.J c B);try simp only[M,N,O,P,m]
  rw[show H.wrap ((rg:Int)-1)=((rg-1:Nat):Int)from by rw[bq A A];omega];refine tc (ay:=0) (al:=rg-1) A A ?_;have aX:∀{aO:Prop},(gu C (a4 3 (aE (E ⟨w.heap.size,2,I⟩))) (F H ak.aR) ax.drew aO↔aO):=dz bZ ((h.J c B).bh (af:=2));refine aX.2 (aX.2 ?_);refine tc (ay:=0) (al:=100) A A ?_;refine aX.2 ?_;refine tc (ay:=0) (al:=999) A A ?_;have ag:=(q9 (n:=ak.aR) (ay:=0) (al:=999) A).2;refine(fv kd Lp).2 ?_;try simp only[M,N,O,P]
  have o:∀bm:Int,hS.wrap bm=bm%4294967296:=λ_=>rfl
  rw[show hS.wrap (1+hS.wrap ((kr ak.aR 0 999:Nat):Int))=((1+kr ak.aR 0 999:Nat):Int)from by rw[o,o];omega];refine(bY alj).2 ?_;exact eg (UJ _ _ _ _) rfl rfl (f.R c B) (e.J c B) (by unfold qy;rw[if_neg A,if_neg A])
end
section
variable{ak:um}{l:List (Int×Bool)}
def rb(dN:Nat->Bool)(ag e:Nat):Bool:=dN e||decide (e=ag)
def ln(ak:um)(c:dR):Nat:=kr ak.wC 0 (c.aR-1)
def UN(a:c.bp):ln ak c<c.aR:=by have:=(q9 (n:=ak.wC) (ay:=0) (al:=c.aR-1) A).2;have:=a.nj;unfold ln;omega
def alk(h:kq w s am c dN bu an ri)(q:c.aJ<=bV (λe=>!rb dN (ln ak c) e) c.aR):a0 C 15 #[aP s,lm (qy ak c.aR c.e6)] w λae a=>∃az,kq a s az c (rb dN (ln ak c)) bu an ri/\bX am az w a:=by
 obtain⟨K,D⟩:=h.cL;have u:=UN (ak:=ak) D;have L:=h;obtain⟨⟨b,ci,d6,bo,ab,au,aB,ay,ai,aQ,v,x,rfl,J,y⟩,M⟩:=h;have r:∀e,e<c.aR->rb dN (ln ak c) e=U->e≠ln ak c/\aB e=U/\∀t,ay e t=G:=λe d f=>by unfold rb at f;rw[Bool.or_eq_false_iff,decide_eq_false_iff_not]at f;exact⟨f.2,J e d f.1⟩
 have z:∀g:Nat->Bool,(∀e,e<c.aR->e≠ln ak c->aB e=U->g e=G)->c.aJ<=bV g c.aR:=λg k=>gz q (r4 λe d f=>by
  obtain⟨j,l,m⟩:=r e d (by simpa using f);exact k e d j l)
 have N:1<=c.e6:=by unfold dR.e6;omega
 have O:=(q9 (n:=ak.aR) (ay:=0) (al:=c.e6-1) A).2;have P:=(q9 (n:=ak.aR) (ay:=0) (al:=100) A).2;have Q:=(q9 (n:=ak.aR) (ay:=0) (al:=999) A).2;unfold qy;split
 ·refine(akH (i:=ln ak c) v u (z _ λe d B o=>by simp[B,o])).bw ?_;rintro ae a ⟨_,eT,p,k⟩;exact⟨_,⟨⟨b,eT,d6,bo,ab,au,_,_,ai,aQ,p,x,rfl,λe d f=>by
   obtain⟨j,l,m⟩:=r e d f;exact⟨by simp[j,l],λt=>by simp[o4,j,m t]⟩,y⟩,q⟩,k.xQ⟩
 ·split
  ·refine(akI (i:=ln ak c) v u (z _ λe d B o=>by simp[o])).bw ?_;rintro ae a ⟨_,eT,p,k⟩;exact⟨_,⟨⟨b,eT,d6,bo,ab,au,_,_,ai,aQ,p,x,rfl,λe d f=>by
    obtain⟨j,l,m⟩:=r e d f;exact⟨by simp[l],λt=>by simp[o4,j,m t]⟩,y⟩,q⟩,k.xQ⟩
  ·refine(akJ (i:=ln ak c) v u A A A A (z _ λe d B o=>by simp[o])).bw ?_;rintro ae a ⟨_,eT,p,k⟩;exact⟨_,⟨⟨b,eT,d6,bo,ab,au,_,_,ai,aQ,p,x,rfl,λe d f=>by
    obtain⟨j,l,m⟩:=r e d f;exact⟨l,λt=>by simp[sj,j,m t]⟩,y⟩,q⟩,k.xQ⟩
end
structure td(w:aN)(ah b8:Nat)(c:dR)(l:List (Int×Bool))(dN:Nat->Bool):Prop where
 bg:aC w ah 32 (en c++[eB (E b8)])
 gk:kb w b8 (λb:Bool=>aK b) l
 g1:ah≠b8
 a7:∀ag:Nat,ag<c.aR->fq l ag=if dN ag then E G else I
 a3:bV dN c.aR<=l.length
 hm:l.length+c.aJ<=c.aR
section
variable{aj:Nat->Bool}{ak:um}{l:List (Int×Bool)}
def UO:∀n:Nat,bV aj n+bV (λag=>!aj ag) n=n
 |0=>rfl
 |n+1=>by rw[uX,uX];have:=UO n;cases aj n<;>simp<;>omega
def UP:∀n:Nat,bV (rb dN ag) n<=bV dN n+if ag<n then 1 else 0
 |0=>by simp[bV]
 |n+1=>by
  rw[uX,uX];have:=UP n;have a:(if rb dN ag n=G then 1 else 0)<=(if dN n=G then 1 else 0)+(if n=ag then 1 else 0):=by unfold rb;cases dN n<;>by_cases h:n=ag<;>simp[h]
  have b:(if n=ag then 1 else 0)+(if ag<n then 1 else 0)<=(if ag<n+1 then 1 else 0):=by split<;>split<;>split<;>omega
  omega
def td.J(h:td w ah b8 c l dN)(b:Q bU w a)(d:ah∉bU)(e:b8∉bU):td a ah b8 c l dN:=⟨h.bg.J b d,h.gk.J b e,h.g1,h.a7,h.a3,h.hm⟩
def td.V(h:td w ah b8 c l dN)(b:Q [] w a):td a ah b8 c l dN:=h.J b B B
def alm:(qy ak c.aR rg).aR=(ln ak c:Nat):=by
 unfold qy ln;split
 ·rfl
 ·split<;>rfl
def aln:(qy ak c.aR rg).sM=T I 0 0/\(qy ak c.aR rg).ch=T I 0 0:=by
 unfold qy;split
 ·exact⟨rfl,rfl⟩
 ·split<;>exact⟨rfl,rfl⟩
def alo{ac:S->Prop}(h:aC w jP 54 (sk ak)):aZ C (a4 54 (aE (E ⟨jP,0,I⟩))) w ac↔ac (xR ak):=gC F2 h.cy
def alp(h:kq w s am c dN bu an ri)(k:td w ah b8 c l dN)(aU:ah∉am)(ay:b8∉am)(aV:0≠b8):a0 C 14 #[aP ah,aP s,xR ak] w λae a=>ae=bQ #[]/\∃az dK qG,kq a s az c qG bu an ri/\td a ah b8 c dK qG/\Q (b8::am) w a/\∀g∈az,g∈am\/w.heap.size<=g:=by
 obtain⟨bp,n⟩:=h.cL;have ab:=n.nj;have br:=n.i6;have p:1<=c.e6/\c.e6<=200:=by have:=Er n;have:=n.jZ;unfold fg at*;unfold dR.e6;omega
 have aB:=UN (ak:=ak) n;refine a9 Mh 3 Tryz.func14 K rfl λa1 aW=>?_;simp+decide (maxSteps:=9999999)only[↓a8,ba,Mh,Tryz.f14];subst aW;refine eA λaA ad aX aY=>?_;have ad:aC aA w.heap.size 54 (sk ak):=by simpa[xR,bF]using ad
 generalize q:qy ak c.aR c.e6=x;have aD:x.aR=(ln ak c:Nat):=by rw[<-q];exact alm
 have r:x.sM=T I 0 0/\x.ch=T I 0 0:=by rw[<-q];exact aln
 refine bT (λai a=>∃jP,ai=[aP jP]/\aC a jP 59 (mY x)/\w.heap.size<=jP/\Q [] w a) ?_ ?_
 ·have aF:=cD [] aA;have D:=aX.R aF B;have J:∀{ax:aN},Q [] aA.drew ax->aC ax ah 32 (en c++[eB (E b8)]):=λi=>k.bg.J (D.R i B) B;have u:∀{ax:aN},Q [] aA.drew ax->aC ax w.heap.size 54 (sk ak):=λi=>ad.J (aF.R i B) B;have a2:∀{ax:aN}{ac:S->Prop},Q [] aA.drew ax->(aZ C (a4 25 (aE (E ⟨ah,0,I⟩))) ax ac↔ac (fQ c)):=λi=>gC (l:=en c) ye (by have:=(J i).cy.d1 0 5;simpa[en]using this);have L:∀{ax:aN}{aO:Prop},Q [] aA.drew ax->(gu C (a4 3 (aE (E ⟨ah,2,I⟩))) (F H c.aR) ax aO↔aO):=λi=>dz bZ ((J i).bh (af:=2));have a3:∀{ax:aN}{aO:Prop},Q [] aA.drew ax->(gu C (a4 25 (aE (E ⟨ah,0,I⟩))) (fQ c) ax aO↔aO):=λi=>mE (l:=en c) ye (by have:=(J i).cy.d1 0 5;simpa[en]using this);have R:∀{ax:aN}{aO:Prop},Q [] aA.drew ax->(gu C (a4 54 (aE (E ⟨w.heap.size,0,I⟩))) (xR ak) ax aO↔aO):=λi=>mE (l:=sk ak) F2 (u i).cy;try simp only[M,N,O,P]
  refine(alo (u (.b0 _ _))).2 ?_;refine(bl (aa:=F H c.aR) bZ ((J (.b0 _ _)).bh (af:=2))).2 ?_;try simp only[M,N,O,P]
  refine(a2 (.b0 _ _)).2 ?_;have bs:aA.drew.heap.size=w.heap.size+1:=aY;refine⟨?_,?_⟩
  ·refine aH Gg (JG n) ?_;rintro _ ax ⟨rfl,d⟩;refine(L d).2 ((R d).2 ⟨?_,?_⟩)
   ·refine aH Gh (JL ab A p.1 p.2) ?_;rintro _ V ⟨rfl,f⟩;rw[q];refine Fb λal v o aG=>?_;refine Fc (x:=x) v rfl (by rw[r.1];rfl) (by rw[r.2];rfl) λaI y z aJ=>?_;have aL:=d.R f B;have a5:=aL.aI;exact⟨_,rfl,y,A,((D.R aL B).R o B).R z (λg b=>Z (by simp at b;omega))⟩
   ·refine Fb λal v o aG=>?_;have ao:=d.R o B;refine(L ao).2 ((R ao).2 ?_);refine aH Gh (JL ab A p.1 p.2) ?_;rintro _ V ⟨rfl,f⟩;rw[q];refine Fc (x:=x) (v.J f B) rfl (by rw[r.1];rfl) (by rw[r.2];rfl) λaI y z aJ=>?_;have bt:=d.aI;exact⟨_,rfl,y,A,((D.R ao B).R f B).R z (λg b=>Z (by simp at b;omega))⟩
  ·refine Fb λal v o aG=>?_;refine(a3 o).2 ((L o).2 ((R o).2 ?_));refine aH Gg (JG n) ?_;rintro _ ax ⟨rfl,d⟩;have ap:=o.R d B;refine(L ap).2 ((R ap).2 ?_);refine aH Gh (JL ab A p.1 p.2) ?_;rintro _ V ⟨rfl,f⟩;rw[q];refine Fc (x:=x) ((v.J d B).J f B) rfl (by rw[r.1];rfl) (by rw[r.2];rfl) λaI y z aJ=>?_;exact⟨_,rfl,y,A,((D.R ap B).R f B).R z (λg b=>Z (by simp at b;omega))⟩
 rintro _ _ ax ⟨jP,rfl,aq,bv,d⟩;have ar:=k.V d;have aM:=h.V d;have j:=cD [] ax;have aQ:=k.a7 _ aB;have bw:=k.hm;have bx:=k.a3;have bz:ah<w.heap.size:=k.bg.aL;have bB:b8<w.heap.size:=k.gk.aL;have bC:=h.aL;refine bT (λai a=>ai=[aK (!dN (ln ak c)&&decide (c.aR-c.aJ<=l.length))]/\ax.drew=a) ?_ ?_
 ·have m:=ar.V j;try simp only[M,N,O,P]
  refine(bl (aa:=eB (E b8)) CO (m.bg.bh (af:=5))).2 ?_;obtain⟨a6,a7,au,bb,bc,bd,be,bf⟩:=vo (bD aq);try simp only[M,N,O,P,au]
  rw[aD];refine(FI vO m.gk (bm:=aK U) (by unfold du;kernel_rfl)).2 ?_;rw[aQ];cases av:dN (ln ak c)with
  |true=>
   simp only[if_true,m1,om];try simp only[M,N,O,P]
   refine iY rfl ?_;exact⟨B,by trivial⟩
  |false=>
   simp only[fc,if_false,Option.map_none,Option.getD_none];try simp only[M,N,O,P]
   refine q6 rfl ?_;refine(bl (aa:=eB (E b8)) CO (m.bg.bh (af:=5))).2 ?_;refine(VJ vO m.gk).2 ?_;try simp only[M,N,O,P]
   refine(bl (aa:=F H c.aR) bZ (m.bg.bh (af:=2))).2 ?_;try simp only[M,N,O,P]
   refine(bl (aa:=F H c.aJ) bZ (m.bg.bh (af:=1))).2 ?_;try simp only[M,N,O,P]
   rw[bq A A];refine⟨?_,by trivial⟩;congr 2;simp only[lE,pV,decide_eq_decide];have:=n.jY;omega
 rintro _ _ _ ⟨rfl,rfl⟩;try simp only[M,N,O,P]
 refine cG.2 ⟨λW=>?_,λW=>?_⟩
 ·refine⟨rfl,am,l,dN,aM.V j,ar.V j,((d.R j B).bw B),λg b=>Y b⟩
 ·have j:=j.R (cD [] ax.drew) B;have m:=ar.V j;try simp only[M,N,O,P]
  refine(bl (aa:=eB (E b8)) CO (m.bg.bh (af:=5))).2 ?_;obtain⟨a6,a7,au,bb,bc,bd,be,bf⟩:=vo (aq.J j B);try simp only[M,N,O,P,au]
  rw[aD];refine Ab vO m.gk rfl λV bg f a5=>?_;have bh:jP∉[b8]:=by simp;omega
  refine(UK ((aq.J j B).J f bh)).2 ?_;have aR:=d.R j B;have bi:=(aM.V j).J f (λg b u=>ay (by simp at u;exact u▸b)) (by simpa using aV);have aS:bV (rb dN (ln ak c)) c.aR<=(ka l (ln ak c:Nat) G).length/\(ka l (ln ak c:Nat) G).length+c.aJ<=c.aR:=by
   rw[VI,aQ];cases av:dN (ln ak c)with
   |true=>
    have:bV (rb dN (ln ak c)) c.aR<=bV dN c.aR:=r4 λe aw t=>by
     unfold rb at t;rcases Bool.or_eq_true_iff.1 t with t|t
     ·exact t
     ·rw[of_decide_eq_true t];exact av
    simp only[if_true,vu];omega
   |false=>
    have:=UP (dN:=dN) (ag:=ln ak c) c.aR;rw[if_pos aB]at this;rw[av]at W;simp at W;have:=n.jY;simp;omega
  have bj:c.aJ<=bV (λe=>!rb dN (ln ak c) e) c.aR:=by have:=UO (aj:=rb dN (ln ak c)) c.aR;omega
  rw[<-q];refine aH C9 (alk bi bj) ?_;rintro ae al ⟨bk,bn,X⟩;have bE:w.heap.size<=V.heap.size:=by have:=aR.aI;have:=f.aI;omega
  refine⟨rfl,bk,_,_,bn,⟨(m.bg.J f (by simpa using k.g1)).J X.J aU,bg.J X.J ay,k.g1,λaT bo=>?_,aS.1,aS.2⟩,((aR.bw B).R f (λg b=>Y (by simp at b;simp[b]))).R X.J (λg b=>Y (by simp[b])),λg b=>(X.cq g b).imp id (λW=>A)⟩
  ·rw[x8,k.a7 aT bo];unfold rb;by_cases aw:aT=ln ak c
   ·subst aw;simp
   ·rw[if_neg A,decide_eq_false aw,Bool.or_false]
end
def zD(first:Int)(bc cA:S):List S:=[F H first,bc,cA]
section
variable{first af:Int}{ad:dn}{b:cw}
def alq:eH C 35 70 2 X.hX qP:=eH.rx C2 yh CK F3
def JM(l:List UInt8):eO (h7 l)=l:=by simp[eO,h7]
def alr{dK:List UInt8}(h:h7 l=h7 dK):l=dK:=by rw[<-JM l,h,JM]
def xM.fO(n:xM ad first dm af){aQ:Int}(al:i<ad.dY.length)(o:0<i->zu first dm aQ (ad.dY.drop i)):
  ∃(d:Int)(b:cw),ad.dY[i].1=d/\first<=d/\b.bt=G/\ad.dY[i].2=h7 b.ch/\d+b.a7.length<=first+dm.length/\b.a7=wx dm first d b.a7.length/\zu first dm (d+b.a7.length) (ad.dY.drop (i+1))/\(0<i->d=aQ)/\(i=0->d<=af/\af<d+b.a7.length):=by
 have p:=n.yL;generalize ad.dY=aw at*;cases i with
 |zero=>
  cases aw with
  |nil=>simp at al
  |cons aj l=>
   obtain⟨q,⟨_,f,b,a,c,g,j,k⟩,r,s,t,u⟩:=p aj l rfl;have v:b=r:=by have e:=alr (c.symm.trans t);have m:=xb a;rw[e,xb s]at m;cases m;rfl
   subst v;exact⟨aj.1,b,rfl,f,a,c,g,j,k,λh=>A,λ_=>⟨q,u⟩⟩
 |succ i=>
  have e:=o A;rw[ot al]at e;obtain⟨w,f,b,a,c,g,j,k⟩:=e;exact⟨aQ,b,w,f,a,c,g,j,k,λ_=>rfl,λh=>A⟩
def als(am:aC w e9 46 (zD first bc cA))(v:aT w Go.X.dV bc dm)(y:ma w fz ad)(z:xM ad first dm af)(bs:0<=first)(bt:first+dm.length<=1000000000000)(bu:ad.dY.length<=4):
  a0 C 16 #[aP e9,je fz,F H af] w λae a=>ae=aK G/\Q [] w a:=by
 refine a9 Mi 3 Tryz.func16 K rfl λa1 aJ=>?_;simp+decide (maxSteps:=9999999)only[↓a8,ba,Mi,Tryz.f16];subst aJ;refine eA λaA n an bv=>?_;have n:aC aA w.heap.size 37 (eb fz):=n;have ao:=cD [] aA;have aL:=an.R ao B;have ap:=am.J aL B;obtain⟨a1,aM,aO,D,aR,J,aS⟩:=c7.hJ (bD n);try simp only[M,N,O,P]
 refine(D _).2 ?_;refine(bl (aa:=F H first) bZ (ap.bh (af:=0))).2 ?_;try simp only[M,N,O,P]
 refine(bl (aa:=bc) mc (ap.bh (af:=1))).2 ?_;have bw:=v;obtain⟨aq,cC,aU,_⟩:=id v;subst aU;try simp only[M,N,O,P]
 rw[bq A A,y.cS,z.cS];try simp only[M,N,O,P]
 refine cG.2 ⟨λe=>(by simp at e),λ_=>?_⟩;try simp only[M,N,O,P]
 refine(J _).2 ?_;have L:=y.dY;obtain⟨bx,bz,ar,_⟩:=id L;rw[ar]at L⊢;try simp only[M,N,O,P]
 refine c1 (λc a=>∃(i:Nat)(aQ:Int),c=[F H aQ,F H i]/\i<=ad.dY.length/\(0<i->zu first dm aQ (ad.dY.drop i))/\Q [] aA a) (λc _=>match c with|[_,F _ i]=>ad.dY.length-i.toNat|_=>0) ⟨0,-1,rfl,A,λh=>A,ao⟩ ?_;rintro _ _ ax ⟨i,aQ,rfl,al,aV,R⟩;have o:=an.R R B;try simp only[M,N,O,P,bi]
 refine⟨λbB=>?_,λbC=>?_⟩
 ·have au:i<ad.dY.length:=A;refine(alq.ek (L.V o) (Q.b0 _ _) au).2 ?_;obtain⟨d,b,p,bE,av,aW,bG,aX,aY,a2,a3⟩:=z.fO au aV;generalize ad.dY[i]=aj at*;have bH:b.a7.length<=8/\1<=b.a7.length:=by have:=(cw.uR.1 (cw.vT av)).2.2.2;omega
  refine gI Aq λbI a5 a6 bJ=>?_;refine f0 (cv:=[]) (c5:=X.hX (0,cg)) (da:=[]) yh a5 rfl rfl rfl (by intro ae aw;simp[qP,X.hX,bF]at aw;rcases aw with rfl|rfl<;>rfl) λV q a7 bK=>?_;have q:aC V ax.heap.size 70 (X.hX aj):=by simpa[qP,bF]using q
  have ay:Q [] ax V:=a6.R a7 B;obtain⟨r,az,bb⟩:=c7.ue q;try simp only[M,N,O,P,az]
  rw[aW];refine Om n8 IY S4 λbL bM aB bd=>?_;rw[JM]at aB;have bP:=b.O9;refine c7.SI aB A λb1 f g _ bR be=>?_;rw[xb av]at g⊢;have g:aT f Go.X.dV b1 b.a7:=g;simp only[cV,cX];refine gI CY λbU bf bg bV=>?_;refine f0 (cv:=[]) (c5:=iS ⟨0,0,0,[]⟩ (T I 0 0)) (da:=[]) yg bf rfl rfl rfl (by simpa[jr,bF]using yy g.aW) λf3 s bh bW=>?_;have s:aC f3 f.heap.size 41 (iS b b1):=by simpa[jr,bF,c7.va]using s
  have aD:Q [] f f3:=bg.R bh B;have W:Q [] V f3:=(bd.R be B).R aD B;have ab:=q.J W B;obtain⟨r,az,bb⟩:=c7.ue ab;have aF:=g.V aD;obtain⟨bj,bk,t,_⟩:=id aF;have u:∀ac,aZ C (a4 34 (aE (E ⟨f.heap.size,3,I⟩))) f3 ac↔ac b1:=λ_=>bl mc (s.bh (af:=3))
  refine bT (λc a=>c=[aK U]/\f3=a) ?_ ?_
  ·refine(fp dk).2 ?_;refine cG.2 ⟨λe=>(by cases e),λ_=>?_⟩;try simp only[M,N,O,P,bi]
   refine⟨λbX=>?_,λaG=>?_⟩
   ·try simp only[M,N,O,P,r]
    rw[p,a2 A];try simp only[M,N,O,P]
    refine cG.2 ⟨λe=>(by simp at e),λ_=>?_⟩;exact⟨λh=>A,λ_=>⟨by trivial,by trivial⟩⟩
   ·refine⟨λaG=>?_,λh=>A⟩;obtain⟨bY,b0⟩:=a3 A;try simp only[M,N,O,P,r]
    rw[p];try simp only[M,N,O,P,bi]
    refine⟨λe=>A,λ_=>?_⟩;try simp only[M,N,O,P,r,u]
    rw[t];try simp only[M,N,O,P]
    rw[bq A A,decide_eq_false A];exact⟨by trivial,by trivial⟩
  rintro _ _ _ ⟨rfl,rfl⟩;try simp only[M,N,O,P,u]
  rw[t];try simp only[M,N,O,P]
  refine c1 (λc a=>∃k:Nat,c=[F H k]/\k<=b.a7.length/\Q [] f3 a) (λc _=>match c with|[F _ k]=>b.a7.length-k.toNat|_=>0) ⟨0,rfl,A,.b0 _ _⟩ ?_;rintro _ _ cd ⟨k,rfl,b2,m⟩;try simp only[M,N,O,P,bi]
  have ag:=m.R (cD [] cd) B;have aH:Q [] w cd.drew:=((o.R ay B).R W B).R ag B;refine⟨λb3=>?_,λb7=>?_⟩
  ·have ah:k<b.a7.length:=A;refine(BG.ek ((t▸aF:aT f3 Go.X.dV (T bj b.a7.length bk) b.a7).V m) (Q.b0 _ _) ah).2 ?_;obtain⟨ai,bm,bn⟩:=c7.ue (ab.J ag B);have ak:=am.J aH B;try simp only[M,N,O,P,ai]
   rw[p];try simp only[M,N,O,P]
   refine(bl (aa:=F H first) bZ (ak.bh (af:=0))).2 ?_;try simp only[M,N,O,P]
   rw[X.bq (x:=d+(k:Int)) A A,bq A A];obtain⟨j,bo⟩:=nL (show 0<=d+k-first by omega);rw[bo];have aI:j<dm.length:=A;have bp:dm[j]=b.a7[k]:=by have:=congrArg (λl=>l[k]?) aX;simp only[wx]at this;rw[List.getElem?_take_of_lt ah,oo,show(d-first).toNat+k=j by omega,cr ah,cr aI]at this;exact(re this).symm
   refine bT (λc a=>c=[aK U]/\cd.drew=a) ?_ ?_
   ·try simp only[M,N,O,P,bi]
    refine⟨λe=>A,λ_=>?_⟩;refine(bl (aa:=T aq dm.length cC) mc (ak.bh (af:=1))).2 ?_;try simp only[M,N,O,P,bi]
    refine⟨λe=>A,λ_=>?_⟩;refine(bl (aa:=T aq dm.length cC) mc (ak.bh (af:=1))).2 ?_;refine(BG.ek (v.V aH) (Q.b0 _ _) aI).2 ?_;refine CA.2 ?_;rw[bp];exact⟨B,by trivial⟩
   rintro _ _ _ ⟨rfl,rfl⟩;try simp only[M,N,O,P]
   rw[bq A A];exact⟨⟨k+1,by trivial,A,ag⟩,by simp;omega⟩
  ·obtain⟨ai,bm,bn⟩:=c7.ue (ab.J m B);have u:∀ac,aZ C (a4 34 (aE (E ⟨f.heap.size,3,I⟩))) cd ac↔ac b1:=λ_=>bl mc ((s.J m B).bh (af:=3))
   try simp only[M,N,O,P,ai,u]
   rw[t,p];try simp only[M,N,O,P]
   rw[bq A A,bq A A];refine⟨⟨i+1,d+b.a7.length,by trivial,A,λ_=>aY,((R.R ay B).R W B).R m B⟩,by simp;omega⟩
 ·obtain⟨a1,aM,aO,D,aR,J,aS⟩:=c7.hJ (n.J R B);try simp only[M,N,O,P]
  refine(J _).2 ?_;rw[ar];try simp only[M,N,O,P,bi]
  refine⟨λ_=>⟨by trivial,o⟩,λaG=>?_⟩;try simp only[M,N,O,P]
  refine(D _).2 ?_;have br:ad.dY=[]:=List.length_eq_zero_iff.1 A;rw[y.cS,z.t6 br];try simp only[M,N,O,P]
  exact⟨B,o⟩
end
section
def BY{ac:S->S->aN->Prop}(h:kq w s am c dN bu an q8)(j:an.cn=[])(l:an.cQ<=100000)(m:aT w Go.X.dV bc d.bk.a7)(n:qt d)(o:d.bt=G)(J:an.cx.length+1<=c.bd)(p:bu<=1000000)
  (k:∀(hs:Nat)(fz:kQ)(a:aN)(az:List Nat),kq a s az c dN (bu+1) (an.e7 c.aJ c.bd d).1 q8->bX am az w a->w.heap.size<=hs->hs∉az->aC a hs 37 (eb fz)->ma a fz (an.e7 c.aJ c.bd d).2->ac (aK G) (aP hs) a):
  W C (ck 11 #[aP s,ho d bc]) w λaa aA=>aV C (gH aa 0) λq=>aV C (gH aa 1) λr=>W C (hV 37) aA λah ax=>W C (dC 37 ah q) ax λ_ b=>ac r ah b:=by
 refine aH W0 (ak7 h j l m n o p) ?_;rintro _ aA ⟨K,bJ,rfl,⟨fz,rfl,e,L,M⟩,g,i,_⟩;simp only[cV,cX];refine qv λax t u N=>?_;refine mW (x:=fz) t e.gj.aW e.dY.aW λb v y O=>?_;have f:Q [] aA b:=u.R y B;have z:=g.aL;have A:=i.J.aI;exact k _ fz b bJ (g.V f) (i.oM f) A (λD=>by have:=z _ D;omega) v (e.V f)
def f6:ByteArray:=eS #[116]
def m0:dR:=⟨7,2,3,4,1⟩
def alt:m0.bp:=⟨by decide,by decide,by decide,by decide,by decide,by decide,by decide,by decide,by decide,by decide⟩
def wD:dl:=⟨1,1,f6,cg,0,1,0,0,0,0,fr⟩
def un:dl:=⟨2,3,f6,cg,0,0,0,0,0,0,⟨0,0,0,[eS #[112],eS #[113]]⟩⟩
def Fd:dl:=⟨3,7,f6,cg,0,0,0,1,0,0,fr⟩
def JN:wD.bt=G:=by decide+kernel
def JO:un.bt=G:=by decide+kernel
def alu:Fd.bt=G:=by decide+kernel
def alv:C.built 43 #[(0,F H 1),(1,F H 1),(2,bO (eS #[116])),(5,F H 1)].toList=E (f1 wD (T I 0 0)).toArray:=K
def alw{x:Option es}{l:Nat}:C.built 41 #[(3,T x l ak)].toList=E (iS un.bk (T x l ak)).toArray:=K
def alx{x:Option es}{l:Nat}:C.built 43 #[(0,F H 2),(1,F H 3),(2,bO (eS #[116])),(10,jr un.bk (T x l ak))].toList=E (f1 un (T x l ak)).toArray:=K
def aly:C.built 43 #[(0,F H 3),(1,F H 7),(2,bO (eS #[116])),(7,F H 1)].toList=E (f1 Fd (T I 0 0)).toArray:=K
def alz:C.built 25 #[(0,F H 7),(1,F H 2),(2,F H 3),(3,F H 4),(4,F H 1)].toList=E (en m0).toArray:=K
def vp(h:d.cI.size<=100/\d.dg.size<=100/\d.bk.a7.length<=100):qt d:=⟨A,A,A⟩
def qz(w:aN)(am:List Nat):Prop:=∀g∈am,w.heap.size<=g
def qz.de(h:qz bv am)(b:bX am az w a)(d:bv.heap.size<=w.heap.size):qz bv az:=λg c=>(b.cq g c).elim (h g) (λe=>A)
def BZ.de(h:Q [] bv w)(b:qz bv am)(c:bX am az w a):Q [] bv a:=h.R c.J (λg d=>Z (b g d))
def Fe.cW(c:bX am az w a)(d:b∉am)(f:b<w.heap.size):b∉az:=λe=>(c.cq b e).elim d (λg=>A)
def alA(J:jf w):a0 C 17 #[] w λae a=>ae=aK G/\Q [] w a:=by
 refine a9 .D 0 Tryz.func17 K rfl λa1 L=>?_;simp+decide (maxSteps:=9999999)only[↓a8,ba,Tryz.f17];subst L;refine(bY alz).2 ?_;refine aH Lq (UH alt J) ?_;rintro _ aA ⟨s,am,rfl,g,h,i⟩;refine(ru KY).2 ?_;refine cG.2 ⟨λR=>(by cases R),λ_=>?_⟩;refine(bY alv).2 ?_;have V:=g.cL.1;refine BY (d:=wD) g rfl (by decide) (aT.gW _ _) (vp (by decide)) JN (by decide) A λW aO ax cM j m aP n o p=>?_;obtain⟨q,X⟩:=T6 (an:=ra) (k:=m0.aJ) (aX:=m0.bd) (d:=wD) JN rfl rfl (by decide) (by decide) (by decide) (by decide);have r:=(EZ (k:=m0.aJ) (d:=wD) V rfl JN).2;have aQ:(ra.e7 m0.aJ m0.bd wD).1.cQ=1:=zw;have aR:(ra.e7 m0.aJ m0.bd wD).1.cx.length<=1:=zv (an:=ra);have t:qz w cM:=qz.de h m i.aI;have aa:Q [] w ax:=BZ.de i h m;rw[q]at p;clear q;generalize(ra.e7 m0.aJ m0.bd wD).1=b at*;have u:=j.cL.1;refine hw vM [bO (eS #[112]),bO (eS #[113])] rfl rfl (by intro bm v;simp at v;rcases v with rfl|rfl<;>rfl) A A λab ac c aS=>?_;have ad:aT ab Go.X.dV (T (E ⟨ax.heap.size,0,I⟩) 2 2) [eS #[112],eS #[113]]:=p3 (l:=[eS #[112],eS #[113]]) (by simpa[bF,Go.X.dV]using ac);refine(bY alw).2 ?_;refine(bY alx).2 ?_;have af:=j.V c;refine BY (d:=un) af r A ad (vp (by decide)) JO (by show _+1<=4;omega) A λaU aV ag ah x e aW ai aj y=>?_;obtain⟨z,ak⟩:=Jp (k:=m0.aJ) (d:=un) X u (by decide) JO rfl rfl (Z rfl) (by show _<4;omega) (by decide) (by decide) (by decide);have al:=(EZ (k:=m0.aJ) (d:=un) u r JO).2;have aY:(b.e7 m0.aJ m0.bd un).1.cQ=b.cQ+1:=zw;have aZ:(b.e7 m0.aJ m0.bd un).1.cx.length<=b.cx.length+1:=zv;have D:=aa.R c B;have ao:qz w ah:=qz.de t e D.aI;have ap:Q [] w ag:=BZ.de D t e;have a2:W<ax.heap.size:=o.aL;have a3:=c.aI;have aq:=(o.J c B).J e.J n;have ar:=Fe.cW e n A;rw[z]at y;clear z;generalize(b.e7 m0.aJ m0.bd un).1=a4 at*;have au:=x.cL.1;refine(bY aly).2 ?_;refine BY (d:=Fd) x al A (aT.gW _ _) (vp (by decide)) alu (by show _+1<=4;omega) A λa5 a6 av a7 bb f bc bd aw ay=>?_;obtain⟨_,_,_,_,_,_,az⟩:=T7 (k:=m0.aJ) (d:=Fd) ak au (by decide) rfl rfl (by decide) (by decide);have aB:=az.cQ (by decide);have aC:Q [] w av:=BZ.de ap ao f;have aD:=aq.J f.J ar;have aF:=aj.J f.J ai;obtain⟨_,aG,_,_,_,_,_⟩:=c7.hJ aD;obtain⟨_,_,_,aI,_,_,_⟩:=c7.hJ aF;obtain⟨_,_,_,_,_,aJ,_⟩:=c7.hJ aw;have aL:=ay.dY;obtain⟨be,bf,aM,_⟩:=id aL;try simp only[M,N,O,P]
 refine(aG _).2 ?_;rw[p.iE];try simp only[M,N,O,P]
 refine q6 (by decide) ?_;refine(aI _).2 ?_;rw[y.cS];try simp only[M,N,O,P]
 refine q6 (by decide) ?_;refine(aJ _).2 ?_;rw[aM];try simp only[M,N,O,P]
 rw[aB];exact⟨B,aC⟩
end
section
variable{t:ByteArray}{eM s B7:Int}{b:cw}{l:List ByteArray}
def fk(gY kind:Int)(t:ByteArray)(part i0 first eM:Int)(b:cw):dl:=⟨gY,kind,t,cg,part,i0,first,eM,0,0,b⟩
def JP{kind part i0 first:Int}(a:0<=gY/\gY<=4294967295)(c:i3 kind=G)(d:(fk gY kind t part i0 first eM b).c2.Dw):(fk gY kind t part i0 first eM b).bt=G:=by unfold dl.bt;rw[dA,decide_eq_true_iff];refine⟨a,?_⟩;rw[show(fk gY kind t part i0 first eM b).a5=kind from rfl,c,if_pos rfl,dA,decide_eq_true_iff];exact⟨⟨rfl,rfl⟩,eG.rE.2 d⟩
def JQ{first i0:Int}(c:jV t=G)(d:0<=gY/\gY<=4294967295)(a:1<=i0/\i0<=4)(b:0<=first/\first<=9223372036854775807):(fk gY 1 t 0 i0 first 0 fr).bt=G:=
 JP d rfl ⟨c,Y ⟨rfl,rfl,rfl,a.1,a.2,b.1,b.2,rfl,rfl⟩⟩
def alC(a:jV t=G):(fk gY 5 t 0 0 0 eM fr).c2.aI<=105:=by have:=oJ a;simp[eG.aI,fk,dl.c2];omega
def alD{i0 first:Int}(a:jV t=G):(fk gY 1 t 0 i0 first 0 fr).c2.aI<=105:=by have:=oJ a;simp[eG.aI,fk,dl.c2];omega
end
section
variable{first:Int}{l:List ByteArray}
def alG(h:kq w s am c dN bu an ri):a0 C 15 #[aP s,lm ⟨6,0,0,0,0,0,T I 0 0,T I 0 0⟩] w λae a=>ae=aK G/\∃az,kq a s az c dN bu ⟨an.cx,an.bd,[],an.cQ⟩ q8/\bX am az w a:=by obtain⟨k,f⟩:=h.cL;obtain⟨⟨b,ci,d6,bo,ab,au,aB,ay,ai,aQ,g,l,rfl,d,m⟩,e⟩:=h;refine(akG g (JF f e d)).bw ?_;rintro ae a ⟨rfl,eT,dL,i,n,j⟩;exact⟨rfl,_,⟨⟨b,eT,[],_,ab,au,aB,ay,dL,0,i,rfl,rfl,d,A⟩,e⟩,j.xQ⟩
end
section
variable{hs:Nat}{first:Int}{l:List ByteArray}{ad:dn}
def alH:C.built 32 #[(0,fQ c),(1,eB (E b8))].toList=E (en c++[eB (E b8)]).toArray:=K
def alN:eH C 23 54 11 sk xR:=eH.rx Lk Wn alh F2
def UX:∀{l:List Int}{i:Nat}(h:i<l.length),(l.flatMap Go.X.ew)[i]?=E (F H l[i])
 |x::l,0,h=>rfl
 |x::l,i+1,h=>by rw[iA,show Go.X.ew x=[F H x]from rfl,List.singleton_append,List.getElem?_cons_succ,List.getElem_cons_succ];exact UX (by simpa using h)
def UY{ac:S->Prop}{l:List Int}(h:aT w Go.X.ew aa l)(al:i<l.length)(k:∀g:es,(∀a,Q [] w a->∀ac,aZ C (a4 3 (aE (E g))) a ac↔ac (F H l[i]))->(∀a,Q [] w a->∀aO,gu C (a4 3 (aE (E g))) (F H l[i]) a aO↔aO)->ac (aE (E g))):aV C (fY 22 aa (F H i)) ac:=by
 obtain⟨d,c,rfl,o,m⟩:=h;obtain⟨b,af,rfl,n⟩:=m.resolve_left (by intro e;rw[e]at al;simp at al);refine(sB vL hl A A).2 ?_;have j:∀a,Q [] w a->a.cell? ⟨b,af+i,I⟩=E (F H l[i]):=λa f=>la (n.J f B) (UX al);refine k _ (λa f ac=>bl bZ ?_) (λa f aO=>dz bZ ?_)
 ·rw[show((i:Int).toNat*1)=i by simp];exact j a f
 ·rw[show((i:Int).toNat*1)=i by simp];exact j a f
end
section
variable{ag:JI}
def ano(n:Int):jV (amu n)=G:=by have a:=(q9 (n:=n) (ay:=0) (al:=2) A).2;unfold amu;generalize kr n 0 2=k at*;obtain rfl|rfl|rfl:k=0\/k=1\/k=2:=A;all_goals decide+kernel
def anp(n:Int):(amu n).size=1:=rfl
end
section
variable{ak:Nat->Nat×Int}{aX x:Nat}{first:Int}{t:ByteArray}
structure amx(an:cK)(ak:Nat->Nat×Int):Prop where
 ek:∀i:Nat,i<3->dv an.bd.fs (amu i)=if(ak i).1=0 then I else E (cN (ak i).1 (gM.cq (ak i).2))
 amP:∀t,(∀i:Nat,i<3->t≠amu i)->dv an.bd.fs t=I
def amD(ak:Nat->Nat×Int)(x:Nat)(aa:Nat×Int):Nat->Nat×Int:=λi=>if i=x then aa else ak i
def amw(ak:Nat->Nat×Int):Nat->List ByteArray
 |0=>[]
 |n+1=>if(ak n).1=0 then amw ak n else amw ak n++[amu n]
def am1:∀n,(amw ak n).length<=n
 |0=>fF _
 |n+1=>by
  have:=am1 n;unfold amw;split
  ·omega
  ·rw[di,nt];omega
def am2:∀n,t∈amw ak n↔∃i:Nat,i<n/\(ak i).1≠0/\t=amu i
 |0=>by simp[amw]
 |n+1=>by
  have f:=am2 n;unfold amw;split
  ·rename_i c;rw[f];constructor
   ·rintro⟨i,d,b,a⟩;exact⟨i,A,b,a⟩
   ·rintro⟨i,d,b,a⟩;refine⟨i,?_,b,a⟩;by_cases e:i=n
    ·subst e;exact absurd c b
    ·omega
  ·rename_i c;rw[b4,f,ku];constructor
   ·rintro(⟨i,d,b,a⟩|a)
    ·exact⟨i,A,b,a⟩
    ·exact⟨n,A,c,a⟩
   ·rintro⟨i,d,b,a⟩;by_cases e:i=n
    ·subst e;exact Z a
    ·exact Y ⟨i,A,b,a⟩
def anq:∀i:Nat,i<3->∀j:Nat,j<3->amu i=amu j->i=j:=by decide+kernel
def anr:(amw ak 3).Nodup/\amC (amw ak 3):=by
 unfold amC;by_cases a:(ak 0).1=0<;>by_cases b:(ak 1).1=0<;>by_cases c:(ak 2).1=0<;>
  simp only[amw,a,b,c,if_true,if_false,m2,jN]<;>decide+kernel
def amx.Kv:amx ra (λ_=>(0,0)):=⟨λi _=>rfl,λt _=>rfl⟩
def amx.G7(h:amx an ak)(f:(an.bd.fs.map (·.1)).Nodup):(an.bd.fs.map (·.1)).Perm (amw ak 3):=by
 refine Pr f anr.1 λt=>⟨λa=>?_,λa=>?_⟩
 ·have b:dv an.bd.fs t≠I:=λe=>DH.1 e a;by_cases c:∃i:Nat,i<3/\t=amu i
  ·obtain⟨i,al,rfl⟩:=c;rw[h.ek i al]at b;exact(am2 3).2 ⟨i,al,λe=>b (if_pos e),rfl⟩
  ·exact absurd (h.amP t λi al e=>c ⟨i,al,e⟩) b
 ·obtain⟨i,al,g,rfl⟩:=(am2 3).1 a;by_cases d:amu i∈an.bd.fs.map (·.1)
  ·exact d
  ·have:=DH.2 d;rw[h.ek i al,if_neg g]at this;cases this
def amx.dT(h:amx an ak)(a:an.bp aX)(b:aX<=64):an.bd.fs.length<=3:=by have:=(h.G7 (a.bd b).yF).length_eq;rw[dU]at this;have:=am1 (ak:=ak) 3;omega
def anX(h:amx an ak)(p:an.bp aX)(q:aX<=64)(f:x<3)(r:d.bt=G)(l:d.a5=1)(b:d.cI=amu x)(s:an.cx.length<aX)(u:1<=k)(ao:d.c2.aI<=105):
  (an.e7 k aX d).2.iE=(if(ak x).1=0 then 0 else 9)/\amx (an.e7 k aX d).1 (if(ak x).1=0 then amD ak x (d.ie.toNat,d.hF)else ak):=by
 have g:i3 d.a5=G:=by rw[l];rfl
 have m:=tU r g;have n:d.c2.a5=1:=l;have c:=h.ek x f;have w:=h.dT p q;have y:1<=d.ie:=by
  obtain⟨_,h|h|h|h|h⟩:=eG.rE.1 m
  ·exact h.2.2.2.1
  all_goals omega
 by_cases a:(ak x).1=0
 ·rw[if_pos a]at c;have j:an.bd.h9 d.c2 an.cx.length 0=bA (⟨hb an.bd.fs d.cI (cN d.ie.toNat (gM.cq d.hF)),an.bd.kA⟩,i4):=by unfold c3.h9;rw[if_pos n];unfold c3.xe;show le (if(dv an.bd.fs d.cI).isSome=G then _ else _)=_;rw[show dv an.bd.fs d.cI=I from by rw[b];exact c,if_neg B,if_neg A];rfl
  rw[BR g,Jn m ao u s j rfl,if_pos a,if_pos a];refine⟨rfl,λi al=>?_,λt o=>?_⟩
  ·show dv (hb an.bd.fs d.cI _) (amu i)=_;rw[DJ,b];unfold amD;by_cases e:i=x
   ·subst e;rw[if_pos rfl,if_pos rfl,if_neg (by simp only;omega)]
   ·rw[if_neg (λgh=>e (anq _ al _ f gh.symm)),if_neg e];exact h.ek i al
  ·show dv (hb an.bd.fs d.cI _) t=I;rw[DJ,b,if_neg (λe=>o x f e.symm)];exact h.amP t o
 ·rw[if_neg a]at c;have j:an.bd.h9 d.c2 an.cx.length 0=b5 9:=by unfold c3.h9;rw[if_pos n];unfold c3.xe;show le (if(dv an.bd.fs d.cI).isSome=G then _ else _)=_;rw[b,c,if_pos (by rfl)];rfl
  have v:an.ll k aX d=(an,ki d 9):=by unfold cK.ll;rw[j]
  rw[BR g,v,if_neg a,if_neg a];exact⟨rfl,h.ek,h.amP⟩
def anY(h:amx an ak)(f:x<3)(o:d.bt=G)(l:d.a5=2)(b:d.cI=amu x)(p:an.cx.length<aX)(q:1<=k)(ao:d.c2.aI<=105):
  (an.e7 k aX d).2.iE=(if(ak x).1=0 then 10 else 0)/\amx (an.e7 k aX d).1 (if(ak x).1=0 then ak else amD ak x (0,(ak x).2)):=by
 have g:i3 d.a5=G:=by rw[l];rfl
 have r:=tU o g;have m:d.c2.a5=2:=l;have c:=h.ek x f;by_cases a:(ak x).1=0
 ·rw[if_pos a]at c;have j:an.bd.h9 d.c2 an.cx.length 0=b5 10:=by unfold c3.h9;rw[if_neg A,if_pos m];unfold c3.yE;show le (if(dv an.bd.fs d.cI).isSome=G then _ else _)=_;rw[b,c,if_neg B];rfl
  have s:an.ll k aX d=(an,ki d 10):=by unfold cK.ll;rw[j]
  rw[BR g,s,if_pos a,if_pos a];exact⟨rfl,h.ek,h.amP⟩
 ·rw[if_neg a]at c;have j:an.bd.h9 d.c2 an.cx.length 0=bA (⟨mh an.bd.fs d.cI,an.bd.kA.filter λai=>decide (ai.1.cI≠d.cI)⟩,i4):=by unfold c3.h9;rw[if_neg A,if_pos m];unfold c3.yE;show le (if(dv an.bd.fs d.cI).isSome=G then _ else _)=_;rw[if_pos (by rw[b,c];rfl)];rfl
  rw[BR g,Jn r ao q p j rfl,if_neg a,if_neg a];refine⟨rfl,λi al=>?_,λt n=>?_⟩
  ·show dv (mh an.bd.fs d.cI) (amu i)=_;rw[ana,b];unfold amD;by_cases e:i=x
   ·subst e;rw[if_pos rfl,if_pos rfl,if_pos rfl]
   ·rw[if_neg (λgh=>e (anq _ al _ f gh.symm)),if_neg e];exact h.ek i al
  ·show dv (mh an.bd.fs d.cI) t=I;rw[ana,b,if_neg (λe=>n x f e.symm)];exact h.amP t n
def anZ(h:amx an ak)(b:an.bp aX)(c:aX<=64)(a:d.a5=6):an.e7 k aX d=({an with cQ:=an.cQ+1},⟨d.dF,0,0,0,amw ak 3,[]⟩):=by rw[Jo (by rw[a];rfl)];unfold mi;rw[if_pos a,<-anj anr.2 (h.G7 (b.bd c).yF).symm]
def an0(h:amx an ak)(g:x<3)(c:d.a5=8)(i:d.cI=amu x)(j:d.d9=n):
  (an.e7 k aX d).1={an with cQ:=an.cQ+1}/\if n<(ak x).1 then(an.e7 k aX d).2.iE=0/\(an.e7 k aX d).2.cu=(ak x).2/\(an.e7 k aX d).2.cS=(ak x).2 else(an.e7 k aX d).2.iE=10:=by
 rw[Jo (by rw[c];rfl)];refine⟨rfl,?_⟩;have l:=h.ek x g;have a:an.bd.aP d.cI d.d9=if n<(ak x).1 then E (gM.cq (ak x).2)else I:=by
  unfold c3.aP;rw[i,l,j];by_cases e:(ak x).1=0
  ·rw[if_pos e];show I=_;rw[if_neg A]
  ·rw[if_neg e,tg,if_neg A,List.getElem?_replicate];simp
 by_cases f:n<(ak x).1
 ·rw[if_pos f]at a⊢;have b:mi an.cx kn an.bd d=⟨d.dF,0,(gM.cq (ak x).2).dw.cy d.mL,(gM.cq (ak x).2).dw.cS,[],[]⟩:=by unfold mi;rw[if_neg A,a];simp only;rw[if_neg A,if_pos c]
  rw[b];exact⟨rfl,by simp[eI.cy,gM.cq],rfl⟩
 ·rw[if_neg f]at a⊢;have b:mi an.cx kn an.bd d=ki d 10:=by unfold mi;rw[if_neg A,a]
  rw[b];rfl
def amx.lO(h:amx an ak)(ao:dO.bd=an.bd):amx dO ak:=⟨by rw[ao];exact h.ek,by rw[ao];exact h.amP⟩
def an1(a:jV t=G)(b:0<=gY/\gY<=4294967295):(fk gY 2 t 0 0 0 0 fr).bt=G:=
 JP b rfl ⟨a,Z (Y ⟨rfl,rfl,rfl,rfl,rfl,rfl,rfl⟩)⟩
def an2(a:jV t=G):(fk gY 2 t 0 0 0 0 fr).c2.aI<=105:=by have:=oJ a;simp[eG.aI,fk,dl.c2];omega
def amQ(gY:Int):dl:=⟨gY,6,cg,cg,0,0,0,0,0,0,fr⟩
def an3(a:0<=gY/\gY<=4294967295):(amQ gY).bt=G:=by unfold dl.bt;rw[dA,decide_eq_true_iff];refine⟨a,?_⟩;show(amQ 0).p6=G;decide+kernel
def amE(gY:Int)(t:ByteArray)(part:Int):dl:=⟨gY,8,t,cg,part,0,0,0,0,0,fr⟩
def an4{ah:Int}(a:jV t=G)(d:0<=gY/\gY<=4294967295)(b:0<=ah/\ah<=3):(amE gY t ah).bt=G:=by
 have f:=oJ a;have e:oA (g9 (jG 8) (jg (amE gY t ah)))=G:=by
  refine(xc (vU _) (sL (amE gY t ah))).2 λai c=>?_;simp[jG,jg,amE]at c;rcases c with rfl|rfl|rfl
  ·exact uT.2 A
  ·exact(ca.p5 rfl).2 ⟨b.1,b.2,rfl,rfl⟩
  ·exact(ca.p5 rfl).2 ⟨by decide,by decide,rfl,rfl⟩
 unfold dl.bt;rw[dA,decide_eq_true_iff];refine⟨d,?_⟩;rw[show(amE gY t ah).a5=8 from rfl];rw[if_neg (show¬i3 8=G by decide)];unfold dl.p6;rw[dA,dA,dA,show(amE gY t ah).a5=8 from rfl];refine⟨⟨⟨rfl,e⟩,by simp[dl.le,amE,fr]⟩,?_⟩;rw[dA];refine⟨by simp[dl.lO,nC,jg,amE,gl,ig,hZ],?_⟩;show((decide ((8:Int)=6)||jV t)&&(decide ((8:Int)≠9)||jV cg))=G;rw[a];rfl
end
structure amz(bv w:aN)(s:Nat)(am aO:List Nat)(c:dR)(dN:Nat->Bool)(bu:Nat)(an:cK):Prop where
 sl:kq w s am c dN bu an q8
 B0:an.cn=[]
 qV:Q [] bv w
 B1:qz bv am
 amS:qz bv aO
 eX:bR aO am
 B2:∀g∈aO,g<w.heap.size
section
variable{x:Nat}{ak:Nat->Nat×Int}{l:List JI}
def amz.alF(h:amz bv w s am aO c dN bu an)(j:kq a s az c qG zJ dO q8)(k:dO.cn=[])(e:Q (bU++am) w a)(f:∀g∈az,g∈am\/w.heap.size<=g)(l:∀g∈bU,g∈aO):amz bv a s az aO c qG zJ dO:=by have i:=h.B2;have n:=h.qV.aI;exact⟨j,k,h.qV.R e (λg b=>Z ((b4.1 b).elim (λd=>h.amS g (l g d)) (h.B1 g))),λg b=>(f g b).elim (h.B1 g) (λd=>A),h.amS,λg b m=>(f g m).elim (h.eX g b) (λd=>by have:=i g b;omega),λg b=>iL (i g b) e.aI⟩
def amz.JR(h:amz bv w s am aO c dN bu an)(d:kq a s az c qG zJ dO q8)(e:dO.cn=[])(b:bX am az w a):amz bv a s az aO c qG zJ dO:=
 h.alF (bU:=[]) d e b.J b.cq B
def amz.V(h:amz bv w s am aO c dN bu an)(b:Q [] w a):amz bv a s am aO c dN bu an:=h.JR (h.sl.V b) h.B0 (.iu b)
def amz.an5(h:amz bv w s am aO c dN bu an)(i:0<bv.heap.size)(d:Q bU w a)(e:∀g∈bU,g∉am/\bv.heap.size<=g):amz bv a s am aO c dN bu an:=
 ⟨h.sl.J d (λg b f=>(e g f).1 b) (λf=>by have:=(e _ f).2;omega),h.B0,h.qV.R d (λg b=>Z (e g b).2),h.B1,h.amS,h.eX,λg b=>iL (h.B2 g b) d.aI⟩
def amz.zF{ac:S->S->aN->Prop}(h:amz bv w s am aO c dN bu an)(f:an.cQ<=100000)(g:aT w Go.X.dV aa d.bk.a7)(i:qt d)(b:d.bt=G)(j:an.cx.length+1<=c.bd)(l:bu<=1000000)
  (k:∀(hs:Nat)(fz:kQ)(a:aN)(az:List Nat),amz bv a s az aO c dN (bu+1) (an.e7 c.aJ c.bd d).1->bX am az w a->w.heap.size<=hs->hs∉az->aC a hs 37 (eb fz)->ma a fz (an.e7 c.aJ c.bd d).2->ac (aK G) (aP hs) a):
  W C (ck 11 #[aP s,ho d aa]) w λaa aA=>aV C (gH aa 0) λm=>aV C (gH aa 1) λn=>W C (hV 37) aA λah ax=>W C (dC 37 ah m) ax λ_ o=>ac n ah o:=
 BY h.sl h.B0 f g i b j l λhs fz a az p e q r t u=>k hs fz a az (h.JR p (EZ h.sl.cL.1 h.B0 b).2 e) e q r t u
def amM(ak:Nat->Nat×Int):List S:=[F H ((ak 0).1:Nat),F H ((ak 1).1:Nat),F H ((ak 2).1:Nat)]
def amG(ak:Nat->Nat×Int):List S:=[F H (ak 0).2,F H (ak 1).2,F H (ak 2).2]
def an6:mI C 77 3 3:=by unfold mI;kernel_rfl
def amI{ac:S->Prop}(a:x<3):aV C (fY 77 (aP amt) (F H (x:Nat))) ac↔ac (aE (E ⟨amt,x,I⟩)):=by rw[kc an6 hl a];simp
def amT(a:x<3):x=0\/x=1\/x=2:=A
def amR{ac:S->Prop}(h:aC w amt ar (amM ak))(a:x<3):aZ C (a4 3 (aE (E ⟨amt,x,I⟩))) w ac↔ac (F H ((ak x).1:Nat)):=
 bl bZ ((h.bh (af:=x)).trans (by rcases amT a with rfl|rfl|rfl<;>rfl))
def ans{ac:S->Prop}(h:aC w amt ar (amG ak))(a:x<3):aZ C (a4 3 (aE (E ⟨amt,x,I⟩))) w ac↔ac (F H (ak x).2):=
 bl bZ ((h.bh (af:=x)).trans (by rcases amT a with rfl|rfl|rfl<;>rfl))
def ant(aj:Int)(h:aC w amt ar (amM ak))(b:x<3)(k:∀a,aC a amt ar (amM (amD ak x (ah,aj)))->Q [amt] w a->ac bS a):W C (dC 3 (aE (E ⟨amt,x,I⟩)) (F H (ah:Nat))) w ac:=
 eK hl h (by simpa[amM]using b) rfl λa c d e=>k a (by rcases amT b with rfl|rfl|rfl<;>simpa[amM,amD]using c) d
def an7{aj:Int}(ah:Nat)(h:aC w amt ar (amG ak))(b:x<3)(k:∀a,aC a amt ar (amG (amD ak x (ah,aj)))->Q [amt] w a->ac bS a):W C (dC 3 (aE (E ⟨amt,x,I⟩)) (F H aj)) w ac:=
 eK hl h (by simpa[amG]using b) rfl λa c d e=>k a (by rcases amT b with rfl|rfl|rfl<;>simpa[amG,amD]using c) d
def an8:amG (amD ak x (ah,(ak x).2))=amG ak:=by
 have:∀j,(amD ak x (ah,(ak x).2) j).2=(ak j).2:=λj=>by
  unfold amD;split
  ·rename_i h;rw[h]
  ·rfl
 simp only[amG,this]
def amU{ac:S->Prop}(h:aT w JJ aa l)(al:i<l.length)(k:∀b af,(∀a,Q [] w a->fu a b af (JJ l[i]))->ac (aE (E ⟨b,af,I⟩))):aV C (fY 76 aa (F H i)) ac:=by
 obtain⟨d,c,rfl,m,f⟩:=h;obtain⟨b,af,rfl,g⟩:=f.resolve_left (by intro e;rw[e]at al;simp at al);refine(sB WT anw A A).2 ?_;refine k _ _ λa j=>?_;have:=(g.J j B).d1 (i*7) 7;rw[show((i:Int).toNat*7)=i*7 by simp];have e:((l.flatMap JJ).drop (i*7)).take 7=JJ l[i]:=by rw[X.z1 (be:=JJ) (a6:=7) (λ_=>rfl),ot al,iA];exact List.take_left' rfl
 rwa[e]at this
def amV{ac:S->Prop}{ag:JI}{bm:Int}(h:fu w b af (JJ ag))(a:(JJ ag)[j]?=E (F H bm)):aZ C (a4 3 (aE (E ⟨b,af+j,I⟩))) w ac↔ac (F H bm):=bl bZ (la h a)
def am3{gf:Prop}{ag:JI}{bm:Int}(h:fu w b af (JJ ag))(a:(JJ ag)[j]?=E (F H bm)):gu C (a4 3 (aE (E ⟨b,af+j,I⟩))) (F H bm) w gf↔gf:=dz bZ (la h a)
def an9{gU:S->Prop}{hs:Nat}{e:Int}{bm:Bool}(a:aC w hs 37 (eb fz))(c:fz.iE=e)(k:gU (aK U)):
  aV C (qH .not (aK G)) λaa=>eV aa (gU (aK G)) (aV C (gB 37 (aP hs) 1) λd=>aZ C (a4 33 d) w λae=>aZ C (eE .neq 33 bm ae (F H e)) w λb=>gU b):=by
 obtain⟨_,f,_,_,_,_,_⟩:=c7.hJ a;try simp only[M,N,O,P]
 refine iY rfl ?_;refine(f _).2 ?_;rw[c];try simp only[M,N,O,P]
 rw[decide_eq_false B];exact k
def aoa{j:Int}{t:ByteArray}:C.built 43 #[(0,F H j),(1,F H 2),(2,bO t)].toList=E (f1 (fk j 2 t 0 0 0 0 fr) (T I 0 0)).toArray:=K
def aob{j:Int}:C.built 43 #[(0,F H j),(1,F H 6)].toList=E (f1 (amQ j) (T I 0 0)).toArray:=K
def aoc{t:ByteArray}{ah:Int}:C.built 43 #[(1,F H 8),(2,bO t),(4,F H ah)].toList=E (f1 (amE 0 t ah) (T I 0 0)).toArray:=K
end
section
variable{f3:aN}{amq:Nat}{ak:Nat->Nat×Int}
structure amH(w a:aN)(s:Nat)(am:List Nat)(ah b8 amt amq:Nat)(c:dR)(dN:Nat->Bool)(bu:Nat)(an:cK)(ak:Nat->Nat×Int):Prop where
 amr:amz w a s am [ah,b8,amt,amq] c dN bu an
 amB:aC a amt 77 (amM ak)
 amJ:aC a amq 77 (amG ak)
 amN:amx an ak
def amH.V(h:amH w a s am ah b8 amt amq c dN bu an ak)(b:Q [] a ax):amH w ax s am ah b8 amt amq c dN bu an ak:=⟨h.amr.V b,h.amB.J b B,h.amJ.J b B,h.amN⟩
def amW{j k af a aj:Int}{t:Int}:qt (fk j k (amu t) a af aj 0 fr):=vp ⟨by show(amu t).size<=100;rw[anp];omega,by show cg.size<=100;decide,by simp[fk,fr]⟩
def aod{av aw:Int}{bJ:S}{u:List JI}{bK:List um}{bL:List Int}(bM:jf w)(bP:aT w JJ cB u)(bR:aT w sk bJ bK)(bW:aT w Go.X.ew b1 bL):
  a0 C 5 #[F H av,F H aw,cB,bJ,b1] w λae a=>ae=aK G/\Q [] w a:=by
 have aR:(qx av aw 40 2).bp:=ak8 A A A A;have bX:=bM.aL;refine anF ?_;unfold am7;refine aH WZ (ala (k:=av) (n:=aw) (aX:=40) (qE:=2)) ?_;rintro _ aA ⟨rfl,cV⟩;have eq:(qx av aw 40 2).bd=40:=rfl;generalize qx av aw 40 2=c at*;refine mR λax cW cX er=>?_;refine ml (g:=c) cW rfl λcY bZ cZ et=>?_;have aS:Q [] w cY:=cV.R (cX.R cZ B) B;refine(fj bZ).2 ?_;refine aH Lq (UH aR (bM.V aS)) ?_;rintro _ D ⟨s,am,rfl,bf,c0,bg⟩;have ew:=aS.aI;refine(ru KY).2 ?_;refine cG.2 ⟨λc2=>(by cases c2),λ_=>?_⟩;try simp only[M,N,O,P]
 refine(fj (bZ.J bg B)).2 ?_;refine Aa (bI:=λb:Bool=>aK b) vO (Y rfl) λX c3 c4 ex=>?_;refine(bY alH).2 ?_;refine eA λJ bh b0 ey=>?_;have bh:aC J X.heap.size 32 (en c++[eB (E D.heap.size)]):=by simpa[bF]using bh
 refine gI am5 λab aU c5 ez=>?_;have aU:aC ab J.heap.size 77 (amM λ_=>(0,0)):=by simpa[bF,amM]using aU
 refine gI am5 λf3 aV b2 eC=>?_;have aV:aC f3 ab.heap.size 77 (amG λ_=>(0,0)):=by simpa[bF,amG]using aV
 have aW:Q [] J f3:=c5.R b2 B;have b3:Q [] D J:=c4.R b0 B;have bj:Q [] D f3:=b3.R aW B;have c6:Q [] w f3:=(aS.R bg B).R bj B;have c8:qz w am:=λg l=>by have:=c0 g l;omega
 have da:=bf.aL;have eD:=(aS.R bg B).aI;have eE:=bj.aI;have eF:=b3.aI;have eG:=aW.aI;have b7:td f3 X.heap.size D.heap.size c [] (λ_=>U):=⟨bh.J aW B,(c3.J b0 B).J aW B,A,λag _=>rfl,by unfold bV;simp,by have:=aR.jY;simp;omega⟩;have b9:amH w f3 s am X.heap.size D.heap.size J.heap.size ab.heap.size c (λ_=>U) 1 ra (λ_=>(0,0)):=by
  refine⟨⟨bf.V bj,rfl,c6,c8,λg l=>?_,λg l aB=>?_,λg l=>?_⟩,aU.J b2 B,aV,amx.Kv⟩
  ·simp at l;omega
  ·have:=da g aB;simp at l;omega
  ·simp at l;omega
 have bk:X.heap.size≠D.heap.size/\J.heap.size≠D.heap.size/\ab.heap.size≠D.heap.size/\J.heap.size≠X.heap.size/\ab.heap.size≠X.heap.size/\J.heap.size≠ab.heap.size/\0≠D.heap.size:=A;generalize X.heap.size=ah at*;generalize D.heap.size=b8 at*;generalize J.heap.size=amt at*;generalize ab.heap.size=amq at*;obtain⟨eH,eI,db,_⟩:=id bP;obtain⟨eJ,eK,ca,_⟩:=id bR;obtain⟨eL,eM,cb,_⟩:=id bW;refine c1 (λf a=>∃(i:Nat)(az:List Nat)(dO:cK)(zJ:Nat)(ak:Nat->Nat×Int)(qG:Nat->Bool)(bl:List (Int×Bool)),f=[F H i]/\i<=u.length/\i<=18/\amH w a s az ah b8 amt amq c qG zJ dO ak/\td a ah b8 c bl qG/\dO.cQ<=2*i/\dO.cx.length<=i/\zJ<=1+2*i) (λf _=>match f with|[F _ i]=>u.length-i.toNat|_=>0) ⟨0,am,ra,1,_,_,[],rfl,A,A,b9,b7,by simp[ra],by simp[ra],A⟩ ?_;rintro _ _ cd ⟨i,aF,K,ap,ak,ac,cc,rfl,al,eN,m,cf,eO,eP,eQ⟩;clear b9 b7 bf aV aU;refine bT (λf a=>f=[aK (decide (i<u.length/\i<18))]/\cd=a) ?_ ?_
 ·rw[db];try simp only[M,N,O,P,bi]
  refine⟨λch=>⟨?_,by trivial⟩,λch=>⟨?_,by trivial⟩⟩
  ·congr 2;rw[decide_eq_decide];omega
  ·rw[decide_eq_false A]
 rintro _ _ _ ⟨rfl,rfl⟩;try simp only[M,N,O,P,bi]
 have aY:=bP.V m.amr.qV;refine⟨λbn=>?_,λeR=>?_⟩
 ·have aZ:i<u.length:=bn.1;have eT:i<18:=bn.2;refine amU aY aZ λeU eV dc=>?_;try simp only[M,N,O,P]
  refine(amV (dc _ (.b0 _ _)) (j:=1) rfl).2 ?_;refine tc (ay:=0) (al:=2) A A ?_;have aG:=cD [] cd;refine amU aY aZ λeW eX de=>?_;try simp only[M,N,O,P]
  refine(amV (de _ aG) (j:=3) rfl).2 ?_;refine amU aY aZ λeY e0 cj=>?_;try simp only[M,N,O,P]
  refine(amV (cj _ aG) (j:=4) rfl).2 ?_;refine tc (ay:=1) (al:=4) A A ?_;refine(am3 (cj _ aG) (j:=4) rfl).2 ?_;refine tc (ay:=0) (al:=999) A A ?_;have e2:=(q9 (n:=u[i].g2) (ay:=0) (al:=2) A).2;have df:=(q9 (n:=u[i].hH) (ay:=1) (al:=4) A).2;have e3:=(q9 (n:=u[i].aR) (ay:=0) (al:=999) A).2;generalize kr u[i].g2 0 2=x at*;generalize kr u[i].hH 1 4=v at*;generalize kr u[i].aR 0 999=L at*;have h:x<3:=A;refine aH amX (am0 (n:=(x:Nat))) ?_;rintro _ a1 ⟨rfl,ck⟩;refine(bY (aoa (j:=(i:Nat)) (t:=amu (x:Nat)))).2 ?_;refine uj λdg dh dj e4=>?_;refine qu (d:=fk i 2 (amu x) 0 0 0 0 fr) dh rfl rfl λaI bo bp e5=>?_;have dk:Q [] a1 aI:=dj.R bp B;have br:Q [] cd aI:=(aG.R ck B).R dk B;have R:=m.V br;have e6:=(aG.R ck B).aI;have dm:=m.amr.sl.aL;have dn:a1.heap.size∉aF:=λaB=>by have:=dm _ aB;omega
  have e7:=m.amr.qV.aI;have e9:=m.amB.aL;have fa:=m.amJ.aL;generalize fb:a1.heap.size=aJ at*;have dp:=m.amr.sl.cL.1;have cm:amt∉aF:=m.amr.eX amt B;have cn:amq∉aF:=m.amr.eX amq B;have dq:w.heap.size<=amt:=m.amr.amS amt B;have dr:w.heap.size<=amq:=m.amr.amS amq B;have aq:=ano (x:Nat);refine bT (λf a=>∃(o:Nat->Nat×Int)(d:dl)(e:Int),f=[F H e]/\aC a aJ 43 (f1 d (T I 0 0))/\aC a amt 77 (amM o)/\aC a amq 77 (amG o)/\Q [aJ,amt,amq] aI a/\d.bt=G/\qt d/\d.bk.a7=[]/\(K.e7 c.aJ c.bd d).2.iE=e/\amx (K.e7 c.aJ c.bd d).1 o) ?_ ?_
  ·refine amU aY aZ λfd fe ds=>?_;try simp only[M,N,O,P]
   refine(amV (ds _ br) (j:=0) rfl).2 ?_;refine(vE A).2 ?_;try simp only[M,N,O,P,bi]
   refine⟨λff=>?_,λeu=>?_⟩
   ·refine xG (fl:=fk i 1 (amu x) 0 0 0 0 fr) hl bo A rfl rfl λaf aL a2 fg=>?_;try simp only[M,N,O,P]
    refine xG (fl:=fk i 1 (amu x) 0 v 0 0 fr) hl aL A rfl rfl λaM bs dt fm=>?_;try simp only[M,N,O,P]
    refine xG (fl:=fk i 1 (amu x) 0 v L 0 fr) hl bs A rfl rfl λa3 cp aO fn=>?_;have a4:Q [aJ] aI a3:=(a2.R dt B).R aO B;have bt:=R.amB.J a4 (by simp;omega);have cq:=R.amJ.J a4 (by simp;omega);have V:(fk i 1 (amu x) 0 v L 0 fr).bt=G:=JQ aq A A A;obtain⟨y,p⟩:=anX (k:=c.aJ) (d:=fk i 1 (amu x) 0 v L 0 fr) m.amN dp A h V rfl rfl A aR.kh (alD aq);rw[show(fk i 1 (amu x) 0 v L 0 fr).ie.toNat=v from hf v,show(fk i 1 (amu x) 0 v L 0 fr).hF=L from rfl]at p;refine(amI h).2 ?_;refine(amR bt h).2 ?_;try simp only[M,N,O,P,bi]
    refine⟨λdu=>?_,λdv=>?_⟩
    ·rw[if_neg A]at y p;exact⟨ak,_,9,rfl,cp,bt,cq,a4.bw (λg l=>Y (by simp at l;simp[l])),V,amW,rfl,y,p⟩
    ·rw[if_pos A]at y p;refine(amI h).2 ?_;refine ant (ah:=v) (L:Int) bt h λai bu an=>?_;refine(amI h).2 ?_;refine an7 (aj:=(L:Int)) v (cq.J an (by simp;omega)) h λdw dx W=>?_;refine⟨amD ak x (v,L),_,0,rfl,?_,bu.J W (by simp;omega),dx,?_,V,amW,rfl,y,p⟩
     ·exact(cp.J an (by simp;omega)).J W (by simp;omega)
     ·exact((a4.bw (λg l=>Y (by simp at l;simp[l]))).R an B).R W B
   ·have V:(fk i 2 (amu x) 0 0 0 0 fr).bt=G:=an1 aq A;obtain⟨y,p⟩:=anY (k:=c.aJ) (aX:=c.bd) (d:=fk i 2 (amu x) 0 0 0 0 fr) m.amN h V rfl rfl A aR.kh (an2 aq);refine(amI h).2 ?_;refine(amR R.amB h).2 ?_;try simp only[M,N,O,P,bi]
    refine⟨λdv=>?_,λdu=>?_⟩
    ·rw[if_pos A]at y p;exact⟨ak,_,10,rfl,bo,R.amB,R.amJ,.b0 _ _,V,amW,rfl,y,p⟩
    ·rw[if_neg A]at y p;refine(amI h).2 ?_;refine ant (ah:=0) (ak x).2 R.amB h λai bu an=>?_;refine⟨amD ak x (0,(ak x).2),_,0,rfl,bo.J an (by simp;omega),bu,?_,an.bw (λg l=>Y (by simp at l;simp[l])),V,amW,rfl,y,p⟩;rw[an8];exact R.amJ.J an (by simp;omega)
  rintro _ _ af ⟨o,d,e,rfl,aL,cs,ct,a2,V,dy,dz,dB,cu⟩;obtain⟨fo,fp,fq,fs,fu,fv,fy,fA,fB,fC,fG,dC⟩:=gc aL;try simp only[M,N,O,P,dC]
  have cw:amz w af s aF [ah,b8,amt,amq] c ac ap K:=R.amr.an5 bX a2 (λg l=>by
   simp at l;rcases l with rfl|rfl|rfl
   ·exact⟨dn,A⟩
   ·exact⟨cm,dq⟩
   ·exact⟨cn,dr⟩)
  have cx:ah∉[aJ,amt,amq]/\b8∉[aJ,amt,amq]:=by have ch:=m.amr.B2 ah B;have fH:=m.amr.B2 b8 B;simp;omega
  have dD:td af ah b8 c cc ac:=(cf.V br).J a2 cx.1 cx.2;refine cw.zF (d:=d) A (by rw[dz];exact aT.gW _ _) dy V A A λhs fz aM cy cz bv fI dE bs dF=>?_;have fJ:(K.e7 c.aJ c.bd d).1.cQ=K.cQ+1:=zw;have fL:(K.e7 c.aJ c.bd d).1.cx.length<=K.cx.length+1:=zv;have cA:=cs.J bv.J cm;have cC:=ct.J bv.J cn;have bw:=dD.J bv.J (m.amr.eX ah B) (m.amr.eX b8 B);generalize(K.e7 c.aJ c.bd d).1=aP at*;refine bT (λf a=>f=[aK U]/\aM=a) (an9 (gU:=λb=>[b]=[aK U]/\aM=aM) bs (dF.iE.trans dB) ⟨rfl,rfl⟩) ?_;rintro _ _ _ ⟨rfl,rfl⟩;try simp only[M,N,O,P]
  have q:amH w aM s cy ah b8 amt amq c ac (ap+1) aP o:=⟨cz,cA,cC,cu⟩;clear cz cA cC cu R cw cs ct;refine bT (λf a=>f=[]/\∃(az:List Nat)(qG:Nat->Bool)(bl:List (Int×Bool)),amH w a s az ah b8 amt amq c qG (ap+1) aP o/\td a ah b8 c bl qG) ?_ ?_
  ·rw[ca];try simp only[M,N,O,P,bi]
   refine⟨λfM=>?_,λ_=>⟨by trivial,cy,ac,cc,q,bw⟩⟩;have dG:i<bK.length:=A;rw[<-ca];refine(alN.ek (bR.V q.amr.qV) (Q.b0 _ _) dG).2 ?_;refine aH W3 (alp q.amr.sl bw (q.amr.eX ah B) (q.amr.eX b8 B) bk.2.2.2.2.2.2) ?_;rintro _ a3 ⟨rfl,bx,a5,ar,dH,aQ,aO,dK⟩;have bz:=q.amr.eX amt B;have bB:=q.amr.eX amq B;exact⟨by trivial,bx,ar,a5,⟨q.amr.alF (bU:=[b8]) dH q.amr.B0 aO dK B,q.amB.J aO (by simp[bk,bz]),q.amJ.J aO (by simp[bk,bB]),q.amN⟩,aQ⟩
  rintro _ _ a3 ⟨rfl,bx,ar,a5,r,aQ⟩;clear q bw;refine bT (λf a=>f=[]/\∃(az:List Nat)(dO:cK),amH w a s az ah b8 amt amq c ar (ap+1) dO o/\td a ah b8 c a5 ar/\dO.cx=aP.cx/\dO.cQ=aP.cQ) ?_ ?_
  ·refine bT (λf a=>∃bm:Bool,f=[aK bm]/\a3=a) ?_ ?_
   ·rw[cb];try simp only[M,N,O,P,bi]
    refine⟨λfN=>?_,λ_=>⟨U,by trivial,by trivial⟩⟩;have dL:i<bL.length:=A;rw[<-cb];refine UY (bW.V r.amr.qV) dL λfO cv fP=>?_;refine(cv _ (.b0 _ _) _).2 ?_;refine(vE A).2 ?_;try simp only[M,N,O,P]
    exact⟨_,rfl,by trivial⟩
   rintro _ _ _ ⟨bm,rfl,rfl⟩;try simp only[M,N,O,P]
   refine cG.2 ⟨λ_=>?_,λ_=>?_⟩
   ·refine(bY UG).2 ?_;refine aH C9 (alG r.amr.sl) ?_;rintro _ ai ⟨rfl,cE,dM,a6⟩;have bz:=r.amr.eX amt B;have bB:=r.amr.eX amq B;exact⟨by trivial,cE,_,⟨r.amr.JR dM rfl a6,r.amB.J a6.J bz,r.amJ.J a6.J bB,r.amN.lO rfl⟩,aQ.J a6.J (r.amr.eX ah B) (r.amr.eX b8 B),rfl,rfl⟩
   ·exact⟨by trivial,bx,aP,r,aQ,rfl,rfl⟩
  rintro _ _ ai ⟨rfl,cE,bC,bE,dN,dP,fQ⟩;clear r aQ;have dQ:bC.cx.length<=i+1:=by rw[dP];omega
  refine c1 (λf a=>∃(j:Nat)(aa:S),f=[aa,F H j]/\j<=3/\hn ai a 9 1 Go.X.dV aa (amw o j)/\Q [] ai a) (λf _=>match f with|[_,F _ j]=>3-j.toNat|_=>0) ⟨0,_,rfl,A,hn.D _ _ _ _ _,.b0 _ _⟩ ?_;rintro _ _ dw ⟨j,cF,rfl,fR,bG,W⟩;have fT:=am1 (ak:=o) j;try simp only[M,N,O,P,bi]
  refine⟨λdR=>?_,λdR=>?_⟩
  ·have cH:j<3:=A;refine bT (λf a=>∃dd:S,f=[dd]/\hn ai a 9 1 Go.X.dV dd (amw o (j+1))/\Q [] ai a) ?_ ?_
   ·refine(amI cH).2 ?_;refine(amR (bE.amB.J W B) cH).2 ?_;try simp only[M,N,O,P,bi]
    refine⟨λdS=>?_,λdS=>⟨cF,by trivial,?_,W⟩⟩
    ·refine aH amX (am0 (n:=(j:Nat))) ?_;rintro _ dT ⟨rfl,a7⟩;refine hn.yQ vM (bG.V a7) (W.R a7 B) (x:=amu (j:Nat)) (λ_=>rfl) rfl (by intro ae cI;simp[Go.X.dV]at cI;subst cI;rfl) A (by unfold d0;omega) A λdd a8 dV dW=>?_;refine⟨dd,rfl,?_,dW⟩;rw[show amw o (j+1)=amw o j++[amu (j:Nat)]from by rw[amw,if_neg A]];exact dV
    ·rw[show amw o (j+1)=amw o j from by rw[amw,if_pos A]];exact bG
   rintro _ _ dT ⟨dd,rfl,dY,a7⟩;try simp only[M,N,O,P]
   rw[bq A A];exact⟨⟨j+1,dd,by trivial,A,dY,a7⟩,by simp;omega⟩
  ·obtain rfl:j=3:=A;refine(bY (aob (j:=(i:Nat)))).2 ?_;have z:=bE.V W;have fU:=z.amr.sl.aL;refine z.amr.zF (d:=amQ i) A (aT.gW _ _) (vp ⟨by show cg.size<=100;decide,by show cg.size<=100;decide,by simp[amQ,fr]⟩) (an3 A) A A λfV fW a8 cJ cL a9 fX fY dZ bH=>?_;rw[anZ (k:=c.aJ) (d:=amQ i) z.amN z.amr.sl.cL.1 A rfl]at cL bH;obtain⟨aD,d1,d2⟩:=bG;have d3:=bE.amr.sl.aL;have d4:aT a8 Go.X.dV cF (amw o 3):=(d1.J a9.J (λg l aB=>by have:=d2 g l;have:=d3 g aB;omega)).eF (λ_=>rfl) A;have d5:=z.amB.J a9.J (z.amr.eX amt B);have d6:=z.amJ.J a9.J (z.amr.eX amq B);have d7:=(dN.V W).J a9.J (z.amr.eX ah B) (z.amr.eX b8 B);refine bT (λf a=>f=[aK U]/\Q [] a8 a) ?_ ?_
   ·obtain⟨_,ba,_,_,d8,_,_⟩:=c7.hJ dZ;try simp only[M,N,O,P]
    refine iY rfl ?_;refine(ba _).2 ?_;rw[bH.iE];try simp only[M,N,O,P]
    refine iY (by decide) ?_;refine(d8 _).2 ?_;refine aH anA (anK bH.gj d4 (by simp only;omega)) ?_;rintro _ d9 ⟨rfl,bb⟩;try simp only[M,N,O,P]
    exact⟨B,bb⟩
   rintro _ _ d9 ⟨rfl,bb⟩;try simp only[M,N,O,P]
   rw[bq A A];have eb:amH w a8 s cJ ah b8 amt amq c ar (ap+1+1) {bC with cQ:=bC.cQ+1} o:=⟨cL,d5,d6,z.amN.lO rfl⟩;exact⟨⟨i+1,cJ,_,_,o,ar,a5,by trivial,A,A,eb.V bb,d7.V bb,by simp only;omega,dQ,A⟩,by simp;omega⟩
 ·refine c1 (λf a=>∃(x:Nat)(az:List Nat)(dO:cK)(zJ:Nat),f=[F H x]/\x<=3/\amH w a s az ah b8 amt amq c ac zJ dO ak/\dO.cQ<=36+4*x/\dO.cx.length<=18/\zJ<=37+4*x) (λf _=>match f with|[F _ x]=>3-x.toNat|_=>0) ⟨0,aF,K,ap,rfl,A,m,A,A,A⟩ ?_;rintro _ _ a1 ⟨x,k8,ec,ee,rfl,fZ,bc,f0,f2,f4⟩;clear m cf;try simp only[M,N,O,P,bi]
  refine⟨λef=>?_,λef=>?_⟩
  ·have h:x<3:=A;have aq:=ano (x:Nat);refine c1 (λf a=>∃(n:Nat)(az:List Nat)(dO:cK)(zJ:Nat),f=[F H n]/\n<=4/\amH w a s az ah b8 amt amq c ac zJ dO ak/\dO.cQ<=36+4*x+n/\dO.cx.length<=18/\zJ<=37+4*x+n) (λf _=>match f with|[F _ n]=>4-n.toNat|_=>0) ⟨0,k8,ec,ee,rfl,A,bc,A,A,A⟩ ?_;rintro _ _ dg ⟨n,ci,bd,cM,rfl,f5,cO,f6,cP,f8⟩;clear bc;try simp only[M,N,O,P,bi]
   refine⟨λeg=>?_,λeg=>?_⟩
   ·have f9:n<4:=A;refine aH amX (am0 (n:=(x:Nat))) ?_;rintro _ aI ⟨rfl,bp⟩;refine(bY (aoc (t:=amu (x:Nat)) (ah:=(n:Nat)))).2 ?_;have ao:=cO.V bp;refine ao.amr.zF (d:=amE 0 (amu x) n) A (aT.gW _ _) (vp ⟨by show(amu x).size<=100;rw[anp];omega,by show cg.size<=100;decide,by simp[amE,fr]⟩) (an4 aq A A) A A λhs fz af cR cS cU df dE aL be=>?_;obtain⟨y,p⟩:=an0 (k:=c.aJ) (aX:=c.bd) (n:=n) (d:=amE 0 (amu x) n) ao.amN h rfl rfl rfl;rw[y]at cS;have eh:amH w af s cR ah b8 amt amq c ac (cM+1) {bd with cQ:=bd.cQ+1} ak:=⟨cS,ao.amB.J cU.J (ao.amr.eX amt B),ao.amJ.J cU.J (ao.amr.eX amq B),ao.amN.lO rfl⟩;generalize(bd.e7 c.aJ c.bd (amE 0 (amu x) n)).2=ad at*;have ei:=cD [] af;have au:=eh.V ei;refine bT (λf a=>f=[aK U]/\af.drew=a) ?_ ?_
    ·obtain⟨_,ba,ej,ek,_,_,_⟩:=c7.hJ (bD aL);try simp only[M,N,O,P]
     refine iY rfl ?_;refine(amI h).2 ?_;refine(amR au.amB h).2 ?_;try simp only[M,N,O,P,bi]
     refine⟨λbn=>?_,λbX=>?_⟩
     ·rw[if_pos A]at p;obtain⟨el,em,eo⟩:=p;refine(ba _).2 ?_;rw[be.iE,el];try simp only[M,N,O,P]
      refine iY (by decide) ?_;refine(ej _).2 ?_;try simp only[M,N,O,P]
      refine(amI h).2 ?_;refine(ans au.amJ h).2 ?_;rw[be.cu,em];try simp only[M,N,O,P]
      refine iY B ?_;refine(ek _).2 ?_;try simp only[M,N,O,P]
      refine(amI h).2 ?_;refine(ans au.amJ h).2 ?_;rw[be.cS,eo];try simp only[M,N,O,P]
      refine iY B ?_;refine(amI h).2 ?_;refine(amR au.amB h).2 ?_;try simp only[M,N,O,P]
      refine iY (decide_eq_false A) ?_;exact⟨by trivial,by trivial⟩
     ·rw[if_neg A]at p;refine(amI h).2 ?_;refine(amR au.amB h).2 ?_;try simp only[M,N,O,P]
      refine q6 (decide_eq_true A) ?_;refine(ba _).2 ?_;rw[be.iE,p];try simp only[M,N,O,P]
      exact⟨B,by trivial⟩
    rintro _ _ _ ⟨rfl,rfl⟩;try simp only[M,N,O,P]
    rw[bq A A];exact⟨⟨n+1,cR,_,_,by trivial,A,au,by simp only;omega,cP,A⟩,by simp;omega⟩
   ·rw[bq A A];exact⟨⟨x+1,ci,bd,cM,by trivial,A,cO,A,cP,A⟩,by simp;omega⟩
  ·refine aH W5 (alA bc.amr.sl.pM) ?_;rintro _ ga ⟨rfl,ep⟩;exact⟨rfl,bc.amr.qV.R ep B⟩
end
end
section
open Go.ChangeShapes Go.WideShapes Go.RowKit
abbrev B3:List (String×DataW Unit):=[("unicode/utf8.acceptRanges",Rows.laid_unicode_utf8_acceptRanges),("errors.errorType",Rows.laid_errors_errorType),("unicode/utf8.first",Rows.laid_unicode_utf8_first)]
def alP:ownKnob C.godebug=I:=K
def alQ:C.globalNamed "errors.errorType"=E 0:=K
def alR:(C.cutTypes.find? (·.1== "internal/reflectlite.rtype")).map (·.2)=E 271:=K
def alS:((c9 542).filter λt=>C.rowNamed t [101,114,114,111,114])=[73]:=K
def alT:C.types.size=542:=K
def UZ:laidOutB C=G:=K
def alU{bE:aN}(h:laidMetH C B3 bE):jf bE:=by have c:laidMet C [("unicode/utf8.acceptRanges",Rows.laid_unicode_utf8_acceptRanges),("unicode/utf8.first",Rows.laid_unicode_utf8_first)] bE/\handlesMet C [("errors.errorType",Rows.laid_errors_errorType)] bE:=h;obtain⟨name,ae,d,e,f,g,i,a⟩:=c.2 _ (ku.2 rfl);have j:name=[101,114,114,111,114]:=(re e).symm;subst j;obtain rfl:=re (alR.symm.trans f);have b:d∈(c9 542).filter λt=>C.rowNamed t [101,114,114,111,114]:=ol.2 ⟨iK.2 (by rw[<-alT];exact g),i⟩;rw[alS]at b;obtain rfl:=ku.1 b;have k:typeHandle C 73=eu 73:=K;rw[k]at a;have:=World.var?_cell alQ a 0;unfold jf iF;simpa using this
def U0(l:List Nat):Array S:=(l.map λn:Nat=>F cl n).toArray
noncomputable def U1(rh:Os):aN:=
 let bv:=World.holding C rh ⟨#[],#[],[]⟩;let put:=λ(h:Array Obj)(b:Nat)(d:Array S)=>h.modify b λ
  |amv _ t a=>amv d t a
  |af=>af
 {bv with heap:=put (put (put bv.heap 0 #[eZ 271 (b6 #[aE (E ⟨4,73,I⟩)])]) ((C.globalNamed "unicode/utf8.acceptRanges").getD 0) (U0 ([128,191,160,191,128,159,144,191,128,143]++cN 22 0))) ((C.globalNamed "unicode/utf8.first").getD 0) (U0 Pinned.utf8FirstZ)}
def alV(rh:Os)(c8:Array S):laidMetH C B3 ((U1 rh).forCall (λ_ _=>0) ⟨#[],c8,[]⟩).memory:=
 laidMetH_of_parts (laidMet_of_run' 8 K K) K
end
section
open Go.RowKit Go.ChangeShapes Go.WideShapes Go.Deep
section
def Fh(ad:ft)(ar:co)(l:List (Nat×co)):Prop:=ad.underlying ar=E (.struct (ad.fieldsOf ar))/\(ad.fieldsOf ar).toList.map (λaj=>(aj.offset,aj.type))=l
def B4{l:List (Nat×co)}(ao:Fh ad ar l){ams:Type}{a:co×S->ams}{c:Nat}{bo:List S}{x:DataW ams×List MemPlace}
  (h:DataW.trod a ad w 0 (λ_=>G) G c ar bo=E x):bo.length=ad.cellsOf ar/\∀ai∈l,∃(n:Nat)(ap:DataW ams×List MemPlace),DataW.trod a ad w 0 (λ_=>G) G n ai.2 ((bo.drop ai.1).take (ad.cellsOf ai.2))=E ap:=by
 obtain⟨d,rfl⟩:=ao;obtain⟨b7,e,o,p,f,q,g⟩:=DataW.trod_struct d h;refine⟨f,λai i=>?_⟩;obtain⟨aj,k,rfl⟩:=fS.1 i;obtain⟨j,b,rfl⟩:=ns k;rw[tj]at b;have m:=g j _ (ti b);simp only[Array.getElem_toList];exact⟨e,b7[j]'A,m.trans (cr A)⟩
def uo{l:List (Nat×co)}(ao:Fh ad ar l){ams:Type}{c:co×S->ams}{d:Nat}{bo:List S}{x:DataW ams×List MemPlace}
  (h:DataW.trod c ad w 0 (λ_=>G) G d ar bo=E x) (e:(af,t)∈l) (f:ad.cellsOf t=1) (g:ad.underlying t=E (.int H)):∃n,bo[af]?=E (F H n)/\-9223372036854775808<=n/\n<=9223372036854775807:=by
 obtain⟨n,ap,a⟩:=(B4 ao h).2 _ e;rw[f]at a;obtain⟨bm,i,_,j⟩:=DataW.trod_int g a;refine⟨bm,?_,Kz j⟩;have b:((bo.drop af).take 1)[0]?=E (F H bm):=by rw[i];rfl
 rw[List.getElem?_take_of_lt A,oo]at b;exact b
end
section
def U2(ag:JI):Prop:=∀n∈[ag.aJ,ag.g2,ag.sZ,ag.hH,ag.aR,ag.bk,ag.UI],-9223372036854775808<=n/\n<=(9223372036854775807:Int)
def wF:Fh C 51 [(0,3),(1,3),(2,3),(3,3),(4,3),(5,3),(6,3)]:=⟨K,K⟩
def U3:C.cellsOf 51=7:=K
def te:C.cellsOf 3=1:=K
def tf:C.underlying 3=E (.int H):=K
def alW:zf C w 51 JJ U2:=by
 intro ams v y bo x a;have h:=(B4 wF a).1;rw[U3]at h;obtain⟨s,i,z⟩:=uo wF a (af:=0) (t:=3) B te tf;obtain⟨jb,j,A⟩:=uo wF a (af:=1) (t:=3) B te tf;obtain⟨u,k,D⟩:=uo wF a (af:=2) (t:=3) B te tf;obtain⟨mB,m,J⟩:=uo wF a (af:=3) (t:=3) B te tf;obtain⟨lG,o,K⟩:=uo wF a (af:=4) (t:=3) B te tf;obtain⟨m3,p,L⟩:=uo wF a (af:=5) (t:=3) B te tf;obtain⟨n6,q,M⟩:=uo wF a (af:=6) (t:=3) B te tf;clear a;obtain⟨fH,b,c,d,e,f,g,rfl⟩:∃fH b c d e f g,bo=[fH,b,c,d,e,f,g]:=by rcases bo with _|⟨fH,_|⟨b,_|⟨c,_|⟨d,_|⟨e,_|⟨f,_|⟨g,_|⟨N,l⟩⟩⟩⟩⟩⟩⟩⟩<;>simp at h;exact⟨_,_,_,_,_,_,_,rfl⟩
 simp at i j k m o p q;subst i j k m o p q;refine⟨⟨s,jb,u,mB,lG,m3,n6⟩,rfl,?_⟩;intro n r;simp only[ce,List.mem_nil_iff,or_false]at r;rcases r with rfl|rfl|rfl|rfl|rfl|rfl|rfl<;>assumption
def zG:Fh C 54 [(0,3),(1,3),(2,3),(3,51),(10,52)]:=⟨K,K⟩
def U4:C.cellsOf 54=11:=K
def alX:C.cellsOf 52=1:=K
def alY:C.underlying 52=E (.slice 5):=K
def alZ:C.cellsOf 5=1:=K
def al0:C.underlying 5=E (.int cl):=K
def al1(w:aN)(ak:um):Prop:=(∀n∈[ak.aJ,ak.wC,ak.aR],-9223372036854775808<=n/\n<=(9223372036854775807:Int))/\U2 ak.eX/\∃l:List UInt8,aT w bs ak.mH l
def al2:zf C w 54 sk (al1 w):=by
 intro ams L M bo x a;have p:=(B4 zG a).1;rw[U4]at p;obtain⟨q,r,N⟩:=uo zG a (af:=0) (t:=3) B te tf;obtain⟨jb,s,O⟩:=uo zG a (af:=1) (t:=3) B te tf;obtain⟨u,v,P⟩:=uo zG a (af:=2) (t:=3) B te tf;obtain⟨Q,R,b⟩:=(B4 zG a).2 (3,51) B;obtain⟨V,W,k⟩:=(B4 zG a).2 (10,52) B;rw[U3]at b;rw[alX]at k;obtain⟨ag,b,D⟩:=alW _ _ _ _ _ b;obtain⟨aa,l,y,J,_⟩:=Sk alY alZ (λ_=>rfl) A (agk al0) _ _ _ _ _ k;clear a;obtain⟨fH,m,o,d,e,f,g,h,i,j,c,rfl⟩:∃fH m o d e f g h i j c,bo=[fH,m,o,d,e,f,g,h,i,j,c]:=by rcases bo with _|⟨fH,_|⟨m,_|⟨o,_|⟨d,_|⟨e,_|⟨f,_|⟨g,_|⟨h,_|⟨i,_|⟨j,_|⟨c,_|⟨X,l⟩⟩⟩⟩⟩⟩⟩⟩⟩⟩⟩⟩<;>simp at p;exact⟨_,_,_,_,_,_,_,_,_,_,_,rfl⟩
 simp at r s v;have K:c=aa:=by simpa using y
 have b:[d,e,f,g,h,i,j]=JJ ag:=b;clear y k;subst r s v K;refine⟨⟨q,jb,u,ag,c⟩,?_,?_,D,l,J⟩
 ·show[F H q,F H jb,F H u,d,e,f,g,h,i,j,c]=_;unfold sk;rw[<-b];rfl
 ·intro n z;simp only[ce,List.mem_nil_iff,or_false]at z;rcases z with rfl|rfl|rfl<;>assumption
def al3:C.underlying 23=E (.slice 54):=K
def aoe:C.underlying 76=E (.slice 51):=K
end
end
end Go.Proofs.YtepeilglbedgdaaGreatDoor
namespace Go.Proofs.YtepeilglbedgdaaGreatDoor.topCatalog
open Go.X
section
open Go.ChangeShapes Go.WideShapes Go.ChangeAt Go.RowKit Go.Proofs.YtepeilglbedgdaaGreatDoor
set_option maxRecDepth 100000 in
theorem al4 (rh:Os) (y:rh.Started) (ams:Type) (be:co×S->ams):
  ReturnsInHanded {} Tryz.checked rh 5 .any (λw c8=>(Rows.topCatalogSpec.pre be C Tryz.f5 [] U w c8/\laidMetH C B3 w)/\sizedMet be C Tryz.f5 (OpenSpec.ofChange Rows.topCatalogSpec) U w c8)
   (Rows.topCatalogSpec.post be C Tryz.f5 U G U U):=by
 refine returnsInHanded_of_change_and (C:=Tryz.checked) (X:=λw _=>laidMetH C B3 w) (λ_ _ _ z h=>h.of_heap z) alP y K Tryz.func5
  (ChangeSpec.witness_at (enc:=be) (C:=Tryz.checked) (os:=rh) (X:=λw _=>laidMetH C B3 w) U (U1 rh) #[F H 0,F H 0,T I 0 0,T I 0 0,T I 0 0] 8 rfl K K K K K (alV rh _)) ?_
 intro bC B c8 D ap aq d f _ _ J _;have a:∀(j:Nat) t aa,Tryz.f5.params[j]?=E t->c8[j]?=E aa->Value.okWide C bC .any B t aa:=d;have L:=f;obtain⟨ah,ai,g,M,rfl,ar,au⟩:=f;have i:DataW.TrodAll be C bC 0 (λ_=>G) G Tryz.f5.params.toList c8.toList D ah:=g;rw[Tryz.params5]at i a;obtain⟨k,av,aw,ax,U6,ay,az,rfl,rfl,N,O⟩:=trodAll_cons i;obtain⟨l,aB,aC,aD,aF,aG,rfl,rfl,rfl,P,Q⟩:=trodAll_cons O;obtain⟨m,aH,aI,aJ,R,aL,rfl,rfl,rfl,n,V⟩:=trodAll_cons Q;obtain⟨o,aM,aO,aP,W,aQ,rfl,rfl,rfl,p,ab⟩:=trodAll_cons V;obtain⟨q,aR,aS,aT,ac,aU,rfl,rfl,rfl,r,ad⟩:=trodAll_cons ab;obtain⟨rfl,rfl,rfl⟩:=trodAll_nil ad;obtain rfl:c8=#[k,l,m,o,q]:=by cases c8;simp_all
 obtain⟨rfl,rfl⟩:=trodVars_none M;obtain⟨fH,rfl,rfl,rfl,bv⟩:=open_int Tryz.underlying3 (a 0 3 k rfl rfl) N;obtain⟨aV,rfl,rfl,rfl,aA⟩:=open_int Tryz.underlying3 (a 1 3 l rfl rfl) P;have s:=n;have ae:∀x∈R,x.block<bC.heap.size:=by obtain⟨ak,b⟩:=s;exact DataW.trod_lt ak _ _ _ b
 obtain⟨c5,af,aW,ou⟩:=Sl aoe U3 (λ_=>rfl) A alW (a 2 76 m rfl rfl) n;have u:=p;have ag:∀x∈W,x.block<bC.heap.size:=by obtain⟨ak,b⟩:=u;exact DataW.trod_lt ak _ _ _ b
 obtain⟨da,aj,aX,aY⟩:=Sl al3 U4 (λ_=>rfl) A al2 (a 3 23 o rfl rfl) p;have v:=r;have al:∀x∈ac,x.block<bC.heap.size:=by obtain⟨ak,b⟩:=v;exact DataW.trod_lt ak _ _ _ b
 obtain⟨aZ,am,a0,a1⟩:=Sl (be:=Go.X.ew) Tryz.underlying22 te (λ_=>rfl) A (agj tf) (a 4 22 q rfl rfl) r;have an:=alU J;clear g d;refine(Go.X.a0.Vv (aod an af aj am)).mono λe a2⟨ao,c⟩=>?_;subst ao;exact⟨_,rfl,_,_,_,[],_,[],L,trodAll_mk1 (shut_bool Tryz.underlying4 _),(trodAll_cons_mk (shut_int Tryz.underlying3 bv) (trodAll_cons_mk (shut_int Tryz.underlying3 aA) (trodAll_cons_mk (Below.trod UZ K (of_decide_eq_true K) s c ae) (trodAll_cons_mk (Below.trod UZ K (of_decide_eq_true K) u c ag) (trodAll_cons_mk (Below.trod UZ K (of_decide_eq_true K) v c al) trodAll_mk0))))),rfl,c.frame _,λh=>by cases h⟩
theorem jl{d b:Bool}(h:d=G)(k:b=G):(d&&b)=G:=by rw[h,k];rfl
theorem U5:Tryz.pinned.checked.prog.funcNamed Rows.topCatalogRow.func=E 5:=K
theorem inst:Tryz.f5.isInstance Tryz.pinned.checked.prog Rows.topCatalogRow.origin Rows.topCatalogRow.targs:=of_decide_eq_true K
theorem al5:Tryz.f5.isWrapper Tryz.pinned.checked.prog Rows.topCatalogRow.wrapper Rows.topCatalogRow.mainSum:=by unfold Func.isWrapper;first|(rw[if_pos (by decide+kernel)];kernel_rfl)|(rw[if_neg (by decide+kernel)];exact⟨rfl,rfl⟩)
set_option maxHeartbeats 8000000 in
theorem al6:joinedFacts Tryz.pinned.checked.prog 5 Tryz.f5 Rows.topCatalogSpec Rows.topCatalogRow=G:=by unfold joinedFacts;refine jl (jl (jl (jl (jl (jl (jl (jl (jl (jl (jl (jl (jl (jl (jl (jl (jl (jl (jl (jl (jl (jl (jl (jl (jl (jl (jl (jl (jl (jl (jl ?_ ?_) ?_) ?_) ?_) ?_) ?_) ?_) ?_) ?_) ?_) ?_) ?_) ?_) ?_) ?_) ?_) ?_) ?_) ?_) ?_) ?_) ?_) ?_) ?_) ?_) ?_) ?_) ?_) ?_) ?_) ?_;all_goals decide+kernel
theorem aof:Rows.topCatalogRow.holds Tryz.pinned (OpenSpec.ofChange Rows.topCatalogSpec):=
 OpenClaim.holds_of_wide 5 Tryz.f5 rfl rfl rfl rfl rfl rfl rfl ⟨rfl,rfl,rfl,rfl,rfl⟩ rfl rfl rfl rfl rfl U5 Tryz.func5 al6
  inst al5
  (λrh a ams be _=>al4 rh a ams be)
theorem al8:U=Rows.topCatalogRow.goesBy Tryz.pinned.checked.prog:=K
theorem al9:Tryz.pinned.checked.prog.mainIs=E (G,((G, "0cb66b075be2326e287ec28bf4f90176a22813707f997a64b32bd5491fbd1b1a")).2.toList):=K
theorem ama:G=Tryz.pinned.checked.prog.looks []:=K
theorem amb:Tryz.f5.params.all (λt=>!C.wantsStandIn t)=G:=K
theorem proved:Rows.TopCatalogCardSaid:=
 Claim7.holds_tied_plain_at .later [] [.data,.handle,.pinned] G (G, "0cb66b075be2326e287ec28bf4f90176a22813707f997a64b32bd5491fbd1b1a") G
  aof (λ_ h=>by cases h) K (λ_ h=>by cases h) topCatalog_row_tie rfl ⟨rfl,rfl⟩ al9 rfl
  (λaj gr a b=>by
   obtain rfl:aj=5:=re (U5.symm.trans a)|>.symm;obtain rfl:gr=Tryz.f5:=(re (Tryz.func5.symm.trans b)).symm;exact⟨ama,λj t c=>by
    have d:=Array.all_eq_true_iff_forall_mem.1 amb t (Array.mem_of_getElem? c);have e:C.wantsStandIn t=U:=by simpa using d
    exact e⟩)
  al8
end
end Go.Proofs.YtepeilglbedgdaaGreatDoor.topCatalog
