import Derived.Test.YtepeilglbedgdaaGreatDoorCards
import Derived.Test.YtepeilglbedgdaaGreatDoorTie
import Derived.ChangeVars
import Derived.JoinedOf
import Derived.RowKit
import Derived.RowKitTokens
import Derived.LaidLaws
import Derived.LaidHandle
import Derived.Stop.Joined
import Derived.SevenTiedAt
import GoSem.PinnedTables
import Derived.OpenShut
import Derived.ShutString
import Derived.ChangeOld
import Derived.Test.YtepeilglbedgdaaGreatDoorFT5
/- A part of the proof of this claim: it states and proves what the walk through the program uses. Its names are short ones that a program gave. The last part proves the card: for every input the call returns true, and each argument reads behind the call as it read before. -/
set_option linter.defProp false
set_option linter.all false
set_option maxRecDepth 100000
set_option maxHeartbeats 2000000
open Array renaming getElem?_eq_getElem->ti,length_toList->tj
open Bool renaming and_eq_true->dA,false->U,true->G
open Go renaming Addr->es,Program->ft,TypeId->co,Value->S,World->aN
open Go.Ending renaming returned->gd
open Go.IntKind renaming i64->H,u8->cl
open Go.Obj renaming cells->amv
open Go.Proofs.Tryz renaming prog->C
open Go.Value renaming agg->b6,bool->aK,cells->bF,iface->eZ,int->F,pointer->aE,slice->T,string->bO
open List renaming flatMap_cons->iA,getD_eq_getElem?_getD->gp,getElem?_drop->oo,getElem?_eq_getElem->cr,getElem?_eq_some_iff->fi,getElem?_map->e1,getElem_mem->dX,getElem_of_mem->ns,length_append->di,length_drop->e8,length_map->dU,length_set->i9,length_take->ea,map_map->ts,mem_append->b4,mem_cons->ce,mem_filter->ol,mem_map->fS,mem_map_of_mem->mz,mem_range->iK,mem_singleton->ku,range->c9,replicate->cN
open Nat renaming add_zero->qA,le_refl->fF,le_trans->gz,mul_le_mul_right->mw
open Option renaming none->I,some->E
open Option.some renaming inj->re
open Or renaming inl->Y,inr->Z
open Go
namespace Go.Proofs.YtepeilglbedgdaaGreatDoor
open Go.X
attribute[local irreducible]Go.X.W
variable{B7 aor gY jb:Int}{a bv w:aN}{aQ aX ab af ag ai ak b bu g i iO k n s t:Nat}{aB cp dN:Nat -> Bool}{aD am az bU ci d6:List Nat}{ae cB jn:S}{ad:ft}{ay vy:Nat -> Nat -> Bool}{an:cK}{ar:co}{au:eW}{bo:List i8}{c:dR}{d:dl}{fT l:List UInt8}{ri:List er}
section
open Go.RowKit fC gO
section
variable{ag:JI}{ak:um}{t g:ByteArray}{ah af k:Int}
def aot(gY kind:Int)(t g:ByteArray)(part eM gG B7:Int):dl:=⟨gY,kind,t,g,part,0,0,eM,gG,B7,fr⟩
def aoU(a:0<=d.dF/\d.dF<=4294967295)(h:7<=d.a5/\d.a5<=9)(b:d.le=G)(ao:(nC d.a5 (jg d)).lO d=G)(c:∀ai∈(jG d.a5).zip (jg d),ai.1.e0 ai.2=G)(e:d.gj=G):d.bt=G:=by
 have f:i3 d.a5=U:=by unfold i3;exact decide_eq_false A
 have g:rF d.a5=G:=by unfold rF;exact decide_eq_true A
 unfold dl.bt;rw[dA,decide_eq_true_iff,f];refine⟨a,?_⟩;show d.p6=G;unfold dl.p6;rw[dA,dA,dA,dA];exact⟨⟨⟨g,(xc (vU _) (sL d)).2 c⟩,b⟩,ao,e⟩
def apa(a:jV t=G)(f:0<=gY/\gY<=4294967295)(b:0<=ah/\ah<=3)(c:0<=af/\af<=9223372036854775807)(d:0<=k/\k<=1048576):(aot gY 7 t cg ah af k 0).bt=G:=by
 have g:=oJ a;refine aoU f (by simp[aot]) (by simp[dl.le,aot,fr]) (by simp[dl.lO,nC,jg,aot,gl,ig,hZ]) (λai e=>?_) ?_
 ·simp[jG,jg,aot]at e;rcases e with rfl|rfl|rfl|rfl
  ·exact uT.2 A
  ·exact(ca.p5 rfl).2 ⟨b.1,b.2,rfl,rfl⟩
  ·exact(ca.p5 rfl).2 ⟨c.1,c.2,rfl,rfl⟩
  ·exact(ca.p5 rfl).2 ⟨d.1,d.2,rfl,rfl⟩
 ·show((decide ((7:Int)=6)||jV t)&&(decide ((7:Int)≠9)||jV cg))=G;rw[a];rfl
def apI(a:jV t=G)(d:0<=gY/\gY<=4294967295)(b:0<=ah/\ah<=3)(e:0<=B7/\B7<=1000):(aot gY 8 t cg ah 0 0 B7).bt=G:=by
 have f:=oJ a;refine aoU d (by simp[aot]) (by simp[dl.le,aot,fr]) (by simp[dl.lO,nC,jg,aot,gl,ig,hZ]) (λai c=>?_) ?_
 ·simp[jG,jg,aot]at c;rcases c with rfl|rfl|rfl
  ·exact uT.2 A
  ·exact(ca.p5 rfl).2 ⟨b.1,b.2,rfl,rfl⟩
  ·exact(ca.p5 rfl).2 ⟨e.1,by show B7<=1125899906842624;omega,rfl,rfl⟩
 ·show((decide ((8:Int)=6)||jV t)&&(decide ((8:Int)≠9)||jV cg))=G;rw[a];rfl
def apJ(a:jV t=G)(b:jV g=G)(e:0<=gY/\gY<=4294967295)(c:0<=ah/\ah<=3):(aot gY 9 t g ah 0 0 0).bt=G:=by
 have f:=oJ a;have h:=oJ b;refine aoU e (by simp[aot]) (by simp[dl.le,aot,fr]) (by simp[dl.lO,nC,jg,aot,gl,ig,hZ]) (λai d=>?_) ?_
 ·simp[jG,jg,aot]at d;rcases d with rfl|rfl|rfl
  ·exact uT.2 A
  ·exact uT.2 A
  ·exact(ca.p5 rfl).2 ⟨c.1,c.2,rfl,rfl⟩
 ·show((decide ((9:Int)=6)||jV t)&&(decide ((9:Int)≠9)||jV g))=G;rw[a,b];rfl
def apK:C.built 43 #[(0,F H gY),(1,F H 6)].toList=E (f1 (amQ gY) (T I 0 0)).toArray:=K
def apL:C.built 43 #[(0,F H gY),(1,F H 7),(2,bO t),(4,F H ah),(7,F H af),(8,F H k)].toList=E (f1 (aot gY 7 t cg ah af k 0) (T I 0 0)).toArray:=K
def apM:C.built 43 #[(0,F H gY),(1,F H 8),(2,bO t),(4,F H ah),(9,F H B7)].toList=E (f1 (aot gY 8 t cg ah 0 0 B7) (T I 0 0)).toArray:=K
def apN:C.built 43 #[(0,F H gY),(1,F H 9),(3,bO g),(2,bO t),(4,F H ah)].toList=E (f1 (aot gY 9 t g ah 0 0 0) (T I 0 0)).toArray:=K
def aoR{j a:Int}(b:t.size<=100)(c:g.size<=100):qt (aot j a t g ah af jb aor):=vp ⟨b,c,by simp[aot,fr]⟩
def apO(q:0<=gY/\gY<=4294967295):a0 C 65 #[aoM ag,F H gY] w λae a=>∃d bc,ae=ho d bc/\aT a Go.X.dV bc d.bk.a7/\d.bt=G/\qt d/\Q [] w a:=by
 refine a9 ao7 2 Tryz.func65 K rfl λa1 ap=>?_;simp+decide (maxSteps:=9999999)only[↓a8,ba,ao7,Tryz.f65];subst ap;refine eA λax y V a3=>?_;have y:aC ax w.heap.size 51 (JJ ag):=by simpa[aoM,bF]using y
 refine uj λm aa ad a5=>?_;have z:=y.J ad B;have aq:=V.R ad B;have a6:w.heap.size<=ax.heap.size:=V.aI;generalize a7:w.heap.size=D at*;generalize bb:ax.heap.size=t at*;have j:∀{af:Nat}{bm:Int}{ac:S->Prop}{h:aN},(JJ ag)[af]?=E (F H bm)->Q [] m h->(aZ C (a4 3 (aE (E ⟨D,af,I⟩))) h ac↔ac (F H bm)):=λJ o=>bl bZ (((z.J o B).bh (af:=_)).trans J);have g:∀{af:Nat}{bm:Int}{gf:Prop}{h:aN},(JJ ag)[af]?=E (F H bm)->Q [] m h->(gu C (a4 3 (aE (E ⟨D,af,I⟩))) (F H bm) h gf↔gf):=λJ o=>dz bZ (((z.J o B).bh (af:=_)).trans J);have i:=cD [] m;have r:∀{h:aN}{d:dl}{bc:S},Q [] m h->aT h Go.X.dV bc d.bk.a7->(∀b af n c,bc=T (E ⟨b,af,I⟩) n c->b≠t)->d.bt=G->qt d->W C (dC 43 (aP t) (ho d bc)) h λ_ s=>aZ C (a4 43 (aP t)) s λab=>o5 (λae a=>∃d bc,ae=ho d bc/\aT a Go.X.dV bc d.bk.a7/\d.bt=G/\qt d/\Q [] w a) (gd ab) s:=by intro h d bc o ah ai ar ao;refine qu (d:=d) (aa.J o B) rfl ah.aW λs L p au=>?_;obtain⟨bd,be,bf,bg,bh,bj,bk,bn,bo,bp,bq,av⟩:=gc L;refine(av _).2 ?_;exact⟨d,bc,rfl,ah.J p (λb af n c e aw=>ai b af n c e (by simpa using aw)),ar,ao,(aq.R o B).R p (by simp;omega)⟩
 have u:∀b af n c,T I 0 0=T (E ⟨b,af,I⟩) n c->b≠t:=λb af n c e=>by cases e
 try simp only[M,N,O,P]
 refine(j (af:=2) rfl (.b0 _ _)).2 ?_;refine tc (ay:=0) (al:=9) A A ?_;generalize kr ag.sZ 0 9=bm at*;try simp only[M,N,O,P,bi]
 refine⟨λaz=>?_,λaz=>⟨λaA=>?_,λaA=>⟨λaB=>?_,λaB=>?_⟩⟩⟩
 ·refine(bY apK).2 ?_;exact r (d:=amQ gY) (.b0 _ _) (aT.gW _ _) u (an3 q) (vp ⟨by show cg.size<=100;decide,by show cg.size<=100;decide,by simp[amQ,fr]⟩)
 ·refine(j (af:=1) rfl i).2 ?_;refine(j (af:=3) rfl i).2 ?_;refine(j (af:=4) rfl i).2 ?_;refine aH amX am0 ?_;rintro _ h ⟨rfl,k⟩;have f:=i.R k B;refine(g (af:=4) rfl f).2 ?_;refine(g (af:=3) rfl f).2 ?_;refine tc (ay:=0) (al:=2) A A ?_;refine(g (af:=4) rfl f).2 ?_;refine tc (ay:=0) (al:=51) A A ?_;have aj:=(q9 (n:=ag.hH) (ay:=0) (al:=2) A).2;have br:=(q9 (n:=ag.aR) (ay:=0) (al:=51) A).2;refine(bY apM).2 ?_;exact r (d:=aot gY 8 (amu ag.g2) cg (kr ag.hH 0 2) 0 0 (kr ag.aR 0 51)) f (aT.gW _ _) u (apI (ano _) q A A) (aoR (by rw[anp];omega) (by decide))
 ·refine(j (af:=5) rfl i).2 ?_;refine(j (af:=1) rfl i).2 ?_;refine(j (af:=3) rfl i).2 ?_;refine aH amX am0 ?_;rintro _ h ⟨rfl,k⟩;have f:=i.R k B;refine(g (af:=3) rfl f).2 ?_;refine(g (af:=1) rfl f).2 ?_;refine aH amX am0 ?_;rintro _ s ⟨rfl,p⟩;have ak:=f.R p B;refine(g (af:=3) rfl ak).2 ?_;refine tc (ay:=0) (al:=2) A A ?_;have aj:=(q9 (n:=ag.hH) (ay:=0) (al:=2) A).2;refine(bY apN).2 ?_;exact r (d:=aot gY 9 (amu ag.g2) (amu ag.bk) (kr ag.hH 0 2) 0 0 0) ak (aT.gW _ _) u (apJ (ano _) (ano _) q A) (aoR (by rw[anp];omega) (by rw[anp];omega))
 ·refine bT (λaD a=>aD=[aK (decide (bm=3\/bm=4))]/\m=a) ?_ ?_
  ·try simp only[M,N,O,P,bi]
   refine⟨λR=>⟨?_,by trivial⟩,λR=>⟨?_,by trivial⟩⟩
   ·congr 2;rw[decide_eq_decide];omega
   ·congr 2;rw[decide_eq_decide];omega
  rintro _ _ _ ⟨rfl,rfl⟩;try simp only[M,N,O,P,bi]
  refine⟨λR=>?_,λR=>?_⟩
  ·refine(j (af:=1) rfl i).2 ?_;refine(j (af:=3) rfl i).2 ?_;refine(j (af:=4) rfl i).2 ?_;refine(j (af:=5) rfl i).2 ?_;refine(j (af:=6) rfl i).2 ?_;refine aH amX am0 ?_;rintro _ h ⟨rfl,k⟩;have f:=i.R k B;refine(g (af:=6) rfl f).2 ?_;refine(g (af:=5) rfl f).2 ?_;refine(g (af:=4) rfl f).2 ?_;refine(g (af:=3) rfl f).2 ?_;refine tc (ay:=0) (al:=2) A A ?_;refine(g (af:=6) rfl f).2 ?_;refine(g (af:=5) rfl f).2 ?_;refine(g (af:=4) rfl f).2 ?_;refine tc (ay:=0) (al:=12) A A ?_;refine(g (af:=6) rfl f).2 ?_;refine(g (af:=5) rfl f).2 ?_;refine tc (ay:=0) (al:=3) A A ?_;refine(g (af:=6) rfl f).2 ?_;have aj:=(q9 (n:=ag.hH) (ay:=0) (al:=2) A).2;have ai:=(q9 (n:=ag.aR) (ay:=0) (al:=12) A).2;have bs:=(q9 (n:=ag.bk) (ay:=0) (al:=3) A).2;have bt:=(q9 (n:=ag.UI) (ay:=0) (al:=9) A).2;try simp only[M,N,O,P]
   rw[X.bq (x:=100*((kr ag.bk 0 3:Nat):Int)) A A,X.bq (x:=((kr ag.aR 0 12:Nat):Int)+100*((kr ag.bk 0 3:Nat):Int)) A A];refine tc (ay:=0) (al:=9) A A ?_;try simp only[M,N,O,P]
   rw[X.bq (x:=40*((kr ag.UI 0 9:Nat):Int)) A A];refine(bY apL).2 ?_;exact r (d:=aot gY 7 (amu ag.g2) cg (kr ag.hH 0 2) (kr ag.aR 0 12+100*(kr ag.bk 0 3:Nat)) (40*(kr ag.UI 0 9:Nat)) 0) f (aT.gW _ _) u (apa (ano _) q A A A) (aoR (by rw[anp];omega) (by decide))
  ·have aF:∀ac,aZ C (a4 51 (aE (E ⟨D,0,I⟩))) m ac↔ac (aoM ag):=λ_=>gC (l:=JJ ag) ao2 z.cy
   refine(aF _).2 ?_;refine aH apn apF ?_;rintro _ h ⟨e,cm,rfl,am,v,k,aG⟩;obtain⟨bu,bv,aI,_⟩:=id am;subst aI;refine uf λs L p au=>?_;refine s3 (e:=e) L rfl rfl λaJ aL aM bw=>?_;have an:Q [] h aJ:=p.R aM B;obtain⟨aO,aQ,aR,aS,aU,aV,aW,aX,aY⟩:=ik aL;try simp only[M,N,O,P,aO,aQ,aR,aS,aU,aV,aW,aX,aY]
   refine(bY (apH (e:=e))).2 ?_;have bx:=v.aR;have bz:=v.sZ;have bB:e.cI.size=1:=by rw[v.g2];exact anp _
   have bC:=aa.aL;exact r (d:=aoQ gY e) (k.R an B) (am.V an) (λb af n c a2 bD=>by have:=aG b af n c a2;omega) (apG q v.y9) (vp ⟨by show e.cI.size<=100;omega,by show e.dg.size<=100;omega,by show e.bk.a7.length<=100;omega⟩)
inductive aoI(ak:um)(w a:aN):S->Prop
 |lY:aoI ak w a (lm ⟨2,0,0,0,0,0,T I 0 0,T I 0 0⟩)
 |aoC:aoI ak w a (lm ⟨3,0,0,0,0,0,T I 0 0,T I 0 0⟩)
 |aoB (i:Nat) (aa:S) (l:List UInt8):i<=2->aT a bs aa l->l.length<=620->(∀b af n c,aa=T (E ⟨b,af,I⟩) n c->l≠[]->(∃d aor e,ak.mH=T (E ⟨b,d,I⟩) aor e/\0<aor)\/w.heap.size<=b)->aoI ak w a (lm ⟨1,i,0,0,0,0,T I 0 0,aa⟩)
def aoV{i:Int}{x:Option es}{l c:Nat}:C.built 59 #[(0,F H 1),(1,F H i),(7,T x l c)].toList=E (mY ⟨1,i,0,0,0,0,T I 0 0,T x l c⟩).toArray:=K
def apP(o:aT w bs ak.mH fT)(ai:0<=gY/\gY<=4294967295):a0 C 27 #[xR ak,F H gY] w λae a=>aoI ak w a ae/\Q [] w a:=by
 refine a9 ao5 2 Tryz.func27 K rfl λa1 aj=>?_;simp+decide (maxSteps:=9999999)only[↓a8,ba,ao5,Tryz.f27];subst aj;refine eA λaA m v aQ=>?_;have m:aC aA w.heap.size 54 (sk ak):=by simpa[xR,bF]using m
 refine Fb λax y z aR=>?_;have D:=v.R z B;have p:=m.J z B;have aS:=v.aI;have aU:=m.aL;generalize aV:w.heap.size=J at*;generalize aW:aA.heap.size=dB at*;obtain⟨am,an,aX⟩:=UL p;have ao:∀ac,aZ C (a4 51 (aE (E ⟨J,3,I⟩))) ax ac↔ac (aoM ak.eX):=λ_=>gC (l:=JJ ak.eX) ao2 (p.cy.d1 3 7)
 have ap:∀ac,aZ C (a4 52 (aE (E ⟨J,10,I⟩))) ax ac↔ac ak.mH:=λ_=>bl nb (p.bh (af:=10))
 try simp only[M,N,O,P,an]
 refine tc (ay:=0) (al:=2) A A ?_;have L:=(q9 (n:=ak.wC) (ay:=0) (al:=2) A).2;generalize kr ak.wC 0 2=i at*;try simp only[M,N,O,P,am]
 refine tc (ay:=0) (al:=11) A A ?_;generalize kr ak.aJ 0 11=bm at*;have eg:∀{j:aN}(x:vn),x.sM=T I 0 0->x.ch.oneCell'=G->Q [] ax j->(∀f,Q [dB] j f->aoI ak w f (lm x))->
   W C (dC 59 (aP dB) (lm x)) j λ_ f=>aZ C (a4 59 (aP dB)) f λab=>o5 (λae a=>aoI ak w a ae/\Q [] w a) (gd ab) f:=by
  intro j x aq g k ar;refine Fc (x:=x) (y.J k B) rfl (by rw[aq];rfl) g λf au h aY=>?_;refine(UK au).2 ?_;exact⟨ar f h,(D.R k B).R h (by simp;omega)⟩
 refine bT (λav a=>av=[aK (decide (bm=0\/bm=1\/bm=2))]/\ax=a) ?_ ?_
 ·try simp only[M,N,O,P,bi]
  refine⟨λq=>⟨?_,by trivial⟩,λq=>⟨λr=>⟨?_,by trivial⟩,λr=>⟨?_,by trivial⟩⟩⟩;all_goals
   congr 2;rw[decide_eq_decide];omega
 rintro _ _ _ ⟨rfl,rfl⟩;try simp only[M,N,O,P,bi]
 refine⟨λaw=>?_,λaw=>⟨λq=>?_,λq=>⟨λr=>?_,λr=>?_⟩⟩⟩
 ·refine(bY UG).2 ?_;exact eg ⟨2,0,0,0,0,0,T I 0 0,T I 0 0⟩ rfl rfl (.b0 _ _) λf _=>.lY
 ·refine(bY UG).2 ?_;exact eg ⟨3,0,0,0,0,0,T I 0 0,T I 0 0⟩ rfl rfl (.b0 _ _) λf _=>.aoC
 ·try simp only[M,N,O,P,ap]
  have R:=o.V D;obtain⟨a2,cC,V,_⟩:=id R;rw[V];try simp only[M,N,O,P]
  rw[show min (fT.length:Int) 30=((min fT.length 30:Nat):Int)by omega];rw[<-V];refine TJ fP el e2 R A A λa3 X az aa=>?_;obtain⟨a5,a6,rfl⟩:=az;refine(bY aoV).2 ?_;refine eg ⟨1,i,0,0,0,0,T I 0 0,_⟩ rfl rfl (.b0 _ _) λf h=>.aoB i _ (fT.take ((min fT.length 30:Nat):Int).toNat) L.2 ?_ (by rw[ea];omega) (λb af n c e aB=>Y ?_)
  rotate_left
  ·obtain⟨s,aor,t,g⟩:=aa b af n c e;refine⟨s,aor,t,g,?_⟩;obtain⟨bb,bd,aD,_⟩:=o;rw[aD]at g;cases g;cases fT with
   |nil=>simp at aB
   |cons bm l=>simp
  by_cases ad:fT=[]
  ·subst ad;obtain⟨d,c,e,aF,_⟩:=X;exact⟨d,c,e,aF,Y B⟩
  ·refine X.J h (λb af n c e u=>?_);obtain⟨s,aor,t,g⟩:=aa b af n c e;have aG:0<(fT.flatMap bs).length:=by obtain⟨x,l,rfl⟩:=List.exists_cons_of_ne_nil ad;rw[iA,di,e2];omega
   have:=o.Ei aG b s aor t g;simp at u;omega
 ·try simp only[M,N,O,P,ao]
  refine aH apr (apO ai) ?_;rintro _ j ⟨d,bc,rfl,aI,aJ,aL,k⟩;have be:=ak1 aJ;refine aH Xa (akX aI aL A) ?_;rintro bf f ⟨ag,h,ah⟩;obtain⟨bg,bh,rfl,_⟩:=id ag;have aM:Q [] ax f:=k.R h B;have bj:=k.aI;have bk:=y.aL;refine(bY aoV).2 ?_;refine eg ⟨1,i,0,0,0,0,T I 0 0,_⟩ rfl rfl aM λbn aO=>.aoB i _ _ L.2 (ag.J aO (λb af n c e u=>by have:=ah b af n c e;simp at u;omega)) (by unfold mZ;rw[di,zB];omega) (λb af n c e _=>Z (by have:=ah b af n c e;omega))
end
def aoW:∀(n:Nat)(c:er),c.bG.length<=n->(er.vk n c).2=I->(er.vk n c).1.bG.length<=1025
 |0,c,h,_=>by have:=c.Ju;show c.d4.bG.length<=1025;omega
 |n+1,c,h,a=>by
  have f:=c.Ju;rw[er.Jt]at a⊢;by_cases b:c.d4.bG.length<2
  ·rw[if_pos b];show c.d4.bG.length<=1025;omega
  ·rw[if_neg b]at a⊢;by_cases d:i7 c.d4.bG<=1024
   ·rw[if_pos d]at a⊢;by_cases e:c.d4.bG.length-2<i7 c.d4.bG
    ·rw[if_pos e];show c.d4.bG.length<=1025;omega
    ·rw[if_neg e]at a;cases a
   ·rw[if_neg d]at a⊢;refine aoW n _ ?_ a;simp[er.kG];omega
section
variable{c:er}
def apQ(d:dl):(an.kV cp d).1.cQ=an.cQ+1/\(an.kV cp d).1.cx=an.cx/\(an.kV cp d).1.bd=an.bd:=by
 unfold cK.kV;split
 ·split
  ·split<;>exact⟨rfl,rfl,rfl⟩
  ·exact⟨rfl,rfl,rfl⟩
 ·exact⟨rfl,rfl,rfl⟩
def apR(a:List UInt8):(j2 cp an c a).2.eJ.length<=c.eJ.length+335*(2+a.length)/\(j2 cp an c a).2.hB.length<=c.hB.length+1/\(j2 cp an c a).1.cQ<=an.cQ+1/\(j2 cp an c a).1.cx=an.cx/\(j2 cp an c a).1.bd=an.bd:=by
 have g:=aj8 (l:=a);unfold j2;rcases i:kS a with⟨d,cz⟩;rw[i]at g;cases cz with
 |some e=>
  have:=Uk (ab:=⟨d.dF,e.a5,0,0,[],[]⟩) rfl rfl;refine⟨?_,by simp[er.kG],by simp only;omega,rfl,rfl⟩;simp only[er.kG,di,zB];omega
 |none=>
  have g:=g rfl;obtain⟨h,b,f⟩:=apQ (an:=an) (cp:=cp) d;simp only;rcases ao:an.kV cp d with⟨dO,bb⟩;rw[ao]at h b f;simp only at h b f;cases bb with
  |some ad=>
   have:=BT ad;refine⟨?_,by simp[er.kG],by simp only;omega,b,f⟩;simp only[er.kG,di,zB];omega
  |none=>exact⟨by simp only;omega,B,by simp only;omega,b,f⟩
def apb:∀(n:Nat)(an:cK)(c:er),c.bG.length<=n->(k4 cp n an c).2.bG.length<=1025/\(k4 cp n an c).2.gE<=max c.gE 65535/\(k4 cp n an c).2.eJ.length+335*(k4 cp n an c).2.bG.length<=c.eJ.length+335*c.bG.length/\(k4 cp n an c).2.hB.length<=c.hB.length+c.bG.length/\(k4 cp n an c).1.cQ<=an.cQ+c.bG.length
 |0,an,c,h=>by
  have b:=Jw c;have l:c.il.2=I:=by
   cases k:c.il.2 with
   |none=>rfl
   |some d=>have:=b.dT;rw[k]at this;simp only[kp]at this;omega
  have e:=aoW _ c (fF _) l;have g:=b.dT;have i:=b.gE;have j:=b.eJ;have f:=b.Ul;rw[l]at g j;simp only[kp]at g j;show c.il.1.bG.length<=1025/\c.il.1.gE<=_/\c.il.1.eJ.length+335*c.il.1.bG.length<=_/\c.il.1.hB.length<=_/\an.cQ<=_;exact⟨e,i,A,by rw[f];omega,A⟩
 |n+1,an,c,h=>by
  have b:=Jw c;have e:=aoW _ c (fF c.bG.length);rw[Jx];have e:c.il.2=I->c.il.1.bG.length<=1025:=e;rcases k:c.il with⟨a,bb⟩;rw[k]at b e;have g:=b.dT;have i:=b.gE;have j:=b.eJ;have f:=b.Ul;cases bb with
  |none=>
   have o:a.bG.length<=1025:=e rfl;simp only[kp]at g i j f;show a.bG.length<=1025/\a.gE<=max c.gE 65535/\a.eJ.length+335*a.bG.length<=c.eJ.length+335*c.bG.length/\a.hB.length<=c.hB.length+c.bG.length/\an.cQ<=an.cQ+c.bG.length;exact⟨o,i,A,by rw[f];omega,A⟩
  |some d=>
   simp only[kp]at g i j f;obtain⟨w,p,x,y,z⟩:=apR (cp:=cp) (an:=an) (c:=a) d;obtain⟨m,q⟩:=E5 cp an a d;obtain⟨r,s,t,u,v⟩:=apb n (j2 cp an a d).1 (j2 cp an a d).2 (by rw[m];omega);rw[m]at t u v;rw[q]at s;rw[f]at p;simp only;generalize k4 cp n (j2 cp an a d).1 (j2 cp an a d).2=bb at*;exact⟨r,A,A,A,A⟩
inductive aoD
 |lY
 |aoC
 |aoB (i:Nat) (l:List UInt8)
def aoD.bp:aoD->Prop
 |.aoB i l=>i<=3/\l.length<=620
 |_=>True
def aoD.aoE(k aX:Nat)(x:aoD)(an:cK)(ri:List er):cK×List er:=match x with
 |.lY=>((an.j0 k aX).1,ri.map λx=>((an.j0 k aX).2.foldl (λc t=>kH t c) x).kL)
 |.aoC=>(an,ri)
 |.aoB i l=>((k4 kn ((ri.getD i iy).bG.length+l.length) an {ri.getD i iy with bG:=(ri.getD i iy).bG++l}).1,ri.set i (k4 kn ((ri.getD i iy).bG.length+l.length) an {ri.getD i iy with bG:=(ri.getD i iy).bG++l}).2)
structure aoX(n:Nat)(x:er):Prop where
 bG:x.bG.length<=1025
 gE:x.gE<=65535
 eJ:x.eJ.length+335*x.bG.length<=210000*n
 Ul:x.hB.length<=1700*n
structure aou(n:Nat)(an:cK)(ri:List er):Prop where
 dT:ri.length=4
 cQ:an.cQ<=1700*n
 a3:∀x∈ri,aoX n x
def apc:∀{l:List (Nat×dn)}{c:er},(l.foldl (λc t=>kH t c) c).bG=c.bG/\(l.foldl (λc t=>kH t c) c).gE=c.gE
 |[],c=>⟨rfl,rfl⟩
 |t::l,c=>by
  obtain⟨b,d⟩:=apc (l:=l) (c:=kH t c);have a:(kH t c).bG=c.bG/\(kH t c).gE=c.gE:=by unfold kH;split<;>exact⟨rfl,rfl⟩
  simp only[List.foldl_cons];exact⟨b.trans a.1,d.trans a.2⟩
def apS(k aX:Nat)(an:cK):(an.j0 k aX).1.cQ=an.cQ:=by
 unfold cK.j0;have bz:∀(n:Nat)(an:cK),(ne k aX n an).1.cQ=an.cQ:=by
  intro n;induction n with
  |zero=>intro an;rfl
  |succ n a=>
   intro an;rw[zr];split
   ·rfl
   ·refine(a _).trans ?_;unfold cK.dg;simp only;split
    ·rfl
    ·split<;>rfl
 exact bz _ an
def aou.bw(h:aou n an ri)(b:n<=ak):aou ak an ri:=
 ⟨h.dT,by have:=h.cQ;omega,λx a=>⟨(h.a3 x a).bG,(h.a3 x a).gE,by have:=(h.a3 x a).eJ;omega,by have:=(h.a3 x a).Ul;omega⟩⟩
def aou.ek(h:aou n an ri)(al:i<=3):aoX n (ri.getD i iy)/\ri.getD i iy∈ri:=by
 have b:=h.dT;have al:i<ri.length:=A;have a:ri.getD i iy∈ri:=by rw[gp,cr al];exact dX al
 exact⟨h.a3 _ a,a⟩
def aou.aoE(x:aoD)(a:x.bp)(h:aou n an ri)(b:an.bp aX):aou (n+1) (x.aoE k aX an ri).1 (x.aoE k aX an ri).2:=by
 cases x with
 |aoC=>exact h.bw A
 |lY=>
  refine⟨by show(List.map _ ri).length=4;rw[dU];exact h.dT,by show(an.j0 k aX).1.cQ<=_;rw[apS];have:=h.cQ;omega,λx a=>?_⟩;obtain⟨ap,g,rfl⟩:=fS.1 a;obtain⟨d,e,j,m⟩:=h.a3 ap g;obtain⟨f,o⟩:=apc (l:=(an.j0 k aX).2) (c:=ap);obtain⟨v,w⟩:=Uw (l:=(an.j0 k aX).2) (c:=ap) (Uu _ an);have y:(an.j0 k aX).2.length<=an.cn.length:=Uv _ b;have z:=b.iG;unfold er.kL;exact⟨by simp only;rw[f];exact d,by simp only;rw[o];exact e,by simp only;rw[f];omega,B⟩
 |aoB i l=>
  obtain⟨al,D⟩:=a;obtain⟨⟨d,e,j,m⟩,_⟩:=h.ek al;have J:=h.cQ;obtain⟨p,q,r,s,t⟩:=apb (cp:=kn) ((ri.getD i iy).bG.length+l.length) an {ri.getD i iy with bG:=(ri.getD i iy).bG++l} B;simp only[di]at q r s t;have u:=(h.bw (Nat.le_succ n)).a3;unfold aoD.aoE;simp only;generalize k4 kn ((ri.getD i iy).bG.length+l.length) an {ri.getD i iy with bG:=(ri.getD i iy).bG++l}=bb at*;refine⟨by rw[i9];exact h.dT,A,λx a=>?_⟩;rcases List.mem_or_eq_of_mem_set a with a|rfl
  ·exact u x a
  ·exact⟨p,A,A,A⟩
end
structure aos(w:aN)(s:Nat)(am:List Nat)(c:dR)(aB:Nat->Bool)(ay:Nat->Nat->Bool)(aQ bu:Nat)(an:cK)(ri:List er):Prop where
 gm:∃b ci d6 bo ab au ai,fR w s b ci d6 bo ab c au aB ay ix ai aQ an/\bo.map (·.a3)=ri/\am=s::(ci++d6)/\ai<=bu
inductive aoF(w:aN):S->aoD->Prop
 |lY:aoF w (lm ⟨2,0,0,0,0,0,T I 0 0,T I 0 0⟩) .lY
 |aoC:aoF w (lm ⟨3,0,0,0,0,0,T I 0 0,T I 0 0⟩) .aoC
 |aoB (i:Nat) (aa:S) (l:List UInt8):aT w bs aa l->aoF w (lm ⟨1,i,0,0,0,0,T I 0 0,aa⟩) (.aoB i l)
section
variable{x:aoD}
def kq.apd(h:kq w s am c dN bu an ri):∃aB ay aQ,aos w s am c aB ay aQ bu an ri/\qo c aB ay/\∀ag,ag<c.aR->dN ag=U->aB ag=U/\∀t,ay ag t=G:=by have d:=h.cL.2;obtain⟨⟨b,ci,d6,bo,ab,au,aB,ay,ai,aQ,e,f,rfl,a,g⟩,i⟩:=h;exact⟨aB,ay,aQ,⟨b,ci,d6,bo,ab,au,ai,e,f,rfl,g⟩,JF d i a,a⟩
def aos.sl(h:aos w s am c aB ay aQ bu an ri)(a:c.aJ<=bV (λag=>!dN ag) c.aR)(d:∀ag,ag<c.aR->dN ag=U->aB ag=U/\∀t,ay ag t=G):kq w s am c dN bu an ri:=by obtain⟨b,ci,d6,bo,ab,au,ai,e,f,rfl,g⟩:=h.gm;exact⟨⟨b,ci,d6,bo,ab,au,aB,ay,ai,aQ,e,f,rfl,d,g⟩,a⟩
def aos.J(h:aos w s am c aB ay aQ bu an ri)(d:Q bU w a)(e:bR am bU)(f:0∉bU):aos a s am c aB ay aQ bu an ri:=by obtain⟨b,ci,d6,bo,ab,au,ai,g,i,rfl,j⟩:=h.gm;exact⟨b,ci,d6,bo,ab,au,ai,g.J d e f,i,rfl,j⟩
def aos.aL(h:aos w s am c aB ay aQ bu an ri):∀g∈am,g<w.heap.size:=by obtain⟨b,ci,d6,bo,ab,au,ai,a,d,rfl,e⟩:=h.gm;exact a.aL
def aos.cL(h:aos w s am c aB ay aQ bu an ri):an.bp c.bd/\c.bp:=by obtain⟨b,ci,d6,bo,ab,au,ai,a,d,rfl,e⟩:=h.gm;exact a.ak2
def ape(h:aos w s am c aB ay aQ bu an ri)(ao:qo c aB ay):a0 C 15 #[aP s,lm ⟨3,0,0,0,0,0,T I 0 0,T I 0 0⟩] w λaa a=>aa=aK G/\∃az,aos a s az c aB (s2 ay aB (xC c aQ)) ((aQ+1)%qq c) bu an ri/\bX am az w a:=by obtain⟨b,ci,d6,bo,ab,au,ai,d,e,rfl,f⟩:=h.gm;refine(apv d ao).bw ?_;rintro aa a ⟨rfl,eT,g,i⟩;exact⟨rfl,_,⟨b,eT,d6,bo,ab,au,ai,g,e,rfl,f⟩,i.xQ⟩
def apT(h:aos w s am c aB ay aQ bu an ri)(ao:qo c aB ay)(k:aou n an ri)(Q:n<=32)(R:bu<=1000000)(z:x.bp)(B:aoF w ae x):
  a0 C 15 #[aP s,ae] w λaa a=>aa=aK G/\∃az vy ds,aos a s az c aB vy ds (bu+16) (x.aoE c.aJ c.bd an ri).1 (x.aoE c.aJ c.bd an ri).2/\(∀ag t,ay ag t=G->vy ag t=G)/\bX am az w a:=by
 have q:=h.cL.1;cases B with
 |aoC=>
  refine(ape h ao).bw ?_;rintro aa a ⟨rfl,az,⟨b,ci,d6,bo,ab,au,ai,f,d,rfl,r⟩,D⟩;exact⟨rfl,_,_,_,⟨b,ci,d6,bo,ab,au,ai,f,d,rfl,A⟩,λag t g=>by simp[s2,g],D⟩
 |lY=>
  obtain⟨b,ci,d6,bo,ab,au,ai,f,d,rfl,r⟩:=h.gm;have u:∀ap∈bo,aoX n ap.a3:=λap j=>k.a3 _ (by rw[<-d];exact mz j);refine(akC f ao A q.iG (λap j=>by have:=(u ap j).eJ;omega) (λap j=>by have:=(u ap j).Ul;omega)).bw ?_;rintro aa a ⟨rfl,eT,m,J,gg,dL,o,K,p,V⟩;have:=q.iG;refine⟨rfl,_,ay,aQ,⟨b,eT,m,J,ab,gg,dL,o,?_,rfl,A⟩,λ_ _ g=>g,p.xQ⟩;rw[K,<-d];show _=List.map _ (List.map _ bo);rw[ts];rfl
 |aoB i aa l L=>
  obtain⟨al,W⟩:=z;obtain⟨b,ci,d6,bo,ab,au,ai,f,d,rfl,r⟩:=h.gm;have X:=f.oi;have v:i<bo.length:=A;have e:ri.getD i iy=bo[i].a3:=by rw[<-d,gp,e1,cr v];rfl
  obtain⟨⟨M,y,N,O⟩,_⟩:=k.ek al;rw[e]at M y N O;have ac:=k.cQ;refine(akB f v (ak5 ao) L y A A A A).bw ?_;rintro aa a ⟨rfl,eT,m,dx,o,P,p⟩;refine⟨rfl,_,ay,aQ,⟨b,eT,m,bo.set i dx,ab,au,ai,?_,?_,rfl,A⟩,λ_ _ g=>g,p.xQ⟩
  ·unfold aoD.aoE;simp only;rw[e];exact o
  ·unfold aoD.aoE;simp only;rw[e,List.map_set,P,d]
def apf(h:kq w s am c dN bu an ri)(f:aou n an ri)(g:n<=32)(i:bu<=1000000)(j:x.bp)(k:aoF w ae x):
  a0 C 15 #[aP s,ae] w λaa a=>aa=aK G/\∃az,kq a s az c dN (bu+16) (x.aoE c.aJ c.bd an ri).1 (x.aoE c.aJ c.bd an ri).2/\bX am az w a:=by
 obtain⟨aB,ay,aQ,l,ao,b⟩:=h.apd;refine(apT l ao f g i j k).bw ?_;rintro aa a ⟨rfl,az,vy,ds,m,o,p⟩;exact⟨rfl,az,m.sl h.n1 λag d e=>⟨(b ag d e).1,λt=>o ag t ((b ag d e).2 t)⟩,p⟩
def apg(h:kq w s am c dN bu an ri)(l:aou n an ri)(d:n<=32)(al:i<=3):
  a0 C 31 #[aP s,F H i,F H 1048576] w λae a=>∃az f,kq a s az c dN bu an f/\bX am az w a/\f=ri.set i {ri.getD i iy with eJ:=(ri.getD i iy).eJ.drop (min 1048576 (ri.getD i iy).eJ.length)}/\aT a bs ae ((ri.getD i iy).eJ.take (min 1048576 (ri.getD i iy).eJ.length))/\gx w.heap.size ae:=by
 obtain⟨⟨b,ci,d6,bo,ab,au,aB,ay,ai,aQ,g,j,rfl,m,o⟩,p⟩:=h;have D:=g.oi;have k:i<bo.length:=A;have e:ri.getD i iy=bo[i].a3:=by rw[<-j,gp,e1,cr k];rfl
 obtain⟨⟨q,r,t,u⟩,_⟩:=l.ek al;rw[e]at q r t u⊢;refine(akm (ak:=min 1048576 bo[i].a3.eJ.length) g k A A).bw ?_;rintro ae a ⟨dx,v,x,y,z,B,d⟩;exact⟨_,_,⟨⟨b,ci,v,_,ab,au,aB,ay,ai,aQ,x,rfl,rfl,m,o⟩,p⟩,z.xQ,by rw[List.map_set,y,j],B,d⟩
end
section
def eY.qj(h:eY w ab am c au aB ay ix)(i:∀ag,ag<c.aR->aB ag=U)(j:∀ag s,ag<c.aR->vy ag s=G->ay ag s=G\/c.e6<=s):eY w ab am c au aB vy ix:=by
 obtain⟨bB,⟨aG,k,b⟩,l⟩:=h;refine⟨λag s=>bB ag s||decide (c.e6<=s),⟨aG,k,b.ei,b.cL,λag aq f=>?_⟩,λag s d=>⟨λa=>?_,λ_=>rfl⟩⟩
 ·have e:=b.ih ag aq f;have d:ag<c.aR:=by have:=(fi.1 f).1;rw[b.ei.aR]at this;exact this
  refine⟨e.dp,e.dW,λg=>(by rw[i ag d]at g;cases g),λs ao=>?_⟩;have:=e.d3 s ao;rwa[show(bB ag s||decide (c.e6<=s))=bB ag s by rw[decide_eq_false A];simp]
 ·rcases j ag s d a with a|a
  ·simp[(l ag s d).1 a]
  ·simp[a]
def aos.qj(h:aos w s am c aB ay aQ bu an ri)(j:∀ag,ag<c.aR->aB ag=U)(k:∀ag s,ag<c.aR->vy ag s=G->ay ag s=G\/c.e6<=s)(l:c.aJ<=bV (λag=>!aB ag) c.aR):∃az,aos w s az c aB vy aQ bu an ri/\∀g∈az,g∈am:=by
 obtain⟨b,ci,d6,bo,ab,au,ai,d,m,rfl,n⟩:=h.gm;obtain⟨dc,o,_,p⟩:=d.hK.E8;obtain⟨az,e,f⟩:=p w dc aB vy ix (o.qj j k) (.b0 _ _) l;have q:=d.BX e f;have r:=e.aL;refine⟨_,⟨b,az,d6,bo,ab,au,ai,q,m,rfl,n⟩,λg a=>?_⟩;rcases ce.1 a with rfl|a
 ·simp
 ·rcases b4.1 a with a|a
  ·exact(f.cq g a).elim (λi=>by simp[i]) (λi=>by have:=r g a;omega)
  ·simp[a]
def aos.cy(h:aos w s am c aB ay aQ bu an ri):aQ<qq c:=by obtain⟨b,ci,d6,bo,ab,au,ai,a,e,rfl,f⟩:=h.gm;obtain⟨ah,cR,b8,dB,fL,ej,dq,aD,c0,ef,d,_⟩:=a.hK;exact d.fO
def apU(h:aos w s am c aB ay aQ bu an ri)(d:i<c.aR)(e:c.aJ<=bV (λag=>!(aB ag||decide (ag=i))) c.aR):a0 C 15 #[aP s,lm ⟨7,0,i,0,0,0,T I 0 0,T I 0 0⟩] w λaa a=>aa=aK G/\∃az,aos a s az c (λag=>aB ag||decide (ag=i)) (o4 ay i) aQ bu an ri/\bX am az w a:=by obtain⟨b,ci,d6,bo,ab,au,ai,f,g,rfl,j⟩:=h.gm;refine(akH f d e).bw ?_;rintro aa a ⟨rfl,eT,k,l⟩;exact⟨rfl,_,⟨b,eT,d6,bo,ab,au,ai,k,g,rfl,j⟩,l.xQ⟩
def apV(h:aos w s am c aB ay aQ bu an ri)(d:i<c.aR)(e:c.aJ<=bV (λag=>!(aB ag&&!decide (ag=i))) c.aR):a0 C 15 #[aP s,lm ⟨8,0,i,0,0,0,T I 0 0,T I 0 0⟩] w λaa a=>aa=aK G/\∃az,aos a s az c (λag=>aB ag&&!decide (ag=i)) (o4 ay i) aQ bu an ri/\bX am az w a:=by obtain⟨b,ci,d6,bo,ab,au,ai,f,g,rfl,j⟩:=h.gm;refine(akI f d e).bw ?_;rintro aa a ⟨rfl,eT,k,l⟩;exact⟨rfl,_,⟨b,eT,d6,bo,ab,au,ai,k,g,rfl,j⟩,l.xQ⟩
def apW(h:kq w s am c dN bu an ri):a0 C 15 #[aP s,lm ⟨4,0,0,0,0,0,T I 0 0,T I 0 0⟩] w λaa a=>aa=aK G/\jf a/\∃az,bX am az w a:=by have d:=h.cL.2;obtain⟨⟨b,ci,d6,bo,ab,au,aB,ay,ai,aQ,e,k,rfl,f,l⟩,g⟩:=h;refine(apw e (JF d g f)).bw ?_;rintro aa a ⟨rfl,eT,m,n,dL,i,_,_,j⟩;exact⟨rfl,i.pM,_,j.xQ⟩
def aoH(c:dR)(ay:Nat->Nat->Bool)(aB:Nat->Bool)(aQ:Nat):Nat->Nat->Nat->Bool
 |0=>ay
 |n+1=>s2 (aoH c ay aB aQ n) aB (xC c ((aQ+n)%qq c))
def aph(h:ay ag t=G):∀n,aoH c ay aB aQ n ag t=G
 |0=>h
 |n+1=>by unfold aoH s2;rw[aph h n];rfl
def aoY(a:aB ag=U)(b:xC c ((aQ+ak)%qq c) t=G):∀n,ak<n->aoH c ay aB aQ n ag t=G
 |0,h=>A
 |n+1,h=>by
  unfold aoH s2;by_cases e:ak=n
  ·subst e;rw[a,b];simp
  ·rw[aoY a b n A];rfl
def apX(b:c.bp)(d:t<c.e6):∃g,g<qq c/\xC c g t=G:=by
 have f:=b.kh;unfold dR.e6 at d;by_cases e:t=0
 ·exact⟨0,by unfold qq;omega,by unfold xC;simp[e]⟩
 ·by_cases a:t<fg c
  ·have h:(t-1)/c.aJ<c.cY:=by rw[Nat.div_lt_iff_lt_mul A];unfold fg at a;omega
   have i:=Nat.div_add_mod (t-1) c.aJ;have k:=Nat.mod_lt (t-1) (show 0<c.aJ by omega);generalize(t-1)/c.aJ=j at*;refine⟨1+j,by unfold qq;omega,?_⟩;unfold xC n7;rw[if_neg A,if_pos A,Nat.add_sub_cancel_left,decide_eq_true_iff,Nat.mul_comm];omega
  ·unfold fg at a;refine⟨1+c.cY+(t-fg c),by unfold qq fg;omega,?_⟩;unfold xC r2;rw[if_neg A,if_neg (by unfold fg;omega),decide_eq_true_iff];unfold fg;omega
def apY(e:c.bp)(i:aQ<qq c)(a:aB ag=U)(f:t<c.e6):aoH c ay aB aQ (qq c) ag t=G:=by
 obtain⟨g,b,d⟩:=apX e f;by_cases h:aQ<=g
 ·refine aoY (ak:=g-aQ) a ?_ _ A;rw[show aQ+(g-aQ)=g by omega,Nat.mod_eq_of_lt b];exact d
 ·refine aoY (ak:=g+qq c-aQ) a ?_ _ A;rw[show aQ+(g+qq c-aQ)=g+qq c by omega,Nat.add_mod_right,Nat.mod_eq_of_lt b];exact d
end
structure aoN(ad:aN->List Nat->Prop):Prop where
 aL:∀w am,ad w am->∀g∈am,g<w.heap.size
 J:∀w a am bU,ad w am->Q bU w a->bR am bU->0∉bU->ad a am
def aoz(s:Nat)(c:dR)(bu:Nat)(an:cK)(ri:List er)(w:aN)(am:List Nat):Prop:=kq w s am c (λ_=>U) bu an ri
def aoZ(s:Nat)(c:dR)(aB:Nat->Bool)(ay:Nat->Nat->Bool)(aQ bu:Nat)(an:cK)(ri:List er)(w:aN)(am:List Nat):Prop:=aos w s am c aB ay aQ bu an ri
structure aow(bv w:aN)(ad bb:aN->List Nat->Prop)(am aD:List Nat)(iO:Nat)(c:dR):Prop where
 hH:ad w am
 y9:bb w aD
 aoO:aoN ad
 eQ:aoN bb
 qV:Q [] bv w
 B1:qz bv am
 api:qz bv aD
 eX:bR am aD
 ii:aC w iO 25 (en c)
 ao0:iO∉am
 apj:iO∉aD
 ao1:0<bv.heap.size
section
variable{aov aoA:Nat}{ad aoK bb:aN->List Nat->Prop}{x:aoD}{ak:um}
def aoJ:aoN (aoz s c bu an ri):=⟨λ_ _ h=>kq.aL h,λ_ _ _ _ h a b d=>kq.J h a b d⟩
def aoS:aoN (aoZ s c aB ay aQ bu an ri):=⟨λ_ _ h=>aos.aL h,λ_ _ _ _ h a b d=>aos.J h a b d⟩
def aow.aoG(h:aow bv w ad bb am aD iO c)(aj:aoN aoK)(d:aoK a az)(b:bX am az w a):aow bv a aoK bb az aD iO c:=
 ⟨d,h.eQ.J _ _ _ _ h.y9 b.J h.eX.nc (λe=>by have:=h.B1 _ e;have:=h.ao1;omega),aj,h.eQ,BZ.de h.qV h.B1 b,h.B1.de b h.qV.aI,h.api,h.eX.de b (h.eQ.aL _ _ h.y9),h.ii.J b.J h.ao0,Fe.cW b h.ao0 h.ii.aL,h.apj,h.ao1⟩
def aow.afb(h:aow bv w ad bb am aD iO c):aow bv w bb ad aD am iO c:=⟨h.y9,h.hH,h.eQ,h.aoO,h.qV,h.api,h.B1,h.eX.nc,h.ii,h.apj,h.ao0,h.ao1⟩
def aow.V(h:aow bv w ad bb am aD iO c)(b:Q [] w a):aow bv a ad bb am aD iO c:=
 h.aoG h.aoO (h.aoO.J _ _ _ _ h.hH b (bR.D _) B) (.iu b)
def aow.apZ(h:aow bv w ad bb am aD iO c)(aj:aoN aoK)(a:aoK w az)(b:∀g∈az,g∈am):aow bv w aoK bb az aD iO c:=
 h.aoG aj a ⟨.b0 _ _,λg d=>Y (b g d)⟩
def ap0(h:aoF w ae x):∃ap:vn,ae=lm ap/\ap.sM.oneCell'=G/\ap.ch.oneCell'=G:=by
 cases h with
 |lY=>exact⟨_,rfl,rfl,rfl⟩
 |aoC=>exact⟨_,rfl,rfl,rfl⟩
 |aoB i aa l h=>exact⟨_,rfl,rfl,h.aW⟩
def ap1(h:aoI ak w a ae)(j:aT bv bs ak.mH fT)(p:∀g∈am,bv.heap.size<=g/\g<w.heap.size):∃x:aoD,x.bp/\aoF a ae x/\∀ax,Q am a ax->aoF ax ae x:=by
 cases h with
 |lY=>exact⟨.lY,trivial,.lY,λ_ _=>.lY⟩
 |aoC=>exact⟨.aoC,trivial,.aoC,λ_ _=>.aoC⟩
 |aoB i aa l J f q r=>
  refine⟨.aoB i l,⟨A,q⟩,.aoB i aa l f,λax s=>.aoB i aa l ?_⟩;by_cases k:l=[]
  ·subst k;obtain⟨d,c,e,u,_⟩:=f;exact⟨d,c,e,u,Y rfl⟩
  ·refine f.J s λb af n c e v=>?_;obtain⟨K,L⟩:=p b v;rcases r b af n c e k with⟨y,aor,z,m,M⟩|N
   ·obtain⟨d,O,o,_⟩:=id j;have B:aor=fT.length:=by rw[m]at o;cases o;rfl
    have D:0<(fT.flatMap bs).length:=by
     cases fT with
     |nil=>simp at B;omega
     |cons bm t=>rw[iA,di,e2];omega
    have:=j.Ei D b y aor z m;omega
   ·omega
def apk{ac:aN->Prop}(h:aow bv w (aoz aov c bu an ri) (aoz aoA c bu an ri) am aD iO c)(b:aou n an ri)(l:n<=32)(m:bu<=1000000)(d:x.bp)(u:aoF w ae x)(o:∀ax,Q am w ax->aoF ax ae x)
  (k:∀(a:aN)(az ez:List Nat)(dO:cK)(e:List er),aow bv a (aoz aov c (bu+16) dO e) (aoz aoA c (bu+16) dO e) az ez iO c->aou (n+1) dO e->ac a):
  W C (hV 59) w λah aA=>W C (dC 59 ah ae) aA λ_ ax=>aZ C (a4 59 ah) ax λv=>W C (ck 15 #[aP aov,v]) ax λ_ f=>aZ C (a4 59 ah) f λy=>W C (ck 15 #[aP aoA,y]) f λ_ i=>ac i:=by
 obtain⟨ap,rfl,z,A⟩:=ap0 u;refine Fb λaA D J X=>?_;refine Fc (x:=ap) D rfl z A λax p K aa=>?_;refine(UK p).2 ?_;have q:Q [] w ax:=J.R K B;have r:=h.V q;have L:w.heap.size∉am:=λM=>by have:=h.aoO.aL _ _ h.hH _ M;omega
 have N:=(kq.cL h.hH).1;have s:Q am w ax:=q.bw B;refine aH C9 (apf r.hH b l m d (o _ s)) ?_;rintro _ f ⟨_,az,O,j⟩;have t:=r.aoG aoJ O j;refine(UK (p.J j.J L)).2 ?_;refine aH C9 (apf t.y9 b l m d (o _ (s.R j.J λg P=>Y P))) ?_;rintro _ i ⟨_,ez,R,V⟩;exact k i az ez _ _ (t.afb.aoG aoJ R V).afb (b.aoE x d N)
def apl(h:∀e,e<n->aB e=U)(d:k<n):k<=bV (λe=>!(aB e||decide (e=ag))) n:=by
 have f:=UO (aj:=rb (λ_=>U) ag) n;have a:=UP (dN:=λ_=>U) (ag:=ag) n;have g:bV (λ_=>U) n=0:=by unfold bV;simp
 have i:bV (λe=>!rb (λ_=>U) ag e) n<=bV (λe=>!(aB e||decide (e=ag))) n:=r4 λe b c=>by rw[h e b];exact c
 split at a<;>omega
def ap2:∀aq,aq<9->3<=aq->aq*((23+aq)/aq)<=28:=by decide
def ap3:aou 0 ra q8:=⟨rfl,by simp[ra],λx a=>by
 simp[q8]at a;subst a;exact⟨by simp[iy],by simp[iy],by simp[iy],by simp[iy]⟩⟩
def aou.rJ(h:aou n an ri)(al:i<=3)(k:Nat):aou n an (ri.set i {ri.getD i iy with eJ:=(ri.getD i iy).eJ.drop k}):=by
 refine⟨by rw[i9];exact h.dT,h.cQ,λx a=>?_⟩;rcases List.mem_or_eq_of_mem_set a with a|rfl
 ·exact h.a3 x a
 ·obtain⟨⟨b,c,e,d⟩,_⟩:=h.ek al;exact⟨b,c,by simp only[e8];omega,d⟩
def ap4{t:ByteArray}{j:Int}:C.built 43 #[(0,F H j),(1,F H 7),(2,bO t),(8,F H 500)].toList=E (f1 (aot j 7 t cg 0 0 500 0) (T I 0 0)).toArray:=K
def ap5{u v:Int}{af:List um}{bb:List Int}(ah:jf w)(bc:aT w sk cB af)(bM:∀ak∈af,∃fT:List UInt8,aT w bs ak.mH fT)(bd:aT w Go.X.ew jn bb):
  a0 C 7 #[F H u,F H v,cB,jn] w λae a=>ae=aK G/\Q [] w a:=by
 have y:(qx u v 8 2).bp:=ak8 A A A A;have bP:=ah.aL;refine apt ?_;unfold ao3;refine aH WZ (ala (k:=u) (n:=v) (aX:=8) (qE:=2)) ?_;rintro _ aA ⟨rfl,be⟩;have cV:qq (qx u v 8 2)=11:=rfl;have cW:(qx u v 8 2).aR<=6:=by have:=(q9 (n:=u) (ay:=1) (al:=4) A).2;exact(q9 (n:=v) (ay:=kr u 1 4) (al:=6) A).2.2
 generalize qx u v 8 2=c at*;have cX:=y.nj;have aG:=y.jY;refine mR λax bR bU cY=>?_;refine ml (g:=c) bR rfl λai D bV cZ=>?_;have an:Q [] w ai:=be.R (bU.R bV B) B;have c0:=be.aI;have c2:=an.aI;generalize c3:ax.heap.size=iO at*;generalize aA.heap.size=iO at*;obtain⟨_,bf,o,_,_⟩:=iV D;try simp only[M,N,O,P,bf,o,bi]
 refine⟨λc4=>?_,λc5=>?_⟩
 ·refine aH W5 (alA (ah.V an)) ?_;rintro _ bW ⟨rfl,R⟩;exact⟨rfl,an.R R B⟩
 have bg:c.aJ<c.aR:=A;refine(fj (bD D)).2 ?_;refine(fj (bD D)).2 ?_;have bh:=an.R (cD [] ai) B;refine aH Lq (UH y (ah.V bh)) ?_;rintro _ bW ⟨aov,am,rfl,aI,aJ,R⟩;have aL:=(bD D).J R B;refine(mE (l:=en c) ye aL.cy).2 ?_;have aM:=bh.R R B;refine aH Lq (UH y (ah.V aM)) ?_;rintro _ bj ⟨aoA,aD,rfl,bk,ao,aO⟩;have c6:=aM.aI;have c7:ai.drew.heap.size=ai.heap.size:=rfl;have bl:=aI.aL;have c8:=D.aL;have da:=R.aI;have bm:aow w bj (aoz aov c 1 ra q8) (aoz aoA c 1 ra q8) am aD iO c:=
  ⟨aI.V aO,bk,aoJ,aoJ,aM.R aO B,λg q=>by have:=aJ g q;omega,λg q=>by have:=ao g q;omega,λg q z=>by have:=bl g q;have:=ao g z;omega,aL.J aO B,λz=>by have:=aJ _ z;omega,λz=>by have:=ao _ z;omega,bP⟩
 clear aI bk aJ ao aL D bf o bl;refine bT (λb a=>b=[aK U]/\bj=a) ?_ ?_
 ·refine(ru KY).2 ?_;refine cG.2 ⟨λaP=>(by cases aP),λ_=>?_⟩;refine(ru KY).2 ?_;exact⟨rfl,rfl⟩
 rintro _ _ _ ⟨rfl,rfl⟩;try simp only[M,N,O,P]
 obtain⟨db,dc,bX,_⟩:=id bc;obtain⟨dd,de,bn,_⟩:=id bd;have aQ:=ap2 (c.aR+2) A A;obtain⟨cE,bo⟩:∃cE,(23+(c.aR+2))/(c.aR+2)=cE:=⟨_,rfl⟩;rw[bo]at aQ;refine c1 (λb a=>∃(i:Nat)(az ez:List Nat)(dO:cK)(ri:List er)(zJ:Nat),b=[F H i]/\i<=c.aR+2/\aow w a (aoz aov c zJ dO ri) (aoz aoA c zJ dO ri) az ez iO c/\aou (i*cE) dO ri/\zJ<=1+16*(i*cE)) (λb _=>match b with|[F _ i]=>c.aR+2-i.toNat|_=>0) ⟨0,am,aD,ra,q8,1,rfl,A,bm,by simpa using ap3,A⟩ ?_;rintro _ _ df ⟨i,bp,br,aR,aS,aU,rfl,al,V,ap,aV⟩;clear bm;obtain⟨_,_,o,_,_⟩:=iV V.ii;try simp only[M,N,O,P,o,bi]
 rw[bq A A];refine⟨λdg=>?_,λdh=>?_⟩
 ·have bZ:i<c.aR+2:=A;have b0:(i+1)*cE<=28:=gz (mw cE bZ) aQ;rw[Nat.succ_mul]at b0;clear o;refine c1 (λb a=>∃(ak:Nat)(az ez:List Nat)(dO:cK)(ri:List er)(zJ:Nat),b=[F H (i+ak*(c.aR+2):Nat)]/\ak<=cE/\aow w a (aoz aov c zJ dO ri) (aoz aoA c zJ dO ri) az ez iO c/\aou (i*cE+ak) dO ri/\zJ<=1+16*(i*cE+ak)) (λb _=>match b with|[F _ j]=>24-j.toNat|_=>0) ⟨0,bp,br,aR,aS,aU,B,A,V,ap,aV⟩ ?_;rintro _ _ aq ⟨ak,aW,W,p,s,r,rfl,z,h,J,bt⟩;clear V ap aV;obtain⟨j,aY⟩:∃j,i+ak*(c.aR+2)=j:=⟨_,rfl⟩;rw[aY];refine bT (λb a=>b=[aK (decide (j<af.length/\j<24))]/\aq=a) ?_ ?_
  ·rw[bX];try simp only[M,N,O,P,bi]
   refine⟨λb1=>⟨?_,by trivial⟩,λb1=>⟨?_,by trivial⟩⟩
   ·congr 2;rw[decide_eq_decide];omega
   ·rw[decide_eq_false A]
  rintro _ _ _ ⟨rfl,rfl⟩;try simp only[M,N,O,P,bi]
  refine⟨λbu=>?_,λdj=>?_⟩
  ·have bv:j<af.length:=bu.1;have dk:j<24:=bu.2;have b2:ak+1<=cE:=by rw[<-bo,Nat.le_div_iff_mul_le A,Nat.succ_mul];omega
   refine(alN.ek (bc.V h.qV) (Q.b0 _ _) bv).2 ?_;obtain⟨fT,bw⟩:=bM _ (dX bv);refine aH apo (apP (gY:=j) (bw.V h.qV) A) ?_;rintro ae ar ⟨b3,aZ⟩;obtain⟨x,b7,b8,b9⟩:=ap1 b3 bw (λg q=>⟨h.B1 g q,h.aoO.aL _ _ h.hH g q⟩);refine apk (h.V aZ) J A A b7 b8 b9 λa1 ci a2 ca bx X cb=>?_;obtain⟨_,_,o,_,_⟩:=iV X.ii;try simp only[M,N,O,P,o]
   rw[bq (x:=(c.aR:Int)+2) A A,bq A A];exact⟨⟨ak+1,ci,a2,ca,bx,_,by rw[Nat.succ_mul];congr 2;omega,b2,X,cb,A⟩,by simp;omega⟩
  ·have aa:aou (i*cE+cE) p s:=J.bw A;have bz:r<=1+16*(i*cE+cE):=A;clear J bt z aY;obtain⟨_,_,o,_,_⟩:=iV h.ii;try simp only[M,N,O,P,o]
   refine(vE A).2 ?_;have cc:((i:Int).tmod (c.aR:Int))=((i%c.aR:Nat):Int):=by rw[Int.ofNat_tmod]
   rw[cc];refine bT (λb a=>∃ag:Nat,ag<c.aR/\b=[F H ag]/\Q [] aq a) ?_ ?_
   ·rw[bn];try simp only[M,N,O,P,bi]
    rw[<-bn];refine⟨λcf=>?_,λcf=>?_⟩
    ·have bB:=cD [] aq;refine UY ((bd.V h.qV).V bB) A λdl ch _=>?_;refine(ch _ (.b0 _ _) _).2 ?_;obtain⟨_,_,o,_,_⟩:=iV (bD h.ii);try simp only[M,N,O,P,o]
     rw[show H.wrap ((c.aR:Int)-1)=((c.aR-1:Nat):Int)from by rw[bq A A];omega];refine tc (ay:=0) (al:=c.aR-1) A A ?_;have a3:=(q9 (n:=bb[i]) (ay:=0) (al:=c.aR-1) A).2;exact⟨_,A,rfl,bB⟩
    ·exact⟨i%c.aR,Nat.mod_lt _ A,rfl,.b0 _ _⟩
   rintro _ _ bC ⟨ag,a3,rfl,cj⟩;have m:=h.V cj;clear h;try simp only[M,N,O,P]
   obtain⟨aB,ay,au,a4,dm,a5⟩:=kq.apd m.hH;have bE:aow w bC (aoZ aov c aB ay au r p s) (aoz aoA c r p s) aW W iO c:=m.aoG aoS a4 ⟨.b0 _ _,λg q=>Y q⟩;refine(bY (UM (k:=7) (n:=(ag:Nat)))).2 ?_;refine aH C9 (apU a4 a3 (apl (λe f=>(a5 e f rfl).1) bg)) ?_;rintro _ cd ⟨_,dn,bG,bH⟩;have a6:=bE.aoG aoS bG bH;refine(bY (UM (k:=8) (n:=(ag:Nat)))).2 ?_;have K:∀e,e<c.aR->(λe=>(aB e||decide (e=ag))&&!decide (e=ag)) e=U:=λe f=>by show((aB e||decide (e=ag))&&!decide (e=ag))=U;rw[(a5 e f rfl).1];cases decide (e=ag)<;>rfl
   refine aH C9 (apV a6.hH a3 (by rw[ald (λe f=>congrArg (!·) (K e f))];exact aG)) ?_;rintro _ ar ⟨_,k8,ab,L⟩;have ac:=a6.aoG aoS ab L;have bI:=aos.cy ab;have ck:∀e t,e<c.aR->e≠ag->o4 (o4 ay ag) ag e t=G:=λe t f cm=>by unfold o4;rw[(a5 e f rfl).2 t,decide_eq_false cm];rfl
   clear a6 bE a4 m ab L bG bH;generalize(λe=>(aB e||decide (e=ag))&&!decide (e=ag))=av at*;generalize o4 (o4 ay ag) ag=bJ at*;have cn:∀ak,qo c av (aoH c bJ av au ak):=λak=>JF (dN:=λe=>decide (e=ag)) y (by
    have:=apl (n:=c.aR) (k:=c.aJ) (ag:=ag) (aB:=λ_=>U) (λ_ _=>rfl) bg;simpa using this) λe f aP=>⟨K e f,λt=>aph (ck e t f (of_decide_eq_false aP)) ak⟩
   refine c1 (λb a=>∃(ak:Nat)(az:List Nat),b=[F H ak]/\ak<=qq c/\aow w a (aoZ aov c av (aoH c bJ av au ak) ((au+ak)%qq c) r p s) (aoz aoA c r p s) az W iO c) (λb _=>match b with|[F _ ak]=>qq c-ak.toNat|_=>0) ⟨0,k8,rfl,A,by rw[qA,Nat.mod_eq_of_lt bI];exact ac⟩ ?_;rintro _ _ bK ⟨ak,d6,rfl,dp,ad⟩;clear ac;try simp only[M,N,O,P]
   refine(fj ad.ii).2 ?_;refine aH W9 (ahs y) ?_;rintro _ cp ⟨rfl,cq⟩;have aw:=ad.V cq;clear ad;try simp only[M,N,O,P,bi]
   refine⟨λdq=>?_,λdr=>?_⟩
   ·refine(bY UG).2 ?_;refine aH C9 (ape aw.hH (cn ak)) ?_;rintro _ ds ⟨_,aC,aF,cs⟩;rw[Nat.mod_add_mod]at aF;try simp only[M,N,O,P]
    rw[bq A A];exact⟨⟨ak+1,aC,by trivial,A,aw.aoG aoS aF cs⟩,by simp;omega⟩
   ·obtain rfl:ak=qq c:=A;obtain⟨aC,aF,ct⟩:=aos.qj (vy:=λ_ _=>G) aw.hH K (λe t f _=>if cu:t<c.e6 then Y (apY y bI (K e f) cu)else Z A) (by rw[ald (λe f=>congrArg (!·) (K e f))];exact aG);have cv:aoz aov c r p s cp aC:=aos.sl aF (by rw[ald (aj:=λ_=>!U) (λe f=>rfl)];exact aG) (λe f _=>⟨K e f,λ_=>rfl⟩);try simp only[M,N,O,P]
    rw[bq A A];exact⟨⟨i+1,aC,W,p,s,r,by trivial,A,aw.apZ aoJ cv ct,by rw[Nat.succ_mul];exact aa,by rw[show(i+1)*cE=i*cE+cE from Nat.succ_mul _ _];exact bz⟩,by simp;omega⟩
 ·obtain rfl:i=c.aR+2:=A;have J:aou 28 aR aS:=ap.bw aQ;have bt:aU<=1000:=A;clear ap aV o;refine c1 (λb a=>∃(j:Nat)(az ez:List Nat)(dO:cK)(ri:List er)(zJ:Nat),b=[F H j]/\j<=3/\aow w a (aoz aov c zJ dO ri) (aoz aoA c zJ dO ri) az ez iO c/\aou (28+j) dO ri/\zJ<=1000+16*j) (λb _=>match b with|[F _ j]=>3-j.toNat|_=>0) ⟨0,bp,br,aR,aS,aU,rfl,A,V,J,A⟩ ?_;rintro _ _ aq ⟨j,aW,W,p,s,r,rfl,aY,h,aa,bz⟩;clear V J;try simp only[M,N,O,P,bi]
  refine⟨λcw=>?_,λcw=>?_⟩
  ·refine aH amX (am0 (n:=(j:Nat))) ?_;rintro _ ar ⟨rfl,aZ⟩;refine(bY (ap4 (t:=amu (j:Nat)) (j:=(j:Nat)))).2 ?_;have cx:(aot (j:Nat) 7 (amu (j:Nat)) cg 0 0 500 0).bt=G:=apa (ano _) A A A A;have dt:=ak1 cx;refine aH Xa (akX (d:=aot (j:Nat) 7 (amu (j:Nat)) cg 0 0 500 0) (aT.gW _ _) (aoR (by rw[anp];omega) (by decide)) A) ?_;rintro du a1 ⟨a7,a8,cy⟩;obtain⟨dv,dw,rfl,_⟩:=id a7;have m:=h.V aZ;refine(bY (aoV (i:=3))).2 ?_;refine apk (x:=.aoB 3 _) (m.V a8) aa A A ⟨A,by unfold mZ;rw[di,zB];omega⟩ (.aoB 3 _ _ a7) (λax cz=>.aoB 3 _ _ (a7.J cz (cy.cW (m.aoO.aL _ _ m.hH)))) λbK d6 cA cC cF ad cH=>?_;try simp only[M,N,O,P]
   rw[bq A A];exact⟨⟨j+1,d6,cA,cC,cF,_,by trivial,A,ad,cH,A⟩,by simp;omega⟩
  ·obtain rfl:j=3:=A;refine c1 (λb a=>∃(j:Nat)(az ez:List Nat)(ri:List er),b=[F H j]/\j<=4/\aow w a (aoz aov c r p ri) (aoz aoA c r p ri) az ez iO c/\aou 31 p ri) (λb _=>match b with|[F _ j]=>4-j.toNat|_=>0) ⟨0,aW,W,s,rfl,A,h,aa⟩ ?_;rintro _ _ bC ⟨j,dx,dy,dz,rfl,dB,m,a9⟩;clear h aa;try simp only[M,N,O,P,bi]
   refine⟨λcI=>?_,λcI=>?_⟩
   ·have ba:j<=3:=A;refine aH Xb (apg m.hH a9 A ba) ?_;rintro dC ar ⟨k8,dD,ab,L,cJ,cL,cM⟩;have ac:=m.aoG aoJ ab L;refine aH Xb (apg ac.y9 a9 A ba) ?_;rintro dE a1 ⟨a2,bx,cO,bL,cP,cQ,dF⟩;have X:=(ac.afb.aoG aoJ cO bL).afb;rw[cJ,cP]at X;have cR:=cL.J bL.J (cM.cW (m.eQ.aL _ _ m.y9));refine aH app (apu cR cQ (by rw[ea];omega)) ?_;rintro _ bK ⟨rfl,cS⟩;try simp only[M,N,O,P]
    refine iY B ?_;rw[bq A A];exact⟨⟨j+1,k8,a2,_,by trivial,A,X.V cS,a9.rJ ba _⟩,by simp;omega⟩
   ·refine(bY UG).2 ?_;refine aH C9 (apW m.hH) ?_;rintro _ ar ⟨rfl,cU,k8,L⟩;refine q6 rfl ?_;refine aH W5 (alA cU) ?_;rintro _ a1 ⟨rfl,a8⟩;exact⟨rfl,(BZ.de m.qV m.B1 L).R a8 B⟩
end
end
section
open Go.ChangeShapes Go.WideShapes Go.RowKit
abbrev B3:List (String×DataW Unit):=[("unicode/utf8.acceptRanges",Rows.laid_unicode_utf8_acceptRanges),("errors.errorType",Rows.laid_errors_errorType),("unicode/utf8.first",Rows.laid_unicode_utf8_first)]
def alP:ownKnob C.godebug=I:=K
def alQ:C.globalNamed "errors.errorType"=E 0:=K
def alR:(C.cutTypes.find? (·.1== "internal/reflectlite.rtype")).map (·.2)=E 271:=K
def alS:((c9 542).filter λt=>C.rowNamed t [101,114,114,111,114])=[73]:=K
def alT:C.types.size=542:=K
def UZ:laidOutB C=G:=K
def alU{bE:aN}(h:laidMetH C B3 bE):jf bE:=by have c:laidMet C [("unicode/utf8.acceptRanges",Rows.laid_unicode_utf8_acceptRanges),("unicode/utf8.first",Rows.laid_unicode_utf8_first)] bE/\handlesMet C [("errors.errorType",Rows.laid_errors_errorType)] bE:=h;obtain⟨name,ae,d,e,f,g,i,a⟩:=c.2 _ (ku.2 rfl);have j:name=[101,114,114,111,114]:=(re e).symm;subst j;obtain rfl:=re (alR.symm.trans f);have b:d∈(c9 542).filter λt=>C.rowNamed t [101,114,114,111,114]:=ol.2 ⟨iK.2 (by rw[<-alT];exact g),i⟩;rw[alS]at b;obtain rfl:=ku.1 b;have k:typeHandle C 73=eu 73:=K;rw[k]at a;have:=World.var?_cell alQ a 0;unfold jf iF;simpa using this
def U0(l:List Nat):Array S:=(l.map λn:Nat=>F cl n).toArray
noncomputable def U1(rh:Os):aN:=
 let bv:=World.holding C rh ⟨#[],#[],[]⟩;let put:=λ(h:Array Obj)(b:Nat)(d:Array S)=>h.modify b λ
  |amv _ t a=>amv d t a
  |af=>af
 {bv with heap:=put (put (put bv.heap 0 #[eZ 271 (b6 #[aE (E ⟨4,73,I⟩)])]) ((C.globalNamed "unicode/utf8.acceptRanges").getD 0) (U0 ([128,191,160,191,128,159,144,191,128,143]++cN 22 0))) ((C.globalNamed "unicode/utf8.first").getD 0) (U0 Pinned.utf8FirstZ)}
def alV(rh:Os)(c8:Array S):laidMetH C B3 ((U1 rh).forCall (λ_ _=>0) ⟨#[],c8,[]⟩).memory:=
 laidMetH_of_parts (laidMet_of_run' 8 K K) K
end
section
open Go.RowKit Go.ChangeShapes Go.WideShapes Go.Deep
section
def Fh(ad:ft)(ar:co)(l:List (Nat×co)):Prop:=ad.underlying ar=E (.struct (ad.fieldsOf ar))/\(ad.fieldsOf ar).toList.map (λaj=>(aj.offset,aj.type))=l
def B4{l:List (Nat×co)}(ao:Fh ad ar l){ams:Type}{a:co×S->ams}{c:Nat}{bo:List S}{x:DataW ams×List MemPlace}
  (h:DataW.trod a ad w 0 (λ_=>G) G c ar bo=E x):bo.length=ad.cellsOf ar/\∀ai∈l,∃(n:Nat)(ap:DataW ams×List MemPlace),DataW.trod a ad w 0 (λ_=>G) G n ai.2 ((bo.drop ai.1).take (ad.cellsOf ai.2))=E ap:=by
 obtain⟨d,rfl⟩:=ao;obtain⟨b7,e,o,p,f,q,g⟩:=DataW.trod_struct d h;refine⟨f,λai i=>?_⟩;obtain⟨aj,k,rfl⟩:=fS.1 i;obtain⟨j,b,rfl⟩:=ns k;rw[tj]at b;have m:=g j _ (ti b);simp only[Array.getElem_toList];exact⟨e,b7[j]'A,m.trans (cr A)⟩
def uo{l:List (Nat×co)}(ao:Fh ad ar l){ams:Type}{c:co×S->ams}{d:Nat}{bo:List S}{x:DataW ams×List MemPlace}
  (h:DataW.trod c ad w 0 (λ_=>G) G d ar bo=E x) (e:(af,t)∈l) (f:ad.cellsOf t=1) (g:ad.underlying t=E (.int H)):∃n,bo[af]?=E (F H n)/\-9223372036854775808<=n/\n<=9223372036854775807:=by
 obtain⟨n,ap,a⟩:=(B4 ao h).2 _ e;rw[f]at a;obtain⟨bm,i,_,j⟩:=DataW.trod_int g a;refine⟨bm,?_,Kz j⟩;have b:((bo.drop af).take 1)[0]?=E (F H bm):=by rw[i];rfl
 rw[List.getElem?_take_of_lt A,oo]at b;exact b
end
section
def U2(ag:JI):Prop:=∀n∈[ag.aJ,ag.g2,ag.sZ,ag.hH,ag.aR,ag.bk,ag.UI],-9223372036854775808<=n/\n<=(9223372036854775807:Int)
def wF:Fh C 51 [(0,3),(1,3),(2,3),(3,3),(4,3),(5,3),(6,3)]:=⟨K,K⟩
def U3:C.cellsOf 51=7:=K
def te:C.cellsOf 3=1:=K
def tf:C.underlying 3=E (.int H):=K
def alW:zf C w 51 JJ U2:=by
 intro ams u v bo x a;have h:=(B4 wF a).1;rw[U3]at h;obtain⟨s,i,y⟩:=uo wF a (af:=0) (t:=3) B te tf;obtain⟨jb,j,z⟩:=uo wF a (af:=1) (t:=3) B te tf;obtain⟨aor,k,A⟩:=uo wF a (af:=2) (t:=3) B te tf;obtain⟨mB,m,D⟩:=uo wF a (af:=3) (t:=3) B te tf;obtain⟨lG,o,J⟩:=uo wF a (af:=4) (t:=3) B te tf;obtain⟨m3,p,K⟩:=uo wF a (af:=5) (t:=3) B te tf;obtain⟨n6,q,L⟩:=uo wF a (af:=6) (t:=3) B te tf;clear a;obtain⟨fH,b,c,d,e,f,g,rfl⟩:∃fH b c d e f g,bo=[fH,b,c,d,e,f,g]:=by rcases bo with _|⟨fH,_|⟨b,_|⟨c,_|⟨d,_|⟨e,_|⟨f,_|⟨g,_|⟨M,l⟩⟩⟩⟩⟩⟩⟩⟩<;>simp at h;exact⟨_,_,_,_,_,_,_,rfl⟩
 simp at i j k m o p q;subst i j k m o p q;refine⟨⟨s,jb,aor,mB,lG,m3,n6⟩,rfl,?_⟩;intro n r;simp only[ce,List.mem_nil_iff,or_false]at r;rcases r with rfl|rfl|rfl|rfl|rfl|rfl|rfl<;>assumption
def zG:Fh C 54 [(0,3),(1,3),(2,3),(3,51),(10,52)]:=⟨K,K⟩
def U4:C.cellsOf 54=11:=K
def alX:C.cellsOf 52=1:=K
def alY:C.underlying 52=E (.slice 5):=K
def alZ:C.cellsOf 5=1:=K
def al0:C.underlying 5=E (.int cl):=K
def al1(w:aN)(ak:um):Prop:=(∀n∈[ak.aJ,ak.wC,ak.aR],-9223372036854775808<=n/\n<=(9223372036854775807:Int))/\U2 ak.eX/\∃l:List UInt8,aT w bs ak.mH l
def al2:zf C w 54 sk (al1 w):=by
 intro ams K L bo x a;have p:=(B4 zG a).1;rw[U4]at p;obtain⟨q,r,M⟩:=uo zG a (af:=0) (t:=3) B te tf;obtain⟨jb,s,N⟩:=uo zG a (af:=1) (t:=3) B te tf;obtain⟨aor,u,O⟩:=uo zG a (af:=2) (t:=3) B te tf;obtain⟨P,Q,b⟩:=(B4 zG a).2 (3,51) B;obtain⟨R,V,k⟩:=(B4 zG a).2 (10,52) B;rw[U3]at b;rw[alX]at k;obtain⟨ag,b,z⟩:=alW _ _ _ _ _ b;obtain⟨aa,l,v,D,_⟩:=Sk alY alZ (λ_=>rfl) A (agk al0) _ _ _ _ _ k;clear a;obtain⟨fH,m,o,d,e,f,g,h,i,j,c,rfl⟩:∃fH m o d e f g h i j c,bo=[fH,m,o,d,e,f,g,h,i,j,c]:=by rcases bo with _|⟨fH,_|⟨m,_|⟨o,_|⟨d,_|⟨e,_|⟨f,_|⟨g,_|⟨h,_|⟨i,_|⟨j,_|⟨c,_|⟨W,l⟩⟩⟩⟩⟩⟩⟩⟩⟩⟩⟩⟩<;>simp at p;exact⟨_,_,_,_,_,_,_,_,_,_,_,rfl⟩
 simp at r s u;have J:c=aa:=by simpa using v
 have b:[d,e,f,g,h,i,j]=JJ ag:=b;clear v k;subst r s u J;refine⟨⟨q,jb,aor,ag,c⟩,?_,?_,z,l,D⟩
 ·show[F H q,F H jb,F H aor,d,e,f,g,h,i,j,c]=_;unfold sk;rw[<-b];rfl
 ·intro n y;simp only[ce,List.mem_nil_iff,or_false]at y;rcases y with rfl|rfl|rfl<;>assumption
def al3:C.underlying 23=E (.slice 54):=K
end
end
end Go.Proofs.YtepeilglbedgdaaGreatDoor
namespace Go.Proofs.YtepeilglbedgdaaGreatDoor.topReplaced
open Go.X
section
open Go.ChangeShapes Go.WideShapes Go.ChangeAt Go.RowKit Go.Proofs.YtepeilglbedgdaaGreatDoor
set_option maxRecDepth 100000 in
theorem al4 (rh:Os) (s:rh.Started) (ams:Type) (be:co×S->ams):
  ReturnsInHanded {} Tryz.checked rh 7 .any (λw c8=>(Rows.topReplacedSpec.pre be C Tryz.f7 [] U w c8/\laidMetH C B3 w)/\sizedMet be C Tryz.f7 (OpenSpec.ofChange Rows.topReplacedSpec) U w c8)
   (Rows.topReplacedSpec.post be C Tryz.f7 U G U U):=by
 refine returnsInHanded_of_change_and (C:=Tryz.checked) (X:=λw _=>laidMetH C B3 w) (λ_ _ _ u h=>h.of_heap u) alP s K Tryz.func7
  (ChangeSpec.witness_at (enc:=be) (C:=Tryz.checked) (os:=rh) (X:=λw _=>laidMetH C B3 w) U (U1 rh) #[F H 0,F H 0,T I 0 0,T I 0 0] 8 rfl K K K K K (alV rh _)) ?_
 intro bC v c8 y af ag d f _ _ z _;have a:∀(j:Nat) t aa,Tryz.f7.params[j]?=E t->c8[j]?=E aa->Value.okWide C bC .any v t aa:=d;have B:=f;obtain⟨ah,ai,g,D,rfl,aj,al⟩:=f;have i:DataW.TrodAll be C bC 0 (λ_=>G) G Tryz.f7.params.toList c8.toList y ah:=g;rw[Tryz.params7]at i a;obtain⟨k,am,an,ao,U6,ap,aq,rfl,rfl,J,L⟩:=trodAll_cons i;obtain⟨l,ar,au,av,aw,ax,rfl,rfl,rfl,M,N⟩:=trodAll_cons L;obtain⟨m,ay,az,aB,O,aC,rfl,rfl,rfl,n,P⟩:=trodAll_cons N;obtain⟨o,aD,aF,aG,Q,aH,rfl,rfl,rfl,p,R⟩:=trodAll_cons P;obtain⟨rfl,rfl,rfl⟩:=trodAll_nil R;obtain rfl:c8=#[k,l,m,o]:=by cases c8;simp_all
 obtain⟨rfl,rfl⟩:=trodVars_none D;obtain⟨fH,rfl,rfl,rfl,bv⟩:=open_int Tryz.underlying3 (a 0 3 k rfl rfl) J;obtain⟨aI,rfl,rfl,rfl,aA⟩:=open_int Tryz.underlying3 (a 1 3 l rfl rfl) M;have q:=n;have V:∀x∈O,x.block<bC.heap.size:=by obtain⟨ak,b⟩:=q;exact DataW.trod_lt ak _ _ _ b
 obtain⟨c5,aoA,W,ou⟩:=Sl al3 U4 (λ_=>rfl) A al2 (a 2 23 m rfl rfl) n;have r:=p;have ab:∀x∈Q,x.block<bC.heap.size:=by obtain⟨ak,b⟩:=r;exact DataW.trod_lt ak _ _ _ b
 obtain⟨da,ac,aJ,aL⟩:=Sl (be:=Go.X.ew) Tryz.underlying22 te (λ_=>rfl) A (agj tf) (a 3 22 o rfl rfl) p;have ad:=alU z;clear g d;refine(Go.X.a0.Vv (ap5 ad aoA (λak b=>(W ak b).2.2) ac)).mono λe aM⟨ae,c⟩=>?_;subst ae;exact⟨_,rfl,_,_,_,[],_,[],B,trodAll_mk1 (shut_bool Tryz.underlying4 _),(trodAll_cons_mk (shut_int Tryz.underlying3 bv) (trodAll_cons_mk (shut_int Tryz.underlying3 aA) (trodAll_cons_mk (Below.trod UZ K (of_decide_eq_true K) q c V) (trodAll_cons_mk (Below.trod UZ K (of_decide_eq_true K) r c ab) trodAll_mk0)))),rfl,c.frame _,λh=>by cases h⟩
theorem jl{d b:Bool}(h:d=G)(k:b=G):(d&&b)=G:=by rw[h,k];rfl
theorem U5:Tryz.pinned.checked.prog.funcNamed Rows.topReplacedRow.func=E 7:=K
theorem inst:Tryz.f7.isInstance Tryz.pinned.checked.prog Rows.topReplacedRow.origin Rows.topReplacedRow.targs:=of_decide_eq_true K
theorem al5:Tryz.f7.isWrapper Tryz.pinned.checked.prog Rows.topReplacedRow.wrapper Rows.topReplacedRow.mainSum:=by unfold Func.isWrapper;first|(rw[if_pos (by decide+kernel)];kernel_rfl)|(rw[if_neg (by decide+kernel)];exact⟨rfl,rfl⟩)
set_option maxHeartbeats 8000000 in
theorem al6:joinedFacts Tryz.pinned.checked.prog 7 Tryz.f7 Rows.topReplacedSpec Rows.topReplacedRow=G:=by unfold joinedFacts;refine jl (jl (jl (jl (jl (jl (jl (jl (jl (jl (jl (jl (jl (jl (jl (jl (jl (jl (jl (jl (jl (jl (jl (jl (jl (jl (jl (jl (jl (jl (jl ?_ ?_) ?_) ?_) ?_) ?_) ?_) ?_) ?_) ?_) ?_) ?_) ?_) ?_) ?_) ?_) ?_) ?_) ?_) ?_) ?_) ?_) ?_) ?_) ?_) ?_) ?_) ?_) ?_) ?_) ?_) ?_;all_goals decide+kernel
theorem ap6:Rows.topReplacedRow.holds Tryz.pinned (OpenSpec.ofChange Rows.topReplacedSpec):=
 OpenClaim.holds_of_wide 7 Tryz.f7 rfl rfl rfl rfl rfl rfl rfl ⟨rfl,rfl,rfl,rfl,rfl⟩ rfl rfl rfl rfl rfl U5 Tryz.func7 al6
  inst al5
  (λrh a ams be _=>al4 rh a ams be)
theorem al8:U=Rows.topReplacedRow.goesBy Tryz.pinned.checked.prog:=K
theorem al9:Tryz.pinned.checked.prog.mainIs=E (G,((G, "0cb66b075be2326e287ec28bf4f90176a22813707f997a64b32bd5491fbd1b1a")).2.toList):=K
theorem ama:G=Tryz.pinned.checked.prog.looks []:=K
theorem amb:Tryz.f7.params.all (λt=>!C.wantsStandIn t)=G:=K
theorem proved:Rows.TopReplacedCardSaid:=
 Claim7.holds_tied_plain_at .later [] [.data,.handle,.pinned] G (G, "0cb66b075be2326e287ec28bf4f90176a22813707f997a64b32bd5491fbd1b1a") G
  ap6 (λ_ h=>by cases h) K (λ_ h=>by cases h) topReplaced_row_tie rfl ⟨rfl,rfl⟩ al9 rfl
  (λaj gr a b=>by
   obtain rfl:aj=7:=re (U5.symm.trans a)|>.symm;obtain rfl:gr=Tryz.f7:=(re (Tryz.func7.symm.trans b)).symm;exact⟨ama,λj t c=>by
    have d:=Array.all_eq_true_iff_forall_mem.1 amb t (Array.mem_of_getElem? c);have e:C.wantsStandIn t=U:=by simpa using d
    exact e⟩)
  al8
end
end Go.Proofs.YtepeilglbedgdaaGreatDoor.topReplaced
