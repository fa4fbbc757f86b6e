import Derived.Test.YtepeilglbedgdaaGreatDoorCards
import Derived.Test.YtepeilglbedgdaaGreatDoorTie
import Derived.ChangeVars
import Derived.JoinedOf
import Derived.RowKit
import Derived.RowKitTokens
import Derived.LaidLaws
import Derived.LaidHandle
import Derived.Stop.Joined
import Derived.SevenTiedAt
import GoSem.PinnedTables
import Derived.OpenShut
import Derived.ShutString
import Derived.ChangeOld
import Derived.Below
import Derived.Test.YtepeilglbedgdaaGreatDoorCT5
/- A part of the proof of this claim: it states and proves what the walk through the program uses. Its names are short ones that a program gave. The last part proves the card: for every input the call returns true, and each argument reads behind the call as it read before. -/
set_option linter.defProp false
set_option linter.all false
set_option maxRecDepth 100000
set_option maxHeartbeats 2000000
open Bool renaming false->U,true->G
open ByteArray renaming mk->eS
open Go renaming Addr->es,TypeId->co,Value->S,World->aN,maxLen->d0
open Go.IntKind renaming i64->H,u8->cl
open Go.Proofs.Tryz renaming prog->C
open Go.Value renaming agg->b6,bool->aK,iface->eZ,int->F,pointer->aE,slice->T,string->bO
open List renaming getElem?_append_left->pR,getElem?_append_right->nr,getElem?_eq_getElem->cr,getElem?_eq_none->jy,getElem_map->ic,mem_cons->ce,mem_filter->ol,mem_of_getElem?->gP,mem_range->iK,mem_singleton->ku,range->c9,replicate->cN
open Nat renaming le_trans->gz
open Option renaming none->I,some->E
open Option.some renaming inj->re
open Or renaming inl->Y,inr->Z
open Go
namespace Go.Proofs.YtepeilglbedgdaaGreatDoor
open Go.X
attribute[local irreducible]Go.X.W
variable{a w:aN}{aQ ab ai ak b hs iO n:Nat}{cp:Nat -> Bool}{aD am az gf:List Nat}{aa:S}{al ay:Nat -> Nat -> Bool}{c:dR}{cz:ex}{d:dl}
section
open Go.RowKit fC gO
section
variable{ad:dn}{fT:List Int}
def am0{l:List ByteArray}{x:Option es}:C.built 41 #[(3,T x n ak)].toList=E (iS ⟨0,0,0,l⟩ (T x n ak)).toArray:=K
def am1:C.built 43 #[(1,F H 7),(2,bO (eS #[116]))].toList=E (f1 (lo 0 f6 0 0) (T I 0 0)).toArray:=K
def amw:dl:=⟨0,6,cg,cg,0,0,0,0,0,0,fr⟩
def am2:C.built 43 #[(1,F H 6)].toList=E (f1 amw (T I 0 0)).toArray:=K
def am3:amw.bt=G:=by decide+kernel
def am4(a:c.bp):qo c (λ_=>U) (λ_ _=>G):=by
 have b:c.aJ<=bV (λag=>!(λ_=>U:Nat->Bool) ag) c.aR:=by rw[ald (aj:=λag=>!(λ_=>U:Nat->Bool) ag) (λ_ _=>rfl)];exact a.jY
 exact JF a b (λ_ _ _=>⟨rfl,λ_=>rfl⟩)
def am5{K L aY:Int}{bo:S}{aF:List Int}(bp:jf w)(ao:aT w ew bo aF):
  a0 C 4 #[F H K,F H L,F H aY,bo] w λae a=>ae=aK G/\Q [] w a:=by
 have R:(qx K L 10 1).bp:=ak8 A A A A
 have cF:=bp.aL
 refine amL ?_
 unfold amy
 refine aH WZ (ala (k:=K) (n:=L) (aX:=10) (qE:=1)) ?_
 rintro _ aA ⟨rfl,br⟩
 have aG:(qx K L 10 1).bd=10:=rfl
 have aZ:(qx K L 10 1).cY=1:=rfl
 generalize qx K L 10 1=c at*
 have bs:=R.kh;have bt:=R.jY;have eH:=R.i6
 refine mR λax cH cI eI=>?_
 refine ml (g:=c) cH rfl λcJ a1 cL eJ=>?_
 have a2:Q [] w cJ:=br.R (cI.R cL B) B
 have eK:=br.aI
 refine(fj a1).2 ?_
 refine aH amJ (amN R (bp.V a2)) ?_
 rintro _ cM ⟨ab,b,am,ai,rfl,bu,bv,bw,bx⟩
 simp only[cV,cX]
 have eL:=a2.aI
 have eM:=a1.aL
 generalize eN:aA.heap.size=iO at*
 refine(ru amI).2 ?_
 refine cG.2 ⟨λV=>(by cases V),λ_=>?_⟩
 have bz:=am4 R
 refine(bY alJ).2 ?_
 have a3:(fk 0 1 f6 0 1 0 0 fr).bt=G:=JQ sm A A A
 have cO:amr w cM am c iO (T I 0 0) [] []:=⟨a2.R bx B,λg f=>by have:=bw g f;omega,a1.J bx B,A,λo=>by have:=bw _ o;omega,gJ _ _ _,λg f=>by simp at f,λg f=>by simp at f,B⟩
 refine amG (d:=fk 0 1 f6 0 1 0 0 fr) (gf:=[]) bu rfl bz ⟨aT.gW _ _,Y rfl⟩ (λg f=>by simp at f) B (vp (by decide)) a3 rfl (by simp[fk]) (by decide) (by rw[aG];simp[ra]) A λeO eP a4 cP cQ cS cU eQ cW eR eT cY bB=>?_
 obtain⟨aI,a5⟩:=amV (k:=c.aJ) (aX:=c.bd) (d:=fk 0 1 f6 0 1 0 0 fr) a3 rfl rfl A bs (alD sm)
 have cZ:ra.bp c.bd:=by obtain⟨ah,cR,b8,dB,fL,ej,dq,aD,c0,ef,c2,_⟩:=bu;exact c2.cL
 have bC:=(EZ (k:=c.aJ) (d:=fk 0 1 f6 0 1 0 0 fr) cZ rfl a3)
 have eU:(ra.e7 c.aJ c.bd (fk 0 1 f6 0 1 0 0 fr)).1.cQ=1:=zw
 rw[aI]at bB
 clear aI
 have c3:=cO.JR cW B
 generalize(ra.e7 c.aJ c.bd (fk 0 1 f6 0 1 0 0 fr)).1=bD at*
 have a5:ams bD f6 [] 0:=a5
 refine bT (λm a=>m=[aK U]/\a4=a) (JU (gU:=λb=>[b]=[aK U]/\a4=a4) cY bB.iE ⟨rfl,rfl⟩) ?_
 rintro _ _ _ ⟨rfl,rfl⟩
 try simp only[M,N,O,P]
 obtain⟨eV,eX,bE,_⟩:=id ao
 have eY:0<w.heap.size:=cF
 refine c1 (λm a=>∃(i next:Nat)(aa:S)(aD az:List Nat)(dO:cK)(gg:eW)(dL:Nat)(ao:List gZ),m=[aa,F H next,F H i]/\i<=4/\amr w a az c iO aa (ao.map (·.cu)) aD/\h2 a b az ab c gg (λ_=>U) (λ_ _=>G) ix dL 0 dO/\dO.bp c.bd/\dO.cn=[]/\ams dO f6 ao next/\ao.length=i/\next<=3*i/\dO.cQ=1+i/\dL<=2+i/\∀(j:Nat)(x:gZ),ao[j]?=E x->x.e4=j+1) (λm _=>match m with|[_,_,F _ i]=>4-i.toNat|_=>0) ⟨0,0,_,[],cP,bD,cQ,cS,[],rfl,A,c3,cU,bC.1,bC.2,a5,rfl,A,A,A,B⟩ ?_
 rintro _ _ cd ⟨i,next,aa,aD,c4,v,aq,bG,p,rfl,al,z,a6,aJ,bH,ar,c5,e0,e2,e3,bI⟩
 try simp only[M,N,O,P,bi]
 refine⟨λc6=>?_,λe4=>?_⟩
 ·refine bT (λm a=>∃ak:Nat,m=[F H ak]/\1<=ak/\ak<=3/\cd=a) ?_ ?_
  ·rw[bE]
   try simp only[M,N,O,P,bi]
   refine⟨λW=>?_,λW=>⟨1,by trivial,A,A,by trivial⟩⟩
   have c8:i<aF.length:=A
   rw[<-bE]
   refine UY (ao.V z.qV) c8 λe5 cv bK=>?_
   refine(cv _ (.b0 _ _) _).2 ?_
   refine tc (ay:=1) (al:=3) A A ?_
   have e6:=(q9 (n:=aF[i]) (ay:=1) (al:=3) A).2
   exact⟨kr aF[i] 1 3,by trivial,A,A,by trivial⟩
  rintro _ _ _ ⟨ak,rfl,e7,e9,rfl⟩
  try simp only[M,N,O,P]
  refine aH W1 (alc (ak:=ak) (wJ:=(i:Int)) A) ?_
  rintro fa fb ⟨⟨u,au⟩,bL⟩
  have da:=au.aR
  have bM:Ff u:=⟨A,A,au.E9⟩
  obtain⟨gf,db,de,df⟩:=amO au.cP
  have av:∀g∈gf,cd.heap.size<=g:=λg f=>by
   obtain⟨af,n,dg,e⟩:=de g f
   exact au.zs g af n dg e
  obtain⟨fd,cC,aL,_⟩:=id au.cP
  subst aL
  refine(bY (am0 (l:=u))).2 ?_
  refine(bY JT).2 ?_
  have dh:(⟨0,0,0,u⟩:cw).bt=G:=UT bM (Z ⟨rfl,rfl⟩) A
  have D:(fk 0 3 f6 0 0 0 0 ⟨0,0,0,u⟩).bt=G:=UQ sm A dh
  have dj:=a6.aL
  have fe:=z.qV.aI
  have dk:=z.V bL
  have ff:=ar.dT
  refine amG (d:=fk 0 3 f6 0 0 0 0 ⟨0,0,0,u⟩) (gf:=gf) (a6.V bL) bH bz db (λg f o=>(ce.1 o).elim (λe=>by have:=av g f;omega) (λo=>by have:=av g f;have:=dj g o;omega)) df (vp ⟨by show f6.size<=100;decide,by show cg.size<=100;decide,by simp only[fk];omega⟩) D rfl (by simp[fk]) A A A λhs fz dl ci bP bR bU fl dm dn dp dr a7=>?_
  obtain⟨aM,bW⟩:=amU (k:=c.aJ) (d:=fk 0 3 f6 0 0 0 0 ⟨0,0,0,u⟩) (aX:=c.bd) ar aJ A D rfl rfl rfl A bs (UV sm (gz (UU bM) A)) A A
  have b0:=EZ (k:=c.aJ) (d:=fk 0 3 f6 0 0 0 0 ⟨0,0,0,u⟩) aJ bH D
  have fm:(v.e7 c.aJ c.bd (fk 0 3 f6 0 0 0 0 ⟨0,0,0,u⟩)).1.cQ=v.cQ+1:=zw
  rw[aM]at a7
  clear aM
  have q:=dk.JR dm (λg f=>⟨by have:=av g f;omega,λe=>by have:=av g f;have:=z.amt.aL;omega,λo=>by have:=av g f;have:=z.zE.aL g o;omega⟩)
  generalize(v.e7 c.aJ c.bd (fk 0 3 f6 0 0 0 0 ⟨0,0,0,u⟩)).1=a8 at*
  refine bT (λm a=>m=[aK U]/\dl=a) ?_ ?_
  ·obtain⟨_,ac,ds,fn,_,_,_⟩:=c7.hJ dr
   try simp only[M,N,O,P]
   refine iY rfl ?_
   refine(ac _).2 ?_
   rw[a7.iE]
   try simp only[M,N,O,P]
   refine iY (by decide) ?_
   refine(ds _).2 ?_
   rw[a7.cu]
   try simp only[M,N,O,P]
   exact⟨B,by trivial⟩
  rintro _ _ _ ⟨rfl,rfl⟩
  try simp only[M,N,O,P]
  refine yR uM q.zE (x:=(next:Int)) (λ_=>rfl) rfl (by intro ap b1;simp[ew]at b1;subst b1;rfl) (by simp;omega) (by unfold d0;simp;omega) A λdd b2 ez dt ad fo=>?_
  try simp only[M,N,O,P]
  rw[X.bq (x:=(next:Int)+(ak:Int)) A A,bq A A]
  have fp:=q.amt.aL
  have fq:=q.qV.aI
  have du:=bU.aL
  have b3:=q.amF
  have aP:h2 b2 b ci ab c bP (λ_=>U) (λ_ _=>G) ix bR 0 a8:=bU.J ad.J (λg f o=>b3 g o f) (λo=>by have:=q.amv _ o;omega)
  refine⟨⟨i+1,next+ak,dd,ez,ci,a8,bP,bR,p++[⟨next,ak,0,v.cx.length,0⟩],by trivial,A,?_,aP,b0.1,b0.2,?_,by simp;omega,A,A,A,?_⟩,by simp;omega⟩
  ·refine⟨q.qV.R ad.J (λg f=>Z (q.amv g f)),q.B1,q.amt.J ad.J q.amx,q.a3,q.amE,by simpa using dt,λg f=>(ad.cq g f).elim (q.amv g) (λV=>A),λg f o=>(ad.cq g f).elim (λV=>b3 g V o) (λV=>by have:=du g o;omega),λo=>(ad.cq _ o).elim q.amx (λV=>A)⟩
  ·have e:(fk 0 3 f6 0 0 0 0 ⟨0,0,0,u⟩).bk.a7.length=ak:=da
   rw[e]at bW
   have aw:ams a8 f6 (p++[⟨next,ak,0,v.cx.length,0⟩]) ((next:Int)+(ak:Int)):=bW
   rw[Int.natCast_add]
   exact aw
  ·intro j x r
   rcases Nat.lt_or_ge j p.length with h|h
   ·rw[pR h]at r
    exact bI j x r
   ·rw[nr h]at r
    have:j-p.length=0:=by
     rcases Nat.eq_zero_or_pos (j-p.length)with b7|b7
     ·exact b7
     ·rw[jy (by simp;omega)]at r;cases r
    rw[this]at r
    cases r
    simp only
    omega
 ·have dv:i=4:=A
  subst dv
  refine tc (ay:=0) (al:=2) A A ?_
  have fs:=(q9 (n:=aY) (ay:=0) (al:=2) A).2
  generalize kr aY 0 2=x at*
  have fu:fg c+(x+1)=1+c.aJ+1+x:=by unfold fg;rw[aZ];omega
  have dw:fg c+(x+1)<c.e6:=by unfold fg dR.e6;omega
  generalize dx:fg c+(x+1)=bn at*
  have b9:c.aJ<=bV (λag=>!(λ_=>U:Nat->Bool) ag) c.aR:=by rw[ald (aj:=λag=>!(λ_=>U:Nat->Bool) ag) (λ_ _=>rfl)];exact bt
  have fv:(p.map (·.cu)).length=4:=by simp[c5]
  refine c1 (λm a=>∃(ag:Nat)(az:List Nat),m=[F H ag]/\ag<=c.aR-c.aJ+1/\amr w a az c iO aa (p.map (·.cu)) aD/\h2 a b az ab c aq (λ_=>U) (amq ag bn) (amq ag bn) bG 0 v) (λm _=>match m with|[F _ ag]=>c.aR-c.aJ+1-ag.toNat|_=>0) ⟨0,c4,rfl,A,z,by rw[amX];exact a6⟩ ?_
  rintro _ _ b2 ⟨ag,d6,rfl,ca,a9,aP⟩
  obtain⟨fy,cb,dy,fA,fB⟩:=iV a9.amt
  try simp only[M,N,O,P,cb,dy]
  rw[X.bq (x:=(c.aR:Int)-(c.aJ:Int)) A A]
  try simp only[M,N,O,P,bi]
  refine⟨λfC=>?_,λfG=>?_⟩
  ·try simp only[M,N,O,P,cb]
   rw[X.bq (x:=1+(c.aJ:Int)) A A,X.bq (x:=1+(c.aJ:Int)+1) A A,X.bq (x:=1+(c.aJ:Int)+1+(x:Int)) A A,show 1+(c.aJ:Int)+1+(x:Int)=(bn:Int)by omega]
   obtain⟨dc,ba,fH,dz⟩:=aP.E8
   refine aH W6 (ba.lg (i:=ag) (s:=bn) (aQ:=5) (aO:=1) A dw A A A) ?_
   rintro _ dC ⟨⟨fI,rfl,J⟩,bJ,y,dD⟩
   have dE:=J rfl (by simp[amq])
   subst dE
   rw[amY]at y
   obtain⟨dF,dG,dH⟩:=dz dC bJ _ _ _ y dD b9
   try simp only[M,N,O,P]
   refine iY rfl ?_
   rw[bq A A]
   exact⟨⟨ag+1,dF,by trivial,A,a9.JR (gf:=[]) (by simpa using dH) B,dG⟩,by simp;omega⟩
  ·obtain rfl:ag=c.aR-c.aJ+1:=A
   have cc:xH c (amq (c.aR-c.aJ+1) bn) (amq (c.aR-c.aJ+1) bn) (λt=>decide (t=x+1)):=by rw[<-dx];exact amZ R A
   obtain⟨fJ,fM,aL,_⟩:=z.zE.jD
   rw[aL]
   try simp only[M,N,O,P]
   rw[<-aL]
   refine c1 (λm a=>∃(j:Nat)(az:List Nat)(dO:cK),m=[F H j]/\j<=4/\amr w a az c iO aa (p.map (·.cu)) aD/\h2 a b az ab c aq (λ_=>U) (amq (c.aR-c.aJ+1) bn) (amq (c.aR-c.aJ+1) bn) bG 0 dO/\dO.cx=v.cx/\dO.bd=v.bd/\dO.cQ=5+j) (λm _=>match m with|[F _ j]=>4-j.toNat|_=>0) ⟨0,d6,v,rfl,A,a9,aP,rfl,rfl,A⟩ ?_
   rintro _ _ dK ⟨j,dM,cf,rfl,ch,bb,cj,bc,ck,fN⟩
   try simp only[M,N,O,P,bi]
   obtain⟨fO,dN,bd,fP,fQ⟩:=id ar.gm
   have be:=((aJ.bd A).aP dN).dw
   refine⟨λc6=>?_,λfR=>?_⟩
   ·have dP:j<p.length:=A
    have r:p[j]?=E p[j]:=cr dP
    have bf:=gP r
    have aG:=bI j _ r
    refine UY (bb.zE.eF (λ_=>rfl) A) (i:=j) A λfT cv bK=>?_
    refine(cv _ (.b0 _ _) _).2 ?_
    rw[show(p.map (·.cu))[j]'A=p[j].cu from ic _]
    have cm:=(be.oG.1 p[j] (by rw[bd];exact bf)).1
    have fU:=be.oG.AB (by rw[bd];exact bf)
    have fV:=(be.oG.1 p[j] (by rw[bd];exact bf)).2
    clear cv bK
    generalize p[j]=ap at*
    refine(bY alL).2 ?_
    have D:(lo 0 f6 ap.cu 0).bt=G:=UR sm A A A
    refine amW (d:=lo 0 f6 ap.cu 0) cj cc rfl (vp ⟨by show f6.size<=100;decide,by show cg.size<=100;decide,by simp[lo,fr]⟩) D rfl (by simp[lo]) A λhs fz dQ dS dT dV dn dp dW an=>?_
    rw[bc,ck]at an
    obtain⟨dY,dZ⟩:=amT (d:=lo 0 f6 ap.cu 0) (cp:=λt=>decide (t=x+1)) ar aJ A rfl rfl rfl r rfl
    have d1:=bb.JR dV B
    have J:=an.dY
    obtain⟨fW,fX,aB,_⟩:=id J
    refine bT (λm a=>m=[aK U]/\dQ=a) ?_ ?_
    ·obtain⟨_,ac,_,_,_,bg,_⟩:=c7.hJ dW
     try simp only[M,N,O,P]
     refine iY rfl ?_
     try simp only[M,N,O,P]
     by_cases d2:j=x
     ·have e:=dY (by simp[aG,d2])
      rw[e]at an J aB
      refine⟨λ_=>?_,λh=>absurd A h⟩
      refine(ac _).2 ?_
      rw[an.iE]
      try simp only[M,N,O,P]
      refine iY rfl ?_
      refine(bg _).2 ?_
      rw[aB]
      try simp only[M,N,O,P]
      refine iY (by simp[ki]) ?_
      exact⟨λh=>absurd (show(j:Int)=x by omega) h,λ_=>⟨by trivial,by trivial⟩⟩
     ·obtain⟨aj,e⟩:=dZ (by simp[aG];omega)
      rw[e]at an J aB
      refine⟨λh=>absurd h A,λ_=>⟨λ_=>?_,λ_=>⟨by trivial,by trivial⟩⟩⟩
      refine(ac _).2 ?_
      rw[an.iE]
      try simp only[M,N,O,P]
      refine iY rfl ?_
      refine(bg _).2 ?_
      rw[aB]
      try simp only[M,N,O,P]
      refine iY B ?_
      refine(bg _).2 ?_
      rw[aB]at J⊢
      obtain⟨fY,fZ,aI,_,d3⟩:=id J
      obtain⟨jP,f0,aM,d4⟩:=d3.resolve_left B
      cases aI
      subst aM
      refine(sB C2 yh A B).2 ?_
      try simp only[M,N,O,P]
      refine(bl (aa:=F H ap.cu) bZ (la d4 (by simp[X.hX]))).2 ?_
      try simp only[M,N,O,P]
      exact⟨B,by trivial⟩
    rintro _ _ _ ⟨rfl,rfl⟩
    try simp only[M,N,O,P]
    rw[bq A A]
    exact⟨⟨j+1,dS,_,by trivial,A,d1,dT,bc,ck,by simp only;omega⟩,by simp;omega⟩
   ·obtain⟨dc,g8,lr,hD,tu,zK,cm,d5,ba,d7,cn,cq,d8,d9,eb⟩:=cj.akz
    have cs:=cn.amM aZ
    have f1:=ar.dT
    rw[bc]at cs
    have aR:∀s:Nat,s≠bn->∀ag,amq (c.aR-c.aJ+1) bn ag s=G:=λs h ag=>by simp[amq,h]
    have ec:zc c aq (λ_=>U) (amq (c.aR-c.aJ+1) bn) (amq (c.aR-c.aJ+1) bn):=by
     refine⟨?_,λj i ch al=>?_,λag s ca ao=>?_,λj ch bv ag ca=>?_,b9⟩
     ·rw[show(λag=>amq (c.aR-c.aJ+1) bn ag 0)=λ_=>G from funext λag=>aR 0 A ag,ald (λ_ _=>rfl)]
      exact bt
     ·have bh:j=0:=A
      subst bh
      rw[show mo c (amq (c.aR-c.aJ+1) bn) 0 i=λ_=>G from funext λag=>aR _ A ag,ald (λ_ _=>rfl)]
      omega
     ·exact aR s (by unfold fg at ao;rw[aZ]at ao;omega) ag
     ·have bh:j=0:=A
      subst bh
      have:=cs bv
      exact aR _ A ag
    refine aH Lr (T9 cm d5 ba ec d7 cn cq.nf cq.n1 d8 d9) ?_
    rintro ae ee (⟨az,dL,rfl,f2,_,ct,eg⟩|⟨az,cz,rfl,bj,ct,_⟩)
    ·have W:=eg (x+1) A
     have aS:=(cc (x+1) A).2 B
     omega
    ·refine Jf bj.kF λcu aU=>?_
     rw[bj.a5]
     try simp only[M,N,O,P]
     refine iY (by decide) ?_
     have eh:bX (dM++[]) az dK ee:=ct.qj (λg f=>by simp[eb g f]) (λg f=>Y f)
     have bk:=(bb.JR eh B).V aU
     have cx:ajV cu b az ab c aq (λ_=>U) (amq (c.aR-c.aJ+1) bn) (amq (c.aR-c.aJ+1) bn) cf.cQ cz:=by
      obtain⟨⟨bJ,dB,rfl,y,aC,aV⟩,W,aS,aw⟩:=bj
      exact⟨⟨bJ,dB,rfl,y.V aU,⟨aC.J aU B,aV⟩⟩,W.V aU,aS,aw⟩
     refine(bY am1).2 ?_
     have D:(lo 0 f6 0 0).bt=G:=UR sm A A A
     refine aH amu (amB (d:=lo 0 f6 0 0) cx rfl (vp ⟨by show f6.size<=100;decide,by show cg.size<=100;decide,by simp[lo,fr]⟩) D A) ?_
     rintro _ cy ⟨_,rfl,rfl,ei,cA⟩
     simp only[cV,cX]
     refine qv λf3 ek el f4=>?_
     refine mW (x:=ve (lo 0 f6 0 0) 6) ek rfl rfl λcB em en f5=>?_
     have aW:Q [] cy cB:=el.R en B
     have eo:ajV cB b az ab c aq (λ_=>U) (amq (c.aR-c.aJ+1) bn) (amq (c.aR-c.aJ+1) bn) (cf.cQ+1) cz:=by
      obtain⟨⟨bJ,dB,rfl,y,aC,aV⟩,W,aS,aw⟩:=ei
      exact⟨⟨bJ,dB,rfl,y.V aW,⟨aC.J aW B,aV⟩⟩,W.V aW,aS,aw⟩
     refine(bY am2).2 ?_
     refine aH amu (amB (d:=amw) eo rfl (vp (by decide)) am3 A) ?_
     rintro _ ep ⟨_,rfl,rfl,eq,cD⟩
     simp only[cV,cX]
     refine qv λf8 er et f9=>?_
     refine mW (x:=ve amw 6) er rfl rfl λcE eu ex ga=>?_
     have bm:Q [] ep cE:=et.R ex B
     have ey:∀g∈az,g<cu.heap.size:=by
      obtain⟨⟨bJ,dB,rfl,y,aC,aV⟩,_⟩:=cx
      intro g f
      rcases ce.1 f with rfl|f
      ·exact aC.aL
      ·exact y.aL g f
     have gb:=cA.aI
     have eA:cy.heap.size∉az:=λo=>by have:=ey _ o;omega
     have eC:=(em.J cD eA).J bm B
     obtain⟨_,ac,_,_,_,_,_⟩:=c7.hJ eC
     obtain⟨_,eD,_,_,eE,_,_⟩:=c7.hJ eu
     try simp only[M,N,O,P]
     refine(ac _).2 ?_
     try simp only[M,N,O,P]
     refine q6 (by simp[ve]) ?_
     refine(eD _).2 ?_
     try simp only[M,N,O,P]
     refine q6 (by simp[ve]) ?_
     refine(eE _).2 ?_
     try simp only[M,N,O,P,ve]
     refine q6 B ?_
     have eF:jf cE:=eq.kF.V bm
     refine aH W5 (alA eF) ?_
     rintro _ gc ⟨rfl,eG⟩
     exact⟨rfl,((((bk.qV.R cA (λg f=>Z (bk.B1 g f))).R aW B).R cD (λg f=>Z (bk.B1 g f))).R bm B).R eG B⟩
end
end
section
open Go.ChangeShapes Go.WideShapes Go.RowKit
abbrev B3:List (String×DataW Unit):=[("unicode/utf8.acceptRanges",Rows.laid_unicode_utf8_acceptRanges),("errors.errorType",Rows.laid_errors_errorType),("unicode/utf8.first",Rows.laid_unicode_utf8_first)]
def alP:ownKnob C.godebug=I:=K
def alQ:C.globalNamed "errors.errorType"=E 0:=K
def alR:(C.cutTypes.find? (·.1== "internal/reflectlite.rtype")).map (·.2)=E 271:=K
def alS:((c9 542).filter λt=>C.rowNamed t [101,114,114,111,114])=[73]:=K
def alT:C.types.size=542:=K
def UZ:laidOutB C=G:=K
def alU{bE:aN}(h:laidMetH C B3 bE):jf bE:=by
 have f3:laidMet C [("unicode/utf8.acceptRanges",Rows.laid_unicode_utf8_acceptRanges),("unicode/utf8.first",Rows.laid_unicode_utf8_first)] bE/\handlesMet C [("errors.errorType",Rows.laid_errors_errorType)] bE:=h
 obtain⟨name,ae,c,d,e,f,g,a⟩:=f3.2 _ (ku.2 rfl)
 have i:name=[101,114,114,111,114]:=(re d).symm
 subst i
 obtain rfl:=re (alR.symm.trans e)
 have b:c∈(c9 542).filter λt=>C.rowNamed t [101,114,114,111,114]:=ol.2 ⟨iK.2 (by rw[<-alT];exact f),g⟩
 rw[alS]at b
 obtain rfl:=ku.1 b
 have j:typeHandle C 73=eu 73:=K
 rw[j]at a
 have:=World.var?_cell alQ a 0
 unfold jf iF
 simpa using this
def U0(l:List Nat):Array S:=(l.map λn:Nat=>F cl n).toArray
noncomputable def U1(rh:Os):aN:=
 let bv:=World.holding C rh ⟨#[],#[],[]⟩
 let put:=λ(h:Array Obj)(b:Nat)(d:Array S)=>h.modify b λ
  |.cells _ t a=>.cells d t a
  |af=>af
 {bv with heap:=put (put (put bv.heap 0 #[eZ 271 (b6 #[aE (E ⟨4,73,I⟩)])]) ((C.globalNamed "unicode/utf8.acceptRanges").getD 0) (U0 ([128,191,160,191,128,159,144,191,128,143]++cN 22 0))) ((C.globalNamed "unicode/utf8.first").getD 0) (U0 Pinned.utf8FirstZ)}
def alV(rh:Os)(c8:Array S):laidMetH C B3 ((U1 rh).forCall (λ_ _=>0) ⟨#[],c8,[]⟩).memory:=
 laidMetH_of_parts (laidMet_of_run' 8 K K) K
end
section
open Go.RowKit Go.ChangeShapes Go.WideShapes Go.Deep
section
def te:C.cellsOf 3=1:=K
def tf:C.underlying 3=E (.int H):=K
end
end
end Go.Proofs.YtepeilglbedgdaaGreatDoor
namespace Go.Proofs.YtepeilglbedgdaaGreatDoor.topLoss
open Go.X
section
open Go.ChangeShapes Go.WideShapes Go.ChangeAt Go.RowKit Go.Proofs.YtepeilglbedgdaaGreatDoor
set_option maxRecDepth 100000 in
theorem al4 (rh:Os) (p:rh.Started) (q:Type) (be:co×S->q):
  ReturnsInHanded {} Tryz.checked rh 4 .any (λw c8=>(Rows.topLossSpec.pre be C Tryz.f4 [] U w c8/\laidMetH C B3 w)/\sizedMet be C Tryz.f4 (OpenSpec.ofChange Rows.topLossSpec) U w c8)
   (Rows.topLossSpec.post be C Tryz.f4 U G U U):=by
 refine returnsInHanded_of_change_and (C:=Tryz.checked) (X:=λw _=>laidMetH C B3 w) (λ_ _ _ r h=>h.of_heap r) alP p K Tryz.func4
  (ChangeSpec.witness_at (enc:=be) (C:=Tryz.checked) (os:=rh) (X:=λw _=>laidMetH C B3 w) U (U1 rh) #[F H 0,F H 0,F H 0,T I 0 0] 8 rfl K K K K K (alV rh _)) ?_
 intro bC s c8 u ac ad b c _ _ v _
 have a:∀(j:Nat) t aa,Tryz.f4.params[j]?=E t->c8[j]?=E aa->Value.okWide C bC .any s t aa:=b
 have y:=c
 obtain⟨ah,ai,d,z,rfl,ae,af⟩:=c
 have f:DataW.TrodAll be C bC 0 (λ_=>G) G Tryz.f4.params.toList c8.toList u ah:=d
 rw[Tryz.params4]at f a
 obtain⟨g,ag,aj,al,U6,am,an,rfl,rfl,B,D⟩:=trodAll_cons f
 obtain⟨i,ao,ap,aq,ar,au,rfl,rfl,rfl,J,L⟩:=trodAll_cons D
 obtain⟨k,av,aw,ay,az,aB,rfl,rfl,rfl,M,N⟩:=trodAll_cons L
 obtain⟨l,aC,aD,aF,O,aG,rfl,rfl,rfl,m,P⟩:=trodAll_cons N
 obtain⟨rfl,rfl,rfl⟩:=trodAll_nil P
 obtain rfl:c8=#[g,i,k,l]:=by cases c8;simp_all
 obtain⟨rfl,rfl⟩:=trodVars_none z
 obtain⟨fH,rfl,rfl,rfl,bv⟩:=open_int Tryz.underlying3 (a 0 3 g rfl rfl) B
 obtain⟨aH,rfl,rfl,rfl,aA⟩:=open_int Tryz.underlying3 (a 1 3 i rfl rfl) J
 obtain⟨aI,rfl,rfl,rfl,ax⟩:=open_int Tryz.underlying3 (a 2 3 k rfl rfl) M
 have n:=m
 have Q:∀x∈O,x.block<bC.heap.size:=by obtain⟨ak,R⟩:=n;exact DataW.trod_lt ak _ _ _ R
 obtain⟨da,V,aJ,aL⟩:=Sl (be:=ew) Tryz.underlying22 te (λ_=>rfl) A (agj tf) (a 3 22 l rfl rfl) m
 have W:=alU v
 clear d b
 refine(Go.X.a0.Vv (am5 W V)).mono λe aM⟨ab,o⟩=>?_
 subst ab
 exact⟨_,rfl,_,_,_,[],_,[],y,trodAll_mk1 (shut_bool Tryz.underlying4 _),(trodAll_cons_mk (shut_int Tryz.underlying3 bv) (trodAll_cons_mk (shut_int Tryz.underlying3 aA) (trodAll_cons_mk (shut_int Tryz.underlying3 ax) (trodAll_cons_mk (Below.trod UZ K (of_decide_eq_true K) n o Q) trodAll_mk0)))),rfl,o.frame _,λh=>by cases h⟩
theorem jl{d b:Bool}(h:d=G)(k:b=G):(d&&b)=G:=by rw[h,k];rfl
theorem U5:Tryz.pinned.checked.prog.funcNamed Rows.topLossRow.func=E 4:=K
theorem inst:Tryz.f4.isInstance Tryz.pinned.checked.prog Rows.topLossRow.origin Rows.topLossRow.targs:=of_decide_eq_true K
theorem al5:Tryz.f4.isWrapper Tryz.pinned.checked.prog Rows.topLossRow.wrapper Rows.topLossRow.mainSum:=by unfold Func.isWrapper;first|(rw[if_pos (by decide+kernel)];kernel_rfl)|(rw[if_neg (by decide+kernel)];exact⟨rfl,rfl⟩)
set_option maxHeartbeats 8000000 in
theorem al6:joinedFacts Tryz.pinned.checked.prog 4 Tryz.f4 Rows.topLossSpec Rows.topLossRow=G:=by
 unfold joinedFacts
 refine jl (jl (jl (jl (jl (jl (jl (jl (jl (jl (jl (jl (jl (jl (jl (jl (jl (jl (jl (jl (jl (jl (jl (jl (jl (jl (jl (jl (jl (jl (jl ?_ ?_) ?_) ?_) ?_) ?_) ?_) ?_) ?_) ?_) ?_) ?_) ?_) ?_) ?_) ?_) ?_) ?_) ?_) ?_) ?_) ?_) ?_) ?_) ?_) ?_) ?_) ?_) ?_) ?_) ?_) ?_
 all_goals decide+kernel
theorem am6:Rows.topLossRow.holds Tryz.pinned (OpenSpec.ofChange Rows.topLossSpec):=
 OpenClaim.holds_of_wide 4 Tryz.f4 rfl rfl rfl rfl rfl rfl rfl ⟨rfl,rfl,rfl,rfl,rfl⟩ rfl rfl rfl rfl rfl U5 Tryz.func4 al6
  inst al5
  (λrh a b be _=>al4 rh a b be)
theorem al8:U=Rows.topLossRow.goesBy Tryz.pinned.checked.prog:=K
theorem al9:Tryz.pinned.checked.prog.mainIs=E (G,((G, "0cb66b075be2326e287ec28bf4f90176a22813707f997a64b32bd5491fbd1b1a")).2.toList):=K
theorem ama:G=Tryz.pinned.checked.prog.looks []:=K
theorem amb:Tryz.f4.params.all (λt=>!C.wantsStandIn t)=G:=K
theorem proved:Rows.TopLossCardSaid:=
 Claim7.holds_tied_plain_at .later [] [.data,.handle,.pinned] G (G, "0cb66b075be2326e287ec28bf4f90176a22813707f997a64b32bd5491fbd1b1a") G
  am6 (λ_ h=>by cases h) K (λ_ h=>by cases h) topLoss_row_tie rfl ⟨rfl,rfl⟩ al9 rfl
  (λaj gr a b=>by
   obtain rfl:aj=4:=re (U5.symm.trans a)|>.symm
   obtain rfl:gr=Tryz.f4:=(re (Tryz.func4.symm.trans b)).symm
   exact⟨ama,λj t c=>by
    have d:=Array.all_eq_true_iff_forall_mem.1 amb t (Array.mem_of_getElem? c)
    have e:C.wantsStandIn t=U:=by simpa using d
    exact e⟩)
  al8
end
end Go.Proofs.YtepeilglbedgdaaGreatDoor.topLoss
