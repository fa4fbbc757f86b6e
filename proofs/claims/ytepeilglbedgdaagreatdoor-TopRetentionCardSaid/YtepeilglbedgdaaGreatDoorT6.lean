import Derived.Test.YtepeilglbedgdaaGreatDoorCards
import Derived.Test.YtepeilglbedgdaaGreatDoorTie
import Derived.ChangeVars
import Derived.JoinedOf
import Derived.RowKit
import Derived.RowKitTokens
import Derived.LaidLaws
import Derived.LaidHandle
import Derived.Stop.Joined
import Derived.SevenTiedAt
import GoSem.PinnedTables
import Derived.OpenShut
import Derived.ShutString
import Derived.ChangeOld
import Derived.Below
import Derived.Test.YtepeilglbedgdaaGreatDoorT5
/- A part of the proof of this claim: it states and proves what the walk through the program uses. Its names are short ones that a program gave. The last part proves the card: for every input the call returns true, and each argument reads behind the call as it read before. -/
set_option linter.defProp false
set_option linter.all false
set_option maxRecDepth 100000
set_option maxHeartbeats 2000000
open Array renaming getElem?_eq_getElem->ti,length_toList->tj
open Bool renaming false->U,true->G
open ByteArray renaming mk->eS
open Go renaming Addr->es,Program->ft,TypeId->co,Value->S,World->aN
open Go.IntKind renaming i64->H,u8->cl
open Go.Proofs.Tryz renaming prog->C
open Go.Value renaming agg->b6,bool->aK,cells->bF,iface->eZ,int->F,map->eB,pointer->aE,slice->T,string->bO
open List renaming flatMap_cons->iA,getElem?_drop->oo,getElem?_eq_getElem->cr,getElem_of_mem->ns,length_append->di,mem_cons->ce,mem_filter->ol,mem_map->fS,mem_range->iK,mem_singleton->ku,range->c9,replicate->cN
open Nat renaming le_trans->gz
open Option renaming none->I,some->E
open Option.some renaming inj->re
open Or renaming inl->Y
open Go
namespace Go.Proofs.YtepeilglbedgdaaGreatDoor
open Go.X
attribute[local irreducible]Go.X.W
variable{a bv w:aN}{af ak b8 bu e9 i n s t:Nat}{dN qG:Nat -> Bool}{aD aO am az bU:List Nat}{aa bc:S}{ad:ft}{an dO:cK}{ar:co}{c:dR}{d:dl}{dm:List ByteArray}{fz:kQ}
section
open Go.RowKit fC gO
def sm:jV f6=G:=by decide+kernel
section
variable{hs:Nat}{first:Int}{l:List ByteArray}{ad:dn}
def alH:C.built 32 #[(0,fQ c),(1,eB (E b8))].toList=E (en c++[eB (E b8)]).toArray:=K
def alI:C.built 46 (#[]:Array (Nat×S)).toList=E (zD 0 (T I 0 0) (T I 0 0)).toArray:=K
def alJ:C.built 43 #[(1,F H 1),(2,bO (eS #[116])),(5,F H 1)].toList=E (f1 (fk 0 1 f6 0 1 0 0 fr) (T I 0 0)).toArray:=K
def JS{i:Int}{l:List ByteArray}{x:Option es}:C.built 41 #[(1,F H 1),(2,F H i),(3,T x n ak)].toList=E (iS ⟨0,1,i,l⟩ (T x n ak)).toArray:=K
def JT{b:cw}{x:Option es}:C.built 43 #[(1,F H 3),(2,bO (eS #[116])),(10,jr b (T x n ak))].toList=E (f1 (fk 0 3 f6 0 0 0 0 b) (T x n ak)).toArray:=K
def alK{af:Int}:C.built 43 #[(1,F H 5),(2,bO (eS #[116])),(7,F H af)].toList=E (f1 (fk 0 5 f6 0 0 0 af fr) (T I 0 0)).toArray:=K
def alL{af:Int}:C.built 43 #[(1,F H 7),(2,bO (eS #[116])),(7,F H af)].toList=E (f1 (lo 0 f6 af 0) (T I 0 0)).toArray:=K
def alM{af ak:Int}:C.built 43 #[(1,F H 7),(2,bO (eS #[116])),(7,F H af),(8,F H ak)].toList=E (f1 (lo 0 f6 af ak) (T I 0 0)).toArray:=K
def kI.zF{first:Int}{ac:S->S->aN->Prop}(h:kI bv w s am aO c dN bu an first dm bc aD e9)(f:an.cQ<=100000)(g:aT w dV aa d.bk.a7)(i:qt d)(b:d.bt=G)(j:d.a5≠6)(l:an.cx.length+1<=c.bd)(m:bu<=1000000)
  (k:∀(hs:Nat)(fz:kQ)(a:aN)(az:List Nat),kI bv a s az aO c dN (bu+1) (an.e7 c.aJ c.bd d).1 first dm bc aD e9->bX am az w a->w.heap.size<=hs->hs∉az->aC a hs 37 (eb fz)->ma a fz (an.e7 c.aJ c.bd d).2->ac (aK G) (aP hs) a):
  W C (ck 11 #[aP s,ho d aa]) w λaa aA=>aV C (gH aa 0) λn=>aV C (gH aa 1) λo=>W C (hV 37) aA λah ax=>W C (dC 37 ah n) ax λ_ p=>ac o ah p:=
 BY h.sl h.B0 f g i b j l m λhs fz a az q e r t u v=>k hs fz a az (h.JR q (EZ h.sl.cL.1 h.B0 b).2 e) e r t u v
def alN:eH C 23 54 11 sk xR:=eH.rx Lk Wn alh F2
def JU{gU:S->Prop}(a:aC w hs 37 (eb fz))(c:fz.iE=0)(k:gU (aK U)):
  aV C (qH .not (aK G)) λaa=>eV aa (gU (aK G)) (aV C (gB 37 (aP hs) 1) λd=>aZ C (a4 33 d) w λe=>aZ C (eE .neq 33 G e (F H 0)) w λb=>gU b):=by
 obtain⟨_,f,_,_,_,_,_⟩:=c7.hJ a
 try simp only[M,N,O,P]
 refine iY rfl ?_
 refine(f _).2 ?_
 rw[c]
 try simp only[M,N,O,P]
 exact k
def UX:∀{l:List Int}{i:Nat}(h:i<l.length),(l.flatMap ew)[i]?=E (F H l[i])
 |x::l,0,h=>rfl
 |x::l,i+1,h=>by
  rw[iA,show ew x=[F H x]from rfl,List.singleton_append,List.getElem?_cons_succ,List.getElem_cons_succ]
  exact UX (by simpa using h)
def UY{ac:S->Prop}{l:List Int}(h:aT w ew aa l)(al:i<l.length)(k:∀g:es,(∀a,Q [] w a->∀ac,aZ C (a4 3 (aE (E g))) a ac↔ac (F H l[i]))->(∀a,Q [] w a->∀aO,gu C (a4 3 (aE (E g))) (F H l[i]) a aO↔aO)->ac (aE (E g))):aV C (fY 22 aa (F H i)) ac:=by
 obtain⟨d,c,rfl,o,m⟩:=h
 obtain⟨b,af,rfl,n⟩:=m.resolve_left (by intro e;rw[e]at al;simp at al)
 refine(sB vL hl A A).2 ?_
 have j:∀a,Q [] w a->a.cell? ⟨b,af+i,I⟩=E (F H l[i]):=λa f=>la (n.J f B) (UX al)
 refine k _ (λa f ac=>bl bZ ?_) (λa f aO=>dz bZ ?_)
 ·rw[show((i:Int).toNat*1)=i by simp];exact j a f
 ·rw[show((i:Int).toNat*1)=i by simp];exact j a f
def alO{y ap aQ:Int}{cA:Bool}{bs bt:S}{X:List Int}{aq:List um}(bu:jf w)(ao:aT w ew bs X)(bv:aT w sk bt aq):
  a0 C 3 #[F H y,F H ap,bs,F H aQ,aK cA,bt] w λae a=>ae=aK G/\Q [] w a:=by
 have ab:(qx y ap 20 2).bp:=ak8 A A A A
 have cE:=bu.aL
 refine Z2 ?_
 unfold Md
 refine aH WZ (ala (k:=y) (n:=ap) (aX:=20) (qE:=2)) ?_
 rintro _ aA ⟨rfl,cF⟩
 have bw:(qx y ap 20 2).bd=20:=rfl
 generalize qx y ap 20 2=c at*
 refine mR λax aR aS cH=>?_
 refine ml (g:=c) aR rfl λcI bx cJ eg=>?_
 have aJ:Q [] w cI:=cF.R (aS.R cJ B) B
 refine(fj bx).2 ?_
 refine aH Lq (UH ab (bu.V aJ)) ?_
 rintro _ aL ⟨s,am,rfl,aU,cL,aV⟩
 have eh:=aJ.aI
 refine(ru KY).2 ?_
 refine cG.2 ⟨λar=>(by cases ar),λ_=>?_⟩
 try simp only[M,N,O,P]
 refine(fj (bx.J aV B)).2 ?_
 refine Aa (bI:=λb:Bool=>aK b) vO (Y rfl) λaW cM cO ei=>?_
 refine(bY alH).2 ?_
 refine eA λad aY bz ej=>?_
 have aY:aC ad aW.heap.size 32 (en c++[eB (E aL.heap.size)]):=by simpa[bF]using aY
 have a1:Q [] aL ad:=cO.R bz B
 have bB:Q [] w ad:=(aJ.R aV B).R a1 B
 have bC:qz w am:=λg h=>by have:=cL g h;omega
 have bE:=aU.aL
 have ek:=(aJ.R aV B).aI
 have cP:td ad aW.heap.size aL.heap.size c [] (λ_=>U):=⟨aY,cM.J bz B,A,λag _=>rfl,by unfold bV;simp,by have:=ab.jY;simp;omega⟩
 generalize el:aW.heap.size=ah at*
 generalize em:aL.heap.size=b8 at*
 refine(bY alJ).2 ?_
 have cR:=aU.cL.1
 refine BY (d:=fk 0 1 f6 0 1 0 0 fr) (aU.V a1) rfl (by decide) (aT.gW _ _) (vp (by decide)) (JQ sm A A A) (by simp[fk]) (by rw[bw];simp[ra]) A λeo ep z a2 bG ai eq er cS bH=>?_
 obtain⟨bJ,cU⟩:=T6 (an:=ra) (k:=c.aJ) (aX:=c.bd) (d:=fk 0 1 f6 0 1 0 0 fr) (JQ sm A A A) rfl rfl (by decide) (by rw[bw];simp[ra]) ab.kh (alD sm)
 have cV:=(EZ (k:=c.aJ) (d:=fk 0 1 f6 0 1 0 0 fr) cR rfl (JQ sm A A A)).2
 have eu:(ra.e7 c.aJ c.bd (fk 0 1 f6 0 1 0 0 fr)).1.cQ=1:=zw
 have ex:(ra.e7 c.aJ c.bd (fk 0 1 f6 0 1 0 0 fr)).1.cx.length<=1:=zv (an:=ra)
 rw[bJ]at bH
 clear bJ
 generalize(ra.e7 c.aJ c.bd (fk 0 1 f6 0 1 0 0 fr)).1=bK at*
 refine bT (λf a=>f=[aK U]/\z=a) (JU (gU:=λb=>[b]=[aK U]/\z=z) cS bH.iE ⟨rfl,rfl⟩) ?_
 rintro _ _ _ ⟨rfl,rfl⟩
 try simp only[M,N,O,P]
 refine(bY alI).2 ?_
 refine eA λbL a3 a5 ey=>?_
 have a3:aC bL z.heap.size 46 (zD 0 (T I 0 0) (T I 0 0)):=by simpa[bF]using a3
 have cW:qz w a2:=qz.de bC ai bB.aI
 have bM:Q [] w z:=BZ.de bB bC ai
 have eC:=bM.aI
 have eD:=ai.J.aI
 have eE:=a1.aI
 have cX:=bG.aL
 have bP:ah∉am:=λm=>by have:=bE _ m;omega
 have bR:b8∉am:=λm=>by have:=bE _ m;omega
 have bW:ah<ad.heap.size:=A
 have cY:b8<ad.heap.size:=A
 have cZ:=Fe.cW ai bP bW
 have c0:=Fe.cW ai bR cY
 have c2:=((cP.J ai.J bP bR).V a5)
 have c3:kI w bL s a2 [ah,b8] c (λ_=>U) (1+1) bK 0 [] (T I 0 0) [] z.heap.size:=by
  refine⟨bG.V a5,cV,bM.R a5 B,cW,a3,gJ _ _ _,?_,?_,B,?_,?_⟩
  ·intro g h
   simp at h
   omega
  ·intro g h m
   simp at h
   rcases h with rfl|rfl|rfl
   ·have:=cX _ m;omega
   ·exact cZ m
   ·exact c0 m
  ·intro g h m
   simp at h m
   omega
  ·intro g h
   simp at h
   omega
 generalize eF:z.heap.size=e9 at*
 have c4:0<w.heap.size:=cE
 obtain⟨eG,eH,c6,_⟩:=id ao
 refine c1 (λf a=>∃(i:Nat)(dm:List ByteArray)(bc:S)(aD az:List Nat)(dO:cK)(l4:Option hG),f=[F H i]/\i<=X.length/\i<=10/\kI w a s az [ah,b8] c (λ_=>U) (2+i) dO 0 dm bc aD e9/\td a ah b8 c [] (λ_=>U)/\oh dO f6 0 dm 0 l4/\E0 l4=i/\dO.cQ=1+i/\dO.cx.length<=1+i/\dm.length<=3*i) (λf _=>match f with|[F _ i]=>X.length-i.toNat|_=>0) ⟨0,[],_,[],a2,bK,I,rfl,A,A,c3,c2,cU,rfl,A,A,B⟩ ?_
 rintro _ _ cd ⟨i,dm,bc,aD,bX,p,l4,rfl,al,eI,t,bZ,b0,b1,eJ,eK,eL⟩
 refine bT (λf a=>f=[aK (decide (i<X.length/\i<10))]/\cd=a) ?_ ?_
 ·rw[c6]
  try simp only[M,N,O,P,bi]
  refine⟨λa6=>⟨?_,by trivial⟩,λa6=>⟨?_,by trivial⟩⟩
  ·congr 2
   rw[decide_eq_decide]
   omega
  ·rw[decide_eq_false A]
 rintro _ _ _ ⟨rfl,rfl⟩
 try simp only[M,N,O,P,bi]
 refine⟨λa7=>?_,λeM=>?_⟩
 ·have b2:i<X.length:=a7.1
  have b3:=cD [] cd
  have b7:=ao.V (t.qV.R b3 B)
  refine UY b7 b2 λeN cv eO=>?_
  refine(cv _ (.b0 _ _) _).2 ?_
  refine UY b7 b2 λeP c5 c8=>?_
  refine(c5 _ (.b0 _ _) _).2 ?_
  generalize X[i]=bm at*
  refine tc (ay:=1) (al:=3) A A ?_
  refine(c8 _ (.b0 _ _) _).2 ?_
  have eQ:=(q9 (n:=bm) (ay:=1) (al:=3) A).2
  refine aH W1 (alc (ak:=kr bm 1 3) (wJ:=bm) A) ?_
  rintro eR eT ⟨⟨cB,u⟩,da⟩
  have b9:Ff cB:=⟨by have:=u.aR;omega,by have:=u.aR;omega,u.E9⟩
  obtain⟨db,cC,dc,_⟩:=id u.cP
  subst dc
  refine(bY (JS (l:=cB))).2 ?_
  refine(bY JT).2 ?_
  have ca:=b3.R da B
  have dd:=t.V ca
  have a8:(⟨0,1,(i:Int),cB⟩:cw).bt=G:=UT b9 (Y ⟨rfl,A,A⟩) A
  have D:(fk 0 3 f6 0 0 0 0 ⟨0,1,(i:Int),cB⟩).bt=G:=UQ sm A a8
  have eU:=u.aR
  refine dd.zF (d:=fk 0 3 f6 0 0 0 0 ⟨0,1,(i:Int),cB⟩) A u.cP (vp ⟨by show f6.size<=100;decide,by show cg.size<=100;decide,by simp only[fk];omega⟩) D (by simp[fk]) A A λhs fz v ci au aM de df a9 av=>?_
  obtain⟨J,K⟩:=Jp (k:=c.aJ) (d:=fk 0 3 f6 0 0 0 0 ⟨0,1,(i:Int),cB⟩) b0 t.sl.cL.1 A D rfl rfl (Y ⟨rfl,b1.symm,by simp only[fk];omega⟩) A ab.kh (UV sm (gz (UU b9) A)) A
  have dg:(p.e7 c.aJ c.bd (fk 0 3 f6 0 0 0 0 ⟨0,1,(i:Int),cB⟩)).1.cQ=p.cQ+1:=zw
  have dh:(p.e7 c.aJ c.bd (fk 0 3 f6 0 0 0 0 ⟨0,1,(i:Int),cB⟩)).1.cx.length<=p.cx.length+1:=zv
  rw[J]at av
  clear J
  generalize(p.e7 c.aJ c.bd (fk 0 3 f6 0 0 0 0 ⟨0,1,(i:Int),cB⟩)).1=L at*
  refine bT (λf a=>f=[aK U]/\v=a) (JU (gU:=λb=>[b]=[aK U]/\v=v) a9 av.iE ⟨rfl,rfl⟩) ?_
  rintro _ _ _ ⟨rfl,rfl⟩
  try simp only[M,N,O,P]
  have aw:∀g∈[ah,b8],g∉bX:=λg h=>t.eX g (by simp at h;simp[h])
  have ba:=(bZ.V ca).J aM.J (aw ah B) (aw b8 B)
  have dj:aT v dV (T db cB.length cC) cB:=u.cP.J aM.J (λb af n dk e m=>by have:=u.zs b af n dk e;have:=t.sl.aL b m;have:cd.drew.heap.size=cd.heap.size:=rfl;omega)
  refine au.yQ dj A A c4 λvx ez cb o dl=>?_
  rw[bq A A]
  refine⟨⟨i+1,dm++cB,vx,ez,ci,L,_,by trivial,A,A,?_,?_,K,rfl,A,A,by rw[di];omega⟩,by simp;omega⟩
  ·rw[show 2+(i+1)=2+i+1 by omega];exact o
  ·exact ba.J dl (λm=>au.xS ah B m) (λm=>au.xS b8 B m)
 ·obtain⟨eV,eW,bb,_⟩:=t.zE.jD
  refine(bl (aa:=bc) mc (t.M.bh (af:=1))).2 ?_
  rw[bb]
  try simp only[M,N,O,P]
  refine tc (ay:=0) (al:=dm.length) A A ?_
  have eX:=(q9 (n:=aQ) (ay:=0) (al:=dm.length) A).2
  generalize kr aQ 0 dm.length=af at*
  refine(bY alK).2 ?_
  have cc:(fk 0 5 f6 0 0 0 (af:Int) fr).bt=G:=alB sm A A
  refine t.zF (d:=fk 0 5 f6 0 0 0 (af:Int) fr) A (aT.gW _ _) (vp ⟨by show f6.size<=100;decide,by show cg.size<=100;decide,by simp[fk,fr]⟩) cc (by simp[fk]) A A λhs fz v ci au aM de df a9 av=>?_
  obtain⟨J,K⟩:=ajJ (k:=c.aJ) (d:=fk 0 5 f6 0 0 0 (af:Int) fr) (aX:=c.bd) b0 cc rfl rfl (by simp only[fk];omega) (by simp only[fk];omega) A ab.kh (alC sm)
  have dg:(p.e7 c.aJ c.bd (fk 0 5 f6 0 0 0 (af:Int) fr)).1.cQ=p.cQ+1:=zw
  have dh:(p.e7 c.aJ c.bd (fk 0 5 f6 0 0 0 (af:Int) fr)).1.cx.length<=p.cx.length+1:=zv
  rw[J]at av
  clear J
  have K:oh (p.e7 c.aJ c.bd (fk 0 5 f6 0 0 0 (af:Int) fr)).1 f6 0 dm af l4:=by
   have e:max 0 (fk 0 5 f6 0 0 0 (af:Int) fr).cW=(af:Int):=by simp only[fk];omega
   rw[e]at K
   exact K
  generalize(p.e7 c.aJ c.bd (fk 0 5 f6 0 0 0 (af:Int) fr)).1=L at*
  refine bT (λf a=>f=[aK U]/\v=a) (JU (gU:=λb=>[b]=[aK U]/\v=v) a9 av.iE ⟨rfl,rfl⟩) ?_
  rintro _ _ _ ⟨rfl,rfl⟩
  try simp only[M,N,O,P]
  have aw:∀g∈[ah,b8],g∉bX:=λg h=>t.eX g (by simp at h;simp[h])
  have ba:=bZ.J aM.J (aw ah B) (aw b8 B)
  have dn:0≠b8:=A
  obtain⟨eY,e0,dp,_⟩:=id bv
  refine c1 (λf a=>∃(j:Nat)(az:List Nat)(dK:List (Int×Bool))(qG:Nat->Bool),f=[F H j]/\j<=aq.length/\kI w a s az [ah,b8] c qG (2+i+1) L 0 dm bc aD e9/\td a ah b8 c dK qG) (λf _=>match f with|[F _ j]=>aq.length-j.toNat|_=>0) ⟨0,ci,[],_,rfl,A,au,ba⟩ ?_
  rintro _ _ cb ⟨j,d6,e2,cf,rfl,e3,o,dq⟩
  refine bT (λf a=>f=[aK (decide (j<aq.length/\j<4))]/\cb=a) ?_ ?_
  ·rw[dp]
   try simp only[M,N,O,P,bi]
   refine⟨λa6=>⟨?_,by trivial⟩,λa6=>⟨?_,by trivial⟩⟩
   ·congr 2
    rw[decide_eq_decide]
    omega
   ·rw[decide_eq_false A]
  rintro _ _ _ ⟨rfl,rfl⟩
  try simp only[M,N,O,P,bi]
  refine⟨λa7=>?_,λe4=>?_⟩
  ·have dr:j<aq.length:=a7.1
   refine(alN.ek (bv.V o.qV) (Q.b0 _ _) dr).2 ?_
   refine aH W3 (alp o.sl dq (o.eX ah B) (o.eX b8 B) dn) ?_
   rintro _ ch ⟨rfl,aB,ds,dt,bd,du,dv,dw⟩
   try simp only[M,N,O,P]
   rw[bq A A]
   exact⟨⟨j+1,aB,ds,dt,by trivial,A,o.alF (bU:=[b8]) bd o.B0 dv dw B,du⟩,by simp;omega⟩
  ·refine bT (λf a=>f=[]/\∃(az:List Nat)(r:cK),kI w a s az [ah,b8] c cf (2+i+1) r 0 dm bc aD e9/\r.cx=L.cx/\r.bd=L.bd/\r.cQ=L.cQ) ?_ ?_
   ·refine cG.2 ⟨λ_=>?_,λ_=>?_⟩
    ·refine(bY UG).2 ?_
     refine aH C9 (alG o.sl) ?_
     rintro _ ch ⟨rfl,aB,bd,dx⟩
     exact⟨by trivial,aB,_,o.JR bd rfl dx,rfl,rfl,rfl⟩
    ·exact⟨by trivial,d6,L,o,rfl,rfl,rfl⟩
   rintro _ _ ch ⟨rfl,aB,r,be,cj,dy,e5⟩
   have bf:=K.lO cj dy
   have e6:r.cx.length<=i+2:=by rw[cj];omega
   clear K o
   refine bT (λf a=>f=[]/\∃(az:List Nat)(q:cK)(bg:Nat),kI w a s az [ah,b8] c cf bg q 0 dm bc aD e9/\q.cx=r.cx/\q.bd=r.bd/\q.cQ<=r.cQ+1/\bg<=2+i+2) ?_ ?_
   ·try simp only[M,N,O,P,bi]
    refine⟨λe7=>?_,λbh=>⟨by trivial,aB,r,_,be,rfl,rfl,A,A⟩⟩
    rw[show H.wrap ((af:Int)-1)=((af-1:Nat):Int)from by rw[bq A A];omega]
    refine(bY alL).2 ?_
    have dz:(lo 0 f6 ((af-1:Nat):Int) 0).bt=G:=UR sm A A A
    refine be.zF (d:=lo 0 f6 ((af-1:Nat):Int) 0) A (aT.gW _ _) (vp ⟨by show f6.size<=100;decide,by show cg.size<=100;decide,by simp[lo,fr]⟩) dz (by simp[lo]) A A λfa fb aF ck R fd fe ff dB aO=>?_
    have dC:=ajK (k:=c.aJ) (aX:=c.bd) (d:=lo 0 f6 ((af-1:Nat):Int) 0) bf rfl rfl (by simp only[lo];omega)
    rw[dC]at aO R
    have dD:∀{ax:aN}{ac:S->Prop},Q [] aF ax->(aZ C (a4 34 (aE (E ⟨e9,1,I⟩))) ax ac↔ac bc):=λdE=>bl mc ((R.M.J dE B).bh (af:=1))
    refine bT (λf a=>f=[aK U]/\aF.drew=a) ?_ ?_
    ·obtain⟨_,aG,aj,cm,_,_,_⟩:=c7.hJ (bD dB)
     try simp only[M,N,O,P]
     refine iY rfl ?_
     refine(aG _).2 ?_
     rw[aO.iE]
     try simp only[M,N,O,P]
     refine iY (by decide) ?_
     refine(aj _).2 ?_
     rw[aO.cu]
     try simp only[M,N,O,P]
     refine cG.2 ⟨λar=>(by simp at ar),λ_=>?_⟩
     refine(cm _).2 ?_
     try simp only[M,N,O,P]
     refine(dD (cD [] aF)).2 ?_
     rw[aO.cS,bb]
     try simp only[M,N,O,P]
     exact⟨B,by trivial⟩
    rintro _ _ _ ⟨rfl,rfl⟩
    try simp only[M,N,O,P]
    exact⟨by trivial,ck,_,_,R.V (cD [] aF),rfl,rfl,B,A⟩
   rintro _ _ aF ⟨rfl,ck,q,bg,R,cn,dF,fg,fl⟩
   have bj:=bf.lO cn dF
   have dG:q.cx.length<=i+2:=by rw[cn];omega
   clear bf be
   refine(bY alM).2 ?_
   have dH:(lo 0 f6 (af:Int) 999).bt=G:=UR sm A A A
   refine R.zF (d:=lo 0 f6 (af:Int) 999) A (aT.gW _ _) (vp ⟨by show f6.size<=100;decide,by show cg.size<=100;decide,by simp[lo,fr]⟩) dH (by simp[lo]) A A λfm fn cp fo aI fp fq fs dL bk=>?_
   obtain⟨et,gb,dM,fu,fv,dN,dP⟩:=T7 (k:=c.aJ) (aX:=c.bd) (d:=lo 0 f6 (af:Int) 999) bj R.sl.cL.1 A rfl rfl (by simp only[lo];omega) (by simp only[lo];omega)
   rw[et]at aI
   generalize(q.e7 c.aJ c.bd (lo 0 f6 (af:Int) 999)).2=fy at*
   refine bT (λf a=>f=[aK U]/\Q [] cp a) ?_ ?_
   ·obtain⟨_,aG,aj,cm,_,_,dQ⟩:=c7.hJ dL
    try simp only[M,N,O,P]
    refine iY rfl ?_
    refine(aG _).2 ?_
    rw[bk.iE,gb]
    try simp only[M,N,O,P]
    refine iY (by decide) ?_
    refine(aj _).2 ?_
    rw[bk.cu,dM]
    try simp only[M,N,O,P]
    refine cG.2 ⟨λar=>(by simp at ar),λ_=>?_⟩
    refine(dQ _).2 ?_
    have dR:aT cp dV bc dm:=aI.zE.eF (λ_=>rfl) A
    refine aH W4 (als aI.M dR bk dP A A dN) ?_
    rintro _ dS ⟨rfl,bn⟩
    try simp only[M,N,O,P]
    exact⟨by trivial,bn⟩
   rintro _ _ dS ⟨rfl,bn⟩
   try simp only[M,N,O,P]
   have dT:oh {q with cQ:=q.cQ+1} f6 0 dm af l4:=bj.lO rfl rfl
   have cq:=aI.V bn
   clear bj R aI
   generalize cs:({q with cQ:=q.cQ+1}:cK)=V at*
   have fA:V.cx.length<=i+2:=by rw[<-cs];exact dG
   have fB:V.cQ<=100:=by rw[<-cs];simp only;omega
   have EG:∀{ac:S->aN->Prop}{aA:aN},(∀(ae:S)(a:aN),aT a dV ae [eS #[122]]->Q [] aA a->(∃x n ak,ae=T x n ak)->ac ae a)->W C (jR 34 1 #[(0,bO (eS #[122]))]) aA ac:=by
    intro ac aA y
    refine hw vM [bO (eS #[122])] rfl rfl (by intro bm bh;simp at bh;subst bh;rfl) A A λax aR aS cH=>?_
    exact y _ ax (p3 (l:=[eS #[122]]) (by simpa[bF,dV]using aR)) aS ⟨_,_,_,rfl⟩
   have ct:Ff [eS #[122]]:=⟨B,B,by intro x cu;simp at cu;subst cu;decide⟩
   have a8:(⟨0,1,(i:Int),[eS #[122]]⟩:cw).bt=G:=UT ct (Y ⟨rfl,A,A⟩) A
   have D:(fk 0 3 f6 0 0 0 0 ⟨0,1,(i:Int),[eS #[122]]⟩).bt=G:=UQ sm A a8
   have cx:qt (fk 0 3 f6 0 0 0 0 ⟨0,1,(i:Int),[eS #[122]]⟩):=vp ⟨by show f6.size<=100;decide,by show cg.size<=100;decide,by simp[fk]⟩
   refine EG λae fC dW dY⟨x,n,ak,e⟩=>?_
   subst e
   refine(bY (JS (l:=[eS #[122]]))).2 ?_
   refine(bY JT).2 ?_
   refine(cq.V dY).zF (d:=fk 0 3 f6 0 0 0 0 ⟨0,1,(i:Int),[eS #[122]]⟩) A dW cx D (by simp[fk]) A A λfG fH fI fJ dZ fL fM d1 d2 aP=>?_
   obtain⟨cy,d3⟩:=Jp (k:=c.aJ) (d:=fk 0 3 f6 0 0 0 0 ⟨0,1,(i:Int),[eS #[122]]⟩) dT cq.sl.cL.1 A D rfl rfl (Y ⟨rfl,b1.symm,by simp only[fk];omega⟩) A ab.kh (UV sm (gz (UU ct) A)) A
   have fN:(V.e7 c.aJ c.bd (fk 0 3 f6 0 0 0 0 ⟨0,1,(i:Int),[eS #[122]]⟩)).1.cQ=V.cQ+1:=zw
   have fO:(V.e7 c.aJ c.bd (fk 0 3 f6 0 0 0 0 ⟨0,1,(i:Int),[eS #[122]]⟩)).1.cx.length<=V.cx.length+1:=zv
   rw[cy]at aP
   clear cy
   generalize(V.e7 c.aJ c.bd (fk 0 3 f6 0 0 0 0 ⟨0,1,(i:Int),[eS #[122]]⟩)).1=fP at*
   refine EG λfQ fR d4 cz⟨lr,fT,ou,J⟩=>?_
   subst J
   refine(bY (JS (l:=[eS #[122]]))).2 ?_
   refine(bY JT).2 ?_
   refine(dZ.V cz).zF (d:=fk 0 3 f6 0 0 0 0 ⟨0,1,(i:Int),[eS #[122]]⟩) A d4 cx D (by simp[fk]) A A λfU fV d5 fW bo d7 bW fX d8 bp=>?_
   obtain⟨d9,_⟩:=ajI (k:=c.aJ) (aX:=c.bd) (d:=fk 0 3 f6 0 0 0 0 ⟨0,1,(i:Int),[eS #[122]]⟩) (x:=⟨(i:Int),0+dm.length,1⟩) d3 D rfl rfl rfl rfl
   rw[d9]at bp
   have eb:=(d2.J cz B).J d7.J d1
   have br:=cD [] d5
   obtain⟨_,aG,aj,_,_,_,_⟩:=c7.hJ (bD eb)
   obtain⟨_,ec,ee,_,_,_,_⟩:=c7.hJ (bD d8)
   try simp only[M,N,O,P]
   refine(aG _).2 ?_
   rw[aP.iE]
   try simp only[M,N,O,P]
   refine q6 (by decide) ?_
   refine(aj _).2 ?_
   rw[aP.cu]
   try simp only[M,N,O,P]
   refine(bl (aa:=bc) mc ((bo.M.J br B).bh (af:=1))).2 ?_
   rw[bb]
   try simp only[M,N,O,P]
   refine q6 B ?_
   refine(ec _).2 ?_
   rw[bp.iE]
   try simp only[M,N,O,P]
   refine q6 (by decide) ?_
   refine(ee _).2 ((aj _).2 ?_)
   rw[bp.cu,aP.cu]
   try simp only[M,N,O,P]
   refine q6 B ?_
   refine aH W5 (alA (bo.pM.V br)) ?_
   rintro _ fY ⟨rfl,ef⟩
   exact⟨rfl,(bo.qV.R br B).R ef B⟩
end
end
section
open Go.ChangeShapes Go.WideShapes Go.RowKit
abbrev B3:List (String×DataW Unit):=[("unicode/utf8.acceptRanges",Rows.laid_unicode_utf8_acceptRanges),("errors.errorType",Rows.laid_errors_errorType),("unicode/utf8.first",Rows.laid_unicode_utf8_first)]
def alP:ownKnob C.godebug=I:=K
def alQ:C.globalNamed "errors.errorType"=E 0:=K
def alR:(C.cutTypes.find? (·.1== "internal/reflectlite.rtype")).map (·.2)=E 271:=K
def alS:((c9 542).filter λt=>C.rowNamed t [101,114,114,111,114])=[73]:=K
def alT:C.types.size=542:=K
def UZ:laidOutB C=G:=K
def alU{bE:aN}(h:laidMetH C B3 bE):jf bE:=by
 have c:laidMet C [("unicode/utf8.acceptRanges",Rows.laid_unicode_utf8_acceptRanges),("unicode/utf8.first",Rows.laid_unicode_utf8_first)] bE/\handlesMet C [("errors.errorType",Rows.laid_errors_errorType)] bE:=h
 obtain⟨name,ae,d,e,f,g,i,a⟩:=c.2 _ (ku.2 rfl)
 have j:name=[101,114,114,111,114]:=(re e).symm
 subst j
 obtain rfl:=re (alR.symm.trans f)
 have b:d∈(c9 542).filter λt=>C.rowNamed t [101,114,114,111,114]:=ol.2 ⟨iK.2 (by rw[<-alT];exact g),i⟩
 rw[alS]at b
 obtain rfl:=ku.1 b
 have k:typeHandle C 73=eu 73:=K
 rw[k]at a
 have:=World.var?_cell alQ a 0
 unfold jf iF
 simpa using this
def U0(l:List Nat):Array S:=(l.map λn:Nat=>F cl n).toArray
noncomputable def U1(rh:Os):aN:=
 let bv:=World.holding C rh ⟨#[],#[],[]⟩
 let put:=λ(h:Array Obj)(b:Nat)(d:Array S)=>h.modify b λ
  |.cells _ t a=>.cells d t a
  |af=>af
 {bv with heap:=put (put (put bv.heap 0 #[eZ 271 (b6 #[aE (E ⟨4,73,I⟩)])]) ((C.globalNamed "unicode/utf8.acceptRanges").getD 0) (U0 ([128,191,160,191,128,159,144,191,128,143]++cN 22 0))) ((C.globalNamed "unicode/utf8.first").getD 0) (U0 Pinned.utf8FirstZ)}
def alV(rh:Os)(c8:Array S):laidMetH C B3 ((U1 rh).forCall (λ_ _=>0) ⟨#[],c8,[]⟩).memory:=
 laidMetH_of_parts (laidMet_of_run' 8 K K) K
end
section
open Go.RowKit Go.ChangeShapes Go.WideShapes Go.Deep
section
def Fh(ad:ft)(ar:co)(l:List (Nat×co)):Prop:=ad.underlying ar=E (.struct (ad.fieldsOf ar))/\(ad.fieldsOf ar).toList.map (λaj=>(aj.offset,aj.type))=l
def B4{l:List (Nat×co)}(ao:Fh ad ar l){a:Type}{b:co×S->a}{d:Nat}{bo:List S}{x:DataW a×List MemPlace}
  (h:DataW.trod b ad w 0 (λ_=>G) G d ar bo=E x):bo.length=ad.cellsOf ar/\∀ai∈l,∃(n:Nat)(ap:DataW a×List MemPlace),DataW.trod b ad w 0 (λ_=>G) G n ai.2 ((bo.drop ai.1).take (ad.cellsOf ai.2))=E ap:=by
 obtain⟨e,rfl⟩:=ao
 obtain⟨b7,f,p,q,g,r,i⟩:=DataW.trod_struct e h
 refine⟨g,λai k=>?_⟩
 obtain⟨aj,m,rfl⟩:=fS.1 k
 obtain⟨j,c,rfl⟩:=ns m
 rw[tj]at c
 have o:=i j _ (ti c)
 simp only[Array.getElem_toList]
 exact⟨f,b7[j]'A,o.trans (cr A)⟩
def uo{l:List (Nat×co)}(ao:Fh ad ar l){a:Type}{d:co×S->a}{e:Nat}{bo:List S}{x:DataW a×List MemPlace}
  (h:DataW.trod d ad w 0 (λ_=>G) G e ar bo=E x) (f:(af,t)∈l) (g:ad.cellsOf t=1) (i:ad.underlying t=E (.int H)):∃n,bo[af]?=E (F H n)/\-9223372036854775808<=n/\n<=9223372036854775807:=by
 obtain⟨n,ap,b⟩:=(B4 ao h).2 _ f
 rw[g]at b
 obtain⟨bm,j,_,k⟩:=DataW.trod_int i b
 refine⟨bm,?_,Kz k⟩
 have c:((bo.drop af).take 1)[0]?=E (F H bm):=by rw[j];rfl
 rw[List.getElem?_take_of_lt A,oo]at c
 exact c
end
section
def U2(ag:JI):Prop:=∀n∈[ag.aJ,ag.g2,ag.sZ,ag.hH,ag.aR,ag.bk,ag.UI],-9223372036854775808<=n/\n<=(9223372036854775807:Int)
def wF:Fh C 51 [(0,3),(1,3),(2,3),(3,3),(4,3),(5,3),(6,3)]:=⟨K,K⟩
def U3:C.cellsOf 51=7:=K
def te:C.cellsOf 3=1:=K
def tf:C.underlying 3=E (.int H):=K
def alW:zf C w 51 JJ U2:=by
 intro y z A bo x a
 have h:=(B4 wF a).1
 rw[U3]at h
 obtain⟨s,i,D⟩:=uo wF a (af:=0) (t:=3) B te tf
 obtain⟨jb,j,J⟩:=uo wF a (af:=1) (t:=3) B te tf
 obtain⟨u,k,K⟩:=uo wF a (af:=2) (t:=3) B te tf
 obtain⟨mB,m,L⟩:=uo wF a (af:=3) (t:=3) B te tf
 obtain⟨lG,o,M⟩:=uo wF a (af:=4) (t:=3) B te tf
 obtain⟨m3,p,N⟩:=uo wF a (af:=5) (t:=3) B te tf
 obtain⟨v,q,O⟩:=uo wF a (af:=6) (t:=3) B te tf
 clear a
 obtain⟨fH,b,c,d,e,f,g,rfl⟩:∃fH b c d e f g,bo=[fH,b,c,d,e,f,g]:=by
  rcases bo with _|⟨fH,_|⟨b,_|⟨c,_|⟨d,_|⟨e,_|⟨f,_|⟨g,_|⟨P,l⟩⟩⟩⟩⟩⟩⟩⟩<;>simp at h
  exact⟨_,_,_,_,_,_,_,rfl⟩
 simp at i j k m o p q
 subst i j k m o p q
 refine⟨⟨s,jb,u,mB,lG,m3,v⟩,rfl,?_⟩
 intro n r
 simp only[ce,List.mem_nil_iff,or_false]at r
 rcases r with rfl|rfl|rfl|rfl|rfl|rfl|rfl<;>assumption
def zG:Fh C 54 [(0,3),(1,3),(2,3),(3,51),(10,52)]:=⟨K,K⟩
def U4:C.cellsOf 54=11:=K
def alX:C.cellsOf 52=1:=K
def alY:C.underlying 52=E (.slice 5):=K
def alZ:C.cellsOf 5=1:=K
def al0:C.underlying 5=E (.int cl):=K
def al1(w:aN)(ak:um):Prop:=(∀n∈[ak.aJ,ak.wC,ak.aR],-9223372036854775808<=n/\n<=(9223372036854775807:Int))/\U2 ak.eX/\∃l:List UInt8,aT w bs ak.mH l
def al2:zf C w 54 sk (al1 w):=by
 intro L M N bo x a
 have p:=(B4 zG a).1
 rw[U4]at p
 obtain⟨q,r,O⟩:=uo zG a (af:=0) (t:=3) B te tf
 obtain⟨jb,s,P⟩:=uo zG a (af:=1) (t:=3) B te tf
 obtain⟨u,v,Q⟩:=uo zG a (af:=2) (t:=3) B te tf
 obtain⟨f3,R,b⟩:=(B4 zG a).2 (3,51) B
 obtain⟨V,W,k⟩:=(B4 zG a).2 (10,52) B
 rw[U3]at b
 rw[alX]at k
 obtain⟨ag,b,D⟩:=alW _ _ _ _ _ b
 obtain⟨aa,l,y,J,_⟩:=Sk alY alZ (λ_=>rfl) A (agk al0) _ _ _ _ _ k
 clear a
 obtain⟨fH,m,o,d,e,f,g,h,i,j,c,rfl⟩:∃fH m o d e f g h i j c,bo=[fH,m,o,d,e,f,g,h,i,j,c]:=by
  rcases bo with _|⟨fH,_|⟨m,_|⟨o,_|⟨d,_|⟨e,_|⟨f,_|⟨g,_|⟨h,_|⟨i,_|⟨j,_|⟨c,_|⟨X,l⟩⟩⟩⟩⟩⟩⟩⟩⟩⟩⟩⟩<;>simp at p
  exact⟨_,_,_,_,_,_,_,_,_,_,_,rfl⟩
 simp at r s v
 have K:c=aa:=by simpa using y
 have b:[d,e,f,g,h,i,j]=JJ ag:=b
 clear y k
 subst r s v K
 refine⟨⟨q,jb,u,ag,c⟩,?_,?_,D,l,J⟩
 ·show[F H q,F H jb,F H u,d,e,f,g,h,i,j,c]=_
  unfold sk
  rw[<-b]
  rfl
 ·intro n z
  simp only[ce,List.mem_nil_iff,or_false]at z
  rcases z with rfl|rfl|rfl<;>assumption
def al3:C.underlying 23=E (.slice 54):=K
end
end
end Go.Proofs.YtepeilglbedgdaaGreatDoor
namespace Go.Proofs.YtepeilglbedgdaaGreatDoor.topRetention
open Go.X
section
open Go.ChangeShapes Go.WideShapes Go.ChangeAt Go.RowKit Go.Proofs.YtepeilglbedgdaaGreatDoor
set_option maxRecDepth 100000 in
theorem al4 (rh:Os) (v:rh.Started) (y:Type) (be:co×S->y):
  ReturnsInHanded {} Tryz.checked rh 3 .any (λw c8=>(Rows.topRetentionSpec.pre be C Tryz.f3 [] U w c8/\laidMetH C B3 w)/\sizedMet be C Tryz.f3 (OpenSpec.ofChange Rows.topRetentionSpec) U w c8)
   (Rows.topRetentionSpec.post be C Tryz.f3 U G U U):=by
 refine returnsInHanded_of_change_and (C:=Tryz.checked) (X:=λw _=>laidMetH C B3 w) (λ_ _ _ z h=>h.of_heap z) alP v K Tryz.func3
  (ChangeSpec.witness_at (enc:=be) (C:=Tryz.checked) (os:=rh) (X:=λw _=>laidMetH C B3 w) U (U1 rh) #[F H 0,F H 0,T I 0 0,F H 0,aK U,T I 0 0] 8 rfl K K K K K (alV rh _)) ?_
 intro bC B c8 D aq ar d f _ _ J _
 have a:∀(j:Nat) t aa,Tryz.f3.params[j]?=E t->c8[j]?=E aa->Value.okWide C bC .any B t aa:=d
 have L:=f
 obtain⟨ah,ai,g,M,rfl,au,av⟩:=f
 have i:DataW.TrodAll be C bC 0 (λ_=>G) G Tryz.f3.params.toList c8.toList D ah:=g
 rw[Tryz.params3]at i a
 obtain⟨k,aw,ax,ay,U6,az,aB,rfl,rfl,N,O⟩:=trodAll_cons i
 obtain⟨l,aC,aD,aF,aG,aH,rfl,rfl,rfl,P,Q⟩:=trodAll_cons O
 obtain⟨m,aI,aJ,aL,R,aM,rfl,rfl,rfl,n,V⟩:=trodAll_cons Q
 obtain⟨o,aO,aP,aQ,aR,aS,rfl,rfl,rfl,W,ab⟩:=trodAll_cons V
 obtain⟨p,aT,aU,aV,aW,aX,rfl,rfl,rfl,ac,ad⟩:=trodAll_cons ab
 obtain⟨q,aY,aZ,a0,ae,a1,rfl,rfl,rfl,r,af⟩:=trodAll_cons ad
 obtain⟨rfl,rfl,rfl⟩:=trodAll_nil af
 obtain rfl:c8=#[k,l,m,o,p,q]:=by cases c8;simp_all
 obtain⟨rfl,rfl⟩:=trodVars_none M
 obtain⟨fH,rfl,rfl,rfl,bv⟩:=open_int Tryz.underlying3 (a 0 3 k rfl rfl) N
 obtain⟨a2,rfl,rfl,rfl,aA⟩:=open_int Tryz.underlying3 (a 1 3 l rfl rfl) P
 have s:=n
 have ag:∀x∈R,x.block<bC.heap.size:=by obtain⟨ak,b⟩:=s;exact DataW.trod_lt ak _ _ _ b
 obtain⟨c5,aj,a3,ou⟩:=Sl (be:=ew) Tryz.underlying22 te (λ_=>rfl) A (agj tf) (a 2 22 m rfl rfl) n
 obtain⟨a4,rfl,rfl,rfl,al⟩:=open_int Tryz.underlying3 (a 3 3 o rfl rfl) W
 obtain⟨a5,rfl,rfl,rfl⟩:=open_bool Tryz.underlying4 (a 4 4 p rfl rfl) ac
 have u:=r
 have am:∀x∈ae,x.block<bC.heap.size:=by obtain⟨ak,b⟩:=u;exact DataW.trod_lt ak _ _ _ b
 obtain⟨a6,an,a7,a8⟩:=Sl al3 U4 (λ_=>rfl) A al2 (a 5 23 q rfl rfl) r
 have ao:=alU J
 clear g d
 refine(Go.X.a0.Vv (alO ao aj an)).mono λe a9⟨ap,c⟩=>?_
 subst ap
 exact⟨_,rfl,_,_,_,[],_,[],L,trodAll_mk1 (shut_bool Tryz.underlying4 _),(trodAll_cons_mk (shut_int Tryz.underlying3 bv) (trodAll_cons_mk (shut_int Tryz.underlying3 aA) (trodAll_cons_mk (Below.trod UZ K (of_decide_eq_true K) s c ag) (trodAll_cons_mk (shut_int Tryz.underlying3 al) (trodAll_cons_mk (shut_bool Tryz.underlying4 _) (trodAll_cons_mk (Below.trod UZ K (of_decide_eq_true K) u c am) trodAll_mk0)))))),rfl,c.frame _,λh=>by cases h⟩
theorem jl{d b:Bool}(h:d=G)(k:b=G):(d&&b)=G:=by rw[h,k];rfl
theorem U5:Tryz.pinned.checked.prog.funcNamed Rows.topRetentionRow.func=E 3:=K
theorem inst:Tryz.f3.isInstance Tryz.pinned.checked.prog Rows.topRetentionRow.origin Rows.topRetentionRow.targs:=of_decide_eq_true K
theorem al5:Tryz.f3.isWrapper Tryz.pinned.checked.prog Rows.topRetentionRow.wrapper Rows.topRetentionRow.mainSum:=by unfold Func.isWrapper;first|(rw[if_pos (by decide+kernel)];kernel_rfl)|(rw[if_neg (by decide+kernel)];exact⟨rfl,rfl⟩)
set_option maxHeartbeats 8000000 in
theorem al6:joinedFacts Tryz.pinned.checked.prog 3 Tryz.f3 Rows.topRetentionSpec Rows.topRetentionRow=G:=by
 unfold joinedFacts
 refine jl (jl (jl (jl (jl (jl (jl (jl (jl (jl (jl (jl (jl (jl (jl (jl (jl (jl (jl (jl (jl (jl (jl (jl (jl (jl (jl (jl (jl (jl (jl ?_ ?_) ?_) ?_) ?_) ?_) ?_) ?_) ?_) ?_) ?_) ?_) ?_) ?_) ?_) ?_) ?_) ?_) ?_) ?_) ?_) ?_) ?_) ?_) ?_) ?_) ?_) ?_) ?_) ?_) ?_) ?_
 all_goals decide+kernel
theorem al7:Rows.topRetentionRow.holds Tryz.pinned (OpenSpec.ofChange Rows.topRetentionSpec):=
 OpenClaim.holds_of_wide 3 Tryz.f3 rfl rfl rfl rfl rfl rfl rfl ⟨rfl,rfl,rfl,rfl,rfl⟩ rfl rfl rfl rfl rfl U5 Tryz.func3 al6
  inst al5
  (λrh a b be _=>al4 rh a b be)
theorem al8:U=Rows.topRetentionRow.goesBy Tryz.pinned.checked.prog:=K
theorem al9:Tryz.pinned.checked.prog.mainIs=E (G,((G, "0cb66b075be2326e287ec28bf4f90176a22813707f997a64b32bd5491fbd1b1a")).2.toList):=K
theorem ama:G=Tryz.pinned.checked.prog.looks []:=K
theorem amb:Tryz.f3.params.all (λt=>!C.wantsStandIn t)=G:=K
theorem proved:Rows.TopRetentionCardSaid:=
 Claim7.holds_tied_plain_at .later [] [.data,.handle,.pinned] G (G, "0cb66b075be2326e287ec28bf4f90176a22813707f997a64b32bd5491fbd1b1a") G
  al7 (λ_ h=>by cases h) K (λ_ h=>by cases h) topRetention_row_tie rfl ⟨rfl,rfl⟩ al9 rfl
  (λaj gr a b=>by
   obtain rfl:aj=3:=re (U5.symm.trans a)|>.symm
   obtain rfl:gr=Tryz.f3:=(re (Tryz.func3.symm.trans b)).symm
   exact⟨ama,λj t c=>by
    have d:=Array.all_eq_true_iff_forall_mem.1 amb t (Array.mem_of_getElem? c)
    have e:C.wantsStandIn t=U:=by simpa using d
    exact e⟩)
  al8
end
end Go.Proofs.YtepeilglbedgdaaGreatDoor.topRetention
