import Derived.Test.YtepeilglbedgdaaGreatDoorCT4
/- A part of the proof of this claim: it states and proves what the walk through the program uses. Its names are short ones that a program gave. The last part proves the card: for every input the call returns true, and each argument reads behind the call as it read before. -/
set_option linter.defProp false
set_option linter.all false
set_option maxRecDepth 100000
set_option maxHeartbeats 2000000
open Array renaming length_toList->tj
open Bool renaming and_eq_true->dA,false->U,false_eq_true->fc,not_false->lE,not_true->hq,or_eq_true->pP,true->G
open ByteArray renaming mk->eS,size->vv
open Except renaming error->b5,ok->bA
open Go renaming Addr->es,IntKind->iz,Next->fD,Program->ft,TypeId->co,Value->S,World->aN,grownCap->jz,maxLen->d0,run_underlying->fK,undef->bS
open Go.Builtin renaming append->lp,append_->pQ,zeroCells->nq
open Go.Ending renaming returned->gd
open Go.IntKind renaming i64->H,u32->hS,u64->hr,u8->cl
open Go.Next renaming value->fw
open Go.Proofs.Tryz renaming prog->C
open Go.Result renaming ok->bN
open Go.Value renaming agg->b6,bool->aK,cells->bF,int->F,nilIface->cT,pointer->aE,slice->T,string->bO,tuple->bQ
open Go.Value.slice renaming injEq->zI
open Int renaming eq_ofNat_of_zero_le->nL,natCast_mul->uq,toNat_natCast->hf
open List renaming append_assoc->gq,append_nil->kJ,cons_append->jN,drop_drop->oq,drop_eq_getElem_cons->ot,eq_nil_of_length_eq_zero->rc,flatMap_append->hL,flatMap_cons->iA,getD_eq_getElem?_getD->gp,getElem?_append_left->pR,getElem?_append_right->nr,getElem?_drop->oo,getElem?_eq_getElem->cr,getElem?_eq_none->jy,getElem?_eq_some_iff->fi,getElem?_map->e1,getElem?_set->pT,getElem_mem->dX,getElem_of_mem->ns,length->jm,length_append->di,length_cons->gF,length_drop->e8,length_map->dU,length_nil->tl,length_range->uw,length_replicate->tt,length_set->i9,length_singleton->nt,length_take->ea,map_append->g6,map_cons->ge,map_map->ts,map_nil->tp,map_set->qB,mem_append->b4,mem_append_left->hg,mem_append_right->h3,mem_cons->ce,mem_cons_of_mem->ev,mem_cons_self->fE,mem_map->fS,mem_map_of_mem->mz,mem_of_getElem?->gP,mem_of_mem_drop->tr,mem_range->iK,mem_singleton->ku,nil_append->m2,not_mem_nil->iZ,replicate->cN,set_append_right->sr,take_append_drop->l3,take_left->tk,take_length->j3,take_of_length_le->mv,take_succ_eq_append_getElem->jO
open Nat renaming add_assoc->sp,add_mul->iM,add_zero->qA,le_refl->fF,le_trans->gz,lt_of_lt_of_le->iL,mul_le_mul_right->mw,mul_one->gA,sub_self->k6,zero_add->gQ
open Option renaming bind_some->tg,getD_some->om,isSome_none->wH,isSome_some->vu,map_some->m1,none->I,some->E
open Option.some renaming inj->re,injEq->vq
open Or renaming inl->Y,inr->Z
open Pure renaming pure->fh
open UInt8 renaming ofNat->ed,toNat_ofNat'->mx
open Go
namespace Go.Proofs.YtepeilglbedgdaaGreatDoor
open Go.X
attribute[local irreducible]Go.X.W
variable{a bv w:aN}{a6 aQ aX ab ah ai ak b b8 bu cR dB dE fI g7 gi hU iO k k7 n t:Nat}{aB cp:Nat -> Bool}{aD aO am bJ bU c0 dq ej ez fX gf hh:List Nat}{aU:Type}{aa ae bc cA fL hN jn wI:S}{ac:S -> aN -> Prop}{al ay:Nat -> Nat -> Bool}{an dO:cK}{ap:Int}{ar av:co}{au:eW}{c:dR}{cz:ex}{d:dl}{dm:List ByteArray}{e:eG}{gs:c3}
section
open Go.RowKit fC gO
variable{aw:eI}{h:gZ}
section
variable{av:ji}{aX:c3}{x:gZ}
def ajf{i:Int}:C.built 37 #[(0,F H i)].toList=E (eb ⟨i,0,0,0,T I 0 0,T I 0 0⟩).toArray:=K
def TM{ap:kQ}{e:Int}(h:aC w iO ar (eb ap))(k:∀a,aC a iO ar (eb {ap with cu:=e})->Q [iO] w a->a.heap.size=w.heap.size->ac bS a):W C (dC 3 (aE (E ⟨iO,2,I⟩)) (F H e)) w ac:=
 eK hl h (by simp[eb]) rfl λa b c d=>k a (by simpa[eb]using b) c d
def TN{ap:kQ}{e:Int}(h:aC w iO ar (eb ap))(k:∀a,aC a iO ar (eb {ap with cS:=e})->Q [iO] w a->a.heap.size=w.heap.size->ac bS a):W C (dC 3 (aE (E ⟨iO,3,I⟩)) (F H e)) w ac:=
 eK hl h (by simp[eb]) rfl λa b c d=>k a (by simpa[eb]using b) c d
def ajg(h:xI w b ab ah dB b8 fL gi ej dq c au aB ay al ai av aX)(ao:xH c ay al cp)(aG:d.a5≠6)(aI:rF d.a5=G):
  a0 C 89 #[aP b,ho d bc] w λae a=>qw w a (mi av cp aX d) ae/\Q [] w a:=by
 refine a9 MK 2 Tryz.func89 K rfl λa1 bl=>?_
 simp+decide (maxSteps:=9999999)only[↓a8,ba,MK,Tryz.f89]
 subst bl
 refine sf λax bm bn b7=>?_
 refine qv λaj bo aJ b9=>?_
 have bp:=bn.R aJ B
 have aL:=bm.J aJ B
 have ca:w.heap.size<ax.heap.size:=A
 have cb:ax.heap.size<aj.heap.size:=A
 generalize cc:w.heap.size=aM at*
 generalize cf:ax.heap.size=j at*
 obtain⟨y,_⟩:=gc aL
 simp only[M,N,O,P,y]
 refine(bY ajf).2 ?_
 refine qv λcg bq br ch=>?_
 refine mW (x:=⟨d.dF,0,0,0,T I 0 0,T I 0 0⟩) bq rfl rfl λaO bs bt ci=>?_
 have ak:Q [] aj aO:=br.R bt B
 have aQ:=bp.R ak B
 generalize cj:aj.heap.size=am at*
 have an:=aL.J ak B
 have bu:=bo.J ak B
 obtain⟨y,z,aR,aS,aU,aV,aW,aY,a2,ap,a3,D⟩:=gc an
 simp only[M,N,O,P,z]
 rw[decide_eq_false aG]
 have a5:=cD [] aO
 have a6:=aQ.R a5 B
 have bv:=(h.V a6).bg
 obtain⟨bw,bx,aq,a7,ar,bz,bB,bC,bE,bG,bH,bI⟩:=gc (bD an)
 simp only[M,N,O,P,(l0 bv).2.2.2.1,aq,ar]
 refine aH Yc (ah0 (t:=d.cI) (n:=d.d9) (h.V a6).k1) ?_
 rintro ae bK ⟨bL,J⟩
 have L:=a5.R bL B
 have r:=aQ.R L B
 have R:=an.J L B
 have s:=bu.J L B
 have bb:=bs.J L B
 have bM:=h.V r
 have g:mi av cp aX d=match aX.aP d.cI d.d9 with
   |none=>ki d 10
   |some ah=>if d.a5=9 then(match dv aX.kA ⟨d.dg,d.cI,d.d9⟩with
    |none=>ki d 10
    |some af=>⟨d.dF,0,af,ah.dw.cS,[],[]⟩)
    else if d.a5=8 then⟨d.dF,0,ah.dw.cy d.mL,ah.dw.cS,[],[]⟩else mO av cp d ah.dw:=by
  unfold mi
  rw[if_neg aG]
  cases aX.aP d.cI d.d9 with
  |none=>rfl
  |some ah=>rfl
 have bd:∀{f cd:aN}{x:kQ}{ad:dn}{aw:S->aN->Prop},Q [] w f->(∀a,ma a x ad)->aC f j 37 (eb vf)->x.pb=T I 0 0->x.mH=T I 0 0->(∀a,qw w a ad (je x)->Q [] w a->aw (je x) a)->W C (dC 37 (aP j) (je x)) f λ_ cd=>aZ C (a4 37 (aP j)) cd λab=>aw ab cd:=by
  intro f cd x ad aw e u o l m bP
  refine mW o (by rw[l];rfl) (by rw[m];rfl) λcd p i az=>?_
  refine((c7.hJ p).2.2.2.2.2.2 _).2 ?_
  exact bP cd ⟨x,rfl,u cd,by rw[l];exact s7,by rw[m];exact s7⟩ (e.R i (by simp;omega))
 have be:∀{f:aN}{cz:ex},Q [] w f->aC f aM 43 (f1 d bc)->aC f j 37 (eb vf)->mi av cp aX d=ki d cz.a5->aZ C (a4 43 (aP aM)) f λaa=>W C (ck 87 #[aa,ff (E cz)]) f λbR cd=>W C (dC 37 (aP j) bR) cd λ_ aA=>aZ C (a4 37 (aP j)) aA λab=>o5 (λae a=>qw w a (mi av cp aX d) ae/\Q [] w a) (gd ab) aA:=by
  intro f cz e o aD bU
  obtain⟨y,z,aR,aS,aU,aV,aW,aY,a2,ap,a3,D⟩:=gc o
  simp only[D]
  refine zp (h.kF.V e) λcd i=>?_
  exact bd (cd:=cd) (e.R i B) (λa=>EW d cz.a5 a) (aD.J i B) rfl rfl λa l m=>⟨by rw[bU];exact l,m⟩
 cases V:aX.aP d.cI d.d9 with
 |none=>
  rw[V]at J g
  subst J
  refine(ru KZ).2 ?_
  refine cG.2 ⟨λ_=>?_,λq=>(by cases q)⟩
  simp only[hk hY]
  exact be (cz:=.dD 10) r R s g
 |some cm=>
  rw[V]at J g
  obtain⟨g7,bJ,rfl,X,_⟩:=J
  simp only at g
  have bf:=h.cL.aP V
  have bV:=bf.dT
  refine(ru KZ).2 ?_
  refine cG.2 ⟨λq=>(by cases q),λ_=>?_⟩
  obtain⟨y,z,aR,aS,aU,aV,aW,aY,a2,ap,a3,D⟩:=gc R
  refine bT (λbW a=>∃x,bW=[]/\aC a am 37 (eb x)/\(∀a,ma a x (mi av cp aX d))/\x.pb=T I 0 0/\x.mH=T I 0 0/\aC a j 37 (eb vf)/\Q [] w a) ?_ ?_
  ·simp only[M,N,O,P,z,bi]
   refine⟨λac=>?_,λac=>⟨λaF=>?_,λaF=>⟨λbX=>?_,λbX=>?_⟩⟩⟩
   ·have bg:=cD [] bK
    have ag:=r.R bg B
    have bZ:=(h.V ag).bg
    obtain⟨bw,bx,aq,a7,ar,bz,bB,bC,bE,bG,bH,bI⟩:=gc (bD R)
    simp only[M,N,O,P,(l0 bZ).2.2.2.1,aq,a7,ar]
    refine aH Yd (ahZ (k:=⟨d.dg,d.cI,d.d9⟩) (h.V ag).k1) ?_
    rintro _ _ ⟨rfl,rfl⟩
    simp only[cV,cX]
    rw[if_pos ac]at g
    cases bh:dv aX.kA ⟨d.dg,d.cI,d.d9⟩with
    |none=>
     rw[bh]at g
     simp only[wH,M,N,O,P,hk hY]
     refine cG.2 ⟨λ_=>?_,λq=>(by cases q)⟩
     exact be (cz:=.dD 10) ag (bD R) (bD s) g
    |some af=>
     rw[bh]at g
     simp only[vu,om,M,N,O,P]
     refine cG.2 ⟨λq=>(by cases q),λ_=>?_⟩
     refine BO (X.V bg) ?_
     try simp only[M,N,O,P]
     refine TM (bD bb) λf o e cn=>?_
     try simp only[M,N,O,P]
     refine TN o λcd p i az=>?_
     have v:j∉[am]:=by simp;omega
     refine⟨_,by trivial,p,λa=>?_,rfl,rfl,((bD s).J e v).J i v,(ag.R e (by simp;omega)).R i (by simp;omega)⟩
     rw[g]
     exact⟨rfl,rfl,rfl,rfl,aT.gW _ _,aT.gW _ _⟩
   ·rw[if_neg ac,if_pos aF]at g
    simp only[ap]
    refine aH Yf (abd (t:=d.mL) X A) ?_
    rintro _ f ⟨rfl,e⟩
    refine BO (X.V e) ?_
    try simp only[M,N,O,P]
    refine TM (bb.J e B) λcd p i az=>?_
    try simp only[M,N,O,P]
    refine TN p λaA b0 bj cq=>?_
    have v:j∉[am]:=by simp;omega
    refine⟨_,by trivial,b0,λa=>?_,rfl,rfl,((s.J e B).J i v).J bj v,((r.R e B).R i (by simp;omega)).R bj (by simp;omega)⟩
    rw[g]
    exact⟨rfl,rfl,rfl,rfl,aT.gW _ _,aT.gW _ _⟩
   ·rw[if_neg ac,if_neg aF]at g
    simp only[D]
    refine aH Yg (aje (bc:=bc) bM ao X bf.dw bV (h.DX.aP V)) ?_
    rintro _ f ⟨bk,e⟩
    obtain⟨x,rfl,u,cs,ct⟩:=id bk
    have b1:=r.R e B
    refine mW (s.J e B) u.gj.aW u.dY.aW λcd p i az=>?_
    refine((c7.hJ p).2.2.2.2.2.2 _).2 ?_
    rw[g]
    have b2:=r.aI
    have b3:=s.aL
    exact⟨(bk.J i (by simp;exact b3)).bw b2,b1.R i (by simp;omega)⟩
   ·exfalso
    unfold rF at aI
    rw[decide_eq_true_iff]at aI
    omega
  rintro _ _ f ⟨x,rfl,o,u,l,m,aD,e⟩
  refine((c7.hJ o).2.2.2.2.2.2 _).2 ?_
  exact bd (cd:=f) e u aD l m λa l m=>⟨l,m⟩
end
abbrev s8:=Nat×dl×S
def k2(x:s8):List S:=F H x.1::f1 x.2.1 x.2.2
def Ji(x:s8):(k2 x).length=15:=rfl
def sg(w:aN)(c0:List Nat)(aa:S)(l:List ByteArray):Prop:=aT w dV aa l/\(l=[]\/∃b af c,aa=T (E ⟨b,af,I⟩) l.length c/\b∈c0)
def sg.J{l:List ByteArray}(h:sg w c0 aa l)(i:Q bU w a)(j:bR c0 bU):sg a c0 aa l:=by
 obtain⟨f,k⟩:=h
 rcases k with rfl|⟨b,af,c,rfl,g⟩
 ·obtain⟨d,c,rfl,m,_⟩:=f
  exact⟨⟨d,c,rfl,m,Y rfl⟩,Y rfl⟩
 ·exact⟨f.J i (by intro n o p q e;cases e;exact j b g),Z ⟨b,af,c,rfl,g⟩⟩
def sg.pI{a:List Nat}{l:List ByteArray}(h:sg w c0 aa l)(d:∀g∈c0,g∈a):sg w a aa l:=
 ⟨h.1,h.2.imp id λ⟨b,af,c,e,f⟩=>⟨b,af,c,e,d b f⟩⟩
structure l1(w:aN)(b ab ah cR b8 dB:Nat)(fL:S)(ej dq aD c0:List Nat)(ef:List s8)(c:dR)(au:eW)(aB:Nat->Bool)(ay al:Nat->Nat->Bool)(ai aQ:Nat)(an:cK):Prop where
 bg:aC w b 136 (lj ab ah dB b8 fL an.cQ)
 ij:qp w ah cR ej ab c au aB ay al ai an.cx
 wt:aC w b8 226 (lz cR aQ)
 k1:iJ w dB dq an.bd
 c4:bP w 179 15 fL ef.length (ef.flatMap k2) aD
 pJ:an.cn=ef.map λx=>(x.1,x.2.1)
 vg:∀x∈ef,sg w c0 x.2.2 x.2.1.bk.a7
 vh:∀g∈c0,g<w.heap.size
 g1:b≠b8
 lk:bR [b,b8] (ej++(dq++(aD++c0)))
 lC:bR ej (dq++(aD++c0))
 o1:bR dq (aD++c0)
 wu:bR aD c0
 kF:jf w
 pK:0∉[b,b8]++(ej++(dq++(aD++c0)))
 cL:an.bp c.bd
 mt:c.aJ<=bV (λag=>!aB ag) c.aR
 fO:aQ<qq c
def h2(w:aN)(b:Nat)(am:List Nat)(ab:Nat)(c:dR)(au:eW)(aB:Nat->Bool)(ay al:Nat->Nat->Bool)(ai aQ:Nat)(an:cK):Prop:=∃ah cR b8 dB fL ej dq aD c0 ef,l1 w b ab ah cR b8 dB fL ej dq aD c0 ef c au aB ay al ai aQ an/\am=[b,b8]++(ej++(dq++(aD++c0)))
section
variable{av:ji}
def qp.aL(h:qp w ah cR am ab c au aB ay al ai av):∀g∈am,g<w.heap.size:=h.ij.aL
variable{ef:List s8}
def l1.aL(h:l1 w b ab ah cR b8 dB fL ej dq aD c0 ef c au aB ay al ai aQ an):∀g∈[b,b8]++(ej++(dq++(aD++c0))),g<w.heap.size:=by
 intro g a
 simp only[b4,ce,iZ,or_false]at a
 rcases a with(rfl|rfl)|a|a|a|a
 ·exact h.bg.aL
 ·exact h.wt.aL
 ·exact h.ij.aL g a
 ·exact h.k1.aL g a
 ·exact h.c4.aL g a
 ·exact h.vh g a
def h2.aL(h:h2 w b am ab c au aB ay al ai aQ an):∀g∈am,g<w.heap.size:=by
 obtain⟨ah,cR,b8,dB,fL,ej,dq,aD,c0,ef,h,rfl⟩:=h
 exact h.aL
def l1.J(h:l1 w b ab ah cR b8 dB fL ej dq aD c0 ef c au aB ay al ai aQ an)(e:Q bU w a)(f:bR ([b,b8]++(ej++(dq++(aD++c0)))) bU)(i:0∉bU):l1 a b ab ah cR b8 dB fL ej dq aD c0 ef c au aB ay al ai aQ an:=
 ⟨h.bg.J e (f b B),h.ij.J e (λg d=>f g (by simp[d])),h.wt.J e (f b8 B),h.k1.J e (λg d=>f g (by simp[d])),h.c4.J e (λg d=>f g (by simp[d])),h.pJ,
  λx j=>(h.vg x j).J e (λg d=>f g (by simp[d])),λg d=>iL (h.vh g d) e.aI,h.g1,h.lk,h.lC,h.o1,h.wu,h.kF.J e i,h.pK,h.cL,h.mt,h.fO⟩
def l1.V(h:l1 w b ab ah cR b8 dB fL ej dq aD c0 ef c au aB ay al ai aQ an)(d:Q [] w a):l1 a b ab ah cR b8 dB fL ej dq aD c0 ef c au aB ay al ai aQ an:=h.J d (bR.D _) B
def h2.J(h:h2 w b am ab c au aB ay al ai aQ an)(d:Q bU w a)(e:bR am bU)(f:0∉bU):h2 a b am ab c au aB ay al ai aQ an:=by
 obtain⟨ah,cR,b8,dB,fL,ej,dq,aD,c0,ef,h,rfl⟩:=h
 exact⟨ah,cR,b8,dB,fL,ej,dq,aD,c0,ef,h.J d e f,rfl⟩
def h2.V(h:h2 w b am ab c au aB ay al ai aQ an)(d:Q [] w a):h2 a b am ab c au aB ay al ai aQ an:=h.J d (bR.D _) B
def l1.ajh(h:l1 w b ab ah cR b8 dB fL ej dq aD c0 ef c au aB ay al ai aQ an):xI w b ab ah dB b8 fL an.cQ ej dq c au aB ay al ai an.cx an.bd:=by
 have a:=h.ij.ij.cL.1
 exact⟨h.bg,h.ij.ij,h.k1,h.kF,h.cL.bd (by have:=a.jZ;omega),h.cL.DX,h.mt⟩
def qp.TO(h:qp w ah cR am ab c au aB ay al ai av):∃dc,ib w cR dc ab c au aB ay al ai:=by
 obtain⟨dc,rfl,a,b,d⟩:=h
 exact⟨dc,a⟩
def aji(h:l1 w b ab ah cR b8 dB fL ej dq aD c0 ef c au aB ay al ai aQ an):a0 C 90 #[aP b] w λae a=>ae=cT/\Q [] w a:=by
 obtain⟨dc,d⟩:=h.ij.TO
 refine a9 ML 1 Tryz.func90 K rfl λa1 j=>?_
 simp+decide (maxSteps:=9999999)only[↓a8,ba,ML,Tryz.f90]
 subst j
 obtain⟨f,g,n,o,p,q,r⟩:=l0 h.bg
 simp only[M,N,O,P,g]
 refine(ru FP).2 ?_
 refine cG.2 ⟨λe=>(by cases e),λ_=>?_⟩
 try simp only[M,N,O,P,g]
 refine aH Gj (IM h.ij) ?_
 rintro _ _ ⟨rfl,rfl⟩
 refine bT (λk a=>k=[aK U]/\w=a) ?_ ?_
 ·refine aH LI (R6 d) ?_
  rintro _ _ ⟨rfl,rfl⟩
  refine cG.2 ⟨λe=>(by cases e),λ_=>?_⟩
  try simp only[M,N,O,P,f]
  refine aH yn (ib.SW d) ?_
  rintro _ _ ⟨rfl,rfl⟩
  exact⟨by trivial,by trivial⟩
 rintro _ _ _ ⟨rfl,rfl⟩
 try simp only[M,N,O,P,f]
 obtain⟨bJ,rfl,l,s⟩:=d.gm
 refine eY.EM l λt u aA v i=>?_
 simp only[M,N,O,P]
 refine aH tQ (ua (d.V i)) ?_
 rintro _ ax ⟨rfl,m⟩
 refine(Cu (aa:=F H c.aJ) V5 rfl).2 ?_
 simp only[M,N,O,P,bi]
 have:(kZ c aB).length=bV (λag=>!aB ag) c.aR:=rfl
 have x:=h.mt
 refine⟨λe=>A,λ_=>?_⟩
 exact⟨rfl,i.R m B⟩
def Jj(h:l1 w b ab ah cR b8 dB fL ej dq aD c0 ef c au aB ay al ai aQ an)(k:∀a,Q [] w a->ac cT a):W C (ck 90 #[aP b]) w ac:=
 aH XL (aji h) (by rintro _ a ⟨rfl,d⟩;exact k a d)
def zq(h:h2 w b am ab c au aB ay al ai aQ an):a0 C 39 #[aP b] w λae a=>ae=aP ab/\w=a:=by
 obtain⟨ah,cR,b8,dB,fL,ej,dq,aD,c0,ef,h,rfl⟩:=h
 refine a9 .D 1 Tryz.func39 K rfl λa1 d=>?_
 simp+decide (maxSteps:=9999999)only[↓a8,ba,Tryz.f39]
 subst d
 obtain⟨e,f,g,i,j,k,l⟩:=l0 h.bg
 simp only[M,N,O,P,e]
 exact⟨rfl,rfl⟩
end
section
variable{av:ji}
def ajj(h:aC w b ar (lj ab ah dB b8 fL gi))(k:∀a,aC a b ar (lj ab ah dB b8 fL n)->Q [b] w a->a.heap.size=w.heap.size->ac bS a):W C (dC 3 (aE (E ⟨b,6,I⟩)) (F H n)) w ac:=
 eK hl h (by simp[lj]) rfl λa c d e=>k a (by simpa[lj]using c) d e
def Jk(h:aC w b ar (lj ab ah dB b8 fL gi))(c:wI.oneCell'=G)(k:∀a,aC a b ar (lj ab ah dB b8 wI gi)->Q [b] w a->a.heap.size=w.heap.size->ac bS a):W C (dC 134 (aE (E ⟨b,5,I⟩)) wI) w ac:=
 eK La h (by simp[lj]) c λa d e f=>k a (by simpa[lj]using d) e f
def ajk(h:aC w b ar (lj ab ah dB b8 fL gi))(k:∀a,aC a b ar (lj ab ah n b8 fL gi)->Q [b] w a->a.heap.size=w.heap.size->ac bS a):W C (dC 130 (aE (E ⟨b,3,I⟩)) (aP n)) w ac:=
 eK CR h (by simp[lj]) rfl λa c d e=>k a (by simpa[lj]using c) d e
variable{ef:List s8}
def l1.zb(h:l1 w b ab ah cR b8 dB fL ej dq aD c0 ef c au aB ay al ai aQ an)(e:Q [b] w a)(m:aC a b 136 (lj ab ah dB b8 fL dO.cQ))(f:dO.cx=an.cx)(k:dO.bd=an.bd)(j:dO.cn=an.cn):l1 a b ab ah cR b8 dB fL ej dq aD c0 ef c au aB ay al ai aQ dO:=by
 have i:bR (ej++(dq++(aD++c0))) [b]:=(h.lk.d1 (az:=[b]) B (λ_ h=>h)).nc
 have p:=h.g1
 have q:=h.kF
 have n:0∉[b]:=λl=>h.pK (by simp at l;simp[l])
 refine⟨m,?_,h.wt.J e (by simp;omega),?_,h.c4.J e (λg d=>i g (by simp[d])),by rw[j];exact h.pJ,λx o=>(h.vg x o).J e (λg d=>i g (by simp[d])),λg d=>iL (h.vh g d) e.aI,h.g1,h.lk,h.lC,h.o1,h.wu,h.kF.J e n,h.pK,?_,h.mt,h.fO⟩
 ·rw[f];exact h.ij.J e (λg d=>i g (by simp[d]))
 ·rw[k];exact h.k1.J e (λg d=>i g (by simp[d]))
 ·have:=h.cL
  exact⟨by rw[f,k];exact this.nf,by rw[f];exact this.dT,by rw[f];exact this.n1,by rw[j];exact this.iG,by rw[j];exact this.jU⟩
def ajl:C.built 37 (#[]:Array (Nat×S)).toList=E (eb vf).toArray:=K
def ajm{x:Option es}{l:Nat}:C.built 179 #[(0,F H n),(1,ho d (T x l ak))].toList=E (k2 (n,d,T x l ak)).toArray:=K
def TP{x:s8}(h:x.2.2.oneCell'=G):∀ae∈k2 x,ae.oneCell'=G:=by
 intro ae a
 rcases ce.1 a with rfl|a
 ·rfl
 ·exact Ph h ae a
def Jl(w a:aN)(b:Nat)(am az:List Nat)(an:cK)(bb:Option dn)(ae:S):Prop:=bX am az w a/\match bb with
 |some ad=>∃c,ae=bQ #[F H (an.cQ+1:Nat),c,aK G]/\qw w a ad c
 |none=>ae=bQ #[F H (an.cQ+1:Nat),je vf,aK U]
def DW(h:h2 w b am ab c au aB ay al ai aQ an)(ao:xH c ay al cp)(a7:sg w gf bc d.bk.a7)(bb:bR gf (0::am))(bd:∀g∈gf,g<w.heap.size)(cw:qt d)(cx:d.a5≠6)(da:an.cQ<=1000000):
  a0 C 50 #[aP b,ho d bc] w λae a=>∃az,h2 a b az ab c au aB ay al ai aQ (an.kV cp d).1/\Jl w a b (am++gf) az an (an.kV cp d).2 ae:=by
 have aj:=h.aL
 obtain⟨ah,cR,b8,dB,fL,ej,dq,aD,c0,ef,h,rfl⟩:=h
 have cy:=a7.1
 refine a9 Mr 2 Tryz.func50 K rfl λa1 cA=>?_
 simp+decide (maxSteps:=9999999)only[↓a8,ba,Mr,Tryz.f50]
 subst cA
 refine sf λax cB cE db=>?_
 refine qv λcF cH br dc=>?_
 have aF:=cE.R br B
 have cI:=cB.J br B
 have dd:w.heap.size<ax.heap.size:=A
 have de:ax.heap.size<cF.heap.size:=A
 have be:=h.V aF
 have df:=h.bg.aL
 generalize dg:w.heap.size=dh at*
 generalize dj:ax.heap.size=m at*
 obtain⟨bs,u,bt,bu,bv,bw,aG⟩:=l0 be.bg
 simp only[M,N,O,P,aG]
 rw[bq A A,show(an.cQ:Int)+1=((an.cQ+1:Nat):Int)by omega]
 refine ajj be.bg λaI cJ ac dm=>?_
 have bx:l1 aI b ab ah cR b8 dB fL ej dq aD c0 ef c au aB ay al ai aQ {an with cQ:=an.cQ+1}:=be.zb ac cJ rfl rfl rfl
 have bz:=cI.J ac (by simp;omega)
 have bB:=cH.J ac (by simp;omega)
 have bC:bX ([b,b8]++(ej++(dq++(aD++c0)))) ([b,b8]++(ej++(dq++(aD++c0)))) w aI:=⟨(aF.bw B).R ac (λg e=>Y (by simp at e;simp[e])),λg e=>Y e⟩
 generalize aJ:({an with cQ:=an.cQ+1}:cK)=u at bx
 have n:u.cx=an.cx/\u.bd=an.bd/\u.cn=an.cn/\u.cQ=an.cQ+1:=by subst aJ;exact⟨rfl,rfl,rfl,rfl⟩
 have cL:sg aI gf bc d.bk.a7:=(a7.J aF (bR.D _)).J ac (λg e f=>bb g e (by simp at f;simp[f]))
 have bE:=cL.1
 obtain⟨bG,bf,bH,bI,bJ,bK,bL,bM,bP,bV,bW,aL⟩:=gc bz
 simp only[aL]
 refine Jb bE cw λcM V=>?_
 have s:=bx.V V
 have aM:=bz.J V B
 have bg:=bB.J V B
 have bh:=bC.oM V
 have bj:∀{k:aN}{ad:dn}{aR:S},bX ([b,b8]++(ej++(dq++(aD++c0)))) ([b,b8]++(ej++(dq++(aD++c0)))) w k->l1 k b ab ah cR b8 dB fL ej dq aD c0 ef c au aB ay al ai aQ u->aC k m 37 (eb vf)->qw aI k ad aR->an.kV cp d=(u,E ad)->
   W C (dC 37 (aP m) aR) k λ_ v=>aZ C (a4 37 (aP m)) v λcO=>o5 (λae a=>∃az,h2 a b az ab c au aB ay al ai aQ (an.kV cp d).1/\Jl w a b ([b,b8]++(ej++(dq++(aD++c0)))++gf) az an (an.kV cp d).2 ae) (gd (bQ #[F H (an.cQ+1:Nat),cO,aK G])) v:=by
  intro k ad aR aS l cP aU cS
  obtain⟨x,rfl,y,dp,dr⟩:=id aU
  refine mW cP y.gj.aW y.dY.aW λv ak X cU=>?_
  refine((c7.hJ ak).2.2.2.2.2.2 _).2 ?_
  rw[cS]
  have ap:m∉[b,b8]++(ej++(dq++(aD++c0))):=λj=>by have:=aj _ j;omega
  have cV:m≠0:=λj=>by have:=h.kF.aL;omega
  have ds:=bC.J.aI
  refine⟨_,⟨ah,cR,b8,dB,fL,ej,dq,aD,c0,ef,l.J X (λg e f=>by simp at f;subst f;exact ap e) (by simp;exact Ne.symm cV),rfl⟩,⟨(aS.J.bw (λg e=>Y (hg _ e))).R X (λg e=>Z (by simp at e;omega)),λg e=>Y (hg _ e)⟩,je x,rfl,?_⟩
  exact(aU.J X (by have:=bB.aL;simp;exact this)).bw A
 have aV:=cD [] cM
 simp only[M,N,O,P]
 refine cG.2 ⟨λq=>?_,λq=>?_⟩
 ·have q:d.bt=U:=by simpa using q
  obtain⟨bs,b0,bt,bu,bv,bw,aG⟩:=l0 (bD s.bg)
  obtain⟨bG,bf,bH,bI,bJ,bK,bL,bM,bP,bV,bW,aL⟩:=gc (bD aM)
  simp only[M,N,O,P,aG,aL,hk hY,n.2.2.2]
  refine zp (cz:=.dD 1) (s.kF.V aV) λk r=>?_
  have aa:=aV.R r B
  have l:=s.V aa
  have aq:=l.bg.bh (af:=6)
  refine(dz bZ (by rw[aq];simp[lj,n.2.2.2])).2 ?_
  refine bj (bh.oM aa) l (bg.J aa B) ⟨ve d 1,rfl,EW _ _ _,s7,s7⟩ ?_
  unfold cK.kV
  rw[if_neg (by simp[q]),aJ]
 ·have q:d.bt=G:=by simpa using q
  obtain⟨bs,b0,bt,bu,bv,bw,aG⟩:=l0 s.bg
  obtain⟨bG,bf,bH,bI,bJ,bK,bL,bM,bP,bV,bW,aL⟩:=gc aM
  try simp only[M,N,O,P,b0]
  refine(ru FP).2 ?_
  refine cG.2 ⟨λj=>(by cases j),λ_=>?_⟩
  try simp only[M,N,O,P,bf]
  refine ET ?_
  try simp only[M,N,O,P]
  refine cG.2 ⟨λt=>?_,λt=>?_⟩
  ·
   have t:i3 d.a5=U:=by simpa using t
   obtain⟨aW,aX,aY,a2,a3,ag,z⟩:=l0 (bD s.bg)
   obtain⟨b1,b2,b3,b7,b9,ca,cb,cc,cf,cg,ch,ar⟩:=gc (bD aM)
   try simp only[M,N,O,P,z,ar,n.2.2.2]
   have cW:rF d.a5=G:=by
    have:=q
    unfold dl.bt at this
    simp only[t,fc,if_false,dl.p6,dA]at this
    exact this.2.1.1.1
   refine aH XK (ajg (s.V aV).ajh ao cx cW) ?_
   rintro aR k ⟨aU,r⟩
   have aa:=aV.R r B
   have l:=s.V aa
   have aq:=l.bg.bh (af:=6)
   refine(dz bZ (by rw[aq];simp[lj,n.2.2.2])).2 ?_
   refine bj (bh.oM aa) l (bg.J aa B) (aU.bw V.aI) ?_
   unfold cK.kV
   rw[if_pos q,if_neg (by simp[t]),aJ,n.1,n.2.1]
  ·have t:i3 d.a5=G:=by simpa using t
   refine Jj s λk r=>?_
   have l:=s.V r
   have ci:=aM.J r B
   have bk:=bg.J r B
   have aS:=bh.oM r
   have dt:ef.length=an.cn.length:=by have:=h.pJ;rw[this];simp
   obtain⟨du,cC,cX,_⟩:=id l.c4.jD
   refine bT (λbl a=>bl=[if 16<=an.cn.length then ff (E (.dD 8))else cT]/\k=a) ?_ ?_
   ·refine bT (λbl a=>bl=[aK (decide (16<=an.cn.length))]/\k=a) ?_ ?_
    ·refine(ry dk).2 ?_
     obtain⟨aW,aX,aY,a2,a3,ag,z⟩:=l0 l.bg
     simp only[M,N,O,P,ag]
     rw[cX]
     simp only[M,N,O,P]
     refine⟨?_,by trivial⟩
     congr 2
     rw[decide_eq_decide]
     omega
    rintro _ _ _ ⟨rfl,rfl⟩
    simp only[M,N,O,P,bi]
    refine⟨λD=>?_,λD=>?_⟩
    ·simp only[hk hY]
     rw[if_pos D]
     exact⟨rfl,by trivial⟩
    ·rw[if_neg D]
     exact⟨by trivial,by trivial⟩
   rintro _ _ _ ⟨rfl,rfl⟩
   have a5:=cD [] k
   by_cases D:16<=an.cn.length
   ·rw[if_pos D]
    simp only[M,N,O,P]
    refine oF.2 ?_
    refine cG.2 ⟨λ_=>?_,λj=>(by cases j)⟩
    obtain⟨aW,aX,aY,a2,a3,ag,z⟩:=l0 (bD l.bg)
    obtain⟨b1,b2,b3,b7,b9,ca,cb,cc,cf,cg,ch,ar⟩:=gc (bD ci)
    try simp only[M,N,O,P,z,ar,n.2.2.2]
    refine zp (l.kF.V a5) λv X=>?_
    have J:=a5.R X B
    have o:=l.V J
    have aq:=o.bg.bh (af:=6)
    refine(dz bZ (by rw[aq];simp[lj,n.2.2.2])).2 ?_
    refine bj (aS.oM J) o (bk.J J B) ⟨ve d 8,rfl,EW _ _ _,s7,s7⟩ ?_
    unfold cK.kV
    rw[if_pos q,if_pos t,if_pos D,aJ]
   ·rw[if_neg D]
    simp only[M,N,O,P]
    refine(fp dk).2 ?_
    refine cG.2 ⟨λj=>(by cases j),λ_=>?_⟩
    obtain⟨aW,aX,aY,a2,a3,ag,z⟩:=l0 (bD l.bg)
    obtain⟨b1,b2,b3,b7,b9,ca,cb,cc,cf,cg,ch,ar⟩:=gc (bD ci)
    try simp only[M,N,O,P,ag,z,ar,n.2.2.2]
    have dv:aT k.drew dV bc d.bk.a7:=(bE.V (V.R r B)).V a5
    obtain⟨av,aw,cY,_⟩:=id cy
    subst cY
    refine(bY ajm).2 ?_
    refine hw Ln [b6 (k2 (an.cQ+1,d,T av d.bk.a7.length aw)).toArray] rfl rfl (by intro bm cj;simp at cj;subst cj;rfl) A A λv ak X cU=>?_
    have ak:aC v k.heap.size 179 (k2 (an.cQ+1,d,T av d.bk.a7.length aw)):=by simpa[bF]using ak
    have J:=a5.R X B
    have o:=l.V J
    refine(dz K9 (o.bg.bh (af:=5))).2 ?_
    refine m8 Ln o.c4 ak.cy rfl (TP rfl) A (by unfold d0;omega) A λwI cd ez cZ a6 ck c1=>?_
    have cm:b∉aD:=λj=>h.lk b B (by simp[j])
    have c2:=o.bg.J a6 cm
    refine Jk c2 c1 λdw cq bn dx=>?_
    obtain⟨aW,aX,aY,a2,a3,ag,z⟩:=l0 cq
    try simp only[M,N,O,P,z,n.2.2.2]
    refine(bY ajl).2 ?_
    have ap:m∉[b,b8]++(ej++(dq++(aD++c0))):=λj=>by have:=aj _ j;omega
    have cs:m∉aD:=λj=>ap (by simp[j])
    have c3:m∉[b]:=by simp;omega
    refine mW (x:=vf) (((bk.J J B).J a6 cs).J bn c3) rfl rfl λc4 c5 bo dy=>?_
    refine((c7.hJ c5).2.2.2.2.2.2 _).2 ?_
    have ct:an.kV cp d=({an with cQ:=an.cQ+1,cn:=an.cn++[(an.cQ+1,d)]},I):=by
     unfold cK.kV
     rw[if_pos q,if_pos t,if_neg D]
    rw[ct]
    have dD:0<w.heap.size:=h.kF.aL
    have dF:=a6.aI
    have dG:w.heap.size<=k.heap.size:=aS.J.aI
    have dH:=J.aI
    have L:Q (aD++[b,m]) v c4:=((a6.bw (dE:=aD++[b,m]) (λg e=>Y (by simp[e]))).R bn (λg e=>Y (by simp at e;simp[e]))).R bo (λg e=>Y (by simp at e;simp[e]))
    have bp:bR (ej++(dq++c0)) (aD++[b,m]):=by
     intro g e f
     have c6:g∈[b,b8]++(ej++(dq++(aD++c0))):=by simp at e⊢;rcases e with e|e|e<;>simp[e]
     rcases b4.1 f with f|f
     ·rcases b4.1 e with e|e
      ·exact h.lC g e (by simp[f])
      ·rcases b4.1 e with e|e
       ·exact h.o1 g e (by simp[f])
       ·exact h.wu g f e
     ·simp at f
      rcases f with rfl|rfl
      ·exact h.lk g B (by simp at e⊢;rcases e with e|e|e<;>simp[e])
      ·exact ap c6
    have aA:∀g∈gf,g∉[b,b8]++(ej++(dq++(aD++c0))):=λg e f=>bb g e (ev _ f)
    have R:∀g∈ez,g∈aD\/w.heap.size<=g:=λg e=>(ck g e).imp id (λj=>A)
    have dK:∀{aO:List Nat},(∀g∈aO,g∉aD)->(∀g∈aO,g<w.heap.size)->bR aO ez:=λi p g e f=>(R g f).elim (i g e) (λj=>by have:=p g e;omega)
    have cu:Q [b] w v:=(aF.bw B).R ((ac.R (V.R r B) B).R J B) (λg e=>Y e)
    refine⟨[b,b8]++(ej++(dq++(ez++(c0++gf)))),⟨ah,cR,b8,dB,wI,ej,dq,ez,c0++gf,ef++[(an.cQ+1,d,T av d.bk.a7.length aw)],?_,rfl⟩,?_,rfl⟩
    ·refine⟨by have:=cq.J bo (bU:=[m]) (by simp;omega);rw[n.2.2.2]at this;exact this,?_,?_,?_,?_,?_,?_,?_,h.g1,?_,?_,?_,?_,?_,?_,?_,h.mt,h.fO⟩
     ·rw[<-n.1];exact o.ij.J L (λg e=>bp g (by simp[e]))
     ·refine o.wt.J L ?_
      simp
      refine⟨λj=>h.lk b8 B (by simp[j]),Ne.symm h.g1,λj=>ap (by simp[j])⟩
     ·rw[show({an with cQ:=an.cQ+1,cn:=an.cn++[(an.cQ+1,d)]}:cK).bd=u.bd from n.2.1.symm]
      exact o.k1.J L (λg e=>bp g (by simp[e]))
     ·have c8:(ef++[(an.cQ+1,d,T av d.bk.a7.length aw)]).flatMap k2=ef.flatMap k2++k2 (an.cQ+1,d,T av d.bk.a7.length aw):=by rw[hL];simp
      rw[c8,di]
      refine(cZ.J bn (λg e f=>?_)).J bo (λg e f=>?_)
      ·simp at f;subst f
       exact(R g e).elim cm (λj=>A)
      ·simp at f;subst f
       exact(ck g e).elim cs (λj=>by have:=bk.aL;omega)
     ·show an.cn++[(an.cQ+1,d)]=_
      rw[g6,<-h.pJ]
      rfl
     ·intro x y
      rcases b4.1 y with y|y
      ·exact((o.vg x y).J L (λg e=>bp g (by simp[e]))).pI (λg e=>by simp[e])
      ·rw[ku.1 y]
       refine(a7.J (bU:=b::(aD++[b,m])) ((cu.bw (λg e=>Y (by simp at e;simp[e]))).R L (λg e=>Y (ev _ e))) (λg e f=>?_)).pI (λg e=>by simp[e])
       have i:=aA g e
       have p:=bd g e
       simp only[ce,b4,iZ,or_false]at f i
       rcases f with rfl|f|rfl|rfl
       ·exact i (Y (Y rfl))
       ·exact i (Z (Z (Z (Y f))))
       ·exact i (Y (Y rfl))
       ·omega
     ·intro g e
      have:=L.aI
      rcases b4.1 e with e|e
      ·have:=o.vh g e;omega
      ·have:=bd g e;omega
     ·intro g e f
      have i:=h.lk g e
      have p:g∈[b,b8]++(ej++(dq++(aD++c0))):=hg _ e
      have cv:=aj g p
      simp only[b4,not_or]at f i
      rcases f with f|f|f|f|f
      ·exact i.1 f
      ·exact i.2.1 f
      ·exact(R g f).elim i.2.2.1 (λj=>A)
      ·exact i.2.2.2 f
      ·exact aA g f p
     ·intro g e f
      have i:=h.lC g e
      have p:g∈[b,b8]++(ej++(dq++(aD++c0))):=by simp[e]
      have cv:=aj g p
      simp only[b4,not_or]at f i
      rcases f with f|f|f|f
      ·exact i.1 f
      ·exact(R g f).elim i.2.1 (λj=>A)
      ·exact i.2.2 f
      ·exact aA g f p
     ·intro g e f
      have i:=h.o1 g e
      have p:g∈[b,b8]++(ej++(dq++(aD++c0))):=by simp[e]
      have cv:=aj g p
      simp only[b4,not_or]at f i
      rcases f with f|f|f
      ·exact(R g f).elim i.1 (λj=>A)
      ·exact i.2 f
      ·exact aA g f p
     ·intro g e f
      rcases R g e with e|e
      ·rcases b4.1 f with f|f
       ·exact h.wu g e f
       ·exact aA g f (by simp[e])
      ·rcases b4.1 f with f|f
       ·have:=h.vh g f;omega
       ·have:=bd g f;omega
     ·exact o.kF.J L (λf=>by
       have i:=h.pK
       simp only[ce,b4,iZ,or_false,not_or]at f i
       rcases f with f|f|f
       ·exact i.2.2.2.1 f
       ·exact i.1.1 f
       ·omega)
     ·intro f
      have i:=h.pK
      simp only[b4,not_or]at f i
      rcases f with f|f|f|f|f|f
      ·exact i.1 f
      ·exact i.2.1 f
      ·exact i.2.2.1 f
      ·exact(R _ f).elim i.2.2.2.1 (λj=>A)
      ·exact i.2.2.2.2 f
      ·exact bb _ f fE
     ·have:=cK.DW (b:=an) (cp:=cp) (d:=d) h.cL
      rw[ct]at this
      exact this
    ·refine⟨((cu.bw (λg e=>Y (by simp at e;simp[e]))).R L (λg e=>?_)),λg e=>?_⟩
     ·simp only[b4,ce,iZ,or_false]at e⊢
      rcases e with e|e|e
      ·simp[e]
      ·simp[e]
      ·exact Z A
     ·simp only[b4,ce,iZ,or_false]at e⊢
      rcases e with e|e|e|e|e|e
      ·exact Y (Y (Y e))
      ·simp[e]
      ·simp[e]
      ·exact(R g e).imp (λj=>by simp[j]) id
      ·simp[e]
      ·simp[e]
end
def hp{aU:Type}(w:aN)(aO:List Nat)(be:aU->List S)(aa:S)(l:List aU):Prop:=aT w be aa l/\(l=[]\/∃b af c,aa=T (E ⟨b,af,I⟩) l.length c/\b∈aO)
section
variable{JV:List Nat}{be:aU->List S}{l:List aU}{ja:List (List UInt8)}
def hp.J(h:hp w aO be aa l)(i:Q bU w a)(j:bR aO bU):hp a aO be aa l:=by
 obtain⟨f,k⟩:=h
 rcases k with rfl|⟨b,af,c,rfl,g⟩
 ·obtain⟨d,c,rfl,m,_⟩:=f
  exact⟨⟨d,c,rfl,m,Y rfl⟩,Y rfl⟩
 ·exact⟨f.J i (by intro n o p q e;cases e;exact j b g),Z ⟨b,af,c,rfl,g⟩⟩
def hp.pI(h:hp w aO be aa l)(a:∀g∈aO,g∈JV):hp w JV be aa l:=
 ⟨h.1,h.2.imp id λ⟨b,af,c,d,e⟩=>⟨b,af,c,d,a b e⟩⟩
def hp.gW:hp w aO be (T I 0 0) ([]:List aU):=⟨aT.gW _ _,Y rfl⟩
def hp.aW(h:hp w aO be aa l):aa.oneCell'=G:=h.1.aW
def hp.c4(h:bP w av a6 aa l.length (l.flatMap be) am)(b:∀x,(be x).length=a6)(ao:0<a6):hp w am be aa l:=by
 refine⟨h.eF b ao,?_⟩
 by_cases a:l=[]
 ·exact Y a
 ·obtain⟨g,af,c,e,d⟩:=h.gm (List.length_pos_iff.2 a)
  exact Z ⟨g,af,c,e,by rw[d];simp⟩
def s9(w:aN)(aO:List Nat)(aa:S)(l:List (List UInt8)):Prop:=∃cj:List (S×List UInt8),hp w aO kl aa cj/\(∀ab∈cj,hp w aO bs ab.1 ab.2)/\cj.map (·.2)=l
def s9.J(h:s9 w aO aa ja)(b:Q bU w a)(c:bR aO bU):s9 a aO aa ja:=by
 obtain⟨cj,d,e,f⟩:=h
 exact⟨cj,d.J b c,λab g=>(e ab g).J b c,f⟩
def s9.g2(h:s9 w aO aa ja):ju w aa ja:=by
 obtain⟨cj,a,b,c⟩:=h
 exact⟨cj,a.1,λab d=>(b ab d).1,c⟩
def s9.gW:s9 w aO (T I 0 0) []:=⟨[],hp.gW,B,rfl⟩
def TQ(ab:S×List UInt8):(kl ab).length=1:=rfl
def ajn:C.underlying 183=E (.slice 52):=K
def TR:C.underlying 211=E (.slice 294):=K
def ajo(h:s9 w aO aa ja)(D:ja.length<=1000):a0 C 208 #[aa] w λae a=>∃(cj:List (S×List UInt8))(aD:List Nat),bP a 52 1 ae cj.length (cj.flatMap kl) aD/\(∀ab∈cj,hp a aO bs ab.1 ab.2)/\cj.map (·.2)=ja/\(∀g∈aD,w.heap.size<=g)/\Q [] w a:=by
 obtain⟨cj,m,n,f⟩:=h
 have J:cj.length=ja.length:=by rw[<-f,dU]
 refine a9 .D 1 Tryz.func208 K rfl λa1 s=>?_
 simp+decide (maxSteps:=9999999)only[↓a8,ba,Tryz.f208]
 subst s
 obtain⟨d,c,rfl,L,i⟩:=id m.1
 refine(eqSlNone ajn).2 ?_
 cases d with
 |none=>
  refine cG.2 ⟨λ_=>?_,λj=>(by cases j)⟩
  have t:cj=[]:=i.resolve_right (by rintro⟨b,af,h,_⟩;cases h)
  subst t
  exact⟨[],[],gJ _ _ _,B,f,B,Q.b0 _ _⟩
 |some d=>
  refine cG.2 ⟨λj=>(by cases j),λ_=>?_⟩
  refine KR mK λaA u o M=>?_
  refine BF (l:=([]:List (S×List UInt8))) (be:=kl) mK u pe TQ (λx v N p=>?_) (m.1.V o) (by simp;omega) (by unfold d0;simp;omega) λae ax cM y z A=>?_
  ·simp only[kl,ku]at p
   subst p
   exact(n x v).aW
  ·have q:Q [] w ax:=o.R A (by intro k r;simp at r;subst r;exact Z (fF _))
   refine⟨cj,cM,y,λab i=>(n ab i).J q (bR.D _),f,λg e=>?_,q⟩
   rcases z g e with e|e
   ·simp at e;omega
   ·omega
end
def xJ(ad:dn):kQ:=⟨ad.dF,ad.iE,ad.cu,ad.cS,T I 0 0,T I 0 0⟩
def k3(ai:Nat×dn):List S:=F H ai.1::eb (xJ ai.2)
def EY(ai:Nat×dn):(k3 ai).length=7:=rfl
def Jm(ai:Nat×dn):∀ae∈k3 ai,ae.oneCell'=G:=by intro ae a;simp[k3,eb,xJ]at a;rcases a with rfl|rfl|rfl|rfl|rfl|rfl|rfl<;>rfl
structure pL(bv w:aN)(fI hU:Nat)(hh:List Nat)(cA hN:S)(fX aO:List Nat)(g:fM):Prop where
 bg:aC w fI 267 [aP hU,cA,hN]
 k1:iJ w hU hh g.bd
 c2:s9 w aO cA g.f2
 fW:bP w 121 7 hN g.fW.length (g.fW.flatMap k3) fX
 xK:∀x∈aO,bv.heap.size<=x
 kE:∀x∈fX,bv.heap.size<=x
 uk:bv.heap.size<=fI
 wv:fI∉aO
 ul:fI∉fX
 nm:fI∉hh
 lC:bR aO fX
 o1:bR hh fX
 vi:∀x∈aO,x<w.heap.size
 J:Q [] bv w
section
variable{g:fM}
def pL.V(h:pL bv w fI hU hh cA hN fX aO g)(b:Q [] w a):pL bv a fI hU hh cA hN fX aO g:=
 ⟨h.bg.J b B,h.k1.V b,h.c2.J b (bR.D _),h.fW.J b B,h.xK,h.kE,h.uk,h.wv,h.ul,h.nm,h.lC,h.o1,λx c=>iL (h.vi x c) b.aI,h.J.R b B⟩
def pL.ajp(h:pL bv w fI hU hh cA hN fX aO g)(b:Q bU w a)(d:fI∉bU)(e:bR hh bU)(f:bR aO bU)(i:bR fX bU)(j:∀x∈bU,bv.heap.size<=x):pL bv a fI hU hh cA hN fX aO g:=
 ⟨h.bg.J b d,h.k1.J b e,h.c2.J b f,h.fW.J b i,h.xK,h.kE,h.uk,h.wv,h.ul,h.nm,h.lC,h.o1,λx c=>iL (h.vi x c) b.aI,h.J.R b (λx c=>Z (j x c))⟩
def vj(h:aC w fI ar [aP hU,cA,hN]):(∀ac,aZ C (a4 130 (aE (E ⟨fI,0,I⟩))) w ac↔ac (aP hU))/\(∀ac,aZ C (a4 183 (aE (E ⟨fI,1,I⟩))) w ac↔ac cA)/\(∀ac,aZ C (a4 118 (aE (E ⟨fI,2,I⟩))) w ac↔ac hN):=
 ⟨λ_=>bl K6 (h.bh (af:=0)),λ_=>bl rA (h.bh (af:=1)),λ_=>bl K4 (h.bh (af:=2))⟩
def BQ{x:s8}{a:Nat}(h:aC w a 179 (k2 x)):(∀ac,aZ C (a4 3 (aE (E ⟨a,0,I⟩))) w ac↔ac (F H x.1))/\(∀ac,aZ C (a4 3 (aE (E ⟨a,1,I⟩))) w ac↔ac (F H x.2.1.dF))/\(∀ac,aZ C (a4 43 (aE (E ⟨a,1,I⟩))) w ac↔ac (ho x.2.1 x.2.2)):=
 ⟨λ_=>bl bZ (h.bh (af:=0)),λ_=>bl bZ (h.bh (af:=1)),λ_=>gC (l:=f1 x.2.1 x.2.2) CT (by have:=h.cy.d1 1 14;simpa[k2,f1]using this)⟩
def TS{av:ji}(h:nJ w ah ej ab c au aB ay al ai av)(k:ac (F H av.length) w):W C (ck 207 #[aP ah]) w ac:=aH YI (ahd h) (by rintro _ _ ⟨rfl,rfl⟩;exact k)
def TT(w a:aN)(g b:Nat)(c:Except Int (c3×nY))(d:List S):Prop:=Q [] w a/\w.heap.size<=b/\((∃(k:Int)(cz:ex),c=b5 k/\cz.a5=k/\d=[aP b,ff (E cz)]/\aC a b 220 (og i4))\/∃(e:c3)(ag:nY)(f:List Nat),c=bA (e,ag)/\d=[aP b,cT]/\aC a b 220 (og ag)/\iJ a g f e/\(∀x∈f,w.heap.size<=x))
def ajq{ad:dn}:C.built 121 #[(0,F H t),(1,je (xJ ad))].toList=E (k3 (t,ad)).toArray:=K
def TU(bv a:aN)(fI dB:Nat)(dq:List Nat)(g:fM)(bb:Option fM)(ae:S):Prop:=match bb with
 |none=>ae=aK U/\∃hU hh cA hN fX aO,pL bv a fI hU hh cA hN fX aO g/\((g.f2=[]/\hU=dB/\hh=dq)\/∀x∈hh,bv.heap.size<=x)
 |some b=>ae=aK G/\∃hU hh cA hN fX aO,pL bv a fI hU hh cA hN fX aO b/\((b.f2=[]/\hU=dB/\hh=dq)\/∀x∈hh,bv.heap.size<=x)
variable{ef:List s8}
def ajr(aA:l1 bv b ab ah cR b8 dB fL ej dq aD c0 ef c au aB ay al ai aQ an)(s:pL bv w fI hU hh cA hN fX aO g)(cb:(g.f2=[]/\hU=dB/\hh=dq)\/∀x∈hh,bv.heap.size<=x)(bH:g.bd.bp dE)(gh:dE<=3000)(aF:d.bt=G)(er:i3 d.a5=G)(et:sg bv c0 bc d.bk.a7)(gi:g.f2.length<=16)(ew:g.fW.length<=16)(gj:∀ai∈g.fW,ai.2.gj=[]/\ai.2.dY=[]):
  a0 C 147 #[aP b,aP fI,b6 (k2 (t,d,bc)).toArray] w λae a=>TU bv a fI dB dq g (lS c.aJ an.cx.length g t d) ae:=by
 have gk:=aA.bg.aL
 have bI:=tU aF er
 have cc:=G2 bI
 have gl:d.bk.a7.length<=8:=cc.2.2
 have gm:an.cx.length<=c.bd:=aA.cL.dT
 have cU:=aA.ij.ij.cL.1
 have gn:=cU.jZ
 have h:=aA.V s.J
 have bo:aT w dV bc d.bk.a7:=(et.J s.J (bR.D _)).1
 have gs:=s.uk
 obtain⟨bd,cC,rfl,_⟩:=id bo
 refine a9 Nc 3 Tryz.func147 K rfl λa1 ex=>?_
 simp+decide (maxSteps:=9999999)only[↓a8,ba,Nc,Tryz.f147]
 subst ex
 refine eA λax bK dG gt=>?_
 have bK:aC ax w.heap.size 179 (k2 (t,d,T bd d.bk.a7.length cC)):=by simpa[bF]using bK
 obtain⟨bL,bM,be⟩:=BQ bK
 simp only[M,N,O,P,be]
 refine I8 (bo.V dG) λdH dK=>?_
 refine uf λgv ey ez gw=>?_
 refine s3 ey rfl rfl λbU cW eC gx=>?_
 have dL:=dK.R (ez.R eC B) B
 have bV:Q [] w bU:=dG.R dL B
 have dM:=bK.J dL B
 have gy:w.heap.size<dH.heap.size:=by have:=dK.aI;omega
 generalize gB:w.heap.size=dN at*
 generalize gC:dH.heap.size=dO at*
 have cf:=s.V bV
 obtain⟨cg,bW,ch⟩:=vj cf.bg
 simp only[M,N,O,P,cg]
 refine aH YH (aii cf.k1 bH A) ?_
 rintro _ aS ⟨bX,az,rfl,ci,bp,aU⟩
 have cm:=bV.R aU B
 have dP:=cW.J aU B
 have gD:=dM.J aU B
 have cY:=cf.V aU
 have cn:=h.V cm
 have gE:=aU.aI
 have gG:=cW.aL
 obtain⟨eD,eE,eF⟩:=cY.c2.g2.cY
 have aW:=cD [] aS
 refine bT (λaG a=>∃D,TT bU a bX D (g.bd.h9 d.c2 an.cx.length g.f2.length) aG) ?_ ?_
 ·obtain⟨eG,eH,eI,eJ,eL,eM,eN,eO,cZ⟩:=ik (bD dP)
  obtain⟨eP,c1,eQ,eR,eT,eU,eV⟩:=l0 (bD cn.bg)
  obtain⟨cg,bW,ch⟩:=vj (bD cY.bg)
  simp only[M,N,O,P,cZ,c1,bW]
  subst eF
  simp only[M,N,O,P]
  have ao:∀{j:aN}{ad:Prop},Q [] aS j->(gu C (a4 82 (aP dO)) (jW d.c2 (T bd d.bk.a7.length cC)) j ad↔ad):=λaj=>mE (l:=ha d.c2 (T bd d.bk.a7.length cC)) An (dP.J aj B).cy
  have c2:∀{j:aN}{ad:Prop},Q [] aS j->(gu C (a4 132 (aE (E ⟨b,1,I⟩))) (aP ah) j ad↔ad):=λaj=>dz FU ((cn.bg.J aj B).bh (af:=1))
  have cp:∀{j:aN}{ad:Prop},Q [] aS j->(gu C (a4 183 (aE (E ⟨fI,1,I⟩))) (T eD g.f2.length eE) j ad↔ad):=λaj=>dz rA ((cY.bg.J aj B).bh (af:=1))
  have dQ:=ci.aL
  have dR:∀{r cd:aN}{ae:S}{D:Nat},Q [] aS r->o0 r cd bX az (g.bd.h9 d.c2 an.cx.length g.f2.length) ae->bU.heap.size<=D->D∉az->D<r.heap.size->aC cd D 220 (og i4)->
    aV C (gH ae 0) λeW=>aV C (gH ae 1) λeX=>W C (dC 220 (aP D) eW) cd λ_ eY=>∃e0,TT bU eY bX e0 (g.bd.h9 d.c2 an.cx.length g.f2.length) [aP D,eX]:=by
   intro r cd ae D J o c4 e3 eu aX
   unfold o0 at o
   cases y:g.bd.h9 d.c2 an.cx.length g.f2.length with
   |error k=>
    rw[y]at o
    obtain⟨⟨cz,bf,rfl⟩,a2⟩:=o
    simp only[cV,cX]
    refine nn (e:=i4) aX λz aq ar c5=>?_
    refine⟨D,((((aU.R J B)).R a2 (λx f=>Z (bp x f))).R ar (λx f=>Z (by simp at f;omega))),c4,Y ⟨k,cz,rfl,bf,rfl,aq⟩⟩
   |ok bm=>
    obtain⟨ak,ag⟩:=bm
    rw[y]at o
    obtain⟨rfl,L,cq,av⟩:=o
    simp only[cV,cX]
    have e4:D∉L:=λm=>(av.cq D m).elim e3 (λh=>A)
    refine nn (e:=ag) aX λz aq ar c5=>?_
    have R:=J.aI
    refine⟨D,((((aU.R J B)).R av.J (λx f=>Z (bp x f))).R ar (λx f=>Z (by simp at f;omega))),c4,Z ⟨ak,ag,L,rfl,rfl,aq,cq.J ar (λx f i=>by simp at i;subst i;exact e4 f),λx f=>(av.cq x f).elim (bp x) (λh=>A)⟩⟩
  have e5:aS.drew.heap.size=aS.heap.size:=rfl
  refine⟨?_,?_⟩
  ·refine TS ((cn.V aW).ij.ij) ?_
   refine(cp aW).2 ((ao aW).2 ?_)
   refine⟨?_,?_⟩
   ·refine ES (ci.V aW) bH A bI ((bo.V cm).V aW) A λae r o=>?_
    unfold o0 at o
    cases y:g.bd.h9 d.c2 an.cx.length g.f2.length with
    |error k=>
     rw[y]at o
     obtain⟨⟨cz,bf,rfl⟩,J⟩:=o
     simp only[cV,cX]
     refine wq λcd aX a2 dS=>?_
     refine nn (e:=i4) aX λz aq ar c5=>?_
     have cs:=J.aI
     exact⟨_,(((aU.R aW B).R J (λx f=>Z (bp x f))).R a2 B).R ar (λx f=>Z (by simp at f;omega)),A,Y ⟨k,cz,rfl,bf,rfl,aq⟩⟩
    |ok bm=>
     obtain⟨ak,ag⟩:=bm
     rw[y]at o
     obtain⟨rfl,L,cq,av⟩:=o
     simp only[cV,cX]
     refine wq λcd aX a2 dS=>?_
     refine nn (e:=ag) aX λz aq ar c5=>?_
     have cs:=av.J.aI
     have e6:=cq.aL
     refine⟨_,(((aU.R aW B).R av.J (λx f=>Z (bp x f))).R a2 B).R ar (λx f=>Z (by simp at f;omega)),A,Z ⟨ak,ag,L,rfl,rfl,aq,(cq.V a2).J ar (λx f i=>by have:=e6 x f;simp at i;omega),λx f=>(av.cq x f).elim (bp x) (λh=>A)⟩⟩
   ·refine wq λr b0 J cs=>?_
    have R:=aW.R J B
    refine(cp R).2 ((ao R).2 ?_)
    refine ES (ci.V R) bH A bI ((bo.V cm).V R) A λae cd o=>?_
    have b1:aS.heap.size∉az:=λm=>by have:=dQ _ m;omega
    have ap:Q az r cd:=by
     unfold o0 at o
     cases y:g.bd.h9 d.c2 an.cx.length g.f2.length with
     |error k=>rw[y]at o;exact o.2
     |ok bm=>rw[y]at o;obtain⟨_,L,_,av⟩:=o;exact av.J
    exact dR R o A b1 A (b0.J ap b1)
  ·refine wq λr b0 J cs=>?_
   have R:=aW.R J B
   refine(cp R).2 ((c2 R).2 ((ao R).2 ?_))
   refine TS ((cn.V R).ij.ij) ?_
   refine(cp R).2 ((ao R).2 ?_)
   refine ES (ci.V R) bH A bI ((bo.V cm).V R) A λae cd o=>?_
   have b1:aS.heap.size∉az:=λm=>by have:=dQ _ m;omega
   have ap:Q az r cd:=by
    unfold o0 at o
    cases y:g.bd.h9 d.c2 an.cx.length g.f2.length with
    |error k=>rw[y]at o;exact o.2
    |ok bm=>rw[y]at o;obtain⟨_,L,_,av⟩:=o;exact av.J
   exact dR R o A b1 A (b0.J ap b1)
 rintro aG _ j ⟨D,br,c4,o⟩
 have dT:=bV.R br B
 have e7:=cf.V br
 have dW:=h.V dT
 have c6:=dM.J br B
 have e9:=cW.J br B
 obtain⟨bL,bM,be⟩:=BQ c6
 generalize y:g.bd.h9 d.c2 an.cx.length g.f2.length=ct at*
 obtain⟨ht,cu,rfl,b2,cv⟩:∃ht cu,aG=[aP D,cu]/\aC j D 220 (og ht)/\((∃k cz,ct=b5 k/\cz.a5=k/\cu=ff (E cz)/\ht=i4)\/∃ak L,ct=bA (ak,ht)/\cu=cT/\iJ j bX L ak/\∀x∈L,bU.heap.size<=x):=by
  rcases o with⟨k,cz,aA,c8,aw,da⟩|⟨ak,ag,L,aA,aw,da,c8,fa⟩
  ·exact⟨_,_,aw,da,Y ⟨k,cz,aA,c8,rfl,rfl⟩⟩
  ·exact⟨_,_,aw,da,Z ⟨ak,L,aA,rfl,c8,fa⟩⟩
 have gI:0<=ht.cu/\0<=ht.bV/\ht.cu+ht.bV<=9223372036854775807:=by
  rcases cv with⟨k,cz,_,_,_,rfl⟩|⟨ak,L,aA,_⟩
  ·simp[i4]
  ·subst aA
   exact(c3.DR bH bI y).2
 simp only[M,N,O,P,bM]
 refine(bl (aa:=F H ht.cu) bZ (b2.bh (af:=0))).2 ?_
 try simp only[M,N,O,P]
 refine(bl (aa:=F H ht.cu) bZ (b2.bh (af:=0))).2 ?_
 try simp only[M,N,O,P]
 refine(bl (aa:=F H ht.bV) bZ (b2.bh (af:=1))).2 ?_
 try simp only[M,N,O,P]
 rw[bq A A]
 refine(bY EX).2 ?_
 refine qv λr b0 J cs=>?_
 refine mW (x:=⟨d.dF,0,ht.cu,ht.cu+ht.bV,T I 0 0,T I 0 0⟩) b0 rfl rfl λcd aX a2 dS=>?_
 have cw:Q [] j cd:=J.R a2 B
 have fb:=c6.J cw B
 have gJ:j.heap.size<cd.heap.size:=A
 have gK:=b2.aL
 generalize gL:j.heap.size=db at*
 refine bT (λaG a=>aG=[]/\aC a db 37 (eb (xJ (match ct with
  |b5 k=>ki d k
  |bA _=>⟨d.dF,0,ht.cu,ht.cu+ht.bV,[],[]⟩)))/\Q [] j a) ?_ ?_
 ·simp only[M,N,O,P]
  rcases cv with⟨k,cz,rfl,bf,rfl,rfl⟩|⟨ak,L,rfl,rfl,_⟩
  ·refine oF.2 ?_
   refine cG.2 ⟨λ_=>?_,λm=>(by cases m)⟩
   obtain⟨bL,bM,be⟩:=BQ fb
   try simp only[M,N,O,P,be]
   refine zp (dW.kF.V cw) λz ar=>?_
   refine mW (x:=ve d cz.a5) (aX.J ar B) rfl rfl λbg cx fd gM=>?_
   rw[bf]at cx
   exact⟨by trivial,cx,(cw.R ar B).R fd (by simp;omega)⟩
  ·refine(fp dk).2 ?_
   refine cG.2 ⟨λm=>(by cases m),λ_=>?_⟩
   exact⟨by trivial,aX,cw⟩
 rintro _ _ z ⟨rfl,aq,a3⟩
 have fe:=b2.J a3 B
 have dd:=c6.J a3 B
 have dY:=e9.J a3 B
 have n:=e7.V a3
 have b3:=dW.V a3
 have gN:fI≠dN:=by have:=s.bg.aL;omega
 have gO:=bK.aL
 have dZ:=aq.aL
 refine bT (λaG a=>∃de a5 ad cy b7 df q,lS c.aJ an.cx.length g t d=E ⟨de,a5,g.fW++[(t,ad)]⟩/\pL bv a fI cy b7 df hN fX q ⟨de,a5,g.fW⟩/\((a5=[]/\cy=dB/\b7=dq)\/∀x∈b7,bv.heap.size<=x)/\aC a db 37 (eb (xJ ad))/\aC a dN 179 (k2 (t,d,T bd d.bk.a7.length cC))/\db<a.heap.size) ?_ ?_
 ·refine bT (λaG a=>aG=[aK (match ct with
   |b5 k=>U
   |bA _=>!ht.vY)]/\z=a) ?_ ?_
  ·simp only[M,N,O,P]
   rcases cv with⟨k,cz,rfl,bf,rfl,rfl⟩|⟨ak,L,rfl,rfl,_⟩
   ·refine AA.2 ?_
    refine cG.2 ⟨λm=>(by cases m),λ_=>?_⟩
    exact⟨by trivial,by trivial⟩
   ·refine(ry dk).2 ?_
    refine cG.2 ⟨λ_=>?_,λm=>(by cases m)⟩
    try simp only[M,N,O,P]
    refine(bl (aa:=aK ht.vY) Ai (fe.bh (af:=2))).2 ?_
    try simp only[M,N,O,P]
    exact⟨by trivial,by trivial⟩
  rintro _ _ _ ⟨rfl,rfl⟩
  try simp only[M,N,O,P]
  rcases cv with⟨k,cz,rfl,bf,rfl,rfl⟩|⟨ak,L,rfl,rfl,fg,cB⟩
  ·refine cG.2 ⟨λm=>(by cases m),λ_=>?_⟩
   exact⟨g.bd,g.f2,ki d k,hU,hh,cA,aO,by unfold lS;rw[y],⟨n.bg,n.k1,n.c2,n.fW,n.xK,n.kE,n.uk,n.wv,n.ul,n.nm,n.lC,n.o1,n.vi,n.J⟩,cb,aq,dd,dZ⟩
  ·cases cE:ht.vY with
   |true=>
    refine cG.2 ⟨λm=>(by cases m),λ_=>?_⟩
    exact⟨g.bd,g.f2,⟨d.dF,0,ht.cu,ht.cu+ht.bV,[],[]⟩,hU,hh,cA,aO,by unfold lS;rw[y];simp only[cE,if_true],⟨n.bg,n.k1,n.c2,n.fW,n.xK,n.kE,n.uk,n.wv,n.ul,n.nm,n.lC,n.o1,n.vi,n.J⟩,cb,aq,dd,dZ⟩
   |false=>
    refine cG.2 ⟨λ_=>?_,λm=>(by cases m)⟩
    have d1:=fg.V a3
    have bt:=cD [] z
    have fk:wm d.c2:=⟨by have:=cc.1;omega,by have:=cc.2.1;omega,by have:d.c2.bk.a7.length<=8:=cc.2.2;omega⟩
    refine bT (λaG a=>∃dg V q,aG=[aP dg,V]/\aC a dg 25 (en c)/\hp a q bs V d.c2.ch/\(∀x∈q,z.heap.size<=x/\x<a.heap.size)/\Q [] z a) ?_ ?_
    ·obtain⟨eG,eH,eI,eJ,eL,eM,eN,eO,cZ⟩:=ik (bD dY)
     obtain⟨eP,c1,eQ,eR,eT,eU,eV⟩:=l0 (bD b3.bg)
     try simp only[M,N,O,P,c1,cZ]
     have ao:∀{j:aN}{ad:Prop},Q [] z j->(gu C (a4 82 (aP dO)) (jW d.c2 (T bd d.bk.a7.length cC)) j ad↔ad):=λaj=>mE (l:=ha d.c2 (T bd d.bk.a7.length cC)) An (dY.J aj B).cy
     have c2:∀{j:aN}{ad:Prop},Q [] z j->(gu C (a4 132 (aE (E ⟨b,1,I⟩))) (aP ah) j ad↔ad):=λaj=>dz FU ((b3.bg.J aj B).bh (af:=1))
     have d2:∀{j:aN}{ac:S->aN->Prop},Q [] z j->ac (aP cR) j->W C (ck 61 #[aP ah]) j ac:=λaj b9=>aH Gj (IM (b3.V aj).ij) (by rintro _ _ ⟨rfl,rfl⟩;exact b9)
     have dh:∀{j:aN}{ac:S->aN->Prop},Q [] z j->(∀r,Q [] j r->ac (fQ c) r)->W C (ck 101 #[aP cR]) j ac:=λaj b9=>by
      obtain⟨dc,fl⟩:=(b3.V aj).ij.TO
      exact aH tQ (ua fl) (by rintro _ r ⟨rfl,J⟩;exact b9 r J)
     have put:∀{j:aN}{ac:S->aN->Prop},Q [] z j->(∀ae r q,hp r q bs ae d.c2.ch->(∀x∈q,j.heap.size<=x/\x<r.heap.size)->Q [] j r->ac ae r)->W C (ck 109 #[jW d.c2 (T bd d.bk.a7.length cC)]) j ac:=λ{j}{ac} aj b9=>
      aH LC (S8 ((bo.V (dT.R a3 B)).V aj) fk) (by
       rintro ae r ⟨bJ,d3,fm,J⟩
       exact b9 ae r bJ (hp.c4 d3 e2 A) (λx f=>⟨fm x f,d3.aL x f⟩) J)
     have e5:z.drew.heap.size=z.heap.size:=rfl
     refine⟨?_,?_⟩
     ·refine d2 bt ?_
      refine(ao bt).2 ?_
      refine⟨?_,?_⟩
      ·refine dh bt λd4 ap=>?_
       have u:=bt.R ap B
       refine(ao u).2 ?_
       refine⟨?_,?_⟩
       ·refine put u λae cF q f X aI=>?_
        have v:=u.R aI B
        refine mR λdj aJ aY dl=>?_
        refine ml (g:=c) aJ rfl λcH bh aL dm=>?_
        have dn:Q [] cF cH:=aY.R aL B
        exact⟨_,ae,q,rfl,bh,f.J dn (bR.D _),λx f=>⟨by have:=(X x f).1;have:=u.aI;omega,by have:=(X x f).2;have:=dn.aI;omega⟩,v.R dn B⟩
       ·refine mR λdj aJ aY dl=>?_
        have v:=u.R aY B
        refine(ao v).2 ?_
        refine put v λae cF q f X aI=>?_
        refine ml (g:=c) (aJ.J aI B) rfl λcH bh aL dm=>?_
        exact⟨_,ae,q,rfl,bh,f.J aL (λx h i=>by have:=(X x h).1;have:=v.aI;have:=aJ.aL;simp at i;omega),λx h=>⟨by have:=(X x h).1;have:=v.aI;omega,by have:=(X x h).2;omega⟩,(v.R aI B).R aL (λx i=>Z (by have:=u.aI;simp at i;omega))⟩
      ·refine mR λdj aJ aY dl=>?_
       have u:=bt.R aY B
       refine(ao u).2 ?_
       refine dh u λd4 ap=>?_
       have v:=u.R ap B
       refine(ao v).2 ?_
       refine put v λae cF q f X aI=>?_
       refine ml (g:=c) ((aJ.J ap B).J aI B) rfl λcH bh aL dm=>?_
       exact⟨_,ae,q,rfl,bh,f.J aL (λx h i=>by have:=(X x h).1;have:=v.aI;have:=aJ.aL;have:=ap.aI;simp at i;omega),λx h=>⟨by have:=(X x h).1;have:=v.aI;omega,by have:=(X x h).2;omega⟩,(v.R aI B).R aL (λx i=>Z (by have:=u.aI;simp at i;omega))⟩
     ·refine mR λdj aJ aY dl=>?_
      have u:=bt.R aY B
      refine(ao u).2 ((c2 u).2 ?_)
      refine d2 u ?_
      refine(ao u).2 ?_
      refine dh u λd4 ap=>?_
      have v:=u.R ap B
      refine(ao v).2 ?_
      refine put v λae cF q f X aI=>?_
      refine ml (g:=c) ((aJ.J ap B).J aI B) rfl λcH bh aL dm=>?_
      exact⟨_,ae,q,rfl,bh,f.J aL (λx h i=>by have:=(X x h).1;have:=v.aI;have:=aJ.aL;have:=ap.aI;simp at i;omega),λx h=>⟨by have:=(X x h).1;have:=v.aI;omega,by have:=(X x h).2;omega⟩,(v.R aI B).R aL (λx i=>Z (by have:=u.aI;simp at i;omega))⟩
    rintro _ _ bg ⟨dg,V,q,rfl,d5,bu,X,bi⟩
    have bw:=n.V bi
    have dp:=dd.J bi B
    have fn:=aq.J bi B
    obtain⟨cg,bW,ch⟩:=vj bw.bg
    try simp only[M,N,O,P,bW]
    refine aH YJ (ajo bw.c2 A) ?_
    rintro gR cI ⟨cj,fo,fq,fr,d6,dr,bx⟩
    have gS:cj.length=g.f2.length:=by rw[<-d6,dU]
    have gT:=bu.J bx (bR.D _)
    have fs:∀ae∈kl (V,d.c2.ch),ae.oneCell'=G:=by intro ae d7;simp[kl]at d7;subst d7;exact bu.aW
    have cJ:V.cells=#[V]:=tI bu.aW
    refine hw mK [V] rfl rfl (by intro bm a6;simp at a6;subst a6;rw[cJ];rfl) A A λd8 ds aM gU=>?_
    have ds:aC d8 cI.heap.size 52 (kl (V,d.c2.ch)):=by simpa[cJ,kl]using ds
    refine m8 mK (fq.J aM B) ds.cy rfl fs A (by unfold d0;omega) A λdt bz bB d9 aZ fu fv=>?_
    have fy:=bx.aI
    have gV:=aM.aI
    have fz:=aZ.aI
    have fA:∀x∈bB,bg.heap.size<=x:=λx f=>(fu x f).elim (dr x) (λm=>A)
    have du:Q [] bg bz:=(bx.R aM B).R aZ (λx f=>Z (dr x f))
    have fB:=d5.J du B
    have gW:=bu.J du (bR.D _)
    refine(fj fB).2 ?_
    refine hw mK [V] rfl rfl (by intro bm a6;simp at a6;subst a6;rw[cJ];rfl) A A λec dv cK gX=>?_
    have dv:aC ec bz.heap.size 52 (kl (V,d.c2.ch)):=by simpa[cJ,kl]using dv
    have ee:=du.R cK B
    have fC:=bu.J ee (bR.D _)
    have fG:ju ec (T (E ⟨bz.heap.size,0,I⟩) 1 1) [d.c2.ch]:=⟨[(V,d.c2.ch)],⟨_,_,rfl,B,Z ⟨_,_,rfl,by simpa using dv.cy⟩⟩,by intro ab aF;simp at aF;subst aF;exact fC.1,rfl⟩
    refine aH Gv (IJ cU fG B) ?_
    rintro fH eg ⟨fJ,cL⟩
    have a7:=ee.R cL B
    obtain⟨bC,gr,cM,rfl,fM⟩:∃bC gr cM,fH=T bC gr cM/\bC.isNone=!lf c.aJ [d.c2.ch]:=by
     rcases fJ with⟨aw,rfl⟩|⟨aw,⟨fN,fO,rfl⟩,_⟩
     ·exact⟨_,_,_,rfl,by rw[aw];rfl⟩
     ·exact⟨_,_,_,rfl,by rw[aw];rfl⟩
    refine(eqSlNone TR).2 ?_
    rw[fM]
    have eh:=bw.V a7
    have dw:=dp.J a7 B
    have dx:=fn.J a7 B
    have fP:=b3.V (bi.R a7 B)
    refine cG.2 ⟨λbb=>?_,λbb=>?_⟩
    ·have bb:lf c.aJ [d.c2.ch]=U:=by simpa using bb
     obtain⟨bL,bM,be⟩:=BQ dw
     try simp only[M,N,O,P,be,hk hY]
     refine zp (cz:=.dD 11) fP.kF λei aR=>?_
     refine mW (x:=ve d 11) (dx.J aR B) rfl rfl λek cO cP fR=>?_
     have fT:=s.bg.aL
     have cQ:=s.k1.aL
     have bE:=s.vi
     have cS:=s.fW.aL
     have fU:=bV.aI
     have fV:=br.aI
     have fW:=s.J.aI
     have bG:=eh.V aR
     have am:pL bv ek fI hU hh cA hN fX aO g:=bG.ajp cP (by simp;omega) (λx f i=>by have:=cQ x f;simp at i;omega) (λx f i=>by have:=bE x f;simp at i;omega) (λx f i=>by have:=cS x f;simp at i;omega) (λx f=>by simp at f;omega)
     have bj:lS c.aJ an.cx.length g t d=E ⟨g.bd,g.f2,g.fW++[(t,ki d 11)]⟩:=by
      unfold lS
      rw[y]
      simp only[cE,bb]
      rfl
     exact⟨g.bd,g.f2,ki d 11,hU,hh,cA,aO,bj,⟨am.bg,am.k1,am.c2,am.fW,am.xK,am.kE,am.uk,am.wv,am.ul,am.nm,am.lC,am.o1,am.vi,am.J⟩,cb,cO,(dw.J aR B).J cP (by simp;omega),cO.aL⟩
    ·have bb:lf c.aJ [d.c2.ch]=G:=by simpa using bb
     refine(fj (d5.J a7 B)).2 ?_
     have fY:=bu.J a7 (bR.D _)
     have fZ:=d9.J (cK.R cL B) B
     have el:s9 eg (aO++(bB++q)) dt (g.f2++[d.c2.ch]):=by
      have f0:bP eg 52 1 dt (cj++[(V,d.c2.ch)]).length ((cj++[(V,d.c2.ch)]).flatMap kl) bB:=by
       have a5:(cj++[(V,d.c2.ch)]).flatMap kl=cj.flatMap kl++kl (V,d.c2.ch):=by rw[hL];simp
       rw[a5,di]
       exact fZ
      refine⟨cj++[(V,d.c2.ch)],(hp.c4 f0 TQ A).pI (λx f=>by simp[f]),λab aF=>?_,by rw[g6,d6];rfl⟩
      rcases b4.1 aF with aF|aF
      ·refine((fr ab aF).J (((aM.bw (dE:=fo) B).R aZ (λx f=>Y f)).R (cK.R cL B) B) (λx f i=>?_)).pI (λx f=>by simp[f])
       have:=n.vi x f
       have:=dr x i
       have:=bi.aI
       omega
      ·rw[ku.1 aF]
       exact fY.pI (λx f=>by simp[f])
     refine aH Gv (IJ cU el.g2 (by simp;omega)) ?_
     rintro f1 ei ⟨f2,aR⟩
     obtain⟨gY,gZ,g0,rfl,f3⟩:∃bC gr cM,f1=T bC gr cM/\bC.isNone=!lf c.aJ (g.f2++[d.c2.ch]):=by
      rcases f2 with⟨aw,rfl⟩|⟨aw,⟨fN,fO,rfl⟩,_⟩
      ·exact⟨_,_,_,rfl,by rw[aw];rfl⟩
      ·exact⟨_,_,_,rfl,by rw[aw];rfl⟩
     refine(eqSlNone TR).2 ?_
     rw[f3]
     have bG:=eh.V aR
     refine cG.2 ⟨λbk=>?_,λbk=>?_⟩
     ·have bk:lf c.aJ (g.f2++[d.c2.ch])=U:=by simpa using bk
      have bj:lS c.aJ an.cx.length g t d=I:=by
       unfold lS
       rw[y]
       simp only[cE,bb,bk]
       rfl
      rw[bj]
      exact⟨rfl,hU,hh,cA,hN,fX,aO,bG,cb⟩
     ·have bk:lf c.aJ (g.f2++[d.c2.ch])=G:=by simpa using bk
      have bj:lS c.aJ an.cx.length g t d=E ⟨ak,g.f2++[d.c2.ch],g.fW++[(t,⟨d.dF,0,ht.cu,ht.cu+ht.bV,[],[]⟩)]⟩:=by
       unfold lS
       rw[y]
       simp only[cE,bb,bk]
       rfl
      try simp only[M,N,O,P]
      refine eK CR bG.bg B rfl λek cO cP fR=>?_
      try simp only[M,N,O,P]
      refine eK FW cO B fv λem f4 f5 g1=>?_
      have bn:Q [fI] ei em:=cP.R f5 (λx f=>Y f)
      have fT:=s.bg.aL
      have cQ:=d1.aL
      have bE:=s.vi
      have cS:=s.fW.aL
      have fU:=bV.aI
      have fV:=br.aI
      have fW:=s.J.aI
      have g2:=a3.aI
      have g3:=bi.aI
      have g4:=a7.aI
      have eo:∀x∈q,z.heap.size<=x/\x<bg.heap.size:=X
      have f6:=d9.aL
      have f8:=d1.V ((bi.R a7 B).R aR B)
      have dy:∀x∈aO++(bB++q),x∈aO\/z.heap.size<=x:=λx f=>by
       rcases b4.1 f with f|f
       ·exact Y f
       ·rcases b4.1 f with f|f
        ·exact Z (by have:=fA x f;omega)
        ·exact Z (eo x f).1
      have ep:fI∉aO++(bB++q):=λm=>(dy _ m).elim s.wv (λh=>A)
      have g5:bz.heap.size<=em.heap.size:=by have:=cK.aI;have:=cL.aI;have:=aR.aI;have:=bn.aI;omega
      refine⟨ak,g.f2++[d.c2.ch],⟨d.dF,0,ht.cu,ht.cu+ht.bV,[],[]⟩,bX,L,dt,aO++(bB++q),bj,⟨by simpa using f4,f8.J bn (λx f i=>?_),(el.J aR (bR.D _)).J bn (λx f i=>by simp at i;subst i;exact ep f),bG.fW.J bn (λx f i=>by simp at i;subst i;exact s.ul f),λx f=>(dy x f).elim (s.xK x) (λh=>A),s.kE,s.uk,ep,s.ul,λm=>?_,λx f i=>?_,λx f i=>?_,λx f=>?_,bG.J.R bn (λx f=>Z (by simp at f;omega))⟩,Z (λx f=>?_),(dx.J aR B).J bn (by simp;omega),(dw.J aR B).J bn (by simp;omega),?_⟩
      ·have:=cB x f;simp at i;omega
      ·have:=cB _ m;omega
      ·have:=cS x i
       rcases dy x f with h|h
       ·exact s.lC x h i
       ·omega
      ·have:=cS x i;have:=cB x f;omega
      ·rcases b4.1 f with f|f
       ·have:=bE x f;omega
       ·rcases b4.1 f with f|f
        ·have:=f6 x f;omega
        ·have:=(eo x f).2;omega
      ·have:=cB x f;omega
      ·have:=dx.aL;omega
 rintro _ _ bg ⟨de,a5,ad,cy,b7,df,q,bj,bw,f9,cx,dp,g7⟩
 have ga:=cD [] bg
 obtain⟨cg,bW,ch⟩:=vj (bD bw.bg)
 obtain⟨bL,bM,be⟩:=BQ (bD dp)
 simp only[M,N,O,P,ch,bL]
 refine((c7.hJ (bD cx)).2.2.2.2.2.2 _).2 ?_
 refine(bY ajq).2 ?_
 refine hw F8 [b6 (k3 (t,ad)).toArray] rfl rfl (by intro bm a6;simp at a6;subst a6;rfl) A A λcI dD bx fy=>?_
 have dD:aC cI bg.heap.size 121 (k3 (t,ad)):=by simpa[bF]using dD
 have aY:=ga.R bx B
 have p:=bw.V aY
 refine(dz K4 (p.bg.bh (af:=2))).2 ?_
 have g8:g.fW.length<=16:=ew
 refine m8 F8 p.fW dD.cy rfl (Jm _) (by simp only;omega) (by unfold d0;simp only;omega) A λeq d8 dF gb aM gc gf=>?_
 try simp only[M,N,O,P]
 refine eK V9 (p.bg.J aM p.ul) B gf λbz gg aZ fz=>?_
 rw[bj]
 have g9:=bx.aI
 have hb:=p.J.aI
 have bE:=p.vi
 have cQ:=p.k1.aL
 have hc:=p.bg.aL
 have ca:∀x∈dF,x∈fX\/cI.heap.size<=x:=gc
 refine⟨rfl,cy,b7,df,eq,dF,q,⟨by simpa using gg,(p.k1.J aM p.o1).J aZ (λx f i=>p.nm (by simp at i;subst i;exact f)),(p.c2.J aM p.lC).J aZ (λx f i=>p.wv (by simp at i;subst i;exact f)),?_,p.xK,λx f=>(ca x f).elim (p.kE x) (λm=>A),p.uk,p.wv,λm=>(ca _ m).elim p.ul (λm=>A),p.nm,λx f i=>(ca x i).elim (p.lC x f) (λm=>by have:=bE x f;omega),λx f i=>(ca x i).elim (p.o1 x f) (λm=>by have:=cQ x f;omega),λx f=>by have:=bE x f;have:=aM.aI;have:=aZ.aI;omega,(p.J.R aM (λx f=>Z (p.kE x f))).R aZ (λx f=>Z (by simp at f;subst f;exact p.uk))⟩,f9⟩
 have a5:(g.fW++[(t,ad)]).flatMap k3=g.fW.flatMap k3++k3 (t,ad):=by rw[hL];simp
 show bP bz _ 7 eq (g.fW++[(t,ad)]).length ((g.fW++[(t,ad)]).flatMap k3) dF
 rw[a5,di]
 exact gb.J aZ (λx f i=>by
  simp at i
  subst i
  exact(ca _ f).elim p.ul (λm=>A))
end
def fM.o2(g:fM):Prop:=∀ai∈g.fW,ai.2.gj=[]/\ai.2.dY=[]
def TV{g c:fM}(h:g.o2)(a:lS k k7 g t d=E c):c.o2:=by
 have bz:∀{ad:dn},ad.gj=[]->ad.dY=[]->∀ai∈g.fW++[(t,ad)],ai.2.gj=[]/\ai.2.dY=[]:=by
  intro ad e f ai b
  rcases b4.1 b with b|b
  ·exact h ai b
  ·rw[ku.1 b];exact⟨e,f⟩
 unfold lS at a
 split at a
 ·cases a;exact bz rfl rfl
 ·split at a
  ·cases a;exact bz rfl rfl
  ·split at a
   ·cases a;exact bz rfl rfl
   ·split at a
    ·cases a
    ·cases a;exact bz rfl rfl
def TW{g:fM}{w:Nat×dl}{ef:List (Nat×dl)}:mP k k7 g (w::ef)=match lS k k7 g w.1 w.2 with
 |none=>g
 |some a=>mP k k7 a ef:=rfl
def ajs{g b:fM}(h:g.f2=[]\/lf k g.f2=G)(a:lS k k7 g t d=E b):b.f2=[]\/lf k b.f2=G:=by
 unfold lS at a
 split at a
 ·cases a;exact h
 ·split at a
  ·cases a;exact h
  ·split at a
   ·cases a;exact h
   ·split at a
    ·cases a
    ·rename_i c
     cases a
     exact Z (by simpa using c)
section
variable{g:fM}
def ajt:eH C 134 179 15 k2 λx=>b6 (k2 x).toArray:=eH.rx C6 F4 Ji Lg
def aju{x:s8}(d:x.2.2.oneCell'=G)(k:∀a,Q [] w a->ac (b6 (k2 x).toArray) a):
  W C (hV 179) w λaa aA=>W C (dC 179 aa (b6 (k2 x).toArray)) aA λ_ ax=>aZ C (a4 179 aa) ax λab=>ac ab ax:=by
 refine gI (bm:=b6 (k2 (0,jF,T I 0 0)).toArray) (by unfold du;kernel_rfl) λaA b e g=>?_
 have b:aC aA w.heap.size 179 (k2 (0,jF,T I 0 0)):=by simpa[bF]using b
 refine f0 (cv:=[]) (c5:=k2 (0,jF,T I 0 0)) (da:=[]) F4 (by simpa using b) rfl rfl rfl (by simpa[bF]using TP d) λax c f h=>?_
 have c:aC ax w.heap.size 179 (k2 x):=by simpa[bF]using c
 refine(gC (l:=k2 x) Lg c.cy).2 ?_
 exact k ax (e.R f B)
structure ajv(w a:aN)(b:Nat)(am:List Nat)(ab:Nat)(c:dR)(aB:Nat->Bool)(ay al:Nat->Nat->Bool)(ai aQ:Nat)(an:cK)(ae:S)(az:List Nat)(gg:eW)(dL:Nat)(hN:S)(fX:List Nat):Prop where
 eq:ae=bQ #[hN,F H (mP c.aJ an.cx.length ⟨an.bd,[],[]⟩ an.cn).fW.length]
 hK:h2 a b az ab c gg aB ay al dL aQ {(an.dg c.aJ c.bd).1 with cn:=an.cn}
 de:bX am az w a
 fW:bP a 121 7 hN (an.dg c.aJ c.bd).2.length ((an.dg c.aJ c.bd).2.flatMap k3) fX
 cq:∀x∈fX,w.heap.size<=x
 mV:bR az fX
 TX:dL<=ai+1
def ajw:C.built 267 #[(0,aP n)].toList=E #[aP n,T I 0 0,T I 0 0]:=K
variable{ef:List s8}
def v1(h:h2 w b am ab c au aB ay ix ai aQ an)(ao:qo c aB ay)(bg:ai+1<=1152921504606846976)(bh:an.cn≠[])(bj:an.cx.length<c.bd):
  a0 C 91 #[aP b] w λae a=>∃az gg dL hN fX,ajv w a b am ab c aB ay ix ai aQ an ae az gg dL hN fX:=by
 have s:=h.aL
 obtain⟨ah,cR,b8,dB,fL,ej,dq,aD,c0,ef,h,rfl⟩:=h
 have bk:=h.ij.ij.cL.1
 have b0:=bk.jZ
 have bl:an.bd.bp 1024:=h.cL.bd A
 have b1:an.cn.length=ef.length:=by rw[h.pJ,dU]
 have b2:=h.cL.iG
 refine a9 MM 1 Tryz.func91 K rfl λa1 bm=>?_
 simp+decide (maxSteps:=9999999)only[↓a8,ba,MM,Tryz.f91]
 subst bm
 refine Jj h λax aG=>?_
 refine(fp dk).2 ?_
 refine cG.2 ⟨λm=>(by cases m),λ_=>?_⟩
 have R:=h.V aG
 obtain⟨aZ,aI,a2,aJ,a3,aL,a4⟩:=l0 R.bg
 try simp only[M,N,O,P,aJ]
 refine(bY ajw).2 ?_
 refine eA λa5 ap bn b3=>?_
 have ap:aC a5 ax.heap.size 267 [aP dB,T I 0 0,T I 0 0]:=by simpa[bF]using ap
 have a6:=aG.R bn B
 have aM:=h.V a6
 have b7:=aG.aI
 have b9:=ap.aL
 generalize ca:ax.heap.size=fI at*
 have a7:fI∉[b,b8]++(ej++(dq++(aD++c0))):=λm=>by have:=s _ m;omega
 have bo:pL w a5 fI dB dq (T I 0 0) (T I 0 0) [] [] ⟨an.bd,[],[]⟩:=
  ⟨ap,aM.k1,s9.gW,gJ _ _ _,B,B,A,B,B,λm=>a7 (by simp[m]),bR.D _,bR.D _,B,a6⟩
 obtain⟨cb,cc,bp,_⟩:=id aM.c4.jD
 refine bT (λV a=>∃g hU hh cA hN fX aO,mP c.aJ an.cx.length ⟨an.bd,[],[]⟩ an.cn=g/\(g.f2=[]\/lf c.aJ g.f2=G)/\(∃ak,g.bp an.bd an.cx.length ak/\ak<=ef.length)/\g.o2/\pL w a fI hU hh cA hN fX aO g/\((g.f2=[]/\hU=dB/\hh=dq)\/∀x∈hh,w.heap.size<=x)) ?_ ?_
 ·obtain⟨aZ,aI,a2,aJ,a3,aL,a4⟩:=l0 aM.bg
  try simp only[M,N,O,P,aL]
  subst bp
  try simp only[M,N,O,P]
  refine c1 (λV a=>∃(i:Nat)(g:fM)(hU:Nat)(hh:List Nat)(cA hN:S)(fX aO:List Nat),V=[F H i]/\i<=ef.length/\mP c.aJ an.cx.length ⟨an.bd,[],[]⟩ an.cn=mP c.aJ an.cx.length g (an.cn.drop i)/\(g.f2=[]\/lf c.aJ g.f2=G)/\g.bp an.bd an.cx.length i/\g.o2/\pL w a fI hU hh cA hN fX aO g/\((g.f2=[]/\hU=dB/\hh=dq)\/∀x∈hh,w.heap.size<=x)) (λV _=>match V with|[F _ i]=>ef.length-i.toNat|_=>0)
   ⟨0,_,dB,dq,_,_,[],[],rfl,A,rfl,Y rfl,⟨rfl,fF _,rfl⟩,by simp[fM.o2],bo,Y ⟨rfl,rfl,rfl⟩⟩ ?_
  rintro _ _ u ⟨i,g,hU,hh,cA,hN,fX,aO,rfl,al,o,v,r,ac,n,aq⟩
  have p:=h.V n.J
  try simp only[M,N,O,P]
  try simp only[bi]
  refine⟨λbr=>?_,λcd=>?_⟩
  ·have ar:i<ef.length:=A
   have bs:=p.c4.eF Ji A
   refine(ajt.ek bs (Q.b0 _ _) ar).2 ?_
   have bt:=p.vg _ (dX ar)
   have bu:=h.vg _ (dX ar)
   refine aju bt.1.aW λav y=>?_
   have aw:=h.cL.jU (ef[i].1,ef[i].2.1) (by rw[h.pJ];exact mz (f:=λx:s8=>(x.1,x.2.1)) (dX ar))
   have bv:an.cn.drop i=(ef[i].1,ef[i].2.1)::an.cn.drop (i+1):=by
    have:i<an.cn.length:=A
    rw[ot this]
    congr 1
    simp[h.pJ]
   rw[bv]at o
   have bw:g.bd.bp (1024+g.f2.length):=Hh bl r.nf
   have bx:=r.hm
   have bz:=r.dT
   have bB:=ajr (t:=ef[i].1) (d:=ef[i].2.1) (bc:=ef[i].2.2) h (n.V y) aq bw A aw.1 aw.2 bu A A ac
   refine aH Yh bB ?_
   rintro ae aR ad
   unfold TU at ad
   rw[TW]at o
   cases af:lS c.aJ an.cx.length g ef[i].1 ef[i].2.1 with
   |none=>
    rw[af]at ad o
    obtain⟨rfl,hU,hh,cA,hN,fX,aO,aS,aT⟩:=ad
    try simp only[M,N,O,P]
    refine cG.2 ⟨λ_=>?_,λm=>(by cases m)⟩
    exact⟨g,hU,hh,cA,hN,fX,aO,o,v,⟨i,r,al⟩,ac,aS,aT⟩
   |some bC=>
    rw[af]at ad o
    obtain⟨rfl,hU,hh,cA,hN,fX,aO,aS,aT⟩:=ad
    try simp only[M,N,O,P]
    refine cG.2 ⟨λm=>(by cases m),λ_=>?_⟩
    try simp only[M,N,O,P]
    rw[bq A A]
    exact⟨⟨i+1,bC,hU,hh,cA,hN,fX,aO,by trivial,A,o,ajs v af,Hr r (tU aw.1 aw.2) af,TV ac af,aS,aT⟩,by simp;omega⟩
  ·have bE:i=an.cn.length:=A
   rw[bE,List.drop_length]at o
   exact⟨g,hU,hh,cA,hN,fX,aO,o,v,⟨i,r,al⟩,ac,n,aq⟩
 rintro _ _ u ⟨g,hU,hh,cA,hN,fX,aO,o,v,⟨ak,r,l⟩,ac,n,aq⟩
 have p:=h.V n.J
 obtain⟨cf,cg,bG,_⟩:=id n.fW.jD
 obtain⟨ch,ci,bH⟩:=n.c2.g2.cY
 have bx:=r.hm
 have bz:=r.dT
 obtain⟨ag,W,z⟩:=vj n.bg
 try simp only[M,N,O,P,z]
 subst bG
 try simp only[M,N,O,P]
 try simp only[M,N,O,P,W]
 subst bH
 have cj:=n.J.aI
 try simp only[M,N,O,P,bi]
 refine⟨λbb=>?_,λbb=>?_⟩
 ·have bI:g.f2=[]:=List.length_eq_zero_iff.1 A
  obtain⟨ag,W,z⟩:=vj n.bg
  try simp only[M,N,O,P,z]
  have X:an.dg c.aJ c.bd=({an with cn:=an.cn.drop g.fW.length},g.fW):=by
   unfold cK.dg
   rw[o]
   simp[bI]
  refine⟨_,au,ai,_,fX,⟨by rw[o],?_,bX.iu n.J,?_,n.kE,λx j l=>?_,A⟩⟩
  ·rw[X]
   exact⟨ah,cR,b8,dB,fL,ej,dq,aD,c0,ef,p,rfl⟩
  ·rw[X];exact n.fW
  ·have:=s x j;have:=n.kE x l;omega
 ·have aU:g.f2≠[]:=λe=>bb (by rw[e];rfl)
  have v:lf c.aJ g.f2=G:=v.resolve_left aU
  have D:∀x∈hh,w.heap.size<=x:=aq.resolve_left (λm=>aU m.1)
  have aV:=cD [] u
  obtain⟨aZ,aI,a2,aJ,a3,aL,a4⟩:=l0 (bD p.bg)
  obtain⟨ag,W,z⟩:=vj (bD n.bg)
  try simp only[M,N,O,P,aI,W]
  refine aH Yi (ahf (p.V aV).ij ao (n.c2.g2.V aV) A v bg) ?_
  rintro ck av bJ
  obtain⟨br,rfl,aA,bK,be⟩:=bJ.resolve_right (λm=>by have:=m.1;omega)
  have y:Q ej u av:=((aV.bw B).R be.J (λx j=>Y j))
  have aj:∀x∈ej,x<w.heap.size:=λx j=>s x (by simp[j])
  have cm:=n.uk
  have J:∀x∈aA,x∈ej\/u.heap.size<=x:=be.cq
  have cp:pL w u fI hU hh _ _ fX aO g:=n
  have bf:=n.bg.J y (λm=>by have:=aj _ m;omega)
  have bL:iJ av hU hh g.bd:=n.k1.J y (λx j l=>by have:=aj _ l;have:=D x j;omega)
  have bM:=n.fW.J y (λx j l=>by have:=aj _ l;have:=n.kE x j;omega)
  have bP:=p.bg.J y (λl=>h.lk b B (by simp[l]))
  simp only[cV,cX]
  refine bT (λV a=>V=[]/\aC a b 136 (lj ab ah hU b8 fL an.cQ)/\Q [b] av a) ?_ ?_
  ·simp only[hk hY]
   refine aH Da (GI (k:=5)) ?_
   rintro _ _ ⟨rfl,rfl⟩
   refine cG.2 ⟨λm=>(by cases m),λ_=>?_⟩
   refine(fp dk).2 ?_
   refine cG.2 ⟨λm=>(by cases m),λ_=>?_⟩
   obtain⟨ag,W,z⟩:=vj bf
   try simp only[M,N,O,P,ag]
   refine ajk bP λaR aW L cq=>?_
   exact⟨by trivial,aW,L⟩
  rintro _ _ aR ⟨rfl,aW,L⟩
  have bU:fI≠b:=λe=>a7 (by simp[e])
  obtain⟨ag,W,z⟩:=vj (bf.J L (by simp;exact bU))
  try simp only[M,N,O,P,z]
  have X:an.dg c.aJ c.bd=({an with cx:=an.cx++[g.f2],bd:=g.bd,cn:=an.cn.drop g.fW.length},g.fW):=by
   unfold cK.dg
   rw[o]
   simp only[if_pos bj]
   rw[if_neg (by simpa using aU)]
  have aF:=cK.v1 (k:=c.aJ) h.cL bh
  rw[X]at aF
  have aa:Q (b::ej) u aR:=(y.bw (λx j=>Y (by simp[j]))).R L (λx j=>Y (by simp at j;simp[j]))
  have bV:∀{aX:List Nat},(∀x∈aX,x∉ej)->(∀x∈aX,x<u.heap.size)->bR aA aX:=λq R x j l=>(J x j).elim (q x l) (λm=>by have:=R x l;omega)
  have bW:=n.k1.aL
  have bZ:=n.fW.aL
  have aY:∀x,x∈b::ej->x∉b8::(aD++c0):=by
   intro x j l
   rcases ce.1 j with rfl|j
   ·rcases ce.1 l with rfl|l
    ·exact h.g1 rfl
    ·exact h.lk x B (by simp at l⊢;rcases l with l|l<;>simp[l])
   ·rcases ce.1 l with rfl|l
    ·exact h.lk x B (by simp[j])
    ·exact h.lC x j (by simp at l⊢;rcases l with l|l<;>simp[l])
  refine⟨[b,b8]++(aA++(hh++(aD++c0))),au.lY c an.cx.length (qk c.aJ (g5 g.f2)) (ai+1),ai+1,_,fX,⟨by rw[o],?_,?_,?_,n.kE,?_,A⟩⟩
  ·rw[X]
   refine⟨ah,cR,b8,hU,fL,aA,hh,aD,c0,ef,⟨aW,bK.J L ?_,p.wt.J aa ?_,bL.J L ?_,p.c4.J aa ?_,h.pJ,λx j=>(p.vg x j).J aa ?_,?_,h.g1,?_,?_,?_,h.wu,?_,?_,⟨aF.1.nf,aF.1.dT,aF.1.n1,h.cL.iG,h.cL.jU⟩,h.mt,h.fO⟩,rfl⟩
   ·intro x j l
    simp at l
    subst l
    exact(J x j).elim (λm=>h.lk x B (by simp[m])) (λm=>by have:=h.bg.aL;omega)
   ·exactλl=>aY b8 l B
   ·intro x j l
    simp at l
    have:=D x j
    have:=h.bg.aL
    omega
   ·exactλx j l=>aY x l (by simp[j])
   ·exactλx j l=>aY x l (by simp[j])
   ·intro x j
    have:=p.vh x j
    have:=aa.aI
    omega
   ·intro x j l
    have q:=h.lk x j
    have R:=s x (hg _ j)
    simp only[b4,not_or]at l q
    rcases l with l|l|l|l
    ·exact(J x l).elim q.1 (λm=>A)
    ·have:=D x l;omega
    ·exact q.2.2.1 l
    ·exact q.2.2.2 l
   ·refine(bR.tV (λx j l=>?_) (bV (λx j l=>h.lC x l (by simp at j⊢;rcases j with j|j<;>simp[j])) (λx j=>by have:=p.aL x (by simp at j⊢;rcases j with j|j<;>simp[j]);omega)))
    rcases J x j with m|m
    ·have:=aj x m;have:=D x l;omega
    ·have:=bW x l;omega
   ·intro x j l
    have:=D x j
    have:=s x (by simp at l⊢;rcases l with l|l<;>simp[l])
    omega
   ·exact p.kF.J aa (λl=>h.pK (by simp at l⊢;rcases l with l|l<;>simp[l]))
   ·intro l
    have q:=h.pK
    have R:=h.kF.aL
    simp only[b4,not_or]at l q
    rcases l with l|l|l|l|l
    ·exact q.1 l
    ·exact(J _ l).elim q.2.1 (λm=>A)
    ·have:=D _ l;omega
    ·exact q.2.2.2.1 l
    ·exact q.2.2.2.2 l
  ·refine⟨(n.J.bw B).R aa (λx j=>Y (by simp at j⊢;rcases j with j|j<;>simp[j])),λx j=>?_⟩
   simp only[b4]at j⊢
   rcases j with j|j|j|j|j
   ·exact Y (Y j)
   ·exact(J x j).imp (λm=>Z (Y m)) (λm=>A)
   ·exact Z (D x j)
   ·exact Y (Z (Z (Z (Y j))))
   ·exact Y (Z (Z (Z (Z j))))
  ·rw[X]
   exact bM.J L (λx j l=>by simp at l;subst l;have:=n.kE _ j;have:=h.bg.aL;omega)
  ·intro x j l
   have q:=n.kE x l
   have R:=bZ x l
   simp only[b4]at j
   rcases j with j|j|j|j|j
   ·have:=s x (hg _ j);omega
   ·exact(J x j).elim (λm=>by have:=aj x m;omega) (λm=>A)
   ·exact n.o1 x j l
   ·have:=s x (by simp[j]);omega
   ·have:=s x (by simp[j]);omega
end
section
variable{g:fM}
def TY{aU:Type}{be:aU->List S}{a6:Nat}(a:∀x,(be x).length=a6):∀(ak:Nat)(l:List aU),(l.drop ak).flatMap be=(l.flatMap be).drop (ak*a6)
 |0,l=>B
 |ak+1,[]=>B
 |ak+1,ap::l=>by
  rw[List.drop_succ_cons,iA,TY a ak l,List.drop_append,a,show(ak+1)*a6-a6=ak*a6 by rw[iM];omega,List.drop_of_length_le (l:=be ap) (by rw[a,iM];omega)]
  rfl
variable{ef:List s8}
def l1.TZ{wK:List s8}(h:l1 w b ab ah cR b8 dB fL ej dq aD c0 ef c au aB ay al ai aQ an)(j:Q [b] w a)(o:aC a b 136 (lj ab ah dB b8 wI an.cQ))(p:bP a 179 15 wI wK.length (wK.flatMap k2) ez)(k:∀g∈ez,g∈aD)(m:∀x∈wK,x∈ef)(u:wK.length<=ef.length):
  l1 a b ab ah cR b8 dB wI ej dq ez c0 wK c au aB ay al ai aQ {an with cn:=wK.map λx=>(x.1,x.2.1)}:=by
 have l:bR (ej++(dq++(aD++c0))) [b]:=(h.lk.d1 (az:=[b]) B (λ_ h=>h)).nc
 have v:=h.g1
 have q:0∉[b]:=λe=>h.pK (by simp at e;simp[e])
 have n:∀x,x∈ej++(dq++(ez++c0))->x∈ej++(dq++(aD++c0)):=λx d=>by
  simp only[b4]at d⊢
  rcases d with d|d|d|d
  ·exact Y d
  ·exact Z (Y d)
  ·exact Z (Z (Y (k x d)))
  ·exact Z (Z (Z d))
 have r:∀x,x∈ez++c0->x∈aD++c0:=λx d=>by
  simp only[b4]at d⊢
  exact d.imp (k x) id
 refine⟨o,h.ij.J j (λg i=>l g (by simp[i])),h.wt.J j (by simp;omega),h.k1.J j (λg i=>l g (by simp[i])),p,rfl,λx d=>(h.vg x (m x d)).J j (λg i=>l g (by simp[i])),λg i=>iL (h.vh g i) j.aI,h.g1,h.lk.d1 (λ_ h=>h) n,h.lC.d1 (λ_ h=>h) (λx d=>?_),h.o1.d1 (λ_ h=>h) r,h.wu.d1 k (λ_ h=>h),h.kF.J j q,λe=>h.pK ?_,?_,h.mt,h.fO⟩
 ·simp only[b4]at d⊢
  rcases d with d|d|d
  ·exact Y d
  ·exact Z (Y (k x d))
  ·exact Z (Z d)
 ·rcases b4.1 e with e|e
  ·exact hg _ e
  ·exact h3 _ (n _ e)
 ·have:=h.cL
  refine⟨this.nf,this.dT,this.n1,?_,λap s=>?_⟩
  ·have t:=this.iG
   rw[h.pJ,dU]at t
   simp only[dU]
   omega
  ·obtain⟨x,d,rfl⟩:=fS.1 s
   exact this.jU _ (by rw[h.pJ];exact mz (f:=λx:s8=>(x.1,x.2.1)) (m x d))
def ww(w:aN)(b:Nat):Nat:=match w.cell? ⟨b,5,I⟩with
 |some (T _ n _)=>n
 |_=>0
def h2.pM(h:h2 w b am ab c au aB ay al ai aQ an):jf w:=by
 obtain⟨ah,cR,b8,dB,fL,ej,dq,aD,c0,ef,h,rfl⟩:=h
 exact h.kF
def h2.ww(h:h2 w b am ab c au aB ay al ai aQ an):ww w b=an.cn.length:=by
 obtain⟨ah,cR,b8,dB,fL,ej,dq,aD,c0,ef,h,rfl⟩:=h
 obtain⟨a,cC,rfl,_⟩:=id h.c4.jD
 have:=h.bg.bh (af:=5)
 unfold Go.Proofs.YtepeilglbedgdaaGreatDoor.ww
 rw[this]
 simp[lj,h.pJ]
structure ajx(w a:aN)(b:Nat)(am:List Nat)(ab:Nat)(c:dR)(aB:Nat->Bool)(ay al:Nat->Nat->Bool)(ai aQ:Nat)(an:cK)(az:List Nat)(gg:eW)(dL:Nat)(hN:S)(fX:List Nat):Prop where
 hK:h2 a b az ab c gg aB ay al dL aQ (an.j0 c.aJ c.bd).1
 de:bX am az w a
 fW:bP a 121 7 hN (an.j0 c.aJ c.bd).2.length ((an.j0 c.aJ c.bd).2.flatMap k3) fX
 cq:∀x∈fX,w.heap.size<=x
 mV:bR az fX
 TX:dL<=ai+an.cn.length
def zr(k aX n:Nat)(an:cK):ne k aX (n+1) an=if an.cn.isEmpty then(an,[])else((ne k aX n (an.dg k aX).1).1,(an.dg k aX).2++(ne k aX n (an.dg k aX).1).2):=rfl
def T0{k aX:Nat}:∀{n:Nat}{an:cK},an.bp aX->an.cn.length<=n->ne k aX (n+1) an=ne k aX n an
 |0,an,h,a=>by
  have:an.cn=[]:=List.length_eq_zero_iff.1 A
  simp[ne,this]
 |n+1,an,h,a=>by
  rw[zr k aX (n+1) an,zr k aX n an]
  split
  ·rfl
  ·rename_i b
   have:=cK.v1 (k:=k) h (by simpa using b)
   rw[T0 this.1 A]
def T1{k aX:Nat}{an:cK}(h:an.bp aX):∀ag,ne k aX (an.cn.length+ag) an=an.j0 k aX
 |0=>rfl
 |ag+1=>by rw[<-sp,T0 h A,T1 h ag]
def ajy(h:an.bp aX)(a:an.cn≠[]):an.j0 k aX=(((an.dg k aX).1.j0 k aX).1,(an.dg k aX).2++((an.dg k aX).1.j0 k aX).2):=by
 have b:=cK.v1 (k:=k) h a
 obtain⟨ak,c⟩:∃ak,an.cn.length=ak+1:=⟨an.cn.length-1,A⟩
 have e:=T1 (k:=k) b.1 (ak-(an.dg k aX).1.cn.length)
 rw[show(an.dg k aX).1.cn.length+(ak-(an.dg k aX).1.cn.length)=ak by omega]at e
 unfold cK.j0 at e⊢
 rw[c,zr,if_neg (by simpa using a),e]
def Ht(h:h2 w b am ab c au aB ay ix ai aQ an)(ao:qo c aB ay)(bx:ai+17<=1152921504606846976)(aS:an.cx.length+an.cn.length<=c.bd):
  a0 C 51 #[aP b] w λae a=>∃az gg dL fX,ajx w a b am ab c aB ay ix ai aQ an az gg dL ae fX:=by
 refine a9 Ms 1 Tryz.func51 K rfl λa1 aT=>?_
 simp+decide (maxSteps:=9999999)only[↓a8,ba,Ms,Tryz.f51]
 subst aT
 have bz:an.cn.length<=16:=by
  obtain⟨ah,cR,b8,dB,fL,ej,dq,aD,c0,ef,h,rfl⟩:=h
  exact h.cL.iG
 have bB:=h.aL
 refine c1 (λX a=>∃(az:List Nat)(gg:eW)(dL:Nat)(dO:cK)(hN:S)(dM:List (Nat×dn))(fX:List Nat),X=[hN]/\h2 a b az ab c gg aB ay ix dL aQ dO/\bX am az w a/\bP a 121 7 hN dM.length (dM.flatMap k3) fX/\(∀x∈fX,w.heap.size<=x)/\bR az fX/\dL+dO.cn.length<=ai+an.cn.length/\dO.cx.length+dO.cn.length<=c.bd/\dM.length+dO.cn.length<=an.cn.length/\an.j0 c.aJ c.bd=((dO.j0 c.aJ c.bd).1,dM++(dO.j0 c.aJ c.bd).2)) (λ_ a=>ww a b)
  ⟨am,au,ai,an,_,[],[],rfl,h,.b0 _ _,gJ _ _ _,B,bR.D _,A,aS,B,B⟩ ?_
 rintro _ _ ax ⟨az,gg,dL,dO,hN,dM,fX,rfl,aa,ac,aq,y,p,bC,bD,bE,z⟩
 have aU:=aa.ww
 have aV:=aa
 obtain⟨ah,cR,b8,dB,fL,ej,dq,aD,c0,ef,q,rfl⟩:=aa
 obtain⟨bG,bH,aW,_⟩:=id q.c4.jD
 have bI:dO.cn.length=ef.length:=by rw[q.pJ,dU]
 obtain⟨aX,aY,aZ,a2,a3,ad,a4⟩:=l0 q.bg
 refine bT (λX a=>X=[aK (decide (0<dO.cn.length))]/\Q [] ax a) ?_ ?_
 ·try simp only[M,N,O,P,ad]
  rw[aW]
  try simp only[M,N,O,P,bi]
  refine⟨λr=>?_,λr=>⟨by rw[decide_eq_false A],.b0 _ _⟩⟩
  refine Jj q λa5 j=>?_
  simp only[hk hY]
  refine aH Da (GI (k:=5)) ?_
  rintro _ _ ⟨rfl,rfl⟩
  try simp only[M,N,O,P]
  refine⟨?_,j⟩
  rw[decide_eq_true A]
  rfl
 rintro _ _ a5 ⟨rfl,j⟩
 have s:=q.V j
 have ar:=aq.J j B
 try simp only[M,N,O,P,bi]
 refine⟨λr=>?_,λr=>?_⟩
 ·have D:dO.cn≠[]:=λe=>by rw[e]at r;simp at r
  refine aH XM (v1 (aV.V j) ao A D A) ?_
  rintro _ a6 ⟨bJ,av,aw,bK,bL,⟨rfl,t,u,a7,bM,bU,bV⟩⟩
  simp only[cV,cX]
  try simp only[M,N,O,P]
  obtain⟨bW,af,bY,bZ⟩:=Hs dO c.aJ c.bd s.cL D
  have bb:=cK.v1 (k:=c.aJ) s.cL D
  have bc:=ajy (k:=c.aJ) s.cL D
  have b0:(dO.dg c.aJ c.bd).2.length<=dO.cn.length:=by
   unfold cK.dg
   simp only
   have:=af.dT
   split
   ·simp only;omega
   ·split
    ·simp only;omega
    ·simp only[dU,List.length_zip];omega
  have aA:(dO.dg c.aJ c.bd).1.cn=dO.cn.drop (mP c.aJ dO.cx.length ⟨dO.bd,[],[]⟩ dO.cn).fW.length:=by
   unfold cK.dg
   simp only
   split
   ·rfl
   ·split<;>rfl
  have b1:(dO.dg c.aJ c.bd).1.cx.length<=dO.cx.length+1:=by
   unfold cK.dg
   simp only
   split
   ·simp only;omega
   ·split
    ·simp only[di,nt];omega
    ·simp only;omega
  have b2:(dO.dg c.aJ c.bd).2.length+(dO.dg c.aJ c.bd).1.cn.length<=dO.cn.length:=by
   rw[aA,e8]
   have b3:=af.dT
   have:(dO.dg c.aJ c.bd).2.length<=(mP c.aJ dO.cx.length ⟨dO.bd,[],[]⟩ dO.cn).fW.length:=by
    unfold cK.dg
    simp only
    split
    ·simp only;omega
    ·split
     ·simp only;omega
     ·simp only[dU,List.length_zip];omega
   omega
  generalize b7:(mP c.aJ dO.cx.length ⟨dO.bd,[],[]⟩ dO.cn).fW.length=i at*
  have b9:i<=dO.cn.length:=by have:=af.dT;omega
  have aC:=aq.aL
  have ca:=j.aI
  have cb:=ac.J.aI
  have bd:∀x∈fX,x∉[b,b8]++(ej++(dq++(aD++c0))):=λx d f=>p x f d
  have bf:=ar.J u.J bd
  refine BF (l:=dM) (be:=k3) F8 bf C5 EY (λx _=>Jm x) (a7.eF EY A) A (by unfold d0;omega) λbg ag bh bj aj aF=>?_
  have bk:=t.J aF (λx d f=>(u.cq x d).elim (λg=>p x g f) (λg=>by have:=aC x f;omega)) (λf=>by have:=y _ f;have:=h.pM.aL;omega)
  obtain⟨bl,bm,J,bn,cc,L,R,n,V,m,o,rfl⟩:=bk
  have aG:dO.cn=m.map λx=>(x.1,x.2.1):=o.pJ
  have cd:m.length=dO.cn.length:=by rw[aG,dU]
  obtain⟨aI,aJ,aL,cf,_⟩:=id o.c4.jD
  obtain⟨aX,aY,aZ,a2,a3,ad,a4⟩:=l0 o.bg
  try simp only[M,N,O,P,ad]
  have bo:=o.c4.jd aL (k:=i) A
  rw[aL]
  refine(rs C6 F4 A A).2 ?_
  rw[hf]
  have bp:bP ag 179 15 (T (if aJ=i then aI else aI.map (·.add (i*15))) (m.length-i) (aJ-i)) (m.drop i).length ((m.drop i).flatMap k2) n:=by
   rw[e8,TY Ji]
   exact bo
  try simp only[M,N,O,P]
  refine Jk o.bg rfl λak bq W cg=>?_
  have br:b∉n:=λg=>o.lk b B (by simp[g])
  have aM:=o.TZ (wK:=m.drop i) (ez:=n) W bq (bp.J W (λx d f=>br (by simp at f;subst f;exact d))) (λ_ h=>h) (λx d=>tr d) B
  have bs:({({(dO.dg c.aJ c.bd).1 with cn:=dO.cn}:cK)with cn:=(m.drop i).map λx=>(x.1,x.2.1)}:cK)=(dO.dg c.aJ c.bd).1:=by
   have:(m.drop i).map (λx:s8=>(x.1,x.2.1))=(dO.dg c.aJ c.bd).1.cn:=by rw[aA,List.map_drop,<-aG]
   simp only[this]
  rw[bs]at aM
  have bt:bX ([b,J]++(L++(R++(n++V)))) ([b,J]++(L++(R++(n++V)))) ag ak:=⟨W.bw (λx d=>Y (by simp at d;simp[d])),λx d=>Y d⟩
  have aO:=t.aL
  have aR:h2 ak b _ ab c av aB ay ix aw aQ (dO.dg c.aJ c.bd).1:=⟨bl,bm,J,bn,_,L,R,n,V,_,aM,rfl⟩
  have bu:bX am ([b,J]++(L++(R++(n++V)))) w ag:=by
   have v:=(ac.oM j).dP u
   exact⟨v.J.R aF (λx d=>Z (y x d)),v.cq⟩
  refine⟨⟨_,av,aw,(dO.dg c.aJ c.bd).1,bg,dM++(dO.dg c.aJ c.bd).2,bh,by trivial,aR,bu.dP bt,bj.J W (λx d f=>?_),λx d=>?_,λx d f=>?_,A,A,by rw[di];omega,?_⟩,?_⟩
  ·simp at f
   subst f
   rcases aj x d with g|g
   ·exact p x B g
   ·have:=aO x B;omega
  ·rcases aj x d with g|g
   ·exact y x g
   ·have:=j.aI;have:=u.J.aI;omega
  ·rcases aj x f with g|g
   ·rcases u.cq x d with v|v
    ·exact p x v g
    ·have:=aC x g;omega
   ·have:=aO x d;omega
  ·rw[z,bc,gq]
  ·show ww ak b<ww ax b
   rw[aR.ww,aU]
   exact bb.2
 ·have al:dO.cn=[]:=List.length_eq_zero_iff.1 A
  have ch:ef=[]:=List.length_eq_zero_iff.1 A
  try simp only[M,N,O,P]
  refine Jk s.bg (wI:=T I 0 0) rfl λa6 bv ap ci=>?_
  have bw:dO.j0 c.aJ c.bd=(dO,[]):=by unfold cK.j0;rw[al];rfl
  rw[bw]at z
  have t:=s.TZ (ez:=[]) (wK:=[]) ap bv (gJ _ _ _) B B B
  refine⟨[b,b8]++(ej++(dq++([]++c0))),gg,dL,fX,?_,?_,?_,y,?_,A⟩
  ·rw[z]
   have e:({dO with cn:=([]:List s8).map λx=>(x.1,x.2.1)}:cK)=dO:=by
    obtain⟨cj,gs,a,dK⟩:=dO
    simp only at al
    subst al
    rfl
   rw[e]at t
   exact⟨ah,cR,b8,dB,_,ej,dq,[],c0,[],t,rfl⟩
  ·refine(ac.oM j).dP ⟨ap.bw (λx d=>Y (by simp at d;simp[d])),λx d=>Y ?_⟩
   simp only[b4]at d⊢
   rcases d with d|d|d|d|d
   ·exact Y d
   ·exact Z (Y d)
   ·exact Z (Z (Y d))
   ·simp at d
   ·exact Z (Z (Z (Z d)))
  ·rw[z]
   simp only[kJ]
   exact ar.J ap (λx d f=>p b B (by simp at f;subst f;exact d))
  ·refine p.d1 (λx d=>?_) (λ_ h=>h)
   simp only[b4]at d⊢
   rcases d with d|d|d|d|d
   ·exact Y d
   ·exact Z (Y d)
   ·exact Z (Z (Y d))
   ·simp at d
   ·exact Z (Z (Z (Z d)))
end
def kn:Nat->Bool:=λ_=>U
def cK.ll(an:cK)(k aX:Nat)(d:dl):cK×dn:=match an.bd.h9 d.c2 an.cx.length 0 with
 |b5 x=>(an,ki d x)
 |bA (gs,ag)=>if ag.vY then(an,⟨d.dF,0,ag.cu,ag.cu+ag.bV,[],[]⟩)else if lf k [d.c2.ch]=U then(an,ki d 11)
  else if an.cx.length<aX then({an with cx:=an.cx++[[d.c2.ch]],bd:=gs},⟨d.dF,0,ag.cu,ag.cu+ag.bV,[],[]⟩)else(an,ki d 8)
def T2(a:an.cn=[]):({an with cQ:=n,cn:=[(t,d)]}:cK).j0 k aX=({(an.ll k aX d).1 with cQ:=n},[(t,(an.ll k aX d).2)]):=by
 obtain⟨av,s,ef,l⟩:=an
 simp only at a
 subst a
 show ne k aX (0+1) _=_
 rw[zr,if_neg B]
 simp only[ne]
 have b:((([]:List (List UInt8)).length:Nat):Int)=0:=rfl
 unfold cK.dg cK.ll
 simp only[mP,lS,b]
 cases c:s.h9 d.c2 av.length 0 with
 |error x=>simp
 |ok bm=>
  obtain⟨gs,ag⟩:=bm
  simp only
  cases ag.vY with
  |true=>simp
  |false=>
   simp only[fc,if_false,m2]
   cases lf k [d.c2.ch]with
   |false=>simp
   |true=>
    simp only[Bool.true_eq_false,if_false,List.isEmpty_cons,fc]
    by_cases h:av.length<aX
    ·simp[if_pos h]
    ·simp[if_neg h]
def cK.e7(an:cK)(k aX:Nat)(d:dl):cK×dn:=if i3 d.a5 then({(an.ll k aX d).1 with cQ:=an.cQ+1},(an.ll k aX d).2)else({an with cQ:=an.cQ+1},mi an.cx kn an.bd d)
def ajz:(an.ll k aX d).1.cn=an.cn:=by
 unfold cK.ll
 split
 ·rfl
 ·split
  ·rfl
  ·split
   ·rfl
   ·split<;>rfl
def ajA:(an.ll k aX d).1.cx.length<=an.cx.length+1:=by
 unfold cK.ll
 split
 ·simp only;omega
 ·split
  ·simp only;omega
  ·split
   ·simp only;omega
   ·split
    ·simp
    ·simp only;omega
def ajB:(an.ll k aX d).2.gj=[]/\(an.ll k aX d).2.dY=[]:=by
 unfold cK.ll
 split
 ·exact⟨rfl,rfl⟩
 ·split
  ·exact⟨rfl,rfl⟩
  ·split
   ·exact⟨rfl,rfl⟩
   ·split<;>exact⟨rfl,rfl⟩
section
variable{s:c3}{t sw:ByteArray}{n ak first:Int}{ah U6:gM}{ag:nY}{av:ji}{aa:List ByteArray}{b:cw}{i j:Int}
def T3(a:s.aP t n=E U6):(s.dt t n ah).aP t n=E ah:=by
 obtain⟨l,b,d,c,e⟩:=c3.Hf a
 unfold c3.dt c3.aP
 rw[b]
 simp only[DJ,if_pos,tg]
 rw[if_neg A,List.getElem?_set_self c]
structure sh(av:ji)(h:gZ)(b:cw):Prop where
 gm:∃(t i:Nat)(x:List UInt8)(e:eG),h.e4=t/\h.yq=i/\sO av t i=E x/\nB x=bA e/\e.a5=3/\e.bk=b
def sh.hy(d:sh av h b):pp av cp h=if cp h.e4.toNat then I else E b.ch:=by
 obtain⟨t,i,x,e,f,g,a,j,k,rfl⟩:=d.gm
 unfold sO at a
 unfold pp
 rw[f,g]
 simp only[hf]
 cases c:av[t]? with
 |none=>rw[c]at a;cases a
 |some l=>
  rw[c]at a
  simp only[tg]at a
  rw[gp,c,om,a]
  simp only[j,if_pos k]
def sh.p8{l:List (List UInt8)}(a:sh av h b):sh (av++[l]) h b:=by
 obtain⟨t,i,x,e,c,d,f,g⟩:=a.gm
 exact⟨t,i,x,e,c,d,acn f,g⟩
def wx(dm:List ByteArray)(first aQ:Int)(n:Nat):List ByteArray:=(dm.drop (aQ-first).toNat).take n
structure ajC(av:ji)(h:gZ)(first:Int)(dm:List ByteArray)(b:cw):Prop where
 y9:b.bt=G
 eX:sh av h b
 aR:h.md=b.a7.length
 zs:first<=h.cu
 a7:b.a7=wx dm first h.cu b.a7.length
structure q5(av:ji)(aw:eI)(first:Int)(dm:List ByteArray):Prop where
 cS:aw.cS=first+dm.length
 zt:∀h∈aw.eC,∃b,ajC av h first dm b
def q5.p8{l:List (List UInt8)}(h:q5 av aw first dm):q5 (av++[l]) aw first dm:=
 ⟨h.cS,λx c=>by obtain⟨b,a⟩:=h.zt x c;exact⟨b,a.y9,a.eX.p8,a.aR,a.zs,a.a7⟩⟩
def ajD{aQ:Int}{n:Nat}(a:first<=aQ)(b:aQ+n<=first+dm.length):wx (dm++aa) first aQ n=wx dm first aQ n:=by
 unfold wx
 rw[List.drop_append_of_le_length A,List.take_append_of_le_length (by rw[e8];omega)]
def q5.kM{c ae x:Int}(h:q5 av aw first dm)(e:aw.bp)(f:aw.mf c ae x ap=0)(g:b.bt=G)(i:c=b.a7.length)(j:sh av ⟨aw.cS,c,ae,x,ap⟩ b):q5 av (aw.kM c ae x ap) first (dm++b.a7):=by
 unfold eI.kM
 rw[if_pos f]
 have l:=h.cS
 refine⟨by simp only[di];omega,λbm d=>?_⟩
 rcases b4.1 d with d|d
 ·obtain⟨k,a⟩:=h.zt bm d
  have m:=e.oG.AB d
  have n:=a.aR
  exact⟨k,a.y9,a.eX,a.aR,a.zs,a.a7.trans (ajD a.zs A).symm⟩
 ·rw[ku.1 d]
  refine⟨b,g,j,i,by show first<=aw.cS;omega,?_⟩
  unfold wx
  show b.a7=((dm++b.a7).drop (aw.cS-first).toNat).take b.a7.length
  rw[show(aw.cS-first).toNat=dm.length by omega,List.drop_left,j3]
def zu(first:Int)(dm:List ByteArray):Int->List (Int×ByteArray)->Prop
 |_,[]=>True
 |aQ,aj::l=>aj.1=aQ/\first<=aQ/\∃b:cw,b.bt=G/\aj.2=h7 b.ch/\aQ+b.a7.length<=first+dm.length/\b.a7=wx dm first aQ b.a7.length/\zu first dm (aQ+b.a7.length) l
def xL(av:ji):List gZ->List (Int×ByteArray)->Prop
 |_,[]=>True
 |[],_::_=>False
 |h::ao,aj::a2=>aj.1=h.cu/\(∃b:cw,b.bt=G/\sh av h b/\aj.2=h7 b.ch)/\xL av ao a2
def T4{gG:Int}:∀{ao:List gZ}{dj:Nat}{dM:List (Int×ByteArray)},(∀h∈ao,∃b:cw,b.bt=G/\sh av h b)->∃a2,rI av kn gG dj dM ao=E (dM++a2)/\xL av ao a2/\(dM=[]->ao≠[]->a2≠[])
 |[],dj,dM,_=>⟨[],by simp[rI],trivial,λ_ h=>absurd rfl h⟩
 |h::ao,dj,dM,a=>by
  obtain⟨b,e,c⟩:=a h fE
  have f:pp av kn h=E b.ch:=by rw[c.hy];rfl
  rw[BP,f]
  simp only
  split
  ·rename_i d
   exact⟨[],B,trivial,λg=>by rw[g]at d;simp at d⟩
  ·obtain⟨a2,i,j,l⟩:=T4 (gG:=gG) (ao:=ao) (dj:=dj+b.ch.length) (dM:=dM++[(h.cu,h7 b.ch)]) (λx k=>a x (ev _ k))
   exact⟨(h.cu,h7 b.ch)::a2,by rw[i,gq];rfl,⟨rfl,⟨b,e,c,rfl⟩,j⟩,λ_ _=>B⟩
def sh.aW{a:cw}(f:sh av h b)(g:sh av h a):b=a:=by
 obtain⟨t,i,x,e,o,p,j,k,q,rfl⟩:=f.gm
 obtain⟨sw,l,dx,gh,r,s,c,d,u,rfl⟩:=g.gm
 have m:t=sw:=A
 have n:i=l:=A
 subst m n
 rw[j]at c
 cases c
 rw[k]at d
 cases d
 rfl
def T5(c:q5 av aw first dm)(f:aw.bp):∀{ao:List gZ}{a2:List (Int×ByteArray)}{aQ:Int},(∀h∈ao,h∈aw.eC)->lN ao aw.cS->xL av ao a2->aQ=uN ao 0 aw.cS->zu first dm aQ a2
 |_,[],_,_,_,_,_=>trivial
 |[],_::_,_,_,_,h,_=>h.elim
 |h::ao,aj::a2,aQ,d,g,j,e=>by
  obtain⟨k,⟨b,l,m,n⟩,o⟩:=j
  obtain⟨r,a⟩:=c.zt h (d h fE)
  obtain rfl:=m.aW a.eX
  have e:aQ=h.cu:=e
  subst e
  have s:=f.oG.AB (d h fE)
  have p:=a.aR
  have i:=c.cS
  have q:=g.2 0 h rfl
  refine⟨k,a.zs,b,l,n,A,a.a7,T5 c f (λx i=>d x (ev _ i)) (g.vF 1) o ?_⟩
  rw[<-p,q]
  rfl
structure xM(ad:dn)(first:Int)(dm:List ByteArray)(af:Int):Prop where
 cS:ad.cS=first+dm.length
 t6:ad.dY=[]->af=ad.cS
 yL:∀aj l,ad.dY=aj::l->aj.1<=af/\zu first dm aj.1 ad.dY/\∃b:cw,b.bt=G/\aj.2=h7 b.ch/\af<aj.1+b.a7.length
def ajE(f:q5 av aw first dm)(i:aw.bp)(e:aw.mg d.cW=0):(mO av kn d aw).iE=0/\(mO av kn d aw).cu=aw.hE/\(mO av kn d aw).dF=d.dF/\(mO av kn d aw).gj=[]/\(mO av kn d aw).dY.length<=4/\xM (mO av kn d aw) first dm d.cW:=by
 have j:∀x∈(aw.jd d.cW).take 4,x∈aw.eC:=λx m=>by
  have:=List.mem_of_mem_take m
  unfold eI.jd at this
  rw[if_pos e]at this
  exact tr this
 obtain⟨a2,s,a,t⟩:=T4 (av:=av) (gG:=d.gK) (ao:=(aw.jd d.cW).take 4) (dj:=0) (dM:=[]) (λx m=>by obtain⟨b,o⟩:=f.zt x (j x m);exact⟨b,o.y9,o.eX⟩)
 have u:d.cW>=aw.hE/\d.cW<=aw.cS:=by
  unfold eI.mg at e
  split at e
  ·cases e
  ·omega
 have p:aw.jd d.cW=aw.pg d.cW:=by unfold eI.jd;rw[if_pos e]
 unfold mO
 rw[if_pos e,s]
 simp only[m2]
 have v:∀{ao:List gZ}{a2:List (Int×ByteArray)},xL av ao a2->a2.length<=ao.length:=by
  intro ao
  induction ao with
  |nil=>intro a2 h;cases a2 with
   |nil=>simp
   |cons aj a2=>exact h.elim
  |cons x ao n=>intro a2 h;cases a2 with
   |nil=>simp
   |cons aj a2=>have:=n h.2.2;simp only[gF];omega
 refine⟨trivial,trivial,trivial,trivial,?_,f.cS,λc=>?_,λaj l c=>?_⟩
 ·have:=v a
  rw[ea]at this
  omega
 ·have c:a2=[]:=c
  have q:(aw.jd d.cW).take 4=[]:=by
   cases w:(aw.jd d.cW).take 4 with
   |nil=>rfl
   |cons x ap=>exact absurd c (t rfl (by rw[w];simp))
  rw[p]at q
  have:aw.pg d.cW=[]:=by
   rcases List.take_eq_nil_iff.1 q with h|h
   ·cases h
   ·exact h
  exact ON i A u.2 this
 ·have c:a2=aj::l:=c
  subst c
  rw[p]at a j
  cases ao:aw.pg d.cW with
  |nil=>rw[ao]at a;exact a.elim
  |cons x ab=>
   have O:=OM i (af:=d.cW) A (x:=x) (by rw[ao];rfl)
   rw[ao]at a j
   have y:=a
   obtain⟨z,⟨b,D,J,K⟩,_⟩:=a
   obtain⟨P,r⟩:=f.zt x (j x B)
   obtain rfl:=J.aW r.eX
   have Q:=r.aR
   refine⟨A,?_,b,D,K,A⟩
   have L:lN (x::ab) aw.cS:=by
    have:=i.oG.vF (aw.eC.findIdx (me d.cW))
    unfold eI.pg at ao
    rwa[ao]at this
   have M:xL av (x::ab) (aj::l):=by
    have bz:∀{k:Nat}{ao:List gZ}{a2:List (Int×ByteArray)},xL av (ao.take k) a2->xL av ao a2:=by
     intro k
     induction k with
     |zero=>intro ao a2 h;rw[List.take_zero]at h;cases a2 with
      |nil=>cases ao<;>trivial
      |cons _ _=>exact h.elim
     |succ k n=>intro ao a2 h;cases ao with
      |nil=>simpa using h
      |cons ap ao=>rw[List.take_succ_cons]at h;cases a2 with
       |nil=>trivial
       |cons g R=>exact⟨h.1,h.2.1,n h.2.2⟩
    exact bz y
   refine T5 f i (ao:=x::ab) (λap N=>?_) L M z
   have:ap∈aw.pg d.cW:=by rw[ao];exact N
   exact tr this
def xM.cQ{ad:dn}{af:Int}(h:xM ad first dm af)(q:af+1=first+dm.length):ad.dY.length=1:=by
 have f:=h.t6;have a:=h.yL;have c:=h.cS
 generalize ad.dY=aw at*
 cases aw with
 |nil=>have:=f rfl;omega
 |cons aj l=>
  obtain⟨r,⟨_,_,b,i,j,s,_,k⟩,d,m,n,t⟩:=a aj l rfl
  have o:b=d:=by
   have a:b.ch=d.ch:=by
    have:=j.symm.trans n
    have e:∀l,eO (h7 l)=l:=λl=>by simp[eO,h7]
    rw[<-e b.ch,this,e]
   have c:=xb i
   rw[a,xb m]at c
   cases c;rfl
  subst o
  cases l with
  |nil=>rfl
  |cons g l=>
   obtain⟨_,_,u,p,_,v,_⟩:=k
   have:=(cw.uR.1 (cw.vT p)).2.2.2.1
   omega
end
def ajF(h:e.bt=G)(ao:e.aI<=105)(b:1<=k):lf k [e.ch]=G:=by
 rw[xk]
 have c:e.ch.length=1+e.aI:=by rw[(eG.qT h).1,gF,Pg h];omega
 refine⟨B,λx a=>?_,?_⟩
 ·rw[ku.1 a];exact ack h
 ·have d:(g5 [e.ch]).length=2+e.ch.length:=by simp[g5,ga];omega
  omega
structure oh(an:cK)(t:ByteArray)(first:Int)(dm:List ByteArray)(m4:Int)(l4:Option hG):Prop where
 gm:∃ah,an.bd.aP t 0=E ah/\q5 an.cx ah.dw first dm/\ah.dw.hE=m4/\fq ah.jX 1=l4
section
variable{t:ByteArray}{first m4:Int}{l4:Option hG}{x:hG}
def ajG(h:an.bp aX)(a:an.cn=[])(b:d.bt=G)(c:i3 d.a5=G):(an.ll k aX d).1.bp aX:=by
 have e:({an with cQ:=0,cn:=[(0,d)]}:cK).bp aX:=⟨h.nf,h.dT,h.n1,B,by simp[b,c]⟩
 have:=(cK.Ht (k:=k) e).1
 rw[T2 a]at this
 exact⟨this.nf,this.dT,this.n1,this.iG,this.jU⟩
def EZ(h:an.bp aX)(a:an.cn=[])(b:d.bt=G):(an.e7 k aX d).1.bp aX/\(an.e7 k aX d).1.cn=[]:=by
 unfold cK.e7
 split
 ·rename_i c
  have:=ajG (k:=k) h a b c
  exact⟨⟨this.nf,this.dT,this.n1,this.iG,this.jU⟩,by show(an.ll k aX d).1.cn=[];rw[ajz,a]⟩
 ·exact⟨⟨h.nf,h.dT,h.n1,h.iG,h.jU⟩,a⟩
def zv:(an.e7 k aX d).1.cx.length<=an.cx.length+1:=by
 unfold cK.e7
 split
 ·exact ajA
 ·simp only;omega
def zw:(an.e7 k aX d).1.cQ=an.cQ+1:=by
 unfold cK.e7
 split<;>rfl
def Jn{ag:nY}(a:d.c2.bt=G)(ao:d.c2.aI<=105)(b:1<=k)(c:an.cx.length<aX)(e:an.bd.h9 d.c2 an.cx.length 0=bA (gs,ag))(f:ag.vY=U):an.ll k aX d=({an with cx:=an.cx++[[d.c2.ch]],bd:=gs},⟨d.dF,0,ag.cu,ag.cu+ag.bV,[],[]⟩):=by
 unfold cK.ll
 rw[e]
 simp only[f,ajF a ao b,fc,if_false,Bool.true_eq_false]
 rw[if_pos c]
def BR(h:i3 d.a5=G):an.e7 k aX d=({(an.ll k aX d).1 with cQ:=an.cQ+1},(an.ll k aX d).2):=by unfold cK.e7;rw[if_pos h]
def Jo(h:i3 d.a5=U):an.e7 k aX d=({an with cQ:=an.cQ+1},mi an.cx kn an.bd d):=by unfold cK.e7;rw[h];rfl
def T6(e:d.bt=G)(a:d.a5=1)(f:dv an.bd.fs d.cI=I)(m:an.bd.fs.length<8)(g:an.cx.length<aX)(i:1<=k)(ao:d.c2.aI<=105):(an.e7 k aX d).2=⟨d.dF,0,0,0,[],[]⟩/\oh (an.e7 k aX d).1 d.cI d.hF [] d.hF I:=by
 have b:i3 d.a5=G:=by rw[a];rfl
 have c:=tU e b
 have j:d.c2.a5=1:=a
 have n:1<=d.ie:=by
  obtain⟨_,h|h|h|h|h⟩:=eG.rE.1 c
  ·exact h.2.2.2.1
  all_goals omega
 have l:an.bd.h9 d.c2 an.cx.length 0=bA (⟨hb an.bd.fs d.cI (cN d.ie.toNat (gM.cq d.hF)),an.bd.kA⟩,i4):=by
  unfold c3.h9
  rw[if_pos j]
  unfold c3.xe
  show le (if(dv an.bd.fs d.cI).isSome=G then _ else _)=_
  rw[f,if_neg B,if_neg A]
  rfl
 rw[BR b,Jn c ao i g l rfl]
 refine⟨rfl,gM.cq d.hF,?_,⟨by simp[gM.cq],by simp[gM.cq]⟩,rfl,rfl⟩
 unfold c3.aP
 simp only[DJ,if_pos,tg]
 rw[if_neg A,List.getElem?_replicate,if_pos (by show(0:Int).toNat<_;omega)]
def oh.dw(h:oh an t first dm m4 l4)(b:an.bp aX)(c:aX<=64):∃ah,an.bd.aP t 0=E ah/\q5 an.cx ah.dw first dm/\ah.dw.hE=m4/\fq ah.jX 1=l4/\ah.dw.bp:=by
 obtain⟨ah,a,d,e,f⟩:=h.gm
 exact⟨ah,a,d,e,f,((b.bd c).aP a).dw⟩
def E0:Option hG->Int
 |none=>0
 |some x=>x.L+1
def ajH{ak:List (Int×hG)}{s:Int}(h:fq ak 1=l4)(ao:s=E0 l4)(a:0<=s)(b:s<=1000):ke ak 1 s=(i2,U,I):=by
 cases l4 with
 |none=>
  have ao:s=0:=ao
  rw[OQ ⟨A,A,a,A⟩ h,if_pos ao]
 |some x=>
  unfold E0 at ao
  simp only at ao
  rw[GM ⟨A,A,a,A⟩ h,if_neg A,bq A A,if_pos ao]
def Jp(h:oh an d.cI first dm m4 l4)(p:an.bp aX)(q:aX<=64)(r:d.bt=G)(e:d.a5=3)(f:d.d9=0)(g:d.bk.hH=1/\d.bk.cP=E0 l4/\d.bk.cP<=1000\/d.bk.hH=0)(s:an.cx.length<aX)(t:1<=k)(ao:d.c2.aI<=105)(M:first+dm.length+8<=9223372036854775807):
  (an.e7 k aX d).2=⟨d.dF,0,first+dm.length,first+dm.length+d.bk.a7.length,[],[]⟩/\oh (an.e7 k aX d).1 d.cI first (dm++d.bk.a7) m4 (if d.bk.hH=1 then E ⟨d.bk.cP,first+dm.length,d.bk.a7.length⟩else l4):=by
 have i:i3 d.a5=G:=by rw[e];rfl
 have b:=tU r i
 have u:d.c2.a5=3:=e
 have j:d.bk.bt=G:=by
  obtain⟨_,h|h|h|h|h⟩:=eG.rE.1 b
  ·omega
  ·omega
  ·exact h.2.2.2.2.2.2.2
  all_goals omega
 obtain⟨ah,l,m,v,n,w⟩:=h.dw p q
 have x:=cw.uR.1 (cw.vT j)
 have o:=m.cS
 have c:ah.dw.mf d.bk.a7.length d.bk.g2 an.cx.length 0=0:=by
  unfold eI.mf
  rw[if_neg (by unfold yw;rw[decide_eq_false A];simp),if_neg A]
 have y:ke ah.jX d.bk.hH d.bk.cP=(i2,U,I):=by
  rcases g with⟨a,z,B⟩|a
  ·rw[a];exact ajH n z x.2.2.1.1 B
  ·rw[a];exact OP
 have D:an.bd.h9 d.c2 an.cx.length 0=bA (an.bd.dt d.cI d.d9 ⟨ah.dw.kM d.bk.a7.length d.bk.g2 an.cx.length 0,sK ah.jX d.bk.hH ⟨d.bk.cP,ah.dw.cS,d.bk.a7.length⟩⟩,⟨ah.dw.cS,d.bk.a7.length,U⟩):=by
  unfold c3.h9
  rw[if_neg A,if_neg A]
  have J:an.bd.aP d.c2.cI d.c2.d9=E ah:=by show an.bd.aP d.cI d.d9=_;rw[f];exact l
  rw[J]
  simp only
  rw[if_neg A,if_neg A]
  have K:ah.po d.c2.bk an.cx.length 0=bA (⟨ah.dw.kM d.bk.a7.length d.bk.g2 an.cx.length 0,sK ah.jX d.bk.hH ⟨d.bk.cP,ah.dw.cS,d.bk.a7.length⟩⟩,⟨ah.dw.cS,d.bk.a7.length,U⟩):=by
   show ah.po d.bk an.cx.length 0=_
   unfold gM.po
   rw[y]
   simp only
   rw[if_pos c]
  rw[K]
  rfl
 rw[BR i,Jn b ao t s D rfl]
 have L:(an.bd.dt d.cI d.d9 ⟨ah.dw.kM d.bk.a7.length d.bk.g2 an.cx.length 0,sK ah.jX d.bk.hH ⟨d.bk.cP,ah.dw.cS,d.bk.a7.length⟩⟩).aP d.cI 0=E ⟨ah.dw.kM d.bk.a7.length d.bk.g2 an.cx.length 0,sK ah.jX d.bk.hH ⟨d.bk.cP,ah.dw.cS,d.bk.a7.length⟩⟩:=by rw[f];exact T3 l
 refine⟨by rw[o],_,L,?_,?_,?_⟩
 ·refine m.p8.kM w c j rfl ⟨an.cx.length,0,d.c2.ch,d.c2,rfl,rfl,?_,G0 b,u,rfl⟩
  unfold sO
  rw[nr (fF _),k6]
  rfl
 ·show(ah.dw.kM d.bk.a7.length d.bk.g2 an.cx.length 0).hE=m4
  unfold eI.kM
  rw[if_pos c]
  exact v
 ·show fq (sK ah.jX d.bk.hH ⟨d.bk.cP,ah.dw.cS,d.bk.a7.length⟩) 1=_
  unfold sK
  rcases g with⟨a,_⟩|a
  ·rw[if_neg A,x8,if_pos a,o,if_pos a]
  ·rw[if_pos a,if_neg A]
   exact n
def T7(h:oh an d.cI first dm m4 l4)(b:an.bp aX)(c:aX<=64)(e:d.a5=7)(f:d.d9=0)(t:m4<=d.cW)(u:d.cW<=first+dm.length):
  (an.e7 k aX d).1={an with cQ:=an.cQ+1}/\(an.e7 k aX d).2.iE=0/\(an.e7 k aX d).2.cu=m4/\(an.e7 k aX d).2.dF=d.dF/\(an.e7 k aX d).2.gj=[]/\(an.e7 k aX d).2.dY.length<=4/\xM (an.e7 k aX d).2 first dm d.cW:=by
 obtain⟨ah,g,a,i,v,j⟩:=h.dw b c
 have w:=a.cS
 have l:ah.dw.mg d.cW=0:=by unfold eI.mg;rw[if_neg A]
 have m:mi an.cx kn an.bd d=mO an.cx kn d ah.dw:=by
  unfold mi
  rw[if_neg A,f,g]
  simp only
  rw[if_neg A,if_neg A]
 rw[Jo (by rw[e];rfl),m]
 obtain⟨n,o,p,q,r,s⟩:=ajE a j l
 exact⟨rfl,n,o.trans i,p,q,r,s⟩
end
section
variable{s:c3}{t:ByteArray}{ag:nY}{i j x:Int}{ah:gM}{av:ji}
def ajL{ak:List (Int×hG)}{ai ab:Int}{ae:hG}{b:Bool}(h:ke ak ai ab=(ae,b,E cz)):0<=cz.a5/\cz.a5<=255:=by
 obtain⟨k,rfl,a,_⟩:=abe h
 simp only[ex.a5]
 omega
def ajM(h:s.h9 e i j=b5 x):0<=x/\x<=255:=by
 unfold c3.h9 at h
 split at h
 ·unfold c3.xe le at h
  split at h
  ·rename_i ao
   cases h
   split at ao
   ·cases ao;omega
   ·split at ao
    ·cases ao;omega
    ·cases ao
  ·cases h
 ·split at h
  ·unfold c3.yE le at h
   split at h
   ·rename_i ao
    cases h
    split at ao
    ·cases ao
    ·cases ao;omega
   ·cases h
  ·split at h
   ·cases h;omega
   ·split at h
    ·unfold c3.AK le at h
     split at h
     ·rename_i ao
      cases h
      split at ao
      ·cases ao;omega
      ·cases ao
     ·cases h
    ·split at h
     ·split at h
      ·cases h
      ·cases h
       unfold eI.ph
       split<;>omega
     ·split at h
      ·rename_i a
       cases h
       unfold gM.po at a
       split at a
       ·rename_i b
        cases a
        exact ajL b
       ·cases a
       ·split at a
        ·cases a
        ·cases a
         unfold eI.mf
         split
         ·omega
         ·split<;>omega
      ·cases h
def zx{ad:dn}(h:ad.lv)(a:∀ah∈ad.dY,0<=ah.1):ad.bt=G:=(Ds ad).2 ⟨h,a⟩
def zy(a:0<=x)(b:x<=255):(ki d x).bt=G:=
 zx ⟨by simp only[ki];omega,by simp only[ki];omega,by simp[ki],by simp[ki],by simp[ki],by simp[ki]⟩ (by simp[ki])
def Jq(h:d.bt=G):0<=d.dF/\d.dF<=4294967295:=by
 unfold dl.bt at h
 rw[dA,decide_eq_true_iff]at h
 exact h.1
def T8{gG:Int}:∀{ao:List gZ}{dj:Nat}{dM l:List (Int×ByteArray)},(∀h∈ao,0<=h.cu)->(∀ah∈dM,0<=ah.1/\ah.2.size<=600)->rI av cp gG dj dM ao=E l->l.length<=dM.length+ao.length/\∀ah∈l,0<=ah.1/\ah.2.size<=600
 |[],dj,dM,l,_,b,h=>by
  cases h
  exact⟨B,b⟩
 |ap::ao,dj,dM,l,d,b,h=>by
  rw[BP]at h
  cases a:pp av cp ap with
  |none=>
   rw[a]at h
   simp only at h
   split at h
   ·cases h
   ·cases h;exact⟨B,b⟩
  |some ag=>
   rw[a]at h
   simp only at h
   split at h
   ·cases h;exact⟨B,b⟩
   ·have i:ag.length<=517:=by
     unfold pp at a
     split at a
     ·cases a
     ·split at a
      ·cases a
      ·split at a
       ·cases a
       ·split at a
        ·cases a;exact cw.Dy _
        ·cases a
    obtain⟨e,f⟩:=T8 (dM:=dM++[(ap.cu,h7 ag)]) (λbm g=>d bm (ev _ g)) (λah c=>by
     rcases b4.1 c with c|c
     ·exact b ah c
     ·rw[ku.1 c]
      have:(h7 ag).size=ag.length:=by simp[h7,vv]
      exact⟨d ap fE,by simp only;omega⟩) h
    refine⟨?_,f⟩
    rw[di,nt]at e
    rw[gF]
    omega
def ajN(a:aw.bp)(t:Int):0<=aw.cy t/\aw.cy t<=aw.cS:=by
 have d:=a.lu;have e:=a.vQ
 unfold eI.cy
 split
 ·rename_i h c
  have b:=gP c
  have f:=a.oG.AB b
  have g:=a.oG.1 _ b
  omega
 ·omega
def ajO(j:an.bp aX)(k:aX<=64)(m:d.bt=G)(n:d.a5≠6):(mi an.cx cp an.bd d).bt=G:=by
 have c:=Jq m
 have f:=j.bd k
 unfold mi
 rw[if_neg n]
 split
 ·exact zy A A
 ·rename_i ah a
  have a:=f.aP a
  have g:=a.dw.lu;have r:=a.dw.vQ;have e:=a.dw.vR
  split
  ·split
   ·exact zy A A
   ·rename_i af o
    have:=f.yG _ (vV o)
    exact zx ⟨c,B,this,⟨by simp only;omega,e⟩,B,B⟩ B
  ·split
   ·have:=ajN a.dw d.mL
    exact zx ⟨c,B,⟨this.1,by simp only;omega⟩,⟨by simp only;omega,e⟩,B,B⟩ B
   ·unfold mO
    split
    ·split
     ·exact zy A A
     ·rename_i l p
      obtain⟨q,h⟩:=T8 (dM:=[]) (λbm b=>by
       have b:=List.mem_of_mem_take b
       have b:bm∈ah.dw.eC:=by
        unfold eI.jd at b
        by_cases i:ah.dw.mg d.cW=0
        ·rw[if_pos i]at b;exact tr b
        ·rw[if_neg i]at b;cases b
       exact(a.dw.oG.1 bm b).1) B p
      rw[ea,tl]at q
      exact zx ⟨c,B,⟨g,by simp only;omega⟩,⟨by simp only;omega,e⟩,B,⟨by simp only;omega,λah a=>(h ah a).2⟩⟩ (λah a=>(h ah a).1)
    ·have:ah.dw.mg d.cW=0\/ah.dw.mg d.cW=13:=by unfold eI.mg;split<;>simp
     exact zx ⟨c,by simp only;omega,⟨g,by simp only;omega⟩,⟨by simp only;omega,e⟩,B,B⟩ B
def ajP(c:an.bp aX)(e:aX<=64)(a:d.bt=G)(f:i3 d.a5=G):(an.ll k aX d).2.bt=G:=by
 have g:=Jq a
 unfold cK.ll
 split
 ·rename_i x h
  have:=ajM h
  exact zy this.1 this.2
 ·rename_i gs ag i
  obtain⟨_,j,m,l⟩:=c3.DR (c.bd e) (tU a f) i
  have b:(⟨d.dF,0,ag.cu,ag.cu+ag.bV,[],[]⟩:dn).bt=G:=zx ⟨g,B,⟨j,by simp only;omega⟩,⟨by simp only;omega,l⟩,B,B⟩ B
  split
  ·exact b
  ·split
   ·exact zy A A
   ·split
    ·exact b
    ·exact zy A A
def ajQ(a:an.bp aX)(b:aX<=64)(c:d.bt=G)(e:d.a5≠6):(an.e7 k aX d).2.bt=G:=by
 unfold cK.e7
 split
 ·rename_i f
  exact ajP a b c f
 ·exact ajO a b c e
def ajR(e:an.bp aX)(b:d.bt=G)(c:d.a5≠6):(an.e7 k aX d).2.dF=d.dF:=by
 have f:=Jq b
 have a:max 0 (min d.dF 4294967295)=d.dF:=A
 unfold cK.e7
 split
 ·show(an.ll k aX d).2.dF=d.dF
  unfold cK.ll
  split
  ·exact a
  ·split
   ·rfl
   ·split
    ·exact a
    ·split
     ·rfl
     ·exact a
 ·show(mi an.cx kn an.bd d).dF=d.dF
  unfold mi
  rw[if_neg c]
  split
  ·exact a
  ·split
   ·split
    ·exact a
    ·rfl
   ·split
    ·rfl
    ·unfold mO
     split
     ·split
      ·exact a
      ·rfl
     ·rfl
end
section
variable{g:fM}{av:ji}{aX:c3}
variable{ef:List s8}
def amm(h:h2 w b am ab c au aB ay ix ai aQ an)(ao:qo c aB ay):
  a0 C 43 #[aP b] w λae a=>(∃n:Nat,ae=bQ #[F H n,cT])/\∃az,h2 a b az ab c au aB (s2 ay aB (xC c aQ)) ix ai ((aQ+1)%qq c) an/\bX am az w a:=by
 have o:=h.aL
 obtain⟨ah,cR,b8,dB,fL,ej,dq,aD,c0,ef,h,rfl⟩:=h
 refine a9 .D 1 Tryz.func43 K rfl λa1 r=>?_
 simp+decide (maxSteps:=9999999)only[↓a8,ba,Tryz.f43]
 subst r
 obtain⟨R,s,V,W,t,X,aa⟩:=l0 h.bg
 try simp only[M,N,O,P,s]
 refine(ru FP).2 ?_
 refine cG.2 ⟨λg=>(by cases g),λ_=>?_⟩
 try simp only[M,N,O,P,t]
 obtain⟨dc,rfl,u,l,v⟩:=h.ij
 have y:b8∉dc:=λg=>h.lk b8 B (by simp[g])
 refine aH XD (ahw ⟨h.wt,y⟩ u ao h.fO) ?_
 rintro _ aA ⟨⟨n,rfl⟩,bJ,z,p,q⟩
 simp only[cV,cX]
 refine tZ ?_
 have D:ah≠b8:=λe=>h.lk b8 B (by simp[e])
 have k:∀x∈bJ,x∈dc\/w.heap.size<=x:=λx f=>by
  rcases q.cq x (ev _ f)with g|g
  ·rcases ce.1 g with rfl|g
   ·exact absurd f p.2
   ·exact Y g
  ·exact Z g
 have j:=q.J
 have m:∀x,x∈b::(dq++(aD++c0))->x∉b8::dc:=by
  intro x f d
  rcases ce.1 d with rfl|d
  ·rcases ce.1 f with rfl|f
   ·exact h.g1 rfl
   ·exact h.lk x B (h3 _ f)
  ·rcases ce.1 f with rfl|f
   ·exact h.lk x B (by simp[d])
   ·exact h.lC x (by simp[d]) f
 have J:ah∉b8::dc:=by
  intro d
  rcases ce.1 d with e|d
  ·exact D e
  ·exact l.2 d
 have ac:=l.1.aL
 refine⟨⟨n,rfl⟩,[b,b8]++(ah::bJ++(dq++(aD++c0))),⟨ah,cR,b8,dB,fL,ah::bJ,dq,aD,c0,ef,⟨h.bg.J j (m b B),⟨bJ,rfl,z,⟨l.1.J j J,λg=>(k ah g).elim l.2 (λh=>A)⟩,v⟩,p.1,h.k1.J j (λx f=>m x (by simp[f])),h.c4.J j (λx f=>m x (by simp[f])),h.pJ,λx f=>(h.vg x f).J j (λap L=>m ap (by simp[L])),λx f=>iL (h.vh x f) j.aI,h.g1,?_,?_,h.o1,h.wu,h.kF.J j (λd=>h.pK ?_),λd=>?_,h.cL,h.mt,Nat.mod_lt _ (by unfold qq;omega)⟩,rfl⟩,?_⟩
 ·intro x f d
  have i:=h.lk x f
  have Q:=o x (hg _ f)
  simp only[jN,ce,b4,not_or]at d i
  rcases d with d|d|d
  ·exact i.1 d
  ·exact(k x d).elim i.2.1 (λg=>A)
  ·exact d.elim i.2.2.1 (λd=>d.elim i.2.2.2.1 i.2.2.2.2)
 ·intro x f d
  rcases ce.1 f with rfl|f
  ·exact h.lC x B d
  ·rcases k x f with g|g
   ·exact h.lC x (by simp[g]) d
   ·have:=o x (h3 _ (h3 _ d));omega
 ·simp only[ce]at d
  simp only[jN,ce,b4]
  rcases d with d|d
  ·exact Z (Y d)
  ·simp[d]
 ·have i:=h.pK
  have Q:=h.kF.aL
  simp only[jN,m2,ce,b4,not_or]at d i
  rcases d with d|d|d|d|d
  ·exact i.1 d
  ·exact i.2.1 d
  ·exact i.2.2.1 d
  ·exact(k _ d).elim i.2.2.2.1 (λg=>A)
  ·exact d.elim i.2.2.2.2.1 (λd=>d.elim i.2.2.2.2.2.1 i.2.2.2.2.2.2)
 ·refine⟨j.bw (λx f=>Y ?_),λx f=>?_⟩
  ·simp only[jN,m2,ce,b4]at f⊢
   rcases f with f|f
   ·exact Z (Y f)
   ·exact Z (Z (Z (Y f)))
  ·simp only[jN,m2,ce,b4]at f⊢
   rcases f with f|f|f|f|f
   ·exact Y (Y f)
   ·exact Y (Z (Y f))
   ·exact Y (Z (Z (Y f)))
   ·exact(k x f).imp (λg=>Z (Z (Z (Y g)))) id
   ·exact Y (Z (Z (Z (Z f))))
def ajS:eH C 137 183 1 t8 (λaa=>aa):=eH.aW Ga FW rA
def ajT:eH C 183 52 1 kl (λab=>ab.1):=eH.aW pe mJ nb
def ajU(an:SP w jn av)(ao:lQ nD 0 av=E aX)(V:av.length<=64)(W:∀l∈av,l.length<=16/\∀x∈l,x.length<=100000):
  a0 C 58 #[jn] w λae a=>∃dB dq,ae=bQ #[aP dB,cT]/\iJ a dB dq aX/\(∀x∈dq,w.heap.size<=x)/\Q [] w a:=by
 obtain⟨aF,X,aY,ap⟩:=an
 refine a9 Mw 1 Tryz.func58 K rfl λa1 aq=>?_
 simp+decide (maxSteps:=9999999)only[↓a8,ba,Mw,Tryz.f58]
 subst aq
 refine aH Lt Ti ?_
 rintro _ aA ⟨dB,bJ,rfl,ar,au,d⟩
 obtain⟨aZ,a2,aw,_⟩:=id X
 subst aw
 try simp only[M,N,O,P]
 have a3:∀l∈av,l.length<=16:=λl V=>(W l V).1
 refine c1 (λc a=>∃(i:Nat)(s:c3)(az:List Nat),c=[F H i]/\i<=av.length/\iJ a dB az s/\s.bp (16*i)/\lQ s i (av.drop i)=E aX/\(∀x∈az,w.heap.size<=x)/\Q [] w a) (λc _=>match c with|[F _ i]=>av.length-i.toNat|_=>0)
  ⟨0,nD,bJ,rfl,A,ar,PG,ao,au,d⟩ ?_
 rintro _ _ ax ⟨i,s,cM,rfl,al,aa,ay,h,ab,q⟩
 try simp only[M,N,O,P,bi]
 refine⟨λa4=>?_,λa5=>?_⟩
 ·have r:i<av.length:=A
  have ac:i<aF.length:=A
  refine(ajS.ek (X.V q) (Q.b0 _ _) ac).2 ?_
  have t:=ap i ac r
  obtain⟨a6,a7,aB⟩:=t.cY
  rw[aB]at t⊢
  try simp only[M,N,O,P]
  have aC:av.drop i=av[i]::av.drop (i+1):=ot r
  have aD:=W _ (dX r)
  rw[aC]at h
  generalize av[i]=l at*
  refine c1 (λc a=>∃(k:Nat)(s:c3)(az:List Nat),c=[F H k]/\k<=l.length/\iJ a dB az s/\s.bp (16*i+k)/\(lP s i k (l.drop k)).bind (λgs=>lQ gs (i+1) (av.drop (i+1)))=E aX/\(∀x∈az,w.heap.size<=x)/\Q [] w a) (λc _=>match c with|[F _ k]=>l.length-k.toNat|_=>0)
   ⟨0,s,cM,rfl,A,aa,ay,?_,ab,q⟩ ?_
  ·rw[List.drop_zero,<-h]
   simp only[lQ]
   cases lP s i 0 l<;>rfl
  rintro _ _ bb ⟨k,u,ad,rfl,bd,af,v,b,y,m⟩
  try simp only[M,N,O,P,bi]
  refine⟨λbe=>?_,λbf=>?_⟩
  ·have d:k<l.length:=A
   refine ju.ek ajT (t.V m) (Q.b0 _ _) d λbg ah=>?_
   rw[iI d]at ah
   have bh:=aD.2 _ (dX d)
   have aG:l.drop k=l[k]::l.drop (k+1):=ot d
   rw[aG]at b
   generalize l[k]=x at*
   simp only[lP]at b
   refine I1 ah A λae aI n=>?_
   obtain⟨aJ,n⟩:=n
   cases z:nB x with
   |error cz=>rw[z]at b;simp at b
   |ok e=>
    rw[z]at n b
    simp only at b
    obtain⟨bc,rfl,ai,aL,bj⟩:=n
    have aj:=Dz z
    have aM:bc.oneCell'=G:=ai.aW
    simp only[cV,cX]
    refine uf λbk aO aQ bl=>?_
    refine s3 aO rfl aM λak aR aS bn=>?_
    have am:Q [] aI ak:=aQ.R aS B
    have D:=aJ.R am B
    refine bT (λc a=>∃f ag g,c=[cT]/\u.h9 e i k=bA (f,ag)/\iJ a dB g f/\bX ad g ak a) ?_ ?_
    ·refine(ry dk).2 ?_
     refine cG.2 ⟨λ_=>?_,λo=>(by cases o)⟩
     obtain⟨bo,bp,br,bs,bt,bu,bv,bw,aT⟩:=ik aR
     simp only[aT]
     refine ES (af.V D) v A aj (ai.V am) aL λae aU J=>?_
     unfold o0 at J
     cases j:u.h9 e i k with
     |error hC=>rw[j]at b;simp at b
     |ok bm=>
      obtain⟨f,ag⟩:=bm
      rw[j]at J
      obtain⟨rfl,g,L,p⟩:=J
      simp only[cV,cX]
      exact⟨f,ag,g,by trivial,rfl,L,p⟩
    rintro _ _ aU ⟨f,ag,g,rfl,j,L,p⟩
    try simp only[M,N,O,P]
    refine(fp dk).2 ?_
    refine cG.2 ⟨λo=>(by cases o),λ_=>?_⟩
    try simp only[M,N,O,P]
    rw[bq A A]
    rw[j]at b
    have bx:=D.aI
    have bz:=m.aI
    refine⟨⟨k+1,f,g,by trivial,A,L,(c3.DR v aj j).1,b,λx R=>(p.cq x R).elim (y x) (λo=>A),(m.R D B).R p.J (λx R=>Z (y x R))⟩,by simp;omega⟩
  ·have aV:k=l.length:=A
   rw[aV,List.drop_length]at b
   simp only[lP,tg]at b
   try simp only[M,N,O,P]
   rw[bq A A]
   exact⟨⟨i+1,u,ad,by trivial,A,af,v.bw A,b,y,m⟩,by simp;omega⟩
 ·have aW:i=av.length:=A
  rw[aW,List.drop_length]at h
  simp only[lQ,vq]at h
  subst h
  exact⟨dB,cM,rfl,aa,ab,q⟩
end
def E1:ByteArray:=eS #[98,114,111,107,101,114,46,79,112,101,110]
structure ajV(w:aN)(b:Nat)(am:List Nat)(ab:Nat)(c:dR)(au:eW)(aB:Nat->Bool)(ay al:Nat->Nat->Bool)(gi:Nat)(cz:ex):Prop where
 gm:∃dc dB,am=b::dc/\eY w ab dc c au aB ay al/\fb w dc b 136 [aP ab,aE I,ff (E cz),aP dB,aE I,T I 0 0,F H gi]
 kF:jf w
 pK:0∉am
 a5:cz.a5=6
section
variable{g8 lr hD tu zK:S}{g:fM}{av:ji}{aX:c3}
def ajW(w a:aN)(b:Nat)(am:List Nat)(ab:Nat)(c:dR)(au:eW)(aB:Nat->Bool)(ay al:Nat->Nat->Bool)(bu:Nat)(av:ji)(aX:c3)(gi:Nat)(ae:S):Prop:=
 (∃az dL,ae=cT/\h2 a b az ab c au aB ay al dL 0 ⟨av,aX,[],gi⟩/\dL<=bu/\bX (b::am) az w a/\∀t,t<c.bd->c.aJ<=bV (ia c al t) c.aR)\/
 ∃az cz,ae=ff (E cz)/\ajV a b az ab c au aB ay al gi cz/\bX (b::am) az w a/\∃t,t<c.bd/\bV (ia c ay t) c.aR<c.aJ
def T9(an:aC w b 136 [aP ab,g8,lr,hD,tu,zK,F H gi])(u:b∉am)(V:eY w ab am c au aB ay al)(ao:zc c au aB ay al)(aM:r5 c au bu)(W:q3 c au av)(X:lQ nD 0 av=E aX)(ap:∀l∈av,l.length<=16)(ac:jf w)(aq:0∉b::am):
  a0 C 22 #[aP b] w λae a=>ajW w a b am ab c au aB ay al bu av aX gi ae:=by
 obtain⟨ad,bs⟩:=V.cL
 have bt:=ad.jZ
 have bv:=V.aL
 have bw:=an.aL
 have aO:=W.dT
 refine a9 Mj 1 Tryz.func22 K rfl λa1 aQ=>?_
 simp+decide (maxSteps:=9999999)only[↓a8,ba,Mj,Tryz.f22]
 subst aQ
 refine aH Lt Ti ?_
 rintro _ aA ⟨lu,bJ,rfl,bx,bz,ar⟩
 try simp only[M,N,O,P]
 refine eK K7 (an.J ar B) B rfl λax aR aS bB=>?_
 try simp only[M,N,O,P]
 refine eK K8 aR B rfl λbC aT aU bD=>?_
 try simp only[M,N,O,P]
 refine eK La aT B rfl λbE aV aW bG=>?_
 try simp only[M,N,O,P]
 refine eK CR aV B rfl λD v aY bH=>?_
 have v:aC D b 136 [aP ab,aE I,lr,aP lu,aE I,T I 0 0,F H gi]:=by simpa using v
 have p:Q [b] w D:=((((ar.bw B).R aS (λx d=>Y d)).R aU (λx d=>Y d)).R aW (λx d=>Y d)).R aY (λx d=>Y d)
 have aZ:=V.J p (λx d f=>by simp at f;subst f;exact u d)
 have y:0≠b:=λe=>aq (by simp[e])
 have J:0∉am:=λe=>aq (by simp[e])
 have aw:=ac.J p (by simpa using y)
 try simp only[M,N,O,P]
 refine(bl (aa:=aP ab) CP (v.bh (af:=0))).2 ?_
 refine aH Xq (ahi aZ ao aM W) ?_
 rintro _ z (⟨ah,j,a2,jn,rfl,az,a3,i,a4,a5⟩|⟨j,cz,a6,i,a7,bb,rfl⟩)
 ·have m:∀x∈j,x∈am\/D.heap.size<=x:=i.cq
  have bc:=p.aI
  have ag:=v.J i.J u
  have ai:=aw.J i.J J
  have aD:=az.aL
  simp only[na,oB,oC]
  have bd:∀l∈av,l.length<=16/\∀x∈l,x.length<=100000:=λl aF=>⟨ap l aF,λx d=>by
   have X:=xk.1 (W.e0 _ aF)
   have:=AP d
   have:=ad.jY;have:=ad.i6
   omega⟩
  refine bT (λn a=>∃dB dq,n=[cT,aP dB]/\iJ a dB dq aX/\(∀x∈dq,z.heap.size<=x)/\Q [] z a) ?_ ?_
  ·refine(ry dk).2 ?_
   refine cG.2 ⟨λ_=>?_,λg=>(by cases g)⟩
   refine aH Xr (ajU a4 X A bd) ?_
   rintro _ be ⟨dB,dq,rfl,L,k,R⟩
   simp only[cV,cX]
   exact⟨dB,dq,rfl,L,k,R⟩
  rintro _ _ be ⟨dB,dq,rfl,L,k,R⟩
  try simp only[M,N,O,P]
  refine tZ ?_
  try simp only[M,N,O,P]
  refine eK K3 (ag.J R B) B rfl λq r o bf=>?_
  have s:b∉j:=λg=>(m b g).elim u (λh=>A)
  obtain⟨cR,bg⟩:=az.ahe
  have aj:Q [b] z q:=(R.bw B).R o (λx d=>Y d)
  have aG:=bg.J aj (λx d f=>by simp at f;subst f;exact s d)
  have bI:=aj.aI
  have bK:=i.J.aI
  refine bT (λn a=>∃b8,n=[]/\aC a b 136 (lj ab ah dB b8 (T I 0 0) gi)/\aC a b8 226 (lz cR 0)/\q.heap.size<=b8/\Q [b] q a) ?_ ?_
  ·refine(ry dk).2 ?_
   refine cG.2 ⟨λ_=>?_,λg=>(by cases g)⟩
   refine aH Gj (IM aG) ?_
   rintro _ _ ⟨rfl,rfl⟩
   refine aH Xs ahu ?_
   rintro _ cd ⟨rfl,ak,t,bL⟩
   try simp only[M,N,O,P]
   refine eK K7 (r.J t B) B rfl λbM bh bi bP=>?_
   try simp only[M,N,O,P]
   refine eK CR bh B rfl λbU bj bk bV=>?_
   try simp only[M,N,O,P]
   refine eK K8 bj B rfl λbm bn bo bW=>?_
   have aI:Q [b] cd bm:=(bi.R bk (λx d=>Y d)).R bo (λx d=>Y d)
   exact⟨_,by trivial,by simpa[lj]using bn,ak.J aI (by simp;omega),fF _,(t.bw B).R aI (λx d=>Y d)⟩
  rintro _ _ cd ⟨b8,rfl,aJ,ak,bX,t⟩
  obtain⟨bY,bZ,bp,b0,b1,b2,b3⟩:=l0 aJ
  try simp only[M,N,O,P,bp]
  have bq:=L.J o (λx d f=>by have:=k x d;simp at f;omega)
  have br:=L.aL
  have b7:=o.aI
  have aL:Q [b] z cd:=aj.R t (λx d=>Y d)
  refine Y ⟨[b,b8]++(j++(dq++([]++[]))),a2,rfl,⟨ah,cR,b8,dB,_,j,dq,[],[],[],⟨aJ,aG.J t (λx d f=>by simp at f;subst f;exact s d),ak,bq.J t (λx d f=>by have:=k x d;simp at f;omega),gJ _ _ _,rfl,B,B,A,?_,?_,by simp;exact bR.D _,bR.D _,ai.J aL (by simpa using y),?_,⟨X,aO,ap,B,B⟩,ao.mt,by unfold qq;omega⟩,rfl⟩,a3,⟨?_,λx d=>?_⟩,a5⟩
  ·intro x d f
   simp only[kJ,b4,ce,iZ,or_false]at d f
   rcases d with rfl|rfl
   ·rcases f with f|f
    ·exact s f
    ·have:=k x f;omega
   ·rcases f with f|f
    ·have:=aD x f;omega
    ·have:=br x f;omega
  ·intro x d f
   simp only[kJ]at f
   have:=aD x d
   have:=k x f
   omega
  ·intro f
   have:=ac.aL
   simp only[kJ,b4,ce,iZ,or_false]at f
   rcases f with(f|f)|f|f
   ·exact y f
   ·omega
   ·exact(m _ f).elim J (λh=>A)
   ·have:=k _ f;omega
  ·exact((p.bw (λx d=>Y (by simp at d;simp[d]))).R i.J (λx d=>Y (by simp[d]))).R aL (λx d=>Y (by simp at d;simp[d]))
  ·simp only[kJ,b4,ce,iZ,or_false]at d⊢
   rcases d with(d|d)|d|d
   ·exact Y (Y d)
   ·exact Z A
   ·exact(m x d).imp Z (λh=>A)
   ·exact Z (by have:=k x d;omega)
 ·simp only[na,oB,oC]
  have m:∀x∈j,x∈am\/D.heap.size<=x:=i.cq
  have bc:=p.aI
  have ag:=v.J i.J u
  have ai:=aw.J i.J J
  have s:b∉j:=λg=>(m b g).elim u (λh=>A)
  refine bT (λn a=>n=[ff (E cz),aE I]/\z=a) ?_ ?_
  ·refine AA.2 ?_
   refine cG.2 ⟨λg=>(by cases g),λ_=>?_⟩
   exact⟨by trivial,by trivial⟩
  rintro _ _ _ ⟨rfl,rfl⟩
  try simp only[M,N,O,P]
  refine rO (d5:=E1) (e:=E cz) ?_
  try simp only[M,N,O,P]
  refine eK K3 ag B rfl λq r o bf=>?_
  have r:aC q b 136 [aP ab,aE I,ff (E (.d2 E1 0 cz)),aP lu,aE I,T I 0 0,F H gi]:=by simpa using r
  refine bT (λn a=>n=[]/\q=a) ?_ ?_
  ·refine AA.2 ?_
   refine cG.2 ⟨λg=>(by cases g),λ_=>?_⟩
   exact⟨by trivial,by trivial⟩
  rintro _ _ _ ⟨rfl,rfl⟩
  try simp only[M,N,O,P]
  refine(bl (aa:=ff (E (.d2 E1 0 cz))) FT (r.bh (af:=2))).2 ?_
  refine Z ⟨b::j,.d2 E1 0 cz,rfl,⟨⟨j,lu,rfl,a6.J o (λx d f=>by simp at f;subst f;exact s d),r,s⟩,ai.J o (by simpa using y),λf=>?_,by simpa[ex.a5]using a7⟩,⟨?_,λx d=>?_⟩,bb⟩
  ·have:=ac.aL
   rcases ce.1 f with f|f
   ·exact y f
   ·exact(m _ f).elim J (λh=>A)
  ·exact((p.bw (λx d=>Y (by simp at d;simp[d]))).R i.J (λx d=>Y (by simp[d]))).R o (λx d=>Y (by simp at d;simp[d]))
  ·rcases ce.1 d with rfl|d
   ·exact Y B
   ·exact(m x d).imp (λh=>by simp[h]) (λh=>A)
def ajX:C.built 136 #[(0,aP ab)].toList=E #[aP ab,aE I,cT,aE I,aE I,T I 0 0,F H 0]:=K
def ajY(j:eY w ab am c au aB ay al)(n:zc c au aB ay al)(o:r5 c au bu)(p:q3 c au av)(q:lQ nD 0 av=E aX)(r:∀l∈av,l.length<=16)(k:jf w)(s:0∉am)(u:∀t,t<c.bd->c.aJ<=bV (ia c ay t) c.aR):
  a0 C 49 #[aP ab] w λae a=>∃b az dL,ae=aP b/\w.heap.size<=b/\h2 a b az ab c au aB ay al dL 0 ⟨av,aX,[],0⟩/\dL<=bu/\bX am az w a:=by
 have v:=j.aL
 refine a9 .D 1 Tryz.func49 K rfl λa1 y=>?_
 simp+decide (maxSteps:=9999999)only[↓a8,ba,Tryz.f49]
 subst y
 refine(bY ajX).2 ?_
 refine eA λaA g h M=>?_
 have g:aC aA w.heap.size 136 [aP ab,aE I,cT,aE I,aE I,T I 0 0,F H (0:Nat)]:=by simpa[bF]using g
 have N:=k.aL
 refine aH Lr (T9 g (λd=>by have:=v _ d;omega) (j.V h) n o p q r (k.V h) (λi=>by
  rcases ce.1 i with e|i
  ·omega
  ·exact s i)) ?_
 rintro ae ax (⟨cM,z,rfl,D,J,m,_⟩|⟨cM,cz,_,_,_,t,L,O⟩)
 ·refine⟨w.heap.size,cM,z,rfl,fF _,D,J,⟨(h.bw B).R m.J (λx f=>?_),λx f=>?_⟩⟩
  ·rcases ce.1 f with rfl|f
   ·exact Z (fF _)
   ·exact Y f
  ·rcases m.cq x f with d|d
   ·rcases ce.1 d with rfl|d
    ·exact Z (fF _)
    ·exact Y d
   ·exact Z A
 ·have:=u t L
  omega
end
end
end Go.Proofs.YtepeilglbedgdaaGreatDoor
namespace Go.X
variable{w:aN}{ak io n:Nat}{am:List Nat}{aS:List S}{aa bm:S}{ac:S -> aN -> Prop}{ad:ft}{ar av bH:co}
section
open Go.RowKit Go.Great
def Jr(nu:S)(ak:Nat):nq #[nu] ak=(cN ak nu).toArray:=by
 apply Array.ext
 ·simp[nq]
 ·intro i a b
  simp[nq,Nat.mod_one]
section
variable{nu:S}
def ajZ{cO:iz}(K:hO ad ar av 1 io bm)(o:bm.cells=#[nu])(af:nu.oneCell'=G)(p:ad.underlying bH=E (.int cO))(h:bP w av 1 aa n aS am)(aF:0<ak)(ag:ak<=1000000)(aG:n<=1000000)(L:io<=1000)
  (k:∀dd a az,bP a av 1 dd (n+ak) (aS++cN ak nu) az->Q am w a->(∀g∈az,g∈am\/w.heap.size<=g)->dd.oneCell'=G->ac dd a):
  W ad (dG lp #[ar,bH] #[aa,F H ak]) w ac:=by
 obtain⟨c,i,al,q,ao,r⟩:=K.wZ
 have aH:(n+ak)*io<=2000000*1000:=Nat.mul_le_mul A L
 have aI:ak*io<=1000000*1000:=Nat.mul_le_mul ag L
 have s:H.wrap (ak:Int)=ak:=bq A A
 have t:¬(281474976710656<(ak:Int)*(i.bytes:Int)):=by rw[<-uq,r];omega
 have u:¬((ak:Int)<0):=A
 have v:ak≠0:=A
 have ah:n+ak<=d0:=by unfold d0;omega
 have x:(cN ak nu).length=ak:=tt
 have d:(aS++cN ak nu).length=(n+ak)*1:=by rw[di,h.1,x];omega
 have bz:∃dd a az,(pQ #[ar,bH] 0 #[aa,F H ak]).run ad w=bN dd a/\bP a av 1 dd (n+ak) (aS++cN ak nu) az/\Q am w a/\(∀g∈az,g∈am\/w.heap.size<=g):=by
  have M:∀(gR:Nat),bP (w.drew.alloc (.cells (aS.toArray++(cN ak nu).toArray++nq bm.cells (jz w (n+ak) gR av-(n+ak))) av)) av 1
     (T (E ⟨w.heap.size,0,I⟩) (n+ak) (jz w (n+ak) gR av)) (n+ak) (aS++cN ak nu) [w.heap.size]/\
    Q am w (w.drew.alloc (.cells (aS.toArray++(cN ak nu).toArray++nq bm.cells (jz w (n+ak) gR av-(n+ak))) av)):=by
   intro gR
   have ai:=grownCap_ge w (n+ak) gR av
   have y:jz w (n+ak) gR av<=d0:=grownCap_le_maxLen w (n+ak) gR av ah
   have N:=size_zeroCells bm.cells (jz w (n+ak) gR av-(n+ak))
   rw[K.zZ]at N
   refine⟨⟨d,Z ⟨w.heap.size,0,_,aS++cN ak nu++(nq bm.cells (jz w (n+ak) gR av-(n+ak))).toList,rfl,rfl,?_,ai,y,?_,?_⟩⟩,(cD am w).Fy _⟩
   ·have:(aS.toArray++(cN ak nu).toArray++nq bm.cells (jz w (n+ak) gR av-(n+ak)))=(aS++cN ak nu++(nq bm.cells (jz w (n+ak) gR av-(n+ak))).toList).toArray:=B
    rw[this]
    exact sz w.drew av _
   ·rw[di,d,tj,N]
    omega
   ·rw[List.drop_zero,<-d]
    exact tk
  rcases h.2 with⟨rfl,rfl,rfl⟩|⟨g,b,bL,cf,rfl,rfl,l,aJ,y,aL,z⟩
  ·have aj:aS=[]:=rc (by simpa using h.1)
   subst aj
   have aM:¬(0+ak<=0):=A
   have O:¬((9223372036854775807:Int)<((0+ak:Nat):Int)):=A
   have an:Builtin.nextslicecap (0+ak) 0*i.bytes<=281474976710656:=growslice_fits A (by rw[r];omega)
   have m:¬(281474976710656<Builtin.nextslicecap (0+ak) 0*i.bytes):=A
   have e:(pQ #[ar,bH] 0 #[T I 0 0,F H ak]).run ad w=bN (T (E ⟨w.heap.size,0,I⟩) (0+ak) (jz w (0+ak) 0 av)) (w.drew.alloc (.cells (([]:List S).toArray++(cN ak nu).toArray++nq bm.cells (jz w (0+ak) 0 av-(0+ak))) av)):=by
    rw[gQ]at m⊢
    simp[pQ,fK c,fK p,asInt,asIntOf,s,t,u,sizeOf,typeInfo,zeroValue,al,q,ao,v,m,Question.forced,newRow,jz,o,Jr,Builtin.firstCells]
    try omega
   have f:=M 0
   exact⟨_,_,_,e,f.1,f.2,λg l=>Z (by simp at l;omega)⟩
  ·by_cases D:n+ak<=bL
   ·have aO:=h.1
    have ap:cf=cf.take (b+n)++(cf.drop (b+n)).take ak++cf.drop (b+(n+ak)):=by
     rw[<-sp,<-oq (i:=ak),gq,l3,l3]
    have aq:((cf.drop (b+n)).take ak).length=ak:=by
     rw[ea,e8]
     omega
    obtain⟨a,au,aw,ax,aP⟩:=x3 (ad:=ad) g (b+n) av (cN ak nu) (cf.take (b+n)) ((cf.drop (b+n)).take ak) (cf.drop (b+(n+ak))) w 0 (ap▸l) (by rw[aq,x]) (by intro ae c;rw[List.eq_of_mem_replicate c];exact af) (by rw[ea];omega)
    have ay:(pQ #[ar,bH] 0 #[T (E ⟨g,b,I⟩) n bL,F H ak]).run ad w=bN (T (E ⟨g,b,I⟩) (n+ak) bL) a:=by
     simp[pQ,fK c,fK p,asInt,asIntOf,s,t,u,sizeOf,typeInfo,zeroValue,al,q,ao,v,D,o,Jr,jC,au]
    have aA:(cf.take (b+n)).length=b+n:=by rw[ea];omega
    refine⟨_,_,[g],ay,⟨d,Z ⟨g,b,bL,_,rfl,rfl,aw,D,y,?_,?_⟩⟩,ax,λaB J=>Y J⟩
    ·rw[di,di,aA,x,e8]
     omega
    ·rw[gA]at z
     rw[gq,List.drop_append_of_le_length A,List.drop_take,Nat.add_sub_cancel_left,z,<-gq,<-d]
     exact tk
   ·have holds:∀j ae,aS[j]?=E ae->w.drew.cell? ((⟨g,b,I⟩:es).add j)=E ae:=by
     intro j ae R
     have V:=l.cy.d1 b (n*1)
     rw[z,gQ]at V
     have:=V j (fi.1 R).1
     rw[jC,World.cell?_drew,this,R]
    have X:=run_firstCells_some (P:=ad) w.drew i.size n ⟨g,b,I⟩ n bL aS (by rw[h.1,ao]) holds
    rw[ao]at X
    have O:¬((9223372036854775807:Int)<(n:Int)+(ak:Int)):=A
    have an:Builtin.nextslicecap (n+ak) bL*i.bytes<=281474976710656:=growslice_fits A (by rw[r];omega)
    have m:¬(281474976710656<Builtin.nextslicecap (n+ak) bL*i.bytes):=A
    have e:(pQ #[ar,bH] 0 #[T (E ⟨g,b,I⟩) n bL,F H ak]).run ad w=bN (T (E ⟨w.heap.size,0,I⟩) (n+ak) (jz w (n+ak) bL av)) (w.drew.alloc (.cells (aS.toArray++(cN ak nu).toArray++nq bm.cells (jz w (n+ak) bL av-(n+ak))) av)):=by
     simp[pQ,fK c,fK p,asInt,asIntOf,s,t,u,sizeOf,typeInfo,zeroValue,al,q,ao,v,D,O,m,Question.forced,X,newRow,jz,o,Jr]
    have f:=M bL
    exact⟨_,_,_,e,f.1,f.2,λaB J=>Z (by simp at J;omega)⟩
 obtain⟨dd,a,az,e,ab,aC,aD⟩:=bz
 refine(j9 (aa:=dd) (a:=a) ?_).2 (k dd a az ab aC aD ?_)
 ·show(do fh (fw (<-pQ #[ar,bH] 0 #[aa,F H ak])):Sem fD).run ad w=_
  exact gv ad _ w e
 ·rcases ab.2 with⟨rfl,_⟩|⟨_,_,_,_,rfl,_⟩<;>rfl
end
end
end Go.X
namespace Go.Proofs.YtepeilglbedgdaaGreatDoor
open Go.X
attribute[local irreducible]Go.X.W
variable{a w:aN}{i iB j k n s:Nat}{aO am:List Nat}{cv da:List S}{aa ae:S}{ac:S -> aN -> Prop}{ar av:co}{l:List UInt8}{fz:kQ}
section
open Go.RowKit
section
variable{kv:List (List UInt8)}
def Ua{ac:S->Prop}{d:Option es}{c:Nat}(h:gV C ar av=G):aV C (dG .cap #[ar] #[T d n c]) ac↔ac (F H c):=by
 refine hv λw=>?_
 have a:=o8 h
 unfold dG
 simp[builtin,Builtin.cap_,underlying,a,goInt]
def aj0{ad:ft}{av:co}{a6 ak:Nat}{aS:List S}{am:List Nat}{d:Option es}{c:Nat}(h:bP w av a6 (T d ak c) ak aS am):bP w av a6 (T (if c=0 then d else d.map (·.add (0*a6))) 0 c) 0 [] am:=by
 obtain⟨j,a⟩:=h
 refine⟨B,?_⟩
 rcases a with⟨e,rfl,rfl⟩|⟨g,af,bL,cf,e,rfl,b,k,f,i,l⟩
 ·cases e
  exact Y ⟨rfl,rfl,rfl⟩
 ·cases e
  refine Z ⟨g,af,c,cf,?_,rfl,b,A,f,i,B⟩
  congr 1
  split
  ·rfl
  ·simp[Addr.add]
def aj1(m:n<=1000000):a0 C 126 #[T I 0 0,F H n] w λae a=>∃am,bP a 5 1 ae 0 [] am/\(∀g∈am,w.heap.size<=g)/\Q [] w a:=by
 refine a9 (.L .D (.bK [] .D (.bK [0] .D .D))) 2 Tryz.func126 K rfl λa1 b=>?_
 simp+decide (maxSteps:=9999999)only[↓a8,ba,Tryz.f126]
 subst b
 refine bT (λc a=>c=[]/\w=a) ?_ ?_
 ·simp only[M,N,O,P,bi]
  exact⟨λh=>A,λ_=>⟨by trivial,by trivial⟩⟩
 rintro _ _ _ ⟨rfl,rfl⟩
 refine bT (λc a=>∃ae am,c=[ae]/\bP a 5 1 ae 0 [] am/\(∀g∈am,w.heap.size<=g)/\Q [] w a) ?_ ?_
 ·try simp only[M,N,O,P]
  refine(Ua fP).2 ?_
  try simp only[M,N,O,P]
  rw[show H.wrap (((0:Nat):Int)-((0:Nat):Int))=0 from bq A A,show H.wrap ((n:Int)-0)=n from by rw[Int.sub_zero];exact bq A A]
  try simp only[bi]
  refine⟨λh=>?_,λh=>?_⟩
  ·refine(Ua fP).2 ?_
   refine(z9 fP el A A).2 ?_
   have b:(T (if(0:Nat)=0 then(I:Option es)else(I:Option es).map (·.add (0*1))) ((0:Nat):Int).toNat 0)=T I 0 0:=rfl
   rw[b]
   refine ajZ (nu:=F cl 0) ky rfl rfl (cO:=H) K (gJ _ _ _) (ak:=n) A A A A λdd aA am d e f o=>?_
   try simp only[M,N,O,P]
   obtain⟨p,cC,rfl,q,_⟩:=id d.jD
   refine(z9 fP el A A).2 ?_
   refine⟨_,am,rfl,?_,λg i=>(f g i).elim (λh=>by simp at h) id,e⟩
   rw[gQ]at d
   exact aj0 (ad:=C) d
  ·exact⟨_,[],rfl,gJ _ _ _,B,.b0 _ _⟩
 rintro _ _ aA ⟨ae,am,rfl,j,k,l⟩
 try simp only[M,N,O,P]
 exact⟨am,j,k,l⟩
def Ub:eH C 183 52 1 kl (λab=>ab.1):=eH.aW pe mJ nb
def aj2{dM:List UInt8}(c:bP w 5 1 ae dM.length (dM.flatMap bs) am)(d:aT w bs aa l)(e:dM.length+l.length<=2000000)
  (k:∀b a az,bP a 5 1 b (dM++l).length ((dM++l).flatMap bs) az->(∀g∈az,g∈am\/w.heap.size<=g)->Q am w a->ac b a):W C (dG lp #[52,52] #[ae,aa]) w ac:=
 BF (l:=dM) (be:=bs) ky c fP e2 (λx _=>uZ x) d A (by unfold d0;omega) k
def Uc(y:ju w aa kv)(ai:kv.length<=10)(z:(kv.map jm).sum<=1000000):a0 C 77 #[aa] w λae a=>c7.nl w a ae kv.flatten:=by
 obtain⟨cj,k,r,l⟩:=y
 have aj:cj.length=kv.length:=by rw[<-l,dU]
 have m:∀i,((kv.take i).map jm).sum<=1000000:=λi=>by
  refine gz ?_ z
  conv=>rhs;rw[<-l3 i kv]
  rw[g6,List.sum_append]
  omega
 obtain⟨d,c,rfl,ak,an⟩:=id k
 refine Z4 ?_
 unfold MD
 try simp only[M,N,O,P]
 refine c1 (λb a=>∃i:Nat,b=[F H (((kv.take i).map jm).sum:Nat),F H i]/\i<=cj.length/\w=a) (λb _=>match b with|[_,F _ i]=>cj.length-i.toNat|_=>0) ⟨0,rfl,A,rfl⟩ ?_
 rintro _ _ _ ⟨i,rfl,al,rfl⟩
 try simp only[M,N,O,P,bi]
 have ao:=m i
 refine⟨λB=>?_,λap=>?_⟩
 ·have s:i<cj.length:=A
  have D:i<kv.length:=A
  have aq:=m (i+1)
  have f:((kv.take (i+1)).map jm).sum=((kv.take i).map jm).sum+kv[i].length:=by
   rw[jO D,g6,List.sum_append]
   simp
  have o:(cj[i]).2=kv[i]:=by simp[<-l]
  refine bT (λb a=>b=[F H (((kv.take (i+1)).map jm).sum:Nat)]/\w=a) ?_ ?_
  ·refine(Ub.ek k (Q.b0 _ _) s).2 ?_
   obtain⟨ar,au,J,_⟩:=r _ (dX s)
   rw[J]
   try simp only[M,N,O,P]
   rw[bq (by rw[o];omega) (by rw[o];omega)]
   try simp only[bi]
   refine⟨λh=>A,λ_=>?_⟩
   exact⟨by rw[f,o];simp,by trivial⟩
  rintro _ _ _ ⟨rfl,rfl⟩
  try simp only[M,N,O,P]
  rw[bq A A]
  exact⟨⟨i+1,by rfl,A,by trivial⟩,by simp;omega⟩
 ·have av:i=kv.length:=A
  refine aH X2 (aj1 (n:=((kv.take i).map jm).sum) A) ?_
  rintro ae aA ⟨bJ,K,L,R⟩
  try simp only[M,N,O,P]
  refine c1 (λb a=>∃(j:Nat)(ae:S)(am:List Nat),b=[ae,F H j]/\j<=cj.length/\bP a 5 1 ae (kv.take j).flatten.length ((kv.take j).flatten.flatMap bs) am/\(∀g∈am,w.heap.size<=g)/\Q [] w a) (λb _=>match b with|[_,F _ i]=>cj.length-i.toNat|_=>0)
   ⟨0,ae,bJ,rfl,A,K,L,R⟩ ?_
  rintro _ _ ax ⟨j,aw,cM,rfl,ay,p,q,e⟩
  try simp only[M,N,O,P,bi]
  refine⟨λB=>?_,λaz=>?_⟩
  ·have t:j<cj.length:=A
   have V:j<kv.length:=A
   have u:(cj[j]).2=kv[j]:=by simp[<-l]
   refine(Ub.ek (k.V e) (Q.b0 _ _) t).2 ?_
   have W:=(r _ (dX t)).V e
   have f:(kv.take (j+1)).flatten=(kv.take j).flatten++kv[j]:=by
    rw[jO V,List.flatten_append]
    simp
   have aB:(kv.take j).flatten.length+(cj[j]).2.length<=1000000:=by
    have:=m (j+1)
    rw[<-List.length_flatten,f,di,<-u]at this
    exact this
   refine aj2 p W A λX aC ab v ac ad=>?_
   try simp only[M,N,O,P]
   rw[bq A A]
   rw[u,<-f]at v
   have:=e.aI
   exact⟨⟨j+1,X,ab,by trivial,A,v,λg af=>(ac g af).elim (q g) (λh=>A),e.R ad (λx ag=>Z (q x ag))⟩,by simp;omega⟩
  ·have ah:j=kv.length:=A
   rw[ah,j3]at p
   exact⟨cM,p,q,e⟩
def Js(h:aT w bs aa l)(o:l.length<=1000000):a0 C 67 #[aa] w λae a=>c7.nl w a ae l:=by
 refine a9 .D 1 Tryz.func67 K rfl λa1 f=>?_
 simp+decide (maxSteps:=9999999)only[↓a8,ba,Tryz.f67]
 subst f
 have g:=h
 obtain⟨d,c,rfl,p,i⟩:=h
 refine(eqSlNone IY).2 ?_
 cases d with
 |none=>
  refine cG.2 ⟨λ_=>?_,λe=>(by cases e)⟩
  have j:l=[]:=i.resolve_right (by rintro⟨b,af,h,_⟩;cases h)
  subst j
  exact⟨[],gJ _ _ _,B,Q.b0 _ _⟩
 |some d=>
  refine cG.2 ⟨λe=>(by cases e),λ_=>?_⟩
  refine Gz ky e2 uZ g A (by unfold d0;omega) λae a am k m n=>?_
  exact⟨am,k,m,n⟩
def aj3:eH C 22 3 1 ew (λk:Int=>F H k):=eH.aW vL hl bZ
def aj4{aS:List Int}{x:Int}(h:aT w ew aa aS)(o:aS.length<=1000000):a0 C 81 #[aa,F H x] w λae a=>ae=aK (decide (x∈aS))/\Q [] w a:=by
 refine a9 .D 2 Tryz.func81 K rfl λa1 b=>?_
 simp+decide (maxSteps:=9999999)only[↓a8,ba,Tryz.f81]
 subst b
 have bz:a0 C 130 #[aa,F H x] w λae a=>(∃k:Int,ae=F H k/\(0<=k↔x∈aS))/\Q [] w a:=by
  refine a9 (.L .D (.L (.L .D (.aW (.cJ [8] .D))) .D)) 2 Tryz.func130 K rfl λa1 b=>?_
  simp+decide (maxSteps:=9999999)only[↓a8,ba,Tryz.f130]
  subst b
  obtain⟨d,c,rfl,p,q⟩:=id h
  try simp only[M,N,O,P]
  refine c1 (λe a=>∃i:Nat,e=[F H i]/\i<=aS.length/\x∉aS.take i/\w=a) (λe _=>match e with|[F _ i]=>aS.length-i.toNat|_=>0) ⟨0,rfl,A,B,rfl⟩ ?_
  rintro _ _ _ ⟨i,rfl,al,f,rfl⟩
  try simp only[M,N,O,P,bi]
  refine⟨λr=>?_,λs=>?_⟩
  ·have g:i<aS.length:=A
   refine(aj3.ek h (Q.b0 _ _) g).2 ?_
   try simp only[M,N,O,P,bi]
   refine⟨λj=>?_,λj=>?_⟩
   ·exact⟨⟨i,rfl,⟨λ_=>by rw[j];exact dX g,λ_=>A⟩⟩,.b0 _ _⟩
   ·try simp only[M,N,O,P]
    rw[bq A A]
    refine⟨⟨i+1,by rfl,A,?_,by trivial⟩,by simp;omega⟩
    rw[jO g]
    simp only[b4,ku,not_or]
    exact⟨f,j⟩
  ·have l:i=aS.length:=A
   rw[l,j3]at f
   exact⟨⟨-1,rfl,⟨λh=>A,λh=>absurd h f⟩⟩,.b0 _ _⟩
 refine aH LH bz ?_
 rintro _ aA ⟨⟨k,rfl,m⟩,n⟩
 try simp only[M,N,O,P]
 exact⟨by congr 1;rw[decide_eq_decide];exact m,n⟩
end
structure er where
 bG:List UInt8
 gE:Nat
 eJ:List UInt8
 hB:List Nat
def iy:er:=⟨[],0,[],[]⟩
def er.kG(c:er)(ad:dn):er:={c with eJ:=c.eJ++(ga ad.ch.length++ad.ch)}
def er.d4(c:er):er:={c with bG:=c.bG.drop (min c.gE c.bG.length),gE:=c.gE-min c.gE c.bG.length}
def i7(l:List UInt8):Nat:=(l.getD 0 0).toNat+(l.getD 1 0).toNat*256
def er.vk:Nat->er->er×Option (List UInt8)
 |0,c=>(c.d4,I)
 |n+1,c=>if c.d4.bG.length<2 then(c.d4,I)else if i7 c.d4.bG<=1024 then
   (if c.d4.bG.length-2<i7 c.d4.bG then(c.d4,I)else({c.d4 with bG:=c.d4.bG.drop (2+i7 c.d4.bG)},E ((c.d4.bG.drop 2).take (i7 c.d4.bG))))
  else er.vk n (er.kG {c.d4 with bG:=c.d4.bG.drop 2,gE:=i7 c.d4.bG} ⟨0,11,0,0,[],[]⟩)
def er.il(c:er):er×Option (List UInt8):=er.vk c.bG.length c
structure i8 where
 mX:S
 ta:S
 wy:S
 a3:er
def gn(x:i8):List S:=[x.mX,F H x.a3.gE,x.ta,x.wy]
def Ud(x:i8):(gn x).length=4:=rfl
def np(w:aN)(x:i8)(am:List Nat):Prop:=∃aO aD,hp w aO bs x.mX x.a3.bG/\hp w aO bs x.ta x.a3.eJ/\bP w 3 1 x.wy x.a3.hB.length ((x.a3.hB.map λn:Nat=>(n:Int)).flatMap ew) aD/\bR aO aD/\(∀g∈aO,g<w.heap.size)/\am=aO++aD
def l2:vX np where
 J:=by
  rintro w a x am bU ⟨aO,aD,h,i,d,j,e,rfl⟩ c f
  exact⟨aO,aD,h.J c (λg b=>f g (hg _ b)),i.J c (λg b=>f g (hg _ b)),d.J c (λg b k=>f g (h3 _ b) k),j,λg b=>iL (e g b) c.aI,rfl⟩
 aL:=by
  rintro w x am ⟨aO,aD,h,i,d,j,e,rfl⟩ g b
  rcases b4.1 b with b|b
  ·exact e g b
  ·exact d.aL g b
section
variable{x:i8}{ad:dn}
def si(h:aC w s ar (cv++gn x++da))(a:cv.length=iB):(∀ac,aZ C (a4 52 (aE (E ⟨s,iB,I⟩))) w ac↔ac x.mX)/\(∀ac,aZ C (a4 3 (aE (E ⟨s,iB+1,I⟩))) w ac↔ac (F H x.a3.gE))/\(∀ac,aZ C (a4 52 (aE (E ⟨s,iB+2,I⟩))) w ac↔ac x.ta)/\(∀ac,aZ C (a4 22 (aE (E ⟨s,iB+3,I⟩))) w ac↔ac x.wy):=by
 subst a
 have bz:∀i(al:i<4),w.cell? ⟨s,cv.length+i,I⟩=(gn x)[i]?:=by
  intro i al
  have:=h.bh (af:=cv.length+i)
  rw[this,gq,nr A,show cv.length+i-cv.length=i by omega,pR (by simpa[gn]using al)]
 exact⟨λ_=>bl nb (bz 0 A),λ_=>bl bZ (bz 1 A),λ_=>bl nb (bz 2 A),λ_=>bl Aj (bz 3 A)⟩
def tb{b:co}{dx:i8}(c:ep C b 1=G)(h:aC w s ar (cv++gn x++da))(d:cv.length=iB)(al:i<4)(f:aa.oneCell'=G)(g:(gn x).set i aa=gn dx)
  (k:∀a,aC a s ar (cv++gn dx++da)->Q [s] w a->a.heap.size=w.heap.size->ac bS a):W C (dC b (aE (E ⟨s,iB+i,I⟩)) aa) w ac:=by
 subst d
 refine eK c h (by simp[gn];omega) f λa j l m=>k a ?_ l m
 rw[<-g]
 have e:(cv++gn x++da).set (cv.length+i) aa=cv++(gn x).set i aa++da:=by
  rw[gq,sr _ _ A,show cv.length+i-cv.length=i by omega,List.set_append_left _ _ (by simpa[gn]using al),gq]
 rwa[e]at j
end
section
variable{x:i8}{ad:dn}
def Ue(w a:aN)(s:Nat)(ar:co)(cv da:List S)(am:List Nat)(b:er):Prop:=∃dx az,aC a s ar (cv++gn dx++da)/\np a dx az/\dx.a3=b/\(∀g∈az,g∈am\/w.heap.size<=g)/\Q [s] w a
def Uf(h:aC w s ar (cv++gn x++da))(z:cv.length=iB)(al:np w x am)(ao:s∉am)(f:ma w fz ad)(an:c7.vd ad)(aT:ad.ch.length<=10000)(aU:x.a3.eJ.length<=900000):
  a0 C 80 #[aE (E ⟨s,iB,I⟩),je fz] w λae a=>ae=bQ #[]/\Ue w a s ar cv da am (x.a3.kG ad):=by
 refine a9 .D 2 Tryz.func80 K rfl λa1 ap=>?_
 simp+decide (maxSteps:=9999999)only[↓a8,ba,Tryz.f80]
 subst ap
 refine eA λaA q D aV=>?_
 have q:aC aA w.heap.size 37 (eb fz):=q
 refine((c7.hJ q).2.2.2.2.2.2 _).2 ?_
 refine aH X5 (c7.ai5 (f.V D) an) ?_
 rintro b1 ax ⟨aW,J,aX,aq⟩
 have L:x.a3.kG ad={x.a3 with eJ:=x.a3.eJ++(ga ad.ch.length++ad.ch)}:=rfl
 rw[L]
 clear L
 generalize ad.ch=hs at*
 have j:=D.R aq B
 have au:=l2.J al j (bR.D _)
 obtain⟨aY,aZ,av,a2⟩:=si (h.J j B) z
 obtain⟨k,l,rfl,a4,_⟩:=id J.jD
 simp only[M,N,O,P,av]
 refine(fv kd oE).2 ?_
 refine(nS A).2 ?_
 refine(fv kd oE).2 ?_
 have aw:∀n:Nat,((n:Nat):Int)/2^min (8:Int).toNat H.bits=(n:Int)/256:=λ_=>rfl
 rw[aw]
 simp only[X.pa]
 refine Sc A λm ay R o=>?_
 have az:=(J.eF e2 A).V o
 obtain⟨aO,aD,aB,V,W,aF,aG,rfl⟩:=l2.J au o (bR.D _)
 have aI:=V.aW
 have aJ:=R.aW
 have aa:x.ta.cells=#[x.ta]:=tI aI
 have ac:m.cells=#[m]:=tI aJ
 have aL:(T k hs.length l).cells=#[T k hs.length l]:=rfl
 refine hw mK [x.ta,m,T k hs.length l] rfl rfl (by intro bm r;simp at r;rcases r with rfl|rfl|rfl;rw[aa];rfl;rw[ac];rfl;rfl) A A λaM aP c a5=>?_
 have aQ:ju aM (T (E ⟨ay.heap.size,0,I⟩) 3 3) [x.a3.eJ,ga hs.length,hs]:=by
  refine⟨[(x.ta,x.a3.eJ),(m,ga hs.length),(T k hs.length l,hs)],⟨_,_,rfl,B,Z ⟨_,_,rfl,?_⟩⟩,?_,rfl⟩
  ·have:=aP.cy
   simpa[aa,ac,aL,kl]using this
  ·intro ab f
   simp at f
   rcases f with rfl|rfl|rfl
   ·exact V.1.V c
   ·exact R.V c
   ·exact az.V c
 refine aH Lv (Uc aQ B (by simp[ga];omega)) ?_
 rintro ae t ⟨d,af,ag,ah⟩
 have u:Q [] w t:=((j.R o B).R c B).R ah B
 have ai:hp t d bs ae [x.a3.eJ,ga hs.length,hs].flatten:=hp.c4 af e2 A
 try simp only[M,N,O,P]
 refine tb (i:=2) (dx:={x with ta:=ae,a3:={x.a3 with eJ:=x.a3.eJ++(ga hs.length++hs)}}) mJ (h.J u B) z A ai.aW (by simp[gn]) λa6 aR p a7=>?_
 have v:=c.R ah B
 have r:=u.aI
 have aj:∀g∈d,w.heap.size<=g:=λg b=>by
  have:=ag g b
  have:=j.aI
  have:=o.aI
  have:=c.aI
  omega
 have bb:=h.aL
 have y:∀{ak:List Nat},(∀g∈ak,g∈aO++aD\/w.heap.size<=g)->bR ak [s]:=λaS g b e=>by
  simp at e
  subst e
  exact(aS g b).elim ao (λh=>A)
 refine⟨rfl,{x with ta:=ae,a3:={x.a3 with eJ:=x.a3.eJ++(ga hs.length++hs)}},(aO++d)++aD,aR,⟨aO++d,aD,?_,?_,?_,?_,?_,rfl⟩,rfl,?_,(u.bw B).R p (λg b=>Y b)⟩
 ·exact((aB.J v (bR.D _)).J p (y λg b=>Y (by simp[b]))).pI (λg b=>by simp[b])
 ·refine hp.pI ((by simpa using ai:hp t d bs ae (x.a3.eJ++(ga hs.length++hs))).J p (y λg b=>Z (aj g b))) (λg b=>by simp[b])
 ·exact(W.J v B).J p (y λg b=>Y (by simp[b]))
 ·intro g b e
  rcases b4.1 b with b|b
  ·exact aF g b e
  ·have:=W.aL g e;have:=ag g b;have:=c.aI;omega
 ·intro g b
  rcases b4.1 b with b|b
  ·have:=aG g b;have:=v.aI;omega
  ·have:=af.aL g b;omega
 ·intro g b
  simp only[b4]at b⊢
  rcases b with(b|b)|b
  ·exact Y (Y b)
  ·exact Z (aj g b)
  ·exact Y (Z b)
end
section
variable{x:i8}{ad:dn}
def Ug{d:Option es}{c:Nat}{dK:List UInt8}(h:l=[]\/∃b af ak,T d n c=T (E ⟨b,af,I⟩) l.length ak/\b∈aO)(f:l=[]->dK=[])(e:Option es)(g:e=if c=k then d else d.map (·.add (k*1)))(ak:Nat):dK=[]\/∃b af a,T e dK.length ak=T (E ⟨b,af,I⟩) dK.length a/\b∈aO:=by
 rcases h with h|⟨b,af,a,gh,i⟩
 ·exact Y (f h)
 ·right
  simp only[zI]at gh
  obtain⟨rfl,_,_⟩:=gh
  subst g
  refine⟨b,if c=k then af else af+k*1,ak,?_,i⟩
  congr 1
  split<;>simp[Addr.add]
def BS{ac:S->Prop}(h:hp w aO bs aa l)(b:k<=l.length)(e:∀ae,hp w aO bs ae (l.drop k)->ac ae):aV C (l5 52 aa (E (F H k)) I I) ac:=by
 obtain⟨ao,f⟩:=h
 obtain⟨d,c,rfl,g,i⟩:=id ao
 refine(rs fP el A A).2 ?_
 rw[hf]
 have a:=aT.d1 e2 ao b (fF _)
 rw[mv B]at a
 refine e _ ⟨a,?_⟩
 have:=Ug (dK:=l.drop k) (k:=k) f (λh=>by simp[h]) _ rfl (c-k)
 rw[e8]at this
 rw[e8]
 exact this
def Uh{ac:S->Prop}(h:hp w aO bs aa l)(a:i<=j)(b:j<=l.length)(e:∀ae,hp w aO bs ae ((l.drop i).take (j-i))->ac ae):aV C (l5 52 aa (E (F H i)) (E (F H j)) I) ac:=by
 obtain⟨ao,f⟩:=h
 obtain⟨d,c,rfl,n,o⟩:=id ao
 refine(z8 fP el A A A).2 ?_
 rw[hf,hf]
 have g:=aT.d1 e2 ao a b
 refine e _ ⟨g,?_⟩
 have m:((l.drop i).take (j-i)).length=j-i:=by rw[ea,e8];omega
 have:=Ug (dK:=(l.drop i).take (j-i)) (k:=i) f (λh=>by simp[h]) _ rfl (c-i)
 rw[m]at this⊢
 exact this
def aj5(h:aC w s ar (cv++gn x++da))(d:cv.length=iB)(p:np w x am)(ao:s∉am)(ad:x.a3.gE<=1000000)(af:x.a3.bG.length<=1000000):
  a0 C 127 #[aE (E ⟨s,iB,I⟩)] w λae a=>ae=bQ #[]/\Ue w a s ar cv da am x.a3.d4:=by
 refine a9 M2 1 Tryz.func127 K rfl λa1 q=>?_
 simp+decide (maxSteps:=9999999)only[↓a8,ba,M2,Tryz.f127]
 subst q
 have r:=cD [] w
 have e:=r.R (cD [] w.drew) B
 have t:=l2.J p e (bR.D _)
 have j:=h.J e B
 obtain⟨u,v,ag,ah⟩:=si (bD h) d
 obtain⟨y,z,ai,aj⟩:=si j d
 obtain⟨aO,aD,k,D,J,L,R,rfl⟩:=t
 obtain⟨ak,al,l,_⟩:=id k.1
 simp only[M,N,O,P,u,v,y,z]
 rw[l]
 simp only[M,N,O,P]
 rw[show min (x.a3.gE:Int) (x.a3.bG.length:Int)=((min x.a3.gE x.a3.bG.length:Nat):Int)by omega,<-l]
 refine BS k A λae m=>?_
 try simp only[M,N,O,P]
 rw[show H.wrap ((x.a3.gE:Int)-((min x.a3.gE x.a3.bG.length:Nat):Int))=((x.a3.gE-min x.a3.gE x.a3.bG.length:Nat):Int)from by rw[bq A A];omega]
 refine tb (i:=0) (dx:={x with mX:=ae,a3:={x.a3 with bG:=x.a3.bG.drop (min x.a3.gE x.a3.bG.length)}}) mJ j d A m.aW rfl λan V W ap=>?_
 try simp only[M,N,O,P]
 refine tb (i:=1) (dx:={x with mX:=ae,a3:=x.a3.d4}) hl V d A rfl rfl λX aa ab aq=>?_
 have c:Q [s] w.drew.drew X:=W.R ab (λg b=>Y b)
 have f:∀{n:List Nat},(∀g∈n,g∈aO++aD)->bR n [s]:=λac g b o=>by
  simp at o
  subst o
  exact ao (ac g b)
 refine⟨rfl,_,aO++aD,aa,⟨aO,aD,m.J c (f λg b=>by simp[b]),D.J c (f λg b=>by simp[b]),J.J c (f λg b=>by simp[b]),L,λg b=>by have:=R g b;have:=c.aI;omega,rfl⟩,rfl,λg b=>Y b,(e.bw B).R c (λg b=>Y b)⟩
end
def pN:dn:=⟨0,11,0,0,[],[]⟩
def Ui:pN.ch.length<=23:=by
 cases a:pN.bt with
 |false=>rw[GV _ a];simp
 |true=>rw[GU _ a,GW];simp[pN]
def er.Jt(n:Nat)(c:er):er.vk (n+1) c=if c.d4.bG.length<2 then(c.d4,I)else if i7 c.d4.bG<=1024 then
  (if c.d4.bG.length-2<i7 c.d4.bG then(c.d4,I)else({c.d4 with bG:=c.d4.bG.drop (2+i7 c.d4.bG)},E ((c.d4.bG.drop 2).take (i7 c.d4.bG))))
 else er.vk n (er.kG {c.d4 with bG:=c.d4.bG.drop 2,gE:=i7 c.d4.bG} pN):=rfl
def er.Ju(c:er):c.d4.bG.length<=c.bG.length:=by simp[er.d4]
section
variable{x:i8}{ad:dn}
def E2:eH C 52 5 1 bs (λb:UInt8=>F cl b.toNat):=eH.aW fP el mb
def aj6:C.built 37 #[(1,F H 11)].toList=E (eb ⟨0,11,0,0,T I 0 0,T I 0 0⟩).toArray:=K
def E3(a:aN)(az:List Nat)(bb:Option (List UInt8))(ae:S):Prop:=match bb with
 |none=>ae=bQ #[T I 0 0,aK U]
 |some fT=>∃b1,ae=bQ #[b1,aK G]/\hp a az bs b1 fT
def zz(w:aN)(s iB:Nat):Nat:=match w.cell? ⟨s,iB,I⟩with
 |some (T _ n _)=>n
 |_=>0
def E4(h:aC w s ar (cv++gn x++da))(a:cv.length=iB)(b:np w x am):zz w s iB=x.a3.bG.length:=by
 subst a
 obtain⟨aO,aD,c,_⟩:=b
 obtain⟨e,f,d,_⟩:=id c.1
 have:w.cell? ⟨s,cv.length,I⟩=E x.mX:=by
  have:=h.bh (af:=cv.length)
  rw[this,gq,nr A,k6]
  simp[gn]
 unfold zz
 rw[this,d]
def aj7(h:aC w s ar (cv++gn x++da))(f:cv.length=iB)(aG:np w x am)(ao:s∉am)(aI:x.a3.gE<=100000)(aJ:x.a3.bG.length<=10000)(bu:x.a3.eJ.length+13*x.a3.bG.length<=890000):
  a0 C 78 #[aE (E ⟨s,iB,I⟩)] w λae a=>∃dx az,aC a s ar (cv++gn dx++da)/\np a dx az/\dx.a3=x.a3.il.1/\(∀g∈az,g∈am\/w.heap.size<=g)/\Q [s] w a/\E3 a az x.a3.il.2 ae:=by
 refine a9 ME 1 Tryz.func78 K rfl λa1 aL=>?_
 simp+decide (maxSteps:=9999999)only[↓a8,ba,ME,Tryz.f78]
 subst aL
 have bv:=h.aL
 refine c1 (λaM a=>∃(n:Nat)(dx:i8)(az:List Nat),aM=[]/\aC a s ar (cv++gn dx++da)/\np a dx az/\dx.a3.bG.length<=n/\dx.a3.bG.length<=10000/\dx.a3.gE<=100000/\dx.a3.eJ.length+13*dx.a3.bG.length<=890000/\er.vk n dx.a3=x.a3.il/\(∀g∈az,g∈am\/w.heap.size<=g)/\Q [s] w a) (λ_ a=>zz a s iB) ⟨x.a3.bG.length,x,am,rfl,h,aG,fF _,aJ,aI,A,rfl,λg b=>Y b,.b0 _ _⟩ ?_
 rintro _ _ ax ⟨n,lr,cM,rfl,ab,ac,bw,bx,bz,bB,af,ag,ah⟩
 have aP:s∉cM:=λJ=>(ag s J).elim ao (λh=>A)
 refine aH X3 (aj5 ab f ac aP A A) ?_
 rintro _ l ⟨rfl,hD,aQ,p,L,y,aR,aS⟩
 have bC:=ah.aI
 have aj:Q [s] w l:=ah.R aS (λg b=>Y b)
 have r:∀g∈aQ,g∈am\/w.heap.size<=g:=λg b=>(aR g b).elim (ag g) (λh=>Z A)
 obtain⟨aU,bE,bH,bI⟩:=si p f
 have aV:=lr.a3.Ju
 have aW:lr.a3.d4.gE<=lr.a3.gE:=by simp[er.d4]
 have R:lr.a3.d4.eJ=lr.a3.eJ:=rfl
 rw[<-y]at aV aW R
 obtain⟨aO,aD,al,aX,aY,an,ap,rfl⟩:=id L
 obtain⟨bJ,bK,V,_⟩:=id al.1
 try simp only[M,N,O,P,aU]
 rw[V]
 try simp only[M,N,O,P,bi]
 refine⟨λbL=>?_,λbM=>?_⟩
 ·have d:x.a3.il=(lr.a3.d4,I):=by
   rw[<-af]
   cases n with
   |zero=>rfl
   |succ ak=>rw[er.Jt,if_pos (by rw[<-y];omega)]
  rw[d]
  exact⟨hD,aO++aD,p,L,y,r,aj,rfl⟩
 ·obtain⟨ak,rfl⟩:∃ak,n=ak+1:=⟨n-1,A⟩
  have t:=cD [] l
  obtain⟨q,bP,bT,bU⟩:=si (bD p) f
  have u:=al.J t (bR.D _)
  try simp only[M,N,O,P,q]
  have aZ:hD.a3.bG.getD 0 0=hD.a3.bG[0]:=iI A
  have et:hD.a3.bG.getD 1 0=hD.a3.bG[1]:=iI A
  have a2:i7 hD.a3.bG=(hD.a3.bG[0]).toNat+(hD.a3.bG[1]).toNat*256:=by unfold i7;rw[aZ,et]
  refine(E2.ek u.1 (Q.b0 _ _) (i:=0) A).2 ?_
  refine vc.2 ?_
  try simp only[M,N,O,P,q]
  refine(E2.ek u.1 (Q.b0 _ _) (i:=1) A).2 ?_
  refine vc.2 ?_
  refine(BN (j:=8) (ai:=hr) (by have:=(hD.a3.bG[0]).toNat_lt;omega) A).2 ?_
  rw[show(hD.a3.bG[0]).toNat+(hD.a3.bG[1]).toNat*2^8=i7 hD.a3.bG from a2.symm]
  have d:=af
  rw[er.Jt,<-y,if_neg A]at d
  have W:Q [s] w l.drew:=aj.R (t.bw B) (λg b=>Y b)
  have a4:=l2.J L t (bR.D _)
  have aq:s∉aO++aD:=λJ=>(r s J).elim ao (λh=>A)
  have m:∀{au:List Nat},(∀g∈au,g∈aO++aD)->bR au [s]:=λa5 g b av=>by
   simp at av
   subst av
   exact aq (a5 g b)
  have bV:i7 hD.a3.bG<=65535:=by
   have:=(hD.a3.bG[0]).toNat_lt
   have:=(hD.a3.bG[1]).toNat_lt
   omega
  generalize bW:i7 hD.a3.bG=e at*
  have aw:=aX.J t (bR.D _)
  have ay:=aY.J t B
  try simp only[M,N,O,P,bi]
  refine⟨λa6=>?_,λa6=>?_⟩
  ·rw[if_pos A]at d
   try simp only[M,N,O,P,q]
   rw[V]
   try simp only[M,N,O,P]
   rw[show H.wrap ((hD.a3.bG.length:Int)-2)=(hD.a3.bG.length:Int)-2 from bq A A]
   try simp only[M,N,O,P,bi]
   refine⟨λa7=>?_,λa7=>?_⟩
   ·rw[if_pos A]at d
    rw[<-d]
    exact⟨hD,aO++aD,bD p,a4,rfl,r,W,rfl⟩
   ·rw[if_neg A]at d
    try simp only[M,N,O,P,q]
    rw[show H.wrap (2+(e:Int))=((2+e:Nat):Int)from by rw[bq A A];omega,<-V]
    refine Uh (i:=2) (j:=2+e) u A A λb1 bb=>?_
    try simp only[M,N,O,P,q]
    refine BS (k:=2+e) u A λae v=>?_
    try simp only[M,N,O,P]
    refine tb (i:=0) (dx:={hD with mX:=ae,a3:={hD.a3 with bG:=hD.a3.bG.drop (2+e)}}) mJ (bD p) f A v.aW rfl λbc X o bd=>?_
    rw[<-d]
    refine⟨_,aO++aD,X,⟨aO,aD,v.J o (m λg b=>by simp[b]),aw.J o (m λg b=>by simp[b]),ay.J o (m λg b=>by simp[b]),an,λg b=>by have:=ap g b;have:l.drew.heap.size=l.heap.size:=rfl;omega,rfl⟩,rfl,r,W.R o (λg b=>Y b),b1,rfl,?_⟩
    have:=(bb.J o (m λg b=>by simp[b])).pI (JV:=aO++aD) (λg b=>by simp[b])
    rw[show 2+e-2=e by omega]at this
    exact this
  ·rw[if_neg A]at d
   try simp only[M,N,O,P,q]
   refine BS (k:=2) u A λae v=>?_
   try simp only[M,N,O,P]
   refine tb (i:=0) (dx:={hD with mX:=ae,a3:={hD.a3 with bG:=hD.a3.bG.drop 2}}) mJ (bD p) f A v.aW rfl λbc X o bd=>?_
   try simp only[M,N,O,P]
   refine tb (i:=1) (dx:={hD with mX:=ae,a3:={hD.a3 with bG:=hD.a3.bG.drop 2,gE:=e}}) hl X f A rfl rfl λaa be bf bX=>?_
   refine(bY aj6).2 ?_
   have z:Q [s] l.drew aa:=o.R bf (λg b=>Y b)
   have bg:np aa {hD with mX:=ae,a3:={hD.a3 with bG:=hD.a3.bG.drop 2,gE:=e}} (aO++aD):=⟨aO,aD,v.J z (m λg b=>by simp[b]),aw.J z (m λg b=>by simp[b]),ay.J z (m λg b=>by simp[b]),an,λg b=>by have:=ap g b;have:l.drew.heap.size=l.heap.size:=rfl;omega,rfl⟩
   have bZ:=Ui
   refine aH Lw (Uf (ad:=pN) be f bg aq ⟨rfl,rfl,rfl,rfl,aT.gW _ _,aT.gW _ _⟩ ⟨by simp[pN],by simp[pN],by simp[pN]⟩ A (by show hD.a3.eJ.length<=900000;rw[R];omega)) ?_
   rintro _ bh ⟨rfl,c,bj,aA,aB,D,bk,bl⟩
   have aF:Q [s] w aa:=W.R z (λg b=>Y b)
   have b0:=aF.aI
   have bm:c.a3.bG=hD.a3.bG.drop 2:=by rw[D];rfl
   have b2:c.a3.gE=e:=by rw[D];rfl
   have bn:c.a3.eJ=hD.a3.eJ++(ga pN.ch.length++pN.ch):=by rw[D];rfl
   have bo:c.a3.eJ.length<=hD.a3.eJ.length+25:=by rw[bn];simp[ga];omega
   have b3:c.a3.bG.length=hD.a3.bG.length-2:=by rw[bm,e8]
   have bp:c.a3.bG.length<=ak:=A
   have br:c.a3.bG.length<=10000:=A
   have bs:c.a3.gE<=100000:=A
   have bt:c.a3.eJ.length+13*c.a3.bG.length<=890000:=by
    rw[R]at bo
    omega
   refine⟨⟨ak,c,bj,by trivial,aA,aB,bp,br,bs,bt,?_,λg b=>(bk g b).elim (r g) (λh=>Z A),aF.R bl (λg b=>Y b)⟩,?_⟩
   ·rw[D];exact d
   ·show zz bh s iB<zz ax s iB
    rw[E4 aA f aB,E4 ab f ac]
    omega
end
end
end Go.Proofs.YtepeilglbedgdaaGreatDoor
namespace Go.X
variable{w:aN}{am bJ ci:List Nat}{aU:Type}
section
variable{bH:aN->aU->List Nat->Prop}{x:aU}{k8:List Nat}
def hc.Uj:∀{aS:List aU}{am:List Nat}{i:Nat},hc bH w aS am->(al:i<aS.length)->∃k8 bJ ci,hc bH w (aS.take i) k8/\bH w aS[i] bJ/\hc bH w (aS.drop (i+1)) ci/\bR k8 bJ/\bR k8 ci/\bR bJ ci/\∀g,g∈am↔g∈k8\/g∈bJ\/g∈ci
 |[],am,i,_,al=>by simp at al
 |x::aS,am,0,h,al=>by
  obtain⟨bJ,cM,rfl,a,d,e⟩:=h
  refine⟨[],bJ,cM,rfl,d,by simpa using e,bR.PD _,bR.PD _,a,λg=>B⟩
 |x::aS,am,i+1,h,al=>by
  obtain⟨bJ,cM,rfl,a,d,e⟩:=h
  obtain⟨k8,f,ci,j,k,l,m,n,o,c⟩:=hc.Uj e (by simpa using al)
  have p:bR bJ k8:=a.d1 (λ_ h=>h) (λg b=>(c g).2 (Y b))
  have q:bR bJ f:=a.d1 (λ_ h=>h) (λg b=>(c g).2 (Z (Y b)))
  have r:bR bJ ci:=a.d1 (λ_ h=>h) (λg b=>(c g).2 (Z (Z b)))
  refine⟨bJ++k8,f,ci,⟨bJ,k8,rfl,p,d,j⟩,by simpa using k,by simpa using l,bR.p8 q m,bR.p8 r n,o,λg=>?_⟩
  simp only[b4,c g]
  constructor
  ·rintro(h|h|h|h)
   ·exact Y (Y h)
   ·exact Y (Z h)
   ·exact Z (Y h)
   ·exact Z (Z h)
  ·rintro((h|h)|h|h)
   ·exact Y h
   ·exact Z (Y h)
   ·exact Z (Z (Y h))
   ·exact Z (Z (Z h))
def hc.bK:∀{cs an:List aU}{k8:List Nat},hc bH w cs k8->bH w x bJ->hc bH w an ci->bR k8 bJ->bR k8 ci->bR bJ ci->hc bH w (cs++x::an) (k8++(bJ++ci))
 |[],an,k8,b,c,d,e,f,i=>by
  cases b
  exact⟨bJ,ci,rfl,i,c,d⟩
 |ap::cs,an,k8,b,c,d,e,f,i=>by
  obtain⟨j,k,rfl,l,m,n⟩:=b
  refine⟨j,k++(bJ++ci),B,?_,m,hc.bK n c d (e.d1 (λg a=>h3 _ a) λ_ h=>h) (f.d1 (λg a=>h3 _ a) λ_ h=>h) i⟩
  exact bR.tV l (bR.tV (e.d1 (λg a=>hg _ a) λ_ h=>h) (f.d1 (λg a=>hg _ a) λ_ h=>h))
end
end Go.X
namespace Go.Proofs.YtepeilglbedgdaaGreatDoor
open Go.X
attribute[local irreducible]Go.X.W
variable{a ax w:aN}{aQ aX ab ag ai ak b bu i iB jP k n s t:Nat}{aB cp:Nat -> Bool}{aO am bJ bU cM ci d6 eT fy gf mA:List Nat}{cv da:List S}{aa ae:S}{ac:S -> aN -> Prop}{al ay bB vy xU:Nat -> Nat -> Bool}{an dO:cK}{ar:co}{au gg:eW}{bo:List i8}{c:dR}{ct:Prop}{d:dl}{fT l:List UInt8}{fz:kQ}
section
open Go.RowKit
def j2(cp:Nat->Bool)(an:cK)(c:er)(a:List UInt8):cK×er:=match kS a with
 |(d,E e)=>(an,c.kG ⟨d.dF,e.a5,0,0,[],[]⟩)
 |(d,I)=>match an.kV cp d with
  |(dO,E ad)=>(dO,c.kG ad)
  |(dO,I)=>(dO,{c with hB:=c.hB++[an.cQ+1]})
def k4(cp:Nat->Bool):Nat->cK->er->cK×er
 |0,an,c=>(an,c.il.1)
 |n+1,an,c=>match c.il with
  |(a,I)=>(an,a)
  |(a,E b)=>k4 cp n (j2 cp an a b).1 (j2 cp an a b).2
def vl:Nat->(Nat->Bool)->cK->er->Prop
 |0,_,_,_=>True
 |n+1,cp,an,c=>match c.il with
  |(_,I)=>True
  |(b,E a)=>(kS a).1.a5≠6/\vl n cp (j2 cp an b a).1 (j2 cp an b a).2
section
variable{x:i8}
structure ko(w:aN)(s b:Nat)(ar:co)(cv da:List S)(ci:List Nat)(x:i8)(bJ:List Nat)(ab:Nat)(c:dR)(au:eW)(aB:Nat->Bool)(ay al:Nat->Nat->Bool)(ai aQ:Nat)(an:cK):Prop where
 hK:h2 w b ci ab c au aB ay al ai aQ an
 bg:aC w s ar (aP b::cv++gn x++da)
 im:np w x bJ
 eX:bR ci bJ
 dG:s∉ci
 lR:s∉bJ
 xN:0∉bJ
 o3:0≠s
def ko.V(h:ko w s b ar cv da ci x bJ ab c au aB ay al ai aQ an)(d:Q [] w a):ko a s b ar cv da ci x bJ ab c au aB ay al ai aQ an:=
 ⟨h.hK.V d,h.bg.J d B,l2.J h.im d (bR.D _),h.eX,h.dG,h.lR,h.xN,h.o3⟩
def ko.zA(h:ko w s b ar cv da ci x bJ ab c au aB ay al ai aQ an){dx:i8}(j:aC a s ar (aP b::cv++gn dx++da))(k:np a dx fy)(f:∀g∈fy,g∈bJ\/w.heap.size<=g)(l:Q [s] w a):ko a s b ar cv da ci dx fy ab c au aB ay al ai aQ an:=by
 have m:=h.hK.aL
 have n:=h.bg.aL
 have o:=h.hK.pM.aL
 refine⟨h.hK.J l (λg e d=>by simp at d;subst d;exact h.dG e) (by simpa using h.o3),j,k,λg e d=>(f g d).elim (h.eX g e) (λi=>by have:=m g e;omega),h.dG,λd=>(f s d).elim h.lR (λi=>A),λd=>(f _ d).elim h.xN (λi=>A),h.o3⟩
end
def BT(ab:dn):ab.ch.length<=2671:=by
 cases a:ab.bt with
 |false=>rw[GV ab a];simp
 |true=>
  rw[GU ab a,GW]
  have h:=((Ds ab).1 a).1
  have d:=c7.Bw (ak:=24) ab.gj (λs ao=>h.gj.2 s ao)
  have b:=c7.Bw (ak:=608) (ab.dY.map lL) (λs ao=>by
   obtain⟨ah,c,rfl⟩:=fS.1 ao
   have:=h.dY.2 ah c
   rw[AF];omega)
  rw[dU]at b
  have e:ab.gj.length*(2+24)<=8*(2+24):=mw _ h.gj.1
  have f:ab.dY.length*(2+608)<=4*(2+608):=mw _ h.dY.1
  omega
def Uk{ab:dn}(b:ab.gj=[])(c:ab.dY=[]):ab.ch.length<=23:=by
 cases a:ab.bt with
 |false=>rw[GV ab a];simp
 |true=>rw[GU ab a,GW,b,c];simp
def aj8(h:(kS l).2=I):6<=l.length:=by
 refine Nat.le_of_not_lt λa=>?_
 unfold kS at h
 split at h
 ·rename_i aa k b c d e ab
  simp at a
  omega
 ·cases h
def kp:Option (List UInt8)->Nat
 |none=>0
 |some a=>2+a.length
structure Jv(c a:er)(bb:Option (List UInt8)):Prop where
 dT:a.bG.length+kp bb<=c.bG.length
 gE:a.gE<=max c.gE 65535
 eJ:a.eJ.length+13*(a.bG.length+kp bb)<=c.eJ.length+13*c.bG.length
 Ul:a.hB=c.hB
 eQ:∀aj,bb=E aj->aj.length<=1024
def aj9(l:List UInt8):i7 l<=65535:=by
 unfold i7
 have:=(l.getD 0 0).toNat_lt
 have:=(l.getD 1 0).toNat_lt
 omega
def Um:∀(n:Nat)(c:er),Jv c (er.vk n c).1 (er.vk n c).2
 |0,c=>by
  have b:=c.Ju
  have f:c.d4.gE<=c.gE:=by simp[er.d4]
  have a:c.d4.eJ=c.eJ:=rfl
  show Jv c c.d4 I
  exact⟨by simpa[kp]using b,A,by simp only[a,kp];omega,rfl,B⟩
 |n+1,c=>by
  have b:=c.Ju
  have f:c.d4.gE<=c.gE:=by simp[er.d4]
  have a:c.d4.eJ=c.eJ:=rfl
  have d:c.d4.hB=c.hB:=rfl
  have m:=aj9 c.d4.bG
  rw[er.Jt]
  split
  ·exact⟨by simpa[kp]using b,by simp only;omega,by simp only[a,kp];omega,d,B⟩
  ·split
   ·split
    ·exact⟨by simpa[kp]using b,by simp only;omega,by simp only[a,kp];omega,d,B⟩
    ·have e:((c.d4.bG.drop 2).take (i7 c.d4.bG)).length=i7 c.d4.bG:=by rw[ea,e8];omega
     refine⟨?_,by simp only;omega,?_,d,λaj g=>?_⟩
     ·simp only[kp,e,e8];omega
     ·simp only[kp,e,e8,a];omega
     ·cases g
      rw[e];omega
   ·have o:=Ui
    have h:(er.kG {c.d4 with bG:=c.d4.bG.drop 2,gE:=i7 c.d4.bG} pN).bG.length=c.d4.bG.length-2:=by simp[er.kG]
    have i:(er.kG {c.d4 with bG:=c.d4.bG.drop 2,gE:=i7 c.d4.bG} pN).eJ.length<=c.eJ.length+25:=by simp[er.kG,ga,a];omega
    have p:(er.kG {c.d4 with bG:=c.d4.bG.drop 2,gE:=i7 c.d4.bG} pN).gE=i7 c.d4.bG:=rfl
    have j:(er.kG {c.d4 with bG:=c.d4.bG.drop 2,gE:=i7 c.d4.bG} pN).hB=c.hB:=rfl
    generalize er.kG {c.d4 with bG:=c.d4.bG.drop 2,gE:=i7 c.d4.bG} pN=cE at*
    obtain⟨q,r,s,k,l⟩:=Um n cE
    have t:cE.eJ.length<=c.eJ.length+25:=i
    have u:cE.bG.length=c.d4.bG.length-2:=h
    have v:c.d4.bG.length<=c.bG.length:=b
    have w:2<=c.d4.bG.length:=A
    exact⟨A,A,A,by rw[k,j],l⟩
def Jw(c:er):Jv c c.il.1 c.il.2:=Um _ _
end
section
open Go.RowKit fC gO
def E5(cp:Nat->Bool)(an:cK)(c:er)(a:List UInt8):(j2 cp an c a).2.bG=c.bG/\(j2 cp an c a).2.gE=c.gE:=by
 unfold j2
 split
 ·exact⟨rfl,rfl⟩
 ·split<;>exact⟨rfl,rfl⟩
def Jx(cp:Nat->Bool)(n:Nat)(an:cK)(c:er):k4 cp (n+1) an c=match c.il with
 |(a,I)=>(an,a)
 |(a,E b)=>k4 cp n (j2 cp an a b).1 (j2 cp an a b).2:=rfl
def Jy(cp:Nat->Bool)(n:Nat)(an:cK)(c:er):vl (n+1) cp an c=match c.il with
 |(_,I)=>True
 |(b,E a)=>(kS a).1.a5≠6/\vl n cp (j2 cp an b a).1 (j2 cp an b a).2:=rfl
def Un{c:er}(h:c.bG.length<=n):k4 cp n an c=(match c.il.2 with
  |none=>(an,c.il.1)
  |some a=>k4 cp (n-1) (j2 cp an c.il.1 a).1 (j2 cp an c.il.1 a).2)/\(vl n cp an c->∀a,c.il.2=E a->(kS a).1.a5≠6/\vl (n-1) cp (j2 cp an c.il.1 a).1 (j2 cp an c.il.1 a).2):=by
 have b:=(Jw c).dT
 cases n with
 |zero=>
  have e:c.il.2=I:=by
   cases f:c.il.2 with
   |none=>rfl
   |some a=>rw[f]at b;simp only[kp]at b;omega
  rw[e]
  exact⟨rfl,λ_ a d=>by cases d⟩
 |succ ak=>
  rw[Jx,Jy]
  rcases i:c.il with⟨j,bb⟩
  cases bb with
  |none=>exact⟨rfl,λ_ a d=>by cases d⟩
  |some a=>exact⟨rfl,λg aj b=>by cases b;exact g⟩
section
variable{x:i8}
structure f5(w a:aN)(s:Nat)(ci bJ eT fy:List Nat):Prop where
 J:Q (s::(ci++bJ)) w a
 wz:∀g∈eT,g∈ci\/w.heap.size<=g
 nj:∀g∈fy,g∈bJ\/w.heap.size<=g
def f5.b0:f5 w w s ci bJ ci bJ:=⟨.b0 _ _,λ_ h=>Y h,λ_ h=>Y h⟩
def f5.dP(h:f5 w a s ci bJ eT fy)(f3:f5 a ax s eT fy mA cM):f5 w ax s ci bJ mA cM:=by
 have d:=h.J.aI
 refine⟨h.J.R f3.J (λg b=>?_),λg b=>(f3.wz g b).elim (h.wz g) (λc=>Z A),λg b=>(f3.nj g b).elim (h.nj g) (λc=>Z A)⟩
 simp only[ce,b4]at b⊢
 rcases b with b|b|b
 ·exact Y (Y b)
 ·exact(h.wz g b).imp (λc=>Z (Y c)) id
 ·exact(h.nj g b).imp (λc=>Z (Z c)) id
def f5.iu(b:Q [] w a):f5 w a s ci bJ ci bJ:=⟨b.bw B,λ_ h=>Y h,λ_ h=>Y h⟩
def f5.im(c:Q [s] w a)(d:∀g∈fy,g∈bJ\/w.heap.size<=g):f5 w a s ci bJ ci fy:=⟨c.bw (λg b=>Y (by simp at b;simp[b])),λ_ h=>Y h,d⟩
def aka{i j:Int}:C.built 37 #[(0,F H i),(1,F H j)].toList=E (eb ⟨i,j,0,0,T I 0 0,T I 0 0⟩).toArray:=K
def Jz{ad:dn}(h:ko w s b ar cv da ci x bJ ab c au aB ay al ai aQ an)(f:cv.length+1=iB)(g:ma w fz ad)(i:c7.vd ad)(n:x.a3.eJ.length<=880000)
  (k:∀a dx fy,ko a s b ar cv da ci dx fy ab c au aB ay al ai aQ an->dx.a3=x.a3.kG ad->f5 w a s ci bJ ci fy->ac (bQ #[]) a):W C (ck 80 #[aE (E ⟨s,iB,I⟩),je fz]) w ac:=by
 have o:=BT ad
 refine aH Lw (Uf h.bg (by simpa using f) h.im h.lR g i A A) ?_
 rintro _ aA ⟨rfl,dx,fy,j,l,m,d,e⟩
 exact k aA dx fy (h.zA j l d e) m (.im e d)
def Uo(h:ko w s b ar cv da ci x bJ ab c au aB ay al ai aQ an)(f:cv.length+1=iB)(o:x.a3.gE<=65535)(g:x.a3.bG.length<=10000)(i:x.a3.eJ.length+13*x.a3.bG.length<=890000)
  (k:∀ae a dx fy,ko a s b ar cv da ci dx fy ab c au aB ay al ai aQ an->dx.a3=x.a3.il.1->f5 w a s ci bJ ci fy->E3 a fy x.a3.il.2 ae->ac ae a):W C (ck 78 #[aE (E ⟨s,iB,I⟩)]) w ac:=by
 refine aH XB (aj7 h.bg (by simpa using f) h.im h.lR A g i) ?_
 rintro ae aA ⟨dx,fy,j,l,m,d,e,n⟩
 exact k ae aA dx fy (h.zA j l d e) m (.im e d) n
def Up{av:ji}{gG:Int}:∀{ao:List gZ}{dj:Nat}{dM l:List (Int×ByteArray)},(∀ah∈dM,ah.2.size<=1000)->rI av cp gG dj dM ao=E l->l.length<=dM.length+ao.length/\∀ah∈l,ah.2.size<=1000
 |[],dj,dM,l,a,h=>by
  cases h
  exact⟨B,a⟩
 |x::ao,dj,dM,l,a,h=>by
  rw[BP]at h
  cases c:pp av cp x with
  |none=>
   rw[c]at h
   simp only at h
   split at h
   ·cases h
   ·cases h;exact⟨B,a⟩
  |some ag=>
   rw[c]at h
   simp only at h
   split at h
   ·cases h;exact⟨B,a⟩
   ·have f:=TL c
    obtain⟨d,e⟩:=Up (dM:=dM++[(x.cu,h7 ag)]) (λah b=>by
     rcases b4.1 b with b|b
     ·exact a ah b
     ·rw[ku.1 b]
      show(h7 ag).size<=1000
      have:(h7 ag).size=ag.length:=by simp[h7,vv]
      omega) h
    refine⟨?_,e⟩
    rw[di,nt]at d
    rw[gF]
    omega
def akb{ad:dn}(f:d.a5≠6)(h:(an.kV cp d).2=E ad):c7.vd ad:=by
 have a:∀{ad:dn},ad.gj=[]->ad.dY=[]->c7.vd ad:=λb c=>⟨by rw[b];simp,by rw[c];simp,by rw[c];simp⟩
 unfold cK.kV at h
 split at h
 ·split at h
  ·split at h
   ·cases h;exact a rfl rfl
   ·cases h
  ·cases h
   unfold mi
   rw[if_neg f]
   split
   ·exact a rfl rfl
   ·split
    ·split<;>exact a rfl rfl
    ·split
     ·exact a rfl rfl
     ·unfold mO
      split
      ·split
       ·exact a rfl rfl
       ·rename_i l g
        obtain⟨b,c⟩:=Up (dM:=[]) (λah e=>by simp at e) g
        rw[ea]at b
        simp only[tl]at b
        exact⟨B,by simp only;omega,λah e=>by have:=c ah e;omega⟩
      ·exact a rfl rfl
 ·cases h;exact a rfl rfl
def ko.akc(h:ko w s b ar cv da ci x bJ ab c au aB ay al ai aQ an){dx:i8}(l:aC a s ar (aP b::cv++gn dx++da))(m:np a dx fy)(j:∀g∈fy,g∈bJ\/w.heap.size<=g)(n:Q bU w a)(k:∀g∈bU,g=s\/g∈bJ):ko a s b ar cv da ci dx fy ab c au aB ay al ai aQ an:=by
 have o:=h.hK.aL
 have p:=h.bg.aL
 have q:=h.hK.pM.aL
 refine⟨h.hK.J n (λg f d=>(k g d).elim (λe=>h.dG (e▸f)) (λi=>h.eX g f i)) (λd=>(k _ d).elim h.o3 h.xN),l,m,λg f d=>(j g d).elim (h.eX g f) (λi=>by have:=o g f;omega),h.dG,λd=>(j s d).elim h.lR (λi=>A),λd=>(j _ d).elim h.xN (λi=>A),h.o3⟩
def ko.E6{j:cK}(h:ko w s b ar cv da ci x bJ ab c au aB ay al ai aQ an)(m:h2 a b mA ab c au aB ay al ai aQ j)(f:bX (ci++gf) mA w a)(k:∀g∈gf,g∉bJ/\g≠s):ko a s b ar cv da mA x bJ ab c au aB ay al ai aQ j:=by
 have o:=h.bg.aL
 have n:=l2.aL h.im
 have l:bR bJ (ci++gf):=λg i e=>(b4.1 e).elim (λd=>h.eX g d i) (λd=>(k g d).1 i)
 have ao:s∉ci++gf:=λe=>(b4.1 e).elim h.dG (λd=>(k s d).2 rfl)
 exact⟨m,h.bg.J f.J ao,l2.J h.im f.J l,λg i e=>(f.cq g i).elim (λd=>l g e d) (λd=>by have:=n g e;omega),λe=>(f.cq s e).elim ao (λd=>A),h.lR,h.xN,h.o3⟩
def ko.akd(h:ko w s b ar cv da ci x bJ ab c au aB ay al ai aQ an)(e:Q [ak] w a)(i:ak∉ci)(j:ak∉bJ)(k:ak≠s)(l:ak≠0):ko a s b ar cv da ci x bJ ab c au aB ay al ai aQ an:=
 ⟨h.hK.J e (λg f d=>i (by simp at d;subst d;exact f)) (by simp;exact Ne.symm l),h.bg.J e (by simp;exact Ne.symm k),l2.J h.im e (λg f d=>j (by simp at d;subst d;exact f)),h.eX,h.dG,h.lR,h.xN,h.o3⟩
def Uq{a:cK}{bb:Option dn}{cd:aN}{ct:List Nat}(h:Jl w cd b ct mA a bb ae):∃fz,ae=bQ #[F H (a.cQ+1:Nat),je fz,aK bb.isSome]/\fz.pb.oneCell'=G/\fz.mH.oneCell'=G/\∀ad,bb=E ad->qw w cd ad (je fz):=by
 obtain⟨_,h⟩:=h
 cases bb with
 |none=>exact⟨vf,h,rfl,rfl,λad e=>by cases e⟩
 |some ad=>
  obtain⟨g,f,c⟩:=h
  obtain⟨fz,rfl,d,_⟩:=id c
  exact⟨fz,f,d.gj.aW,d.dY.aW,λi e=>by cases e;exact c⟩
def Ur{x ap:kQ}(h:je x=je ap):x=ap:=by
 obtain⟨d,b,c,ag,e,aj⟩:=x
 obtain⟨fl,a,f,g,gh,i⟩:=ap
 simp[je,eb]at h
 obtain⟨rfl,rfl,rfl,rfl,rfl,rfl⟩:=h
 rfl
def ake(h:ko w s b ar cv da ci x bJ ab c au aB ay al ai aQ an)(t:cv.length+1=iB)(ao:xH c ay al cp)(cW:aT w bs aa fT)(dH:x.a3.gE<=65535)(e5:x.a3.bG.length+fT.length<=2000)(dK:x.a3.eJ.length<=100000)(e6:an.cQ<=100000)(dL:x.a3.hB.length<=100000)(dM:vl (x.a3.bG.length+fT.length) cp an {x.a3 with bG:=x.a3.bG++fT}):
  a0 C 41 #[aP s,aE (E ⟨s,iB,I⟩),aa] w λae a=>ae=bQ #[]/\∃eT dx fy,ko a s b ar cv da eT dx fy ab c au aB ay al ai aQ (k4 cp (x.a3.bG.length+fT.length) an {x.a3 with bG:=x.a3.bG++fT}).1/\dx.a3=(k4 cp (x.a3.bG.length+fT.length) an {x.a3 with bG:=x.a3.bG++fT}).2/\f5 w a s ci bJ eT fy:=by
 refine a9 Mo 3 Tryz.func41 K rfl λa1 dN=>?_
 simp+decide (maxSteps:=9999999)only[↓a8,ba,Mo,Tryz.f41]
 subst dN
 obtain⟨bp,cY,cZ,bM⟩:=si h.bg (by simpa using t)
 obtain⟨aO,aD,a2,bU,aS,dO,dP,rfl⟩:=id h.im
 try simp only[M,N,O,P,bp]
 have dQ:=a2.aW
 have dR:=cW.aW
 have c0:x.mX.cells=#[x.mX]:=tI dQ
 have c2:aa.cells=#[aa]:=tI dR
 refine hw mK [x.mX,aa] rfl rfl (by intro bm J;simp at J;rcases J with rfl|rfl;rw[c0];rfl;rw[c2];rfl) A A λaA dS bq e7=>?_
 have dT:ju aA (T (E ⟨w.heap.size,0,I⟩) 2 2) [x.a3.bG,fT]:=by
  refine⟨[(x.mX,x.a3.bG),(aa,fT)],⟨_,_,rfl,B,Z ⟨_,_,rfl,?_⟩⟩,?_,rfl⟩
  ·have:=dS.cy
   simpa[c0,c2,kl]using this
  ·intro ab V
   simp at V
   rcases V with rfl|rfl
   ·exact a2.1.V bq
   ·exact cW.V bq
 refine aH Lv (Uc dT B (by simp;omega)) ?_
 rintro ae ax ⟨aU,c3,dW,dY⟩
 have a4:Q [] w ax:=bq.R dY B
 have bV:hp ax aU bs ae [x.a3.bG,fT].flatten:=hp.c4 c3 e2 A
 have dZ:=h.V a4
 have d1:[x.a3.bG,fT].flatten=x.a3.bG++fT:=B
 rw[d1]at bV
 try simp only[M,N,O,P]
 have e9:=a4.aI
 have bW:∀g∈aU,w.heap.size<=g:=λg f=>by have:=dW g f;have:=bq.aI;omega
 have fa:=h.bg.aL
 refine tb (i:=0) (dx:={x with mX:=ae,a3:={x.a3 with bG:=x.a3.bG++fT}}) mJ dZ.bg (by simpa using t) A bV.aW rfl λb0 d2 br fb=>?_
 have b2:∀{a5:List Nat},(∀g∈a5,g∈aO++aD\/w.heap.size<=g)->bR a5 [s]:=λb3 g f j=>by
  simp at j
  subst j
  exact(b3 g f).elim h.lR (λh=>A)
 have c4:Q [s] w b0:=(a4.bw B).R br (λg f=>Y f)
 have d3:np b0 {x with mX:=ae,a3:={x.a3 with bG:=x.a3.bG++fT}} ((aO++aU)++aD):=by
  refine⟨aO++aU,aD,(bV.J br (b2 λg f=>Z (bW g f))).pI (λg f=>by simp[f]),(((bU.J a4 (bR.D _)).J br (b2 λg f=>Y (by simp[f]))).pI (λg f=>by simp[f])),(aS.J a4 B).J br (b2 λg f=>Y (by simp[f])),λg f j=>?_,λg f=>?_,rfl⟩
  ·rcases b4.1 f with f|f
   ·exact dO g f j
   ·have:=aS.aL g j;have:=bW g f;omega
  ·rcases b4.1 f with f|f
   ·have:=dP g f;omega
   ·have:=c3.aL g f;omega
 have c5:∀g∈(aO++aU)++aD,g∈aO++aD\/w.heap.size<=g:=λg f=>by
  simp only[b4]at f⊢
  rcases f with(f|f)|f
  ·exact Y (Y f)
  ·exact Z (bW g f)
  ·exact Y (Z f)
 have d4:=h.zA d2 d3 c5 c4
 have d5:f5 w b0 s ci (aO++aD) ci ((aO++aU)++aD):=.im c4 c5
 generalize fd:x.a3.bG.length+fT.length=dE at*
 have fe:({x with mX:=ae,a3:={x.a3 with bG:=x.a3.bG++fT}}:i8).a3={x.a3 with bG:=x.a3.bG++fT}:=rfl
 generalize bt:({x.a3 with bG:=x.a3.bG++fT}:er)=p at*
 have d6:p.gE<=65535:=by rw[<-bt];exact dH
 have ff:p.bG.length=dE:=by rw[<-bt];simp;omega
 have fg:p.eJ.length<=100000:=by rw[<-bt];exact dK
 have fj:p.hB.length<=100000:=by rw[<-bt];exact dL
 have a6:=Jw p
 refine Uo d4 t d6 (by show p.bG.length<=10000;omega) (by show p.eJ.length+13*p.bG.length<=890000;omega) λd7 d8 tu c6 d9 W ec b7=>?_
 have W:tu.a3=p.il.1:=W
 have b7:E3 d8 c6 p.il.2 d7:=b7
 have eh:∀{a:aN}{az:List Nat}{bb:Option (List UInt8)}{ae:S},E3 a az bb ae->∃b1,ae=bQ #[b1,aK bb.isSome]/\∀m,bb=E m->hp a az bs b1 m:=by
  intro a az bb ae c8
  cases bb with
  |none=>exact⟨_,c8,B⟩
  |some m=>
   obtain⟨b1,a2,bU⟩:=c8
   exact⟨b1,a2,λaj bu=>by cases bu;exact bU⟩
 obtain⟨ee,rfl,ef⟩:=eh b7
 simp only[cV,cX]
 refine c1 (λaw a=>∃(n:Nat)(bb:Option (List UInt8))(b1:S)(k:cK)(g8:i8)(u q:List Nat),aw=[b1,aK bb.isSome]/\(∀m,bb=E m->hp a q bs b1 m/\m.length<=1024)/\ko a s b ar cv da u g8 q ab c au aB ay al ai aQ k/\f5 w a s ci (aO++aD) u q/\(bb=I\/g8.a3.bG.length<=n)/\g8.a3.gE<=65535/\g8.a3.eJ.length+335*(g8.a3.bG.length+kp bb)<=100000+335*2000/\k.cQ+g8.a3.bG.length+kp bb<=102000/\g8.a3.hB.length+g8.a3.bG.length+kp bb<=102000/\n<=2000/\k4 cp dE an p=(match bb with
   |none=>(k,g8.a3)
   |some m=>k4 cp n (j2 cp k g8.a3 m).1 (j2 cp k g8.a3 m).2)/\(∀m,bb=E m->(kS m).1.a5≠6/\vl n cp (j2 cp k g8.a3 m).1 (j2 cp k g8.a3 m).2))
  (λaw a=>zz a s iB+match aw with
   |[_,aK G]=>1
   |_=>0) ?_ ?_
 ·have a7:=Un (cp:=cp) (an:=an) (c:=p) (n:=dE) A
  have L:=a6.dT
  have db:=a6.gE
  have dc:=a6.eJ
  refine⟨dE-1,p.il.2,ee,an,tu,ci,c6,rfl,λm bv=>⟨ef m bv,a6.eQ m bv⟩,d9,d5.dP ec,?_,by rw[W];omega,by rw[W];omega,by rw[W];omega,by rw[W,a6.Ul];omega,A,?_,?_⟩
  ·rw[W]
   cases V:p.il.2 with
   |none=>exact Y rfl
   |some m=>rw[V]at L;simp only[kp]at L;exact Z A
  ·rw[a7.1,W]
  ·rw[W];exact a7.2 dM
 rintro _ _ ah ⟨n,bb,b1,k,g8,u,q,rfl,eg,r,dd,ei,ej,b8,b9,de,fk,aF,ek⟩
 cases bb with
 |none=>
  try simp only[M,N,O,P]
  refine cG.2 ⟨λo=>(by cases o),λ_=>?_⟩
  obtain⟨bp,cY,cZ,bM⟩:=si r.bg (by simpa using t)
  obtain⟨y,z,ca,cb,bw,bx,bz,aV⟩:=id r.im
  try simp only[M,N,O,P,bp]
  refine aH w8 (Js ca.1 (by simp only[kp]at b9;omega)) ?_
  rintro bd aW ⟨be,df,cc,aG⟩
  have dg:hp aW be bs bd g8.a3.bG:=hp.c4 df e2 A
  have cf:=r.V aG
  have el:=r.bg.aL
  have aX:=r.lR
  rw[aV]at aX
  try simp only[M,N,O,P]
  refine tb (i:=0) (dx:={g8 with mX:=bd}) mJ cf.bg (by simpa using t) A dg.aW rfl λbB cg aY em=>?_
  have ch:∀{a5:List Nat},(∀g∈a5,g∈y++z\/ah.heap.size<=g)->bR a5 [s]:=λb3 g f j=>by
   simp at j
   subst j
   exact(b3 g f).elim aX (λh=>A)
  have cj:Q [s] ah bB:=(aG.bw B).R aY (λg f=>Y f)
  have en:np bB {g8 with mX:=bd} ((y++be)++z):=by
   refine⟨y++be,z,(dg.J aY (ch λg f=>Z (cc g f))).pI (λg f=>by simp[f]),(((cb.J aG (bR.D _)).J aY (ch λg f=>Y (by simp[f]))).pI (λg f=>by simp[f])),(bw.J aG B).J aY (ch λg f=>Y (by simp[f])),λg f j=>?_,λg f=>?_,rfl⟩
   ·rcases b4.1 f with f|f
    ·exact bx g f j
    ·have:=bw.aL g j;have:=cc g f;omega
   ·have:=cj.aI
    rcases b4.1 f with f|f
    ·have:=bz g f;omega
    ·have:=df.aL g f;omega
  have dh:∀g∈(y++be)++z,g∈q\/ah.heap.size<=g:=λg f=>by
   rw[aV]
   simp only[b4]at f⊢
   rcases f with(f|f)|f
   ·exact Y (Y f)
   ·exact Z (cc g f)
   ·exact Y (Z f)
  refine⟨rfl,u,{g8 with mX:=bd},(y++be)++z,?_,?_,dd.dP (.im cj dh)⟩
  ·rw[aF];exact r.zA cg en dh cj
  ·rw[aF]
 |some m=>
  try simp only[M,N,O,P]
  refine cG.2 ⟨λ_=>?_,λo=>(by cases o)⟩
  obtain⟨bv,fl⟩:=eg m rfl
  have eo:=ej
  have ak:=ek m rfl
  have ep:g8.a3.bG.length<=n:=ei.resolve_left B
  refine bT (λaw a=>∃(X:cK)(lr:i8)(mA ck:List Nat),aw=[]/\ko a s b ar cv da mA lr ck ab c au aB ay al ai aQ X/\f5 ah a s u q mA ck/\j2 cp k g8.a3 m=(X,lr.a3)/\lr.a3.eJ.length<=g8.a3.eJ.length+335*kp (E m)/\X.cQ<=k.cQ+1/\lr.a3.hB.length<=g8.a3.hB.length+1) ?_ ?_
  ·try simp only[M,N,O,P]
   refine ai3 bv.1 A λbd aW eq=>?_
   obtain⟨aG,bc,rfl,aI,et⟩:=eq
   have bC:=ai1 m
   have cm:=aj8 (l:=m)
   unfold j2
   rcases eu:kS m with⟨d,cz⟩
   rw[eu]at ak aI bC cm
   simp only at ak aI bC cm
   simp only[cV,cX]
   have bE:=aI.aW
   refine uj λbB cg aY em=>?_
   refine qu cg rfl bE λD bH ex fm=>?_
   have bI:Q [] aW D:=aY.R ex B
   have bf:=aG.R bI B
   have aJ:=r.V bf
   have R:=cD [] D
   have ey:jf D:=aJ.hK.pM
   cases cz with
   |some e=>
    refine oF.2 ?_
    refine cG.2 ⟨λ_=>?_,λo=>(by cases o)⟩
    obtain⟨dj,_⟩:=gc (bD bH)
    try simp only[M,N,O,P,dj]
    refine Jf (ey.V R) λcd cn=>?_
    have v:=R.R cn B
    refine(dz bZ ((bH.J v B).bh (af:=0))).2 ?_
    refine(bY aka).2 ?_
    have fn:=Uk (ab:=⟨d.dF,e.a5,0,0,[],[]⟩) rfl rfl
    refine Jz (ad:=⟨d.dF,e.a5,0,0,[],[]⟩) (fz:=⟨d.dF,e.a5,0,0,T I 0 0,T I 0 0⟩) (aJ.V v) t ⟨rfl,rfl,rfl,rfl,aT.gW _ _,aT.gW _ _⟩ ⟨B,B,B⟩ (by simp only[kp]at b8;omega) λbg cq k8 bh aL cs=>?_
    refine⟨k,cq,u,k8,by trivial,bh,(f5.iu (bf.R v B)).dP cs,by rw[aL],?_,A,by rw[aL];exact Nat.le_succ _⟩
    rw[aL]
    simp only[er.kG,di,ga,gF,tl,kp]
    omega
   |none=>
    have fo:=cm rfl
    refine(fp dk).2 ?_
    refine cG.2 ⟨λo=>(by cases o),λ_=>?_⟩
    have fq:=bf.aI
    have fr:=aG.aI
    obtain⟨gf,ez,aM⟩:∃gf,sg aW gf bc d.bk.a7/\∀g∈gf,ah.heap.size<=g/\g<aW.heap.size:=by
     by_cases ct:d.bk.a7=[]
     ·exact⟨[],⟨aI,Y ct⟩,B⟩
     ·obtain⟨fs,cC,cu,_,eA⟩:=id aI
      obtain⟨ap,af,rfl,fu⟩:=eA.resolve_left ct
      refine⟨[ap],⟨aI,Z ⟨ap,af,cC,cu,B⟩⟩,λg f=>?_⟩
      simp at f
      subst f
      refine⟨et g af _ _ cu,aI.Ei ?_ g af _ _ cu⟩
      obtain⟨bm,fv,J⟩:=List.exists_cons_of_ne_nil ct
      rw[J,iA,di]
      simp[dV]
      omega
    have dl:=r.hK.aL
    have dm:=l2.aL r.im
    have fA:=r.hK.pM.aL
    have el:=r.bg.aL
    refine bT (λaw a=>∃(cw:Nat)(fz:kQ)(mA:List Nat),aw=[F H (k.cQ+1:Nat),aP cw,aK (k.kV cp d).2.isSome]/\aC a cw 37 (eb fz)/\(∀ad,(k.kV cp d).2=E ad->ma a fz ad)/\ko a s b ar cv da mA g8 q ab c au aB ay al ai aQ (k.kV cp d).1/\f5 ah a s u q mA q) ?_ ?_
    ·obtain⟨dj,fB,fC,fG,fH,fI,fJ,fL,fM,fN,fO,eC⟩:=gc (bD bH)
     have dn:∀{a:aN},Q [] D a->a.cell? ⟨s,0,I⟩=E (aP b):=λbi=>by
      have:=(aJ.bg.J bi B).bh (af:=0)
      rw[this]
      simp
     try simp only[M,N,O,P]
     refine(bl (aa:=aP b) CQ (dn R)).2 ?_
     try simp only[M,N,O,P,eC]
     have bK:∀{a:aN},Q [] D a->bR gf (0::u)/\∀g∈gf,g<a.heap.size:=λbi=>⟨λg f j=>by
      have a2:=aM g f
      rcases ce.1 j with rfl|j
      ·omega
      ·have:=dl g j;omega,λg f=>by have:=(aM g f).2;have:=bI.aI;have:=bi.aI;omega⟩
     have dp:∀{a:aN},Q [] D a->sg a gf bc d.bk.a7:=λbi=>(ez.J bI (bR.D _)).J bi (bR.D _)
     have dq:∀g∈gf,g∉q/\g≠s:=λg f=>⟨λj=>by have:=dm g j;have:=(aM g f).1;omega,λe=>by have:=(aM g f).1;omega⟩
     have dr:∀{cx cy:aN}{az:List Nat},Q [] ah cx->bX (u++gf) az cx cy->f5 ah cy s u q az q:=λ{cx cy az} ds dt=>⟨(ds.bw B).R dt.J (λg f=>by
       rcases b4.1 f with f|f
       ·exact Y (by simp[f])
       ·exact Z (aM g f).1),λg f=>by
      rcases dt.cq g f with o|o
      ·rcases b4.1 o with o|o
       ·exact Y o
       ·exact Z (aM g o).1
      ·exact Z (by have:=ds.aI;omega),λg f=>Y f⟩
     have du:k.cQ<=1000000:=by simp only[kp]at b9;omega
     refine⟨?_,?_⟩
     ·refine aH Ls (DW (cp:=cp) (aJ.V R).hK ao (dp R) (bK R).1 (bK R).2 bC ak.1 du) ?_
      rintro _ cd ⟨mA,cA,ac⟩
      obtain⟨fz,rfl,cB,cE,cF⟩:=Uq ac
      simp only[na,oB,oC]
      refine qv λbg bj aZ eD=>?_
      refine mW (x:=fz) bj cB cE λcH cI am eE=>?_
      have cJ:Q [] cd cH:=aZ.R am B
      have bk:=dr (bf.R R B) ac.1
      refine⟨_,fz,mA,rfl,cI,λad cL=>?_,((aJ.V R).E6 cA ac.1 dq).V cJ,bk.dP (.iu cJ)⟩
      obtain⟨eF,cM,aS,_⟩:=cF ad cL
      rw[Ur cM]
      exact aS.V cJ
     ·refine qv λcd eG cn fP=>?_
      have v:=R.R cn B
      refine(mE (l:=f1 d bc) CT (bH.J v B).cy).2 ?_
      refine(dz (aa:=aP b) CQ (dn v)).2 ?_
      refine aH Ls (DW (cp:=cp) (aJ.V v).hK ao (dp v) (bK v).1 (bK v).2 bC ak.1 du) ?_
      rintro _ bg ⟨mA,cA,ac⟩
      obtain⟨fz,rfl,cB,cE,cF⟩:=Uq ac
      simp only[na,oB,oC]
      have fQ:=bI.aI
      have fR:D.drew.heap.size=D.heap.size:=rfl
      have eH:∀g,g∈u++gf->g<D.heap.size:=λg f=>by
       rcases b4.1 f with f|f
       ·have:=dl g f;omega
       ·have:=(aM g f).2;omega
      have dv:D.drew.heap.size∉u++gf:=λj=>by have:=eH _ j;omega
      refine mW (x:=fz) (eG.J ac.1.J dv) cB cE λcH cI am eE=>?_
      have bk:=dr (bf.R v B) ac.1
      have bh:=(aJ.V v).E6 cA ac.1 dq
      have eI:D.drew.heap.size∉mA:=λj=>(ac.1.cq _ j).elim dv (λh=>A)
      refine⟨_,fz,mA,rfl,cI,λad cL=>?_,bh.akd am eI (λj=>by have:=dm _ j;omega) A A,⟨bk.J.R am (λg f=>Z (by simp at f;omega)),bk.wz,bk.nj⟩⟩
      obtain⟨eF,cM,aS,_⟩:=(cF ad cL).J am (λg f=>by simp at f;omega)
      rw[Ur cM]
      exact aS
    rintro _ _ cd ⟨cw,fz,mA,rfl,eJ,cO,ag,dw⟩
    have dy:(k.kV cp d).1.cQ=k.cQ+1:=by
     unfold cK.kV
     split
     ·split
      ·split<;>rfl
      ·rfl
     ·rfl
    rcases cP:k.kV cp d with⟨X,eK⟩
    have cQ:∀ad,(k.kV cp d).2=E ad->c7.vd ad:=λad=>akb ak.1
    rw[cP]at cO ag cQ dy
    simp only at cO ag cQ dy
    cases eK with
    |some ad=>
     try simp only[M,N,O,P]
     refine cG.2 ⟨λ_=>?_,λo=>(by cases o)⟩
     try simp only[M,N,O,P]
     refine((c7.hJ eJ).2.2.2.2.2.2 _).2 ?_
     have fU:=BT ad
     refine Jz (ag) t (cO ad rfl) (cQ ad rfl) (by simp only[kp]at b8;omega) λbg cq k8 bh aL cs=>?_
     refine⟨X,cq,mA,k8,by trivial,bh,dw.dP cs,by rw[aL];simp only[cP],?_,A,by rw[aL];exact Nat.le_succ _⟩
     rw[aL]
     simp only[er.kG,di,ga,gF,tl,kp]
     omega
    |none=>
     try simp only[M,N,O,P]
     refine cG.2 ⟨λo=>(by cases o),λ_=>?_⟩
     obtain⟨bp,cY,cZ,bM⟩:=si ag.bg (by simpa using t)
     obtain⟨y,z,ca,cb,bw,bx,bz,aV⟩:=id ag.im
     have aX:=ag.lR
     rw[aV]at aX
     have fV:=ag.bg.aL
     have fW:g8.a3.hB.length<=1000000:=by simp only[kp]at de;omega
     try simp only[M,N,O,P,bM]
     refine hw uM [F H (k.cQ+1:Nat)] rfl rfl (by intro bm J;simp at J;subst J;rfl) A A λbg bj aZ eD=>?_
     have bj:aC bg cd.heap.size 3 [F H (k.cQ+1:Nat)]:=by simpa[bF]using bj
     refine m8 uM (bw.J aZ B) bj.cy rfl (by intro bm J;simp at J;subst J;rfl) A (by unfold d0;omega) A λbL cH aR eL am eM eN=>?_
     try simp only[M,N,O,P]
     have dB:s∉z:=λj=>aX (by simp[j])
     have eO:=ag.V aZ
     refine tb (i:=3) (dx:={g8 with wy:=bL,a3:={g8.a3 with hB:=g8.a3.hB++[k.cQ+1]}}) CN (eO.bg.J am dB) (by simpa using t) A eN rfl λcR eP dC fX=>?_
     have fY:=aZ.aI
     have cS:∀g∈aR,g∈z\/cd.heap.size<=g:=λg f=>(eM g f).imp id (λo=>A)
     have eQ:s∉aR:=λj=>(cS s j).elim dB (λo=>A)
     have dD:bR y (s::z):=λg f j=>by
      rcases ce.1 j with rfl|j
      ·exact aX (by simp[f])
      ·exact bx g f j
     have bn:Q (s::z) cd cR:=((aZ.bw B).R am (λg f=>Y (ev _ f))).R dC (λg f=>Y (by simp at f;simp[f]))
     have eR:np cR {g8 with wy:=bL,a3:={g8.a3 with hB:=g8.a3.hB++[k.cQ+1]}} (y++aR):=by
      refine⟨y,aR,ca.J bn dD,cb.J bn dD,?_,λg f j=>?_,λg f=>iL (bz g f) bn.aI,rfl⟩
      ·have e:((g8.a3.hB++[k.cQ+1]).map λn:Nat=>(n:Int)).flatMap ew=(g8.a3.hB.map λn:Nat=>(n:Int)).flatMap ew++[F H (k.cQ+1:Nat)]:=by
        rw[g6,hL]
        simp[ew]
       show bP cR _ 1 bL (g8.a3.hB++[k.cQ+1]).length (((g8.a3.hB++[k.cQ+1]).map λn:Nat=>(n:Int)).flatMap ew) aR
       rw[e,di]
       exact eL.J dC (λg f j=>eQ (by simp at j;subst j;exact f))
      ·rcases cS g j with o|o
       ·exact bx g f o
       ·have:=bz g f;omega
     have dF:∀g∈y++aR,g∈q\/cd.heap.size<=g:=λg f=>by
      rw[aV]
      rcases b4.1 f with f|f
      ·exact Y (hg _ f)
      ·exact(cS g f).imp (λo=>h3 _ o) id
     have dG:∀g∈s::z,g=s\/g∈q:=λg f=>by
      rw[aV]
      rcases ce.1 f with f|f
      ·exact Y f
      ·exact Z (h3 _ f)
     refine⟨X,{g8 with wy:=bL,a3:={g8.a3 with hB:=g8.a3.hB++[k.cQ+1]}},mA,y++aR,by trivial,ag.akc eP eR dF bn dG,dw.dP ⟨bn.bw (λg f=>Y ?_),λ_ h=>Y h,dF⟩,by simp only[cP],by simp only;omega,A,B⟩
     rcases dG g f with o|o
     ·simp[o]
     ·simp[o]
  rintro _ _ aW ⟨X,lr,mA,ck,rfl,cf,eU,bE,eV,fZ,f0⟩
  have aq:=E5 cp k g8.a3 m
  rw[bE]at aq ak
  simp only at aq ak
  have aF:k4 cp dE an p=k4 cp n (j2 cp k g8.a3 m).1 (j2 cp k g8.a3 m).2:=aF
  rw[bE]at aF
  simp only at aF
  have bo:=Jw lr.a3
  have L:=bo.dT
  have db:=bo.gE
  have dc:=bo.eJ
  simp only[kp]at b8 b9 de eV
  refine Uo cf t (by rw[aq.2];exact eo) (by rw[aq.1];omega) (by rw[aq.1];omega) λf2 bB eW eX cU av eY e0=>?_
  obtain⟨e3,rfl,e4⟩:=eh e0
  simp only[cV,cX]
  have a7:=Un (cp:=cp) (an:=X) (c:=lr.a3) (n:=n) (by rw[aq.1];exact ep)
  rw[aq.1]at L dc
  rw[aq.2]at db
  refine⟨⟨n-1,lr.a3.il.2,e3,X,eW,mA,eX,rfl,λaj bu=>⟨e4 aj bu,bo.eQ aj bu⟩,cU,(dd.dP eU).dP eY,?_,by rw[av];omega,by rw[av];omega,by rw[av];omega,by rw[av,bo.Ul];omega,A,?_,?_⟩,?_⟩
  ·rw[av]
   cases V:lr.a3.il.2 with
   |none=>exact Y rfl
   |some aj=>rw[V]at L;simp only[kp]at L;exact Z A
  ·rw[aF,a7.1,av]
  ·rw[av];exact a7.2 ak.2
  ·rw[E4 cU.bg (by simpa using t) cU.im,E4 r.bg (by simpa using t) r.im,av]
   cases V:lr.a3.il.2 with
   |none=>rw[V]at L;simp only[kp]at L;simp only[Option.isSome];omega
   |some aj=>rw[V]at L;simp only[kp]at L;simp only[Option.isSome];omega
end
structure fR(w:aN)(s b:Nat)(ci d6:List Nat)(bo:List i8)(ab:Nat)(c:dR)(au:eW)(aB:Nat->Bool)(ay al:Nat->Nat->Bool)(ai aQ:Nat)(an:cK):Prop where
 hK:h2 w b ci ab c au aB ay al ai aQ an
 bg:aC w s 106 (aP b::bo.flatMap gn)
 oi:bo.length=4
 im:hc np w bo d6
 eX:bR ci d6
 dG:s∉ci
 vm:s∉d6
 xO:0∉d6
 o3:0≠s
section
variable{x:i8}
def Us(al:i<bo.length):aP b::bo.flatMap gn=aP b::(bo.take i).flatMap gn++gn bo[i]++(bo.drop (i+1)).flatMap gn:=by
 have e:bo=bo.take i++bo[i]::bo.drop (i+1):=by
  rw[<-ot al,l3]
 conv=>lhs;rw[e]
 rw[hL,iA]
 simp
def BU(al:i<bo.length):((bo.take i).flatMap gn).length+1=1+4*i:=by
 have:∀l:List i8,(l.flatMap gn).length=4*l.length:=by
  intro l
  induction l with
  |nil=>rfl
  |cons ap l a=>rw[iA,di,a,Ud,gF];omega
 rw[this,ea]
 omega
def fR.wA(h:fR w s b ci d6 bo ab c au aB ay al ai aQ an)(o:i<bo.length):∃bJ,ko w s b 106 ((bo.take i).flatMap gn) ((bo.drop (i+1)).flatMap gn) ci bo[i] bJ ab c au aB ay al ai aQ an/\(∀g∈bJ,g∈d6)/\
  ∀(dx:i8)(eT fy:List Nat)(a:aN)(dO:cK),ko a s b 106 ((bo.take i).flatMap gn) ((bo.drop (i+1)).flatMap gn) eT dx fy ab c au aB ay al ai aQ dO->f5 w a s ci bJ eT fy->∃r,fR a s b eT r (bo.set i dx) ab c au aB ay al ai aQ dO/\f5 w a s ci d6 eT r:=by
 obtain⟨k8,bJ,p,t,B,u,v,D,x,q⟩:=h.im.Uj o
 have l:∀g∈bJ,g∈d6:=λg e=>(q g).2 (Z (Y e))
 have m:∀g∈k8,g∈d6:=λg e=>(q g).2 (Y e)
 have n:∀g∈p,g∈d6:=λg e=>(q g).2 (Z (Z e))
 refine⟨bJ,⟨h.hK,by rw[<-Us o];exact h.bg,B,h.eX.d1 (λ_ h=>h) l,h.dG,λd=>h.vm (l _ d),λd=>h.xO (l _ d),h.o3⟩,l,?_⟩
 intro dx eT fy a dO k f
 have y:=t.aL l2
 have z:=u.aL l2
 have X:=h.bg.aL
 have aa:=h.hK.pM.aL
 have J:bR k8 (s::(ci++bJ)):=λg e d=>by
  rcases ce.1 d with rfl|d
  ·exact h.vm (m g e)
  ·rcases b4.1 d with d|d
   ·exact h.eX g d (m g e)
   ·exact v g e d
 have K:bR p (s::(ci++bJ)):=λg e d=>by
  rcases ce.1 d with rfl|d
  ·exact h.vm (n g e)
  ·rcases b4.1 d with d|d
   ·exact h.eX g d (n g e)
   ·exact x g d e
 have L:=t.J l2 f.J J
 have M:=u.J l2 f.J K
 have N:bR k8 fy:=λg e d=>(f.nj g d).elim (v g e) (λj=>by have:=y g e;omega)
 have O:bR fy p:=λg e d=>(f.nj g e).elim (λj=>x g j d) (λj=>by have:=z g d;omega)
 have P:bo.set i dx=bo.take i++dx::bo.drop (i+1):=List.set_eq_take_append_cons_drop▸by rw[if_pos o]
 have ac:s∉eT:=k.dG
 refine⟨k8++(fy++p),⟨k.hK,?_,by rw[i9];exact h.oi,by rw[P];exact L.bK k.im M N D O,?_,k.dG,?_,?_,h.o3⟩,⟨f.J.bw (λg e=>Y ?_),f.wz,λg e=>?_⟩⟩
 ·have:=k.bg
  have Q:i<(bo.set i dx).length:=by rw[i9];exact o
  rw[Us Q]
  have R:(bo.set i dx).take i=bo.take i:=by rw[List.take_set_of_le (fF _)]
  have V:(bo.set i dx).drop (i+1)=bo.drop (i+1):=by rw[List.drop_set_of_lt A]
  have W:(bo.set i dx)[i]=dx:=List.getElem_set_self _
  rw[R,V,W]
  exact this
 ·intro g e d
  simp only[b4]at d
  rcases d with d|d|d
  ·exact(f.wz g e).elim (λj=>h.eX g j (m g d)) (λj=>by have:=y g d;omega)
  ·exact k.eX g e d
  ·exact(f.wz g e).elim (λj=>h.eX g j (n g d)) (λj=>by have:=z g d;omega)
 ·intro d
  simp only[b4]at d
  rcases d with d|d|d
  ·exact h.vm (m _ d)
  ·exact k.lR d
  ·exact h.vm (n _ d)
 ·intro d
  simp only[b4]at d
  rcases d with d|d|d
  ·exact h.xO (m _ d)
  ·exact k.xN d
  ·exact h.xO (n _ d)
 ·rcases ce.1 e with e|e
  ·simp[e]
  ·rcases b4.1 e with e|e
   ·simp[e]
   ·simp[l g e]
 ·simp only[b4]at e
  rcases e with e|e|e
  ·exact Y (m g e)
  ·exact(f.nj g e).imp (l g) id
  ·exact Y (n g e)
def JA{n:Int}:a0 C 40 #[F H n] w λae a=>ae=aK (decide (0<=n/\n<4))/\w=a:=by
 refine a9 .D 1 Tryz.func40 K rfl λa1 b=>?_
 simp+decide (maxSteps:=9999999)only[↓a8,ba,Tryz.f40]
 subst b
 simp only[M,N,O,P,bi]
 refine⟨λh=>⟨?_,rfl⟩,λh=>⟨?_,rfl⟩⟩
 ·congr 1
  rw[decide_eq_decide]
  omega
 ·rw[decide_eq_false A]
end
def er.kL(c:er):er:={c with hB:=[]}
section
variable{x:i8}
def BV:mI C 104 103 4:=by unfold mI;kernel_rfl
def BW:ep C 103 4=G:=K
def akf(h:fR w s b ci d6 bo ab c au aB ay al ai aQ an):a0 C 44 #[aP s] w λae a=>ae=bQ #[]/\∃f j,fR a s b ci f j ab c au aB ay al ai aQ an/\j.map (·.a3)=bo.map (λx=>x.a3.kL)/\f5 w a s ci d6 ci f:=by
 have ap:=h.oi
 refine a9 (.L .D (.aW (.cJ [3] .D))) 1 Tryz.func44 K rfl λa1 Q=>?_
 simp+decide (maxSteps:=9999999)only[↓a8,ba,Tryz.f44]
 subst Q
 refine c1 (λo a=>∃(i:Nat)(j:List i8)(f:List Nat),o=[F H i]/\i<=4/\fR a s b ci f j ab c au aB ay al ai aQ an/\j.map (·.a3)=(bo.take i).map (λx=>x.a3.kL)++(bo.drop i).map (·.a3)/\f5 w a s ci d6 ci f) (λo _=>match o with|[F _ i]=>4-i.toNat|_=>0) ⟨0,bo,d6,rfl,A,h,B,.b0⟩ ?_
 rintro _ _ ax ⟨i,d,R,rfl,al,p,q,u⟩
 have aq:=p.oi
 try simp only[M,N,O,P,bi]
 refine⟨λv=>?_,λar=>?_⟩
 ·have r:i<d.length:=A
  obtain⟨bJ,k,av,V⟩:=p.wA r
  refine(kc BV BW A).2 ?_
  try simp only[M,N,O,P]
  obtain⟨m,aw,W,X,az,aA,aa,y⟩:=id k.im
  have z:=k.lR
  rw[y]at z
  have aC:=BU (bo:=d) r
  refine tb (iB:=1+i*4) (i:=3) (dx:={d[i]with wy:=T I 0 0,a3:=d[i].a3.kL}) CN k.bg (by simp only[gF];omega) A rfl rfl λac ad n aD=>?_
  have D:bR m [s]:=λg e J=>by simp at J;subst J;exact z (by simp[e])
  have af:np ac {d[i]with wy:=T I 0 0,a3:=d[i].a3.kL} (m++[]):=⟨m,[],W.J n D,X.J n D,gJ _ _ _,bR.D _,λg e=>by have:=aa g e;omega,rfl⟩
  have L:∀g∈m++[],g∈bJ\/ax.heap.size<=g:=λg e=>by
   rw[y]
   simp at e
   exact Y (by simp[e])
  have ag:=k.zA ad af L n
  obtain⟨ah,aj,ak⟩:=V _ _ _ _ _ ag (.im n L)
  try simp only[M,N,O,P]
  rw[bq A A]
  refine⟨⟨i+1,_,ah,by trivial,A,aj,?_,u.dP ak⟩,by simp;omega⟩
  have t:i<bo.length:=A
  have am:d[i].a3=bo[i].a3:=by
   have:=congrArg (λl=>l[i]?) q
   simp only[e1]at this
   rw[nr (by simp;omega)]at this
   simp only[dU,ea,e1,oo]at this
   rw[show i+(i-min i bo.length)=i by omega,cr r,cr t]at this
   simpa using this
  rw[qB,q]
  simp only[am]
  have v:((bo.take i).map λx=>x.a3.kL).length=i:=by rw[dU,ea];omega
  rw[jO t,g6,sr _ _ A,v,k6,ot t,ge,List.set_cons_zero,gq]
  rfl
 ·have ao:i=4:=A
  subst ao
  refine⟨rfl,R,d,p,?_,u⟩
  rw[q,mv A,List.drop_of_length_le A]
  simp
end
def o2(l:List (Nat×dn)):Prop:=∀ai∈l,ai.2.gj=[]/\ai.2.dY=[]
def Ut{k k7:Nat}:∀{ef:List (Nat×dl)}{g:fM},g.o2->(mP k k7 g ef).o2
 |[],g,h=>h
 |w::ef,g,h=>by
  rw[TW]
  split
  ·exact h
  ·rename_i b a
   exact Ut (TV h a)
def akg(an:cK)(k aX:Nat):o2 (an.dg k aX).2:=by
 have a:=Ut (k:=k) (k7:=an.cx.length) (ef:=an.cn) (g:=⟨an.bd,[],[]⟩) (by simp[fM.o2])
 unfold cK.dg
 simp only
 split
 ·exact a
 ·split
  ·exact a
  ·intro ai b
   obtain⟨ap,_,rfl⟩:=fS.1 b
   exact⟨rfl,rfl⟩
def Uu{k aX:Nat}:∀(n:Nat)(an:cK),o2 (ne k aX n an).2
 |0,an=>by simp[ne,o2]
 |n+1,an=>by
  rw[zr]
  split
  ·simp[o2]
  ·intro ai a
   rcases b4.1 a with a|a
   ·exact akg an k aX ai a
   ·exact Uu n _ ai a
def kH(t:Nat×dn)(c:er):er:=if t.1∈c.hB then c.kG t.2 else c
def akh(h:an.bp aX)(a:an.cn≠[]):(an.dg k aX).2.length+(an.dg k aX).1.cn.length<=an.cn.length:=by
 obtain⟨c,b,d,e⟩:=Hs an k aX h a
 have f:=b.dT
 unfold cK.dg
 simp only
 split
 ·simp only[e8];omega
 ·split
  ·simp only[e8];omega
  ·simp only[dU,List.length_zip,e8];omega
def Uv{k aX:Nat}:∀(n:Nat){an:cK},an.bp aX->(ne k aX n an).2.length<=an.cn.length
 |0,an,_=>by simp[ne]
 |n+1,an,h=>by
  rw[zr]
  split
  ·simp
  ·rename_i b
   have a:an.cn≠[]:=by simpa using b
   have c:=akh (k:=k) h a
   have d:=Uv (k:=k) n (cK.v1 (k:=k) h a).1
   simp only[di]
   omega
def Uw:∀{l:List (Nat×dn)}{c:er},o2 l->(l.foldl (λc t=>kH t c) c).eJ.length<=c.eJ.length+25*l.length/\(l.foldl (λc t=>kH t c) c).hB=c.hB
 |[],c,_=>⟨B,rfl⟩
 |t::l,c,h=>by
  have a:=h t fE
  have f:=Uk a.1 a.2
  obtain⟨g,b⟩:=Uw (l:=l) (c:=kH t c) (λai d=>h ai (ev _ d))
  have e:(kH t c).eJ.length<=c.eJ.length+25/\(kH t c).hB=c.hB:=by
   unfold kH
   split
   ·exact⟨by simp[er.kG,ga];omega,rfl⟩
   ·exact⟨A,rfl⟩
  simp only[List.foldl_cons,gF]
  exact⟨A,b.trans e.2⟩
section
variable{x:i8}{t:Nat×dn}
def fR.E6{dL ds:Nat}(h:fR w s b ci d6 bo ab c au aB ay al ai aQ an)(i:h2 a b eT ab c gg aB vy al dL ds dO)(d:bX ci eT w a):fR a s b eT d6 bo ab c gg aB vy al dL ds dO:=by
 have l:=h.bg.aL
 have j:=h.im.aL l2
 exact⟨i,h.bg.J d.J h.dG,h.oi,h.im.J l2 d.J h.eX.nc,λg k e=>(d.cq g k).elim (λf=>h.eX g f e) (λf=>by have:=j g e;omega),λe=>(d.cq s e).elim h.dG (λf=>A),h.vm,h.xO,h.o3⟩
def fR.V(h:fR w s b ci d6 bo ab c au aB ay al ai aQ an)(d:Q [] w a):fR a s b ci d6 bo ab c au aB ay al ai aQ an:=
 ⟨h.hK.V d,h.bg.J d B,h.oi,h.im.J l2 d (bR.D _),h.eX,h.dG,h.vm,h.xO,h.o3⟩
def aki:eH C 118 121 7 k3 λx=>b6 (k3 x).toArray:=eH.rx C5 Le EY Ws
def Ux{l:List Nat}:((n:Int)∈l.map λn:Nat=>(n:Int))↔n∈l:=by
 constructor
 ·intro h
  obtain⟨ak,a,e⟩:=fS.1 h
  have:ak=n:=A
  exact this▸a
 ·exactλh=>mz (f:=λn:Nat=>(n:Int)) h
def fR.pM(h:fR w s b ci d6 bo ab c au aB ay al ai aQ an):jf w:=h.hK.pM
end
section
variable{x:i8}{t:Nat×dn}
def Uy(h:aC w jP ar (k3 t)):(∀ac,aZ C (a4 3 (aE (E ⟨jP,0,I⟩))) w ac↔ac (F H t.1))/\(∀ac,aZ C (a4 37 (aE (E ⟨jP,1,I⟩))) w ac↔ac (je (xJ t.2))):=
 ⟨λ_=>bl bZ (h.bh (af:=0)),λ_=>gC (l:=eb (xJ t.2)) F0 (by have:=h.cy.d1 1 6;simpa[k3,eb]using this)⟩
def akj(k:∀a,aC a w.heap.size 121 (k3 t)->Q [] w a->ac (aP w.heap.size) a):
  W C (hV 121) w λaa aA=>W C (dC 121 aa (b6 (k3 t).toArray)) aA λ_ ax=>ac aa ax:=by
 refine gI (bm:=b6 (k3 (0,⟨0,0,0,0,[],[]⟩)).toArray) (by unfold du;kernel_rfl) λaA b c f=>?_
 have b:aC aA w.heap.size 121 (k3 (0,⟨0,0,0,0,[],[]⟩)):=by simpa[bF]using b
 refine f0 (cv:=[]) (c5:=k3 (0,⟨0,0,0,0,[],[]⟩)) (da:=[]) Le (by simpa using b) rfl rfl rfl (by simpa[bF]using Jm t) λax d e g=>?_
 exact k ax (by simpa[bF]using d) (c.R e B)
def akk(h:fR w s b ci d6 bo ab c au aB ay ix ai aQ an)(ao:qo c aB ay)(ak:ai+17<=1152921504606846976)(bd:an.cx.length+an.cn.length<=c.bd)(bf:an.cn.length<=16)(bg:∀x∈bo,x.a3.eJ.length<=500000)(bh:∀x∈bo,x.a3.hB.length<=100000):
  a0 C 42 #[aP s] w λae a=>ae=bQ #[]/\∃eT y z gg dL,fR a s b eT y z ab c gg aB ay ix dL aQ (an.j0 c.aJ c.bd).1/\z.map (·.a3)=bo.map (λx=>((an.j0 c.aJ c.bd).2.foldl (λc t=>kH t c) x.a3).kL)/\f5 w a s ci d6 eT y/\dL<=ai+an.cn.length:=by
 have cj:=h.oi
 refine a9 Mp 1 Tryz.func42 K rfl λa1 bj=>?_
 simp+decide (maxSteps:=9999999)only[↓a8,ba,Mp,Tryz.f42]
 subst bj
 have bk:=h.bg.bh (af:=0)
 try simp only[M,N,O,P]
 refine(bl (aa:=aP b) CQ (by rw[bk];rfl)).2 ?_
 refine aH Xn (Ht h.hK ao ak bd) ?_
 rintro hN aA ⟨o,L,R,fX,r⟩
 have bm:=h.E6 r.hK r.de
 have V:=Uu (k:=c.aJ) (aX:=c.bd) an.cn.length an
 have V:o2 (an.j0 c.aJ c.bd).2:=V
 have bn:=h.im.aL l2
 have aR:=r.fW
 have bp:=r.cq
 have br:=r.mV
 have bs:f5 w aA s ci d6 o d6:=⟨r.de.J.bw (λg W=>Y (by simp[W])),r.de.cq,λ_ h=>Y h⟩
 have bt:=r.TX
 have aS:=h.bg.aL
 have bu:an.bp c.bd:=by
  obtain⟨ah,cR,b8,dB,fL,ej,dq,aD,c0,ef,bv,_⟩:=h.hK
  exact bv.cL
 have ck:(an.j0 c.aJ c.bd).2.length<=16:=gz (Uv _ bu) bf
 generalize(an.j0 c.aJ c.bd).1=am at*
 generalize(an.j0 c.aJ c.bd).2=p at*
 obtain⟨cm,cn,bw,_⟩:=id aR.jD
 subst bw
 try simp only[M,N,O,P]
 have bx:bR fX (s::(o++d6)):=λg W m=>by
  have aU:=bp g W
  rcases ce.1 m with rfl|m
  ·omega
  ·rcases b4.1 m with m|m
   ·exact br g m W
   ·have:=bn g m;omega
 refine c1 (λq a=>∃(i:Nat)(z:List i8)(y:List Nat),q=[F H i]/\i<=p.length/\fR a s b o y z ab c L aB ay ix R aQ am/\z.map (·.a3)=bo.map (λx=>(p.take i).foldl (λc t=>kH t c) x.a3)/\f5 aA a s o d6 o y) (λq _=>match q with|[F _ i]=>p.length-i.toNat|_=>0) ⟨0,bo,d6,rfl,A,bm,B,.b0⟩ ?_
 rintro _ _ ax ⟨i,d,aV,rfl,al,u,ap,aq⟩
 have bz:=aq.J
 have bB:=aR.J bz bx
 try simp only[M,N,O,P,bi]
 refine⟨λaW=>?_,λcp=>?_⟩
 ·have ar:i<p.length:=A
  refine(aki.ek (bB.eF EY A) (Q.b0 _ _) ar).2 ?_
  have D:=V _ (dX ar)
  have bC:p.take (i+1)=p.take i++[p[i]]:=jO ar
  generalize p[i]=t at*
  refine akj λav aY aZ=>?_
  have aw:=u.V aZ
  have bE:=aY.aL
  have cq:=u.bg.aL
  have bG:=u.hK.aL
  have bH:=u.im.aL l2
  have cs:=u.oi
  have bI:∀j(az:j<d.length),d[j].a3.eJ.length<=600000/\d[j].a3.hB.length<=100000:=λj az=>by
   have aF:j<bo.length:=A
   have e:d[j].a3=(p.take i).foldl (λc t=>kH t c) bo[j].a3:=by
    have:=congrArg (λl=>l[j]?) ap
    simp only[e1,cr az,cr aF]at this
    simpa using this
   have bK:o2 (p.take i):=λai ak=>V ai (List.mem_of_mem_take ak)
   obtain⟨aU,bL⟩:=Uw (c:=bo[j].a3) bK
   have ct:=bg _ (dX aF)
   have bM:=bh _ (dX aF)
   rw[ea]at aU
   rw[e,bL]
   exact⟨A,bM⟩
  refine c1 (λq a=>∃(j:Nat)(f:List i8)(v:List Nat),q=[F H j]/\j<=4/\fR a s b o v f ab c L aB ay ix R aQ am/\f.map (·.a3)=(d.take j).map (λx=>kH t x.a3)++(d.drop j).map (·.a3)/\aC a ax.heap.size 121 (k3 t)/\f5 av a s o aV o v) (λq _=>match q with|[F _ i]=>4-i.toNat|_=>0) ⟨0,d,aV,rfl,A,aw,B,aY,.b0⟩ ?_
  rintro _ _ a2 ⟨j,f,v,rfl,az,aG,aI,aJ,aL⟩
  have cu:=aG.oi
  try simp only[M,N,O,P,bi]
  refine⟨λcv=>?_,λcw=>?_⟩
  ·have aM:j<f.length:=A
   have X:j<d.length:=A
   have a3:f[j].a3=d[j].a3:=by
    have:=congrArg (λl=>l[j]?) aI
    simp only[e1]at this
    rw[nr (by simp;omega)]at this
    simp only[dU,ea,e1,oo]at this
    rw[show j+(j-min j d.length)=j by omega,cr aM,cr X]at this
    simpa using this
   obtain⟨bJ,ac,cx,bU⟩:=aG.wA aM
   have cy:=BU (bo:=f) aM
   have a4:(aP b::(f.take j).flatMap gn).length=1+j*4:=by simp only[gF];omega
   have a5:=cD [] a2
   have a7:=bI j X
   rw[<-a3]at a7
   have bV:∀(dx:i8),dx.a3=kH t f[j].a3->(f.set j dx).map (·.a3)=(d.take (j+1)).map (λx=>kH t x.a3)++(d.drop (j+1)).map (·.a3):=by
    intro dx bW
    have aW:((d.take j).map λx=>kH t x.a3).length=j:=by rw[dU,ea];omega
    rw[qB,aI,bW,a3,jO X,g6,sr _ _ A,aW,k6,ot X,ge,List.set_cons_zero,gq]
    rfl
   refine bT (λq a=>∃dx fy,q=[]/\ko a s b 106 ((f.take j).flatMap gn) ((f.drop (j+1)).flatMap gn) o dx fy ab c L aB ay ix R aQ am/\dx.a3=kH t f[j].a3/\f5 a2 a s o bJ o fy) ?_ ?_
   ·try simp only[M,N,O,P]
    refine(kc BV BW A).2 ?_
    obtain⟨cz,cA,cB,bX⟩:=si (iB:=1+j*4) (bD ac.bg) a4
    obtain⟨bb,bc⟩:=Uy (bD aJ)
    try simp only[M,N,O,P,bX,bb]
    obtain⟨cC,cE,cF,cG,bY,cH,cI,cJ⟩:=id ac.im
    have bZ:=(bY.J a5 B)
    have aS:=bP.eF (be:=ew) (a6:=1) (l:=f[j].a3.hB.map λn:Nat=>(n:Int)) (by rw[dU];exact bZ) (λ_=>rfl) A
    refine aH Lx (aj4 (x:=(t.1:Int)) aS (by rw[dU];exact gz a7.2 A)) ?_
    rintro _ b0 ⟨rfl,b1⟩
    have J:=a5.R b1 B
    try simp only[bi]
    refine⟨λaO=>?_,λaO=>?_⟩
    ·obtain⟨bb,bc⟩:=Uy (aJ.J J B)
     try simp only[M,N,O,P,bc]
     refine Jz (ad:=t.2) (ac.V J) (by simp only[gF]at a4;omega) ⟨rfl,rfl,rfl,rfl,by rw[D.1];exact aT.gW _ _,by rw[D.2];exact aT.gW _ _⟩ ⟨by rw[D.1];simp,by rw[D.2];simp,by rw[D.2];simp⟩ A λcK dx fy b2 b3 ag=>?_
     refine⟨dx,fy,by trivial,b2,?_,(f5.iu J).dP ag⟩
     rw[b3]
     unfold kH
     rw[if_pos (Ux.1 aO)]
    ·refine⟨f[j],bJ,by trivial,ac.V J,?_,.iu J⟩
     unfold kH
     rw[if_neg (λaj=>aO (Ux.2 aj))]
   rintro _ _ b0 ⟨dx,fy,rfl,b7,b9,ca⟩
   obtain⟨cb,cc,ag⟩:=bU _ _ _ _ _ b7 ca
   try simp only[M,N,O,P]
   rw[bq A A]
   have cL:ax.heap.size<av.heap.size:=bE
   refine⟨⟨j+1,_,cb,by trivial,A,cc,bV dx b9,aJ.J ag.J (λm=>?_),aL.dP ag⟩,by simp;omega⟩
   rcases ce.1 m with m|m
   ·omega
   ·rcases b4.1 m with m|m
    ·have:=bG _ m;omega
    ·exact(aL.nj _ m).elim (λaj=>by have:=bH _ aj;omega) (λaj=>A)
  ·have cd:j=4:=A
   try simp only[M,N,O,P]
   rw[bq A A]
   refine⟨⟨i+1,f,v,by trivial,A,aG,?_,(aq.dP (.iu aZ)).dP aL⟩,by simp;omega⟩
   rw[aI,cd,mv A,List.drop_of_length_le A,tp,kJ]
   have e:d.map (λx=>kH t x.a3)=(d.map (·.a3)).map (kH t):=by rw[ts];rfl
   rw[e,ap,ts,bC]
   refine List.map_congr_left λx _=>?_
   simp
 ·have cf:i=p.length:=A
  refine aH Xi (akf u) ?_
  rintro _ av ⟨rfl,v,f,aw,cg,ch⟩
  refine⟨rfl,o,v,f,L,R,aw,?_,(bs.dP aq).dP ch,bt⟩
  rw[cg]
  have e:d.map (λx=>x.a3.kL)=(d.map (·.a3)).map er.kL:=by rw[ts];rfl
  rw[e,ap,cf,j3,ts]
  rfl
end
section
variable{x:i8}
def akl(h:fR w s b ci d6 bo ab c au aB ay al ai aQ an)(d:i<bo.length):a0 C 76 #[aP s,F H i] w λae a=>ae=F H bo[i].a3.eJ.length/\w=a:=by
 have n:=h.oi
 obtain⟨bJ,e,o,p⟩:=h.wA d
 have q:=BU (bo:=bo) d
 have f:(aP b::(bo.take i).flatMap gn).length=1+i*4:=by simp only[gF];omega
 obtain⟨r,t,g,u⟩:=si (iB:=1+i*4) e.bg f
 obtain⟨v,x,y,j,z,B,D,J⟩:=id e.im
 obtain⟨L,Q,k,_⟩:=id j.1
 refine a9 .D 2 Tryz.func76 K rfl λa1 l=>?_
 simp+decide (maxSteps:=9999999)only[↓a8,ba,Tryz.f76]
 subst l
 refine aH Gi JA ?_
 rintro _ _ ⟨rfl,rfl⟩
 rw[decide_eq_true A]
 try simp only[M,N,O,P]
 refine cG.2 ⟨λm=>(by cases m),λ_=>?_⟩
 try simp only[M,N,O,P]
 refine(kc BV BW A).2 ?_
 try simp only[M,N,O,P,g]
 rw[k]
 try simp only[M,N,O,P]
 exact⟨rfl,rfl⟩
def akm{n:Int}(h:fR w s b ci d6 bo ab c au aB ay al ai aQ an)(D:i<bo.length)(f:(ak:Int)=max 0 (min n bo[i].a3.eJ.length))(aZ:bo[i].a3.eJ.length<=900000):
  a0 C 31 #[aP s,F H i,F H n] w λae a=>∃dx J,fR a s b ci J (bo.set i dx) ab c au aB ay al ai aQ an/\dx.a3={bo[i].a3 with eJ:=bo[i].a3.eJ.drop ak}/\f5 w a s ci d6 ci J/\aT a bs ae (bo[i].a3.eJ.take ak)/\gx w.heap.size ae:=by
 have a2:=h.oi
 obtain⟨bJ,j,a4,aj⟩:=h.wA D
 have a5:=BU (bo:=bo) D
 have r:(aP b::(bo.take i).flatMap gn).length=1+i*4:=by simp only[gF];omega
 obtain⟨a6,a7,am,bb⟩:=si (iB:=1+i*4) j.bg r
 obtain⟨m,o,ao,t,L,ap,aq,R⟩:=id j.im
 obtain⟨bc,bd,V,_⟩:=id t.1
 have ar:ak<=bo[i].a3.eJ.length:=A
 refine a9 .D 3 Tryz.func31 K rfl λa1 av=>?_
 simp+decide (maxSteps:=9999999)only[↓a8,ba,Tryz.f31]
 subst av
 refine aH Gi JA ?_
 rintro _ _ ⟨rfl,rfl⟩
 rw[decide_eq_true A]
 try simp only[M,N,O,P]
 refine cG.2 ⟨λaw=>(by cases aw),λ_=>?_⟩
 try simp only[M,N,O,P]
 refine(kc BV BW A).2 ?_
 try simp only[M,N,O,P,am]
 rw[V]
 try simp only[M,N,O,P]
 rw[<-f,<-V]
 refine TJ fP el e2 t.1 A A λhN W _ _=>?_
 rw[hf]at W
 refine aH w8 (Js W (by rw[ea];omega)) ?_
 rintro ae aA ⟨be,u,X,p⟩
 have az:=j.V p
 obtain⟨bf,bg,aC,bh⟩:=si (iB:=1+i*4) az.bg r
 try simp only[M,N,O,P,aC]
 have aD:=t.J p (bR.D _)
 refine BS (k:=ak) aD ar λbi aF=>?_
 refine aH w8 (Js aF.1 (by rw[e8];omega)) ?_
 rintro ag ax ⟨l,aa,v,x⟩
 have ac:=p.R x B
 have aG:=j.V ac
 have ad:hp ax l bs ag (bo[i].a3.eJ.drop ak):=hp.c4 aa e2 A
 have y:=j.lR
 rw[R]at y
 have bj:=h.bg.aL
 have bk:=p.aI
 have bl:=x.aI
 try simp only[M,N,O,P]
 refine tb (iB:=1+i*4) (i:=2) (dx:={bo[i]with ta:=ag,a3:={bo[i].a3 with eJ:=bo[i].a3.eJ.drop ak}}) mJ aG.bg r A ad.aW rfl λaf aI z bm=>?_
 have q:Q [s] w af:=(ac.bw B).R z (λg d=>Y d)
 have aJ:bR m [s]:=λg d f=>by simp at f;subst f;exact y (by simp[d])
 have aL:bR o [s]:=λg d f=>by simp at f;subst f;exact y (by simp[d])
 have aM:bR l [s]:=λg d f=>by have:=v g d;simp at f;omega
 have aO:np af {bo[i]with ta:=ag,a3:={bo[i].a3 with eJ:=bo[i].a3.eJ.drop ak}} ((m++l)++o):=by
  refine⟨m++l,o,(ao.J q aJ).pI (λg d=>by simp[d]),(ad.J z aM).pI (λg d=>by simp[d]),L.J q aL,λg d f=>?_,λg d=>?_,rfl⟩
  ·rcases b4.1 d with d|d
   ·exact ap g d f
   ·have:=L.aL g f;have:=v g d;omega
  ·rcases b4.1 d with d|d
   ·have:=aq g d;omega
   ·have:=aa.aL g d;omega
 have ah:∀g∈(m++l)++o,g∈bJ\/w.heap.size<=g:=λg d=>by
  rw[R]
  simp only[b4]at d⊢
  rcases d with(d|d)|d
  ·exact Y (Y d)
  ·exact Z (by have:=v g d;omega)
  ·exact Y (Z d)
 obtain⟨aR,aS,aU⟩:=aj _ _ _ _ _ (j.zA aI aO ah q) (.im q ah)
 refine⟨_,aR,aS,rfl,aU,?_,gx.c4 u X⟩
 exact((u.eF e2 A).V x).J z (λaV aW aX aY e f=>by
  have:=X _ (u.rt aV aW aX aY e)
  simp at f
  omega)
end
section
variable{av:ji}{aX:c3}
def gy:i8:=⟨T I 0 0,T I 0 0,T I 0 0,iy⟩
def akn:C.built 106 #[(0,aP b)].toList=E (aP b::([gy,gy,gy,gy].flatMap gn)).toArray:=K
def wB(w:aN):np w gy []:=⟨[],[],hp.gW,hp.gW,gJ _ _ _,bR.D _,B,rfl⟩
def ako(h:eY w ab am c au aB ay al)(i:zc c au aB ay al)(j:r5 c au bu)(k:q3 c au av)(m:lQ nD 0 av=E aX)(n:∀l∈av,l.length<=16)(o:jf w)(p:0∉am)(q:∀t,t<c.bd->c.aJ<=bV (ia c ay t) c.aR):
  a0 C 36 #[aP ab] w λae a=>∃s b ci dL,ae=aP s/\w.heap.size<=s/\fR a s b ci [] [gy,gy,gy,gy] ab c au aB ay al dL 0 ⟨av,aX,[],0⟩/\dL<=bu/\bX am ci w a:=by
 refine a9 .D 1 Tryz.func36 K rfl λa1 r=>?_
 simp+decide (maxSteps:=9999999)only[↓a8,ba,Tryz.f36]
 subst r
 refine aH Xm (ajY h i j k m n o p q) ?_
 rintro _ aA ⟨b,ci,u,rfl,z,d,v,f⟩
 refine(bY akn).2 ?_
 refine eA λax e g D=>?_
 have e:aC ax aA.heap.size 106 (aP b::([gy,gy,gy,gy].flatMap gn)):=by simpa[bF]using e
 have x:=d.aL
 have J:=d.pM.aL
 refine⟨aA.heap.size,b,ci,u,rfl,f.J.aI,⟨d.V g,e,rfl,⟨[],[],rfl,bR.D _,wB _,[],[],rfl,bR.D _,wB _,[],[],rfl,bR.D _,wB _,[],[],rfl,bR.D _,wB _,rfl⟩,bR.D _,λy=>by have:=x _ y;omega,B,B,A⟩,v,f.oM g⟩
end
end
section
open Go.RowKit ey
variable{aG:List b3}{aq gX:b3}
def E7(x:List UInt8)(d:Nat)(c:Int)(a:x.length=128):∀n,d+n<=128->∀i,i<128->(mQ x d c n).getD i 0=if d<=i/\i<d+n then x.getD i 0^^^ey.sQ c (i-d)else x.getD i 0
 |0,_,i,_=>by rw[if_neg A];rfl
 |n+1,b,i,al=>by
  have f:=yK x d c n
  have e:(mQ x d c (n+1)).getD i 0=if d+n=i then(mQ x d c n).getD (d+n) 0^^^ey.sQ c n else(mQ x d c n).getD i 0:=by
   rw[mQ,gp,pT]
   split
   ·rw[if_pos A];rfl
   ·rw[gp]
  rw[e]
  split
  ·subst_vars
   rw[E7 x d c a n A (d+n) A,if_neg A,if_pos A,show d+n-d=n by omega]
  ·rw[E7 x d c a n A i al]
   by_cases h:d<=i/\i<d+n
   ·rw[if_pos h,if_pos A]
   ·rw[if_neg h,if_neg A]
def akp{aO:Nat}(e:1<=aO)(f:aO<=1000):¬(ey.sQ aO 0=0/\ey.sQ aO 1=0):=by
 rintro⟨d,b⟩
 have a:=congrArg UInt8.toNat d
 have c:=congrArg UInt8.toNat b
 simp[ey.sQ]at a c
 omega
def akq{aO:Nat}(c:aO<=1000):ey.sQ aO 1≠84:=by
 intro b
 have a:=congrArg UInt8.toNat b
 simp[ey.sQ]at a
 omega
def Uz{d b:UInt8}(h:d^^^b=d):b=0:=by
 have:d^^^(d^^^b)=d^^^d:=by rw[h]
 rwa[<-UInt8.xor_assoc,UInt8.xor_self,UInt8.zero_xor]at this
def JB(h:i<l.length):l[i]?=E (l.getD i 0):=by
 rw[gp,cr h];rfl
def akr{aj:dQ}{d aO:Nat}(e:aj.bp)(l:d<=100)(f:1<=aO)(g:aO<=1000):xi (mQ aj.e5 d aO 4):=by
 have j:=e.xh
 have m:=yK aj.e5 d aO 4
 have a:=E7 aj.e5 d aO j 4 A
 refine acc e (aQ:=d) A A (λi al=>?_) λk=>?_
 ·rcases Nat.lt_or_ge i 128 with h|h
  ·rw[JB A,JB A,a i h,if_neg A]
  ·rw[jy A,jy A]
 ·have b:=a d A
  have c:=a (d+1) A
  rw[k,if_pos A]at b c
  refine akp f g ⟨?_,?_⟩
  ·rw[k6]at b
   exact Uz b.symm
  ·rw[show d+1-d=1 by omega]at c
   exact Uz c.symm
def aks{d aO:Nat}(j:d<=100)(c:aO<=1000):xi (mQ jH d aO 4):=by
 have k:=yK jH d aO 4
 have e:jH.length=128:=Hu
 have f:∀i,jH.getD i 0=0:=by
  intro i
  unfold jH
  rw[gp,List.getElem?_replicate]
  split<;>rfl
 have g:=E7 jH d aO e 4 A
 refine PT λ⟨a,b⟩=>?_
 rw[JB A,g _ A,f,vq]at a b
 by_cases h:d=0
 ·subst h
  rw[if_pos A,UInt8.zero_xor]at b
  exact akq c b
 ·rw[if_neg A]at a
  exact absurd a (by decide)
def sj(g:Nat->Nat->Bool)(i t ag s:Nat):Bool:=g ag s&&!(decide (ag=i)&&decide (s=t))
section
variable{aO:Nat}{tv:Nat->Bool}
def hA.JC(h:hA c au aG bB aB)(f:aG[ag]?=E aq)(g:gX.d3.length=aq.d3.length)(i:Ep c au ag gX (xU ag) (tv ag))(j:∀e,e≠ag->xU e=bB e)(k:∀e,e≠ag->tv e=aB e):hA c au (aG.set ag gX) xU tv:=by
 refine⟨⟨h.ei.cL,by rw[i9];exact h.ei.aR,λav a=>?_⟩,h.cL,λe av a=>?_⟩
 ·obtain⟨e,b⟩:=List.getElem?_of_mem a
  rw[pT]at b
  split at b
  ·split at b
   ·cases b
    rw[g]
    exact h.ei.cP aq (gP f)
   ·cases b
  ·exact h.ei.cP av (gP b)
 ·rw[pT]at a
  by_cases d:ag=e
  ·subst d
   rw[if_pos rfl]at a
   split at a
   ·cases a;exact i
   ·cases a
  ·rw[if_neg d]at a
   rw[j e (Ne.symm d),k e (Ne.symm d)]
   exact h.ih e av a
def UA(h:hA c au aG bB aB)(a:aG[ag]?=E aq)(b:Bool):Ep c au ag (aq.sP b) (λ_=>U) b:=by
 have d:=h.ei.cP aq (gP a)
 refine⟨rfl,rfl,λ_ _=>rfl,λs ao=>?_⟩
 unfold y3
 simp only[fc,if_false]
 refine⟨jH,?_,Hu,RV,Z rfl⟩
 show(cN aq.d3.length jH)[s]?=_
 rw[List.getElem?_replicate,if_pos A]
def akv(h:hA c au aG bB aB)(f:aG[ag]?=E aq)(ao:s<c.e6)(k:aQ<=100)(o:1<=aO)(l:aO<=1000)(p:aq.lg s=U):Ep c au ag (aq.yJ s aQ aO) (λt=>bB ag t&&!decide (t=s)) (aB ag):=by
 have r:=h.ei.cP aq (gP f)
 have m:ag<c.aR:=by rw[<-h.ei.aR];exact(fi.1 f).1
 have d:=h.ih ag aq f
 refine⟨d.dp,d.dW,λq t=>by rw[d.t6 q t];rfl,λt g=>?_⟩
 have a:=d.d3 t g
 unfold y3 at a⊢
 show if(bB ag t&&!decide (t=s))=G then(aq.d3.set s _)[t]?=_/\(if t=s then G else aq.lg t)=U else∃x,(aq.d3.set s _)[t]?=E x/\_/\_/\((if t=s then G else aq.lg t)=G\/_)
 by_cases i:t=s
 ·subst i
  simp only[decide_true,hq,Bool.and_false,fc,if_false,if_true]
  refine⟨_,by rw[List.getElem?_set_self A],?_,?_,Y B⟩
  ·rw[yK]
   cases b:bB ag t with
   |true=>
    rw[b,if_pos rfl]at a
    rw[gp,a.1]
    exact(wb h.cL h.ei.cL m g).xh
   |false=>
    rw[b]at a
    obtain⟨x,j,n,_⟩:=a
    rw[gp,j]
    exact n
  ·cases b:bB ag t with
   |true=>
    rw[b,if_pos rfl]at a
    rw[gp,a.1]
    exact akr (wb h.cL h.ei.cL m g) k o l
   |false=>
    rw[b]at a
    obtain⟨x,j,n,_,e⟩:=a
    rcases e with e|rfl
    ·rw[p]at e;cases e
    ·rw[gp,j]
     exact aks k l
 ·simp only[i,decide_false,lE,Bool.and_true,if_false]
  rw[List.getElem?_set_ne (Ne.symm i)]
  exact a
def eY.lg(h:eY w ab am c au aB ay al)(m:i<c.aR)(ao:s<c.e6)(v:aQ<=100)(x:1<=aO)(y:aO<=1000):a0 C 20 #[aP ab,F H i,F H s,F H aQ,F hS aO] w λae a=>(∃b,ae=aK b/\(aB i=U->ay i s=G->b=G))/\∃az,eY a ab az c au aB (sj ay i s) (sj al i s)/\bX am az w a:=by
 obtain⟨bB,⟨aG,z,f⟩,n⟩:=h
 have g:=cr (show i<aG.length by rw[f.ei.aR];exact m)
 have A:=f.ei.cP _ (gP g)
 generalize aG[i]'(by rw[f.ei.aR];exact m)=aq at g A
 have k:=f.ih i aq g
 have l:=k.d3 s ao
 have q:aq.n2 s aQ aO=(aq.dW||aq.lg s):=by
  unfold b3.n2 b3.kj
  rw[decide_eq_false (show¬((aQ:Int)<0\/124<(aQ:Int)\/(aO:Int)=0)by omega)]
  cases aq.dW<;>simp<;>omega
 have o:aq.n2 s aQ aO=G->bB i s=U:=by
  intro d
  rw[q,pP]at d
  rcases d with d|d
  ·exact k.t6 (by rw[<-k.dW];exact d) s
  ·cases D:bB i s with
   |false=>rfl
   |true=>rw[D]at l;unfold y3 at l;rw[if_pos rfl,d]at l;cases l.2
 refine(adh z g).bw ?_
 rintro ae a ⟨rfl,az,r,J⟩
 rw[hf,hf]at r
 refine⟨⟨_,rfl,λp K=>?_⟩,az,⟨sj bB i s,⟨_,r,?_⟩,λag t p=>⟨λd=>?_,λd=>?_⟩⟩,J⟩
 ·cases j:aq.n2 s aQ aO with
  |false=>rfl
  |true=>rw[(n i s m).1 K]at o;exact absurd (o j) B
 ·refine f.JC g (by split<;>simp[b3.yJ]) ?_ (λe L=>by funext t;simp[sj,L]) (λ_ _=>rfl)
  cases j:aq.n2 s aQ aO with
  |true=>
   rw[if_pos rfl]
   have:sj bB i s i=bB i:=by
    funext t
    unfold sj
    by_cases u:t=s
    ·subst u;rw[o j];rfl
    ·simp[u]
   rw[this]
   exact k
  |false=>
   rw[if_neg B]
   have M:aq.lg s=U:=by rw[q,Bool.or_eq_false_iff]at j;exact j.2
   have:=akv f g ao v x y M
   have e:sj bB i s i=λt=>bB i t&&!decide (t=s):=by funext t;simp[sj]
   rw[e]
   exact this
 ·simp only[sj,dA]at d⊢
  exact⟨(n ag t p).1 d.1,d.2⟩
 ·simp only[sj,dA]at d⊢
  exact⟨(n ag t p).2 d.1,d.2⟩
end
end
section
open Go.RowKit fC gO
section
variable{x:i8}
def h2.E8(h:h2 w b am ab c au aB ay al ai aQ an):∃dc,eY w ab dc c au aB ay al/\(∀g∈dc,g∈am)/\∀(a:aN)(bJ:List Nat)(tv:Nat->Bool)(vy p:Nat->Nat->Bool),eY a ab bJ c au tv vy p->bX dc bJ w a->c.aJ<=bV (λag=>!tv ag) c.aR->∃az,h2 a b az ab c au tv vy p ai aQ an/\bX am az w a:=by
 have q:=h.aL
 obtain⟨ah,cR,b8,dB,fL,ej,dq,aD,c0,ef,h,rfl⟩:=h
 obtain⟨N,rfl,t,m,u⟩:=h.ij
 obtain⟨⟨dc,rfl,v,r⟩,y⟩:=t
 refine⟨dc,v,λg z=>by simp[z],λa bJ tv vy p D n J=>?_⟩
 have j:=n.J
 have o:=n.cq
 have l:∀x,x∈b::b8::(dq++(aD++c0))->x∉dc:=by
  intro x f d
  rcases ce.1 f with rfl|f
  ·exact h.lk x B (by simp[d])
  ·rcases ce.1 f with rfl|f
   ·exact h.lk x B (by simp[d])
   ·exact h.lC x (by simp[d]) f
 have s:ah∉dc:=λd=>m.2 (by simp[d])
 have K:ah≠cR:=λe=>m.2 (by simp[e])
 have O:=m.1.aL
 have P:=r.1.aL
 refine⟨[b,b8]++(ah::cR::bJ++(dq++(aD++c0))),⟨ah,cR,b8,dB,fL,ah::cR::bJ,dq,aD,c0,ef,⟨h.bg.J j (l b B),⟨cR::bJ,rfl,⟨⟨bJ,rfl,D,r.de n⟩,y⟩,⟨m.1.J j s,λk=>?_⟩,u⟩,h.wt.J j (l b8 B),h.k1.J j (λx f=>l x (by simp[f])),h.c4.J j (λx f=>l x (by simp[f])),h.pJ,λx f=>(h.vg x f).J j (λap L=>l ap (by simp[L])),λx f=>iL (h.vh x f) j.aI,h.g1,?_,?_,h.o1,h.wu,h.kF.J j (λd=>h.pK (by simp[d])),λd=>?_,h.cL,J,h.fO⟩,rfl⟩,?_⟩
 ·rcases ce.1 k with e|k
  ·exact K e
  ·exact(o ah k).elim s (λh=>A)
 ·intro x f d
  have i:=h.lk x f
  have M:=q x (hg _ f)
  simp only[jN,ce,b4,not_or]at d i
  rcases d with d|d|d|d
  ·exact i.1 d
  ·exact i.2.1 d
  ·exact(o x d).elim i.2.2.1 (λk=>A)
  ·exact d.elim i.2.2.2.1 (λd=>d.elim i.2.2.2.2.1 i.2.2.2.2.2)
 ·intro x f d
  rcases ce.1 f with rfl|f
  ·exact h.lC x B d
  ·rcases ce.1 f with rfl|f
   ·exact h.lC x B d
   ·rcases o x f with k|k
    ·exact h.lC x (by simp[k]) d
    ·have:=q x (h3 _ (h3 _ d));omega
 ·have i:=h.pK
  have M:=h.kF.aL
  simp only[jN,m2,ce,b4,not_or]at d i
  rcases d with d|d|d|d|d|d
  ·exact i.1 d
  ·exact i.2.1 d
  ·exact i.2.2.1 d
  ·exact i.2.2.2.1 d
  ·exact(o _ d).elim i.2.2.2.2.1 (λk=>A)
  ·exact d.elim i.2.2.2.2.2.1 (λd=>d.elim i.2.2.2.2.2.2.1 i.2.2.2.2.2.2.2)
 ·refine n.qj (λx f=>by simp[f]) λx f=>?_
  simp only[jN,m2,ce,b4]at f⊢
  rcases f with f|f|f|f|f|f
  ·exact Z (Y f)
  ·exact Z (Z (Y f))
  ·exact Z (Z (Z (Y f)))
  ·exact Z (Z (Z (Z (Y f))))
  ·exact Y f
  ·exact Z (Z (Z (Z (Z (Z f)))))
def h2.akz(h:h2 w b am ab c au aB ay al ai aQ an):∃dc g8 lr hD tu zK,aC w b 136 [aP ab,g8,lr,hD,tu,zK,F H an.cQ]/\b∉dc/\eY w ab dc c au aB ay al/\r5 c au ai/\q3 c au an.cx/\an.bp c.bd/\jf w/\0∉b::dc/\(∀g∈b::dc,g∈am):=by
 obtain⟨ah,cR,b8,dB,fL,ej,dq,aD,c0,ef,h,rfl⟩:=h
 obtain⟨k,rfl,e,l,f⟩:=h.ij
 obtain⟨⟨dc,rfl,i,m⟩,j⟩:=e
 exact⟨dc,_,_,_,_,_,h.bg,λa=>h.lk b B (by simp[a]),i,j,f,h.cL,h.kF,λa=>h.pK (by simp at a⊢;rcases a with a|a<;>simp[a]),λg d=>by simp at d⊢;rcases d with d|d<;>simp[d]⟩
end
structure vn where
 a5:Int
 wA:Int
 aR:Int
 cP:Int
 fO:Int
 c6:Int
 sM:S
 ch:S
def mY(x:vn):List S:=[F H x.a5,F H x.wA,F H x.aR,F H x.cP,F H x.fO,F hS x.c6,x.sM,x.ch]
def lm(x:vn):S:=b6 (mY x).toArray
section
variable{x:vn}
def vo(h:aC w jP ar (mY x)):(∀ac,aZ C (a4 3 (aE (E ⟨jP,0,I⟩))) w ac↔ac (F H x.a5))/\(∀ac,aZ C (a4 3 (aE (E ⟨jP,1,I⟩))) w ac↔ac (F H x.wA))/\(∀ac,aZ C (a4 3 (aE (E ⟨jP,2,I⟩))) w ac↔ac (F H x.aR))/\(∀ac,aZ C (a4 3 (aE (E ⟨jP,3,I⟩))) w ac↔ac (F H x.cP))/\(∀ac,aZ C (a4 3 (aE (E ⟨jP,4,I⟩))) w ac↔ac (F H x.fO))/\(∀ac,aZ C (a4 56 (aE (E ⟨jP,5,I⟩))) w ac↔ac (F hS x.c6))/\(∀ac,aZ C (a4 57 (aE (E ⟨jP,6,I⟩))) w ac↔ac x.sM)/\(∀ac,aZ C (a4 52 (aE (E ⟨jP,7,I⟩))) w ac↔ac x.ch):=
 ⟨λ_=>bl bZ (h.bh (af:=0)),λ_=>bl bZ (h.bh (af:=1)),λ_=>bl bZ (h.bh (af:=2)),λ_=>bl bZ (h.bh (af:=3)),λ_=>bl bZ (h.bh (af:=4)),λ_=>bl K2 (h.bh (af:=5)),λ_=>bl V8 (h.bh (af:=6)),λ_=>bl nb (h.bh (af:=7))⟩
def xP(h:fR w s b ci d6 bo ab c au aB ay al ai aQ an):∀ac,aZ C (a4 64 (aE (E ⟨s,0,I⟩))) w ac↔ac (aP b):=
 λ_=>bl (aa:=aP b) CQ (by rw[h.bg.bh (af:=0)];rfl)
def q6{b:Bool}{an:Prop}(h:b=G)(k:ct):eV (aK b) ct an:=cG.2 ⟨λ_=>k,λa=>by rw[h]at a;cases a⟩
def iY{b:Bool}{an:Prop}(h:b=U)(k:an):eV (aK b) ct an:=cG.2 ⟨λa=>absurd (h.symm.trans a) (by decide),λ_=>k⟩
def akB{n o p q:Int}{r:S}(h:fR w s b ci d6 bo ab c au aB ay al ai aQ an)(t:i<bo.length)(ao:xH c ay al cp)(y:aT w bs aa fT)(z:bo[i].a3.gE<=65535)(D:bo[i].a3.bG.length+fT.length<=2000)(J:bo[i].a3.eJ.length<=100000)(L:an.cQ<=100000)(Q:bo[i].a3.hB.length<=100000)(R:vl (bo[i].a3.bG.length+fT.length) cp an {bo[i].a3 with bG:=bo[i].a3.bG++fT}):
  a0 C 15 #[aP s,lm ⟨1,i,n,o,p,q,r,aa⟩] w λae a=>ae=aK G/\∃eT d dx,fR a s b eT d (bo.set i dx) ab c au aB ay al ai aQ (k4 cp (bo[i].a3.bG.length+fT.length) an {bo[i].a3 with bG:=bo[i].a3.bG++fT}).1/\dx.a3=(k4 cp (bo[i].a3.bG.length+fT.length) an {bo[i].a3 with bG:=bo[i].a3.bG++fT}).2/\f5 w a s ci d6 eT d:=by
 have av:=h.oi
 refine a9 rD 2 Tryz.func15 K rfl λa1 V=>?_
 simp+decide (maxSteps:=9999999)only[↓a8,ba,rD,Tryz.f15]
 subst V
 refine eA λax e u aw=>?_
 have e:aC ax w.heap.size 59 (mY ⟨1,i,n,o,p,q,r,aa⟩):=by simpa[lm,bF]using e
 have v:=h.V u
 try simp only[M,N,O,P,xP v]
 refine aH yl (zq v.hK) ?_
 rintro _ _ ⟨rfl,rfl⟩
 refine bT (λW a=>W=[]/\∃eT d dx,fR a s b eT d (bo.set i dx) ab c au aB ay al ai aQ (k4 cp (bo[i].a3.bG.length+fT.length) an {bo[i].a3 with bG:=bo[i].a3.bG++fT}).1/\dx.a3=(k4 cp (bo[i].a3.bG.length+fT.length) an {bo[i].a3 with bG:=bo[i].a3.bG++fT}).2/\f5 w a s ci d6 eT d) ?_ ?_
 ·obtain⟨x,f,X,ac,ad,af,ag,g⟩:=vo e
  try simp only[M,N,O,P,x,f]
  refine q6 (by decide) ?_
  refine aH Gi JA ?_
  rintro _ _ ⟨rfl,rfl⟩
  rw[decide_eq_true A]
  try simp only[M,N,O,P]
  refine cG.2 ⟨λah=>(by cases ah),λ_=>?_⟩
  obtain⟨x,f,X,ac,ad,af,ag,g⟩:=vo (bD e)
  try simp only[M,N,O,P,f,g]
  refine(kc BV BW A).2 ?_
  try simp only[M,N,O,P,g]
  have j:=u.R (cD [] ax) B
  have aj:=h.V j
  obtain⟨bJ,ak,az,am⟩:=aj.wA t
  have aA:=BU (bo:=bo) t
  refine aH Xg (ake (iB:=1+i*4) ak A ao (y.V j) z D J L Q R) ?_
  rintro _ ap ⟨rfl,eT,dx,fy,aq,k,l⟩
  obtain⟨d,m,ar⟩:=am _ _ _ _ _ aq l
  exact⟨by trivial,eT,d,dx,m,k,(f5.iu j).dP ar⟩
 rintro _ _ ap ⟨rfl,eT,d,dx,m,k,l⟩
 exact⟨rfl,eT,d,dx,m,k,l⟩
def akC{i j k l m:Int}{n o:S}(h:fR w s b ci d6 bo ab c au aB ay ix ai aQ an)(ao:qo c aB ay)(q:ai+17<=1152921504606846976)(r:an.cx.length+an.cn.length<=c.bd)(u:an.cn.length<=16)(v:∀x∈bo,x.a3.eJ.length<=500000)(y:∀x∈bo,x.a3.hB.length<=100000):
  a0 C 15 #[aP s,lm ⟨2,i,j,k,l,m,n,o⟩] w λae a=>ae=aK G/\∃eT d e gg dL,fR a s b eT d e ab c gg aB ay ix dL aQ (an.j0 c.aJ c.bd).1/\e.map (·.a3)=bo.map (λx=>((an.j0 c.aJ c.bd).2.foldl (λc t=>kH t c) x.a3).kL)/\f5 w a s ci d6 eT d/\dL<=ai+an.cn.length:=by
 refine a9 rD 2 Tryz.func15 K rfl λa1 z=>?_
 simp+decide (maxSteps:=9999999)only[↓a8,ba,rD,Tryz.f15]
 subst z
 refine eA λax f p W=>?_
 have f:aC ax w.heap.size 59 (mY ⟨2,i,j,k,l,m,n,o⟩):=by simpa[lm,bF]using f
 have g:=h.V p
 try simp only[M,N,O,P,xP g]
 refine aH yl (zq g.hK) ?_
 rintro _ _ ⟨rfl,rfl⟩
 refine bT (λA a=>A=[]/\∃eT d e gg dL,fR a s b eT d e ab c gg aB ay ix dL aQ (an.j0 c.aJ c.bd).1/\e.map (·.a3)=bo.map (λx=>((an.j0 c.aJ c.bd).2.foldl (λc t=>kH t c) x.a3).kL)/\f5 w a s ci d6 eT d/\dL<=ai+an.cn.length) ?_ ?_
 ·obtain⟨B,X,aa,ac,ad,af,ag,ah⟩:=vo f
  try simp only[M,N,O,P,B]
  refine iY (by decide) (q6 (by decide) ?_)
  refine aH Xh (akk g ao q r u v y) ?_
  rintro _ D ⟨rfl,eT,d,e,gg,dL,J,L,Q,R⟩
  exact⟨by trivial,eT,d,e,gg,dL,J,L,(f5.iu p).dP Q,R⟩
 rintro _ _ D ⟨rfl,V⟩
 exact⟨rfl,V⟩
end
def mZ(d:dl):List UInt8:=ga d.ch.length++d.ch
def oj(l:List UInt8):er:=⟨l,0,[],[]⟩
def akK(l:List UInt8):(oj l).d4=oj l:=by simp[er.d4,oj]
def zB(n:Nat):(ga n).length=2:=rfl
def akL(h:n<65536):i7 (ga n++l)=n:=by
 simp[i7,ga]
 omega
def akM(n:Nat)(c:er):er.vk (n+1) c=if c.d4.bG.length<2 then(c.d4,I)else if i7 c.d4.bG<=1024 then
  (if c.d4.bG.length-2<i7 c.d4.bG then(c.d4,I)else({c.d4 with bG:=c.d4.bG.drop (2+i7 c.d4.bG)},E ((c.d4.bG.drop 2).take (i7 c.d4.bG))))
 else er.vk n (er.kG {c.d4 with bG:=c.d4.bG.drop 2,gE:=i7 c.d4.bG} ⟨0,11,0,0,[],[]⟩):=rfl
def UD(h:l.length<=1024):(oj (ga l.length++l)).il=(iy,E l):=by
 have a:(ga l.length++l).length=l.length+1+1:=by rw[di,zB];omega
 unfold er.il
 rw[show(oj (ga l.length++l)).bG=ga l.length++l from rfl,a,akM,akK]
 rw[show(oj (ga l.length++l)).bG=ga l.length++l from rfl,akL A,if_neg A,if_pos h,if_neg A]
 have b:(ga l.length++l).drop (2+l.length)=[]:=List.drop_of_length_le A
 have c:(ga l.length++l).drop 2=l:=by rw[<-zB l.length,List.drop_left]
 rw[b,c,j3]
 rfl
def akN{c:er}(al:c.bG=[])(a:c.gE=0):k4 cp n an c=(an,c):=by
 have b:c.il=(c,I):=by
  obtain⟨i,ah,af,d⟩:=c
  simp only at al a
  subst al a
  rfl
 cases n with
 |zero=>show(an,c.il.1)=_;rw[b]
 |succ n=>rw[Jx,b]
def akO(a:d.bt=G)(b:d.ch.length<=1024)(e:1<=n):k4 cp n an (oj (mZ d))=match an.kV cp d with
  |(dO,E ad)=>(dO,iy.kG ad)
  |(dO,I)=>(dO,{iy with hB:=[an.cQ+1]}):=by
 obtain⟨n,rfl⟩:∃ak,n=ak+1:=⟨n-1,A⟩
 have c:j2 cp an iy d.ch=match an.kV cp d with
  |(dO,E ad)=>(dO,iy.kG ad)
  |(dO,I)=>(dO,{iy with hB:=[an.cQ+1]}):=by
  unfold j2
  rw[Pi a]
  rfl
 rw[Jx]
 unfold mZ
 rw[UD b]
 simp only
 rw[akN (by rw[(E5 _ _ _ _).1];rfl) (by rw[(E5 _ _ _ _).2];rfl),c]
def akP(e:d.bt=G)(f:d.ch.length<=1024)(g:d.a5≠6):vl n cp an (oj (mZ d)):=by
 cases n with
 |zero=>trivial
 |succ n=>
  rw[Jy]
  unfold mZ
  rw[UD f]
  simp only
  rw[Pi e]
  refine⟨g,?_⟩
  cases n with
  |zero=>trivial
  |succ n=>
   rw[Jy]
   have a:(j2 cp an iy d.ch).2.il.2=I:=by
    have b:=E5 cp an iy d.ch
    generalize(j2 cp an iy d.ch).2=c at*
    obtain⟨i,ah,af,j⟩:=c
    simp only at b
    obtain⟨rfl,rfl⟩:=b
    rfl
   rcases h:(j2 cp an iy d.ch).2.il with⟨k,bb⟩
   rw[h]at a
   simp only at a
   subst a
   trivial
def akQ(a:an.cn=[])(e:d.bt=G)(g:d.ch.length<=1024)(h:1<=n):
  ∃b,(k4 kn n an (oj (mZ d))).1.j0 k aX=((an.e7 k aX d).1,b)/\(b.foldl (λc t=>kH t c) (k4 kn n an (oj (mZ d))).2).kL=iy.kG (an.e7 k aX d).2/\(b.foldl (λc t=>kH t c) iy).kL=iy/\(k4 kn n an (oj (mZ d))).1.cn.length<=1/\(k4 kn n an (oj (mZ d))).1.cx=an.cx/\(k4 kn n an (oj (mZ d))).2.hB.length<=1/\(k4 kn n an (oj (mZ d))).2.eJ.length<=2673:=by
 rw[akO e g h]
 unfold cK.kV
 rw[if_pos e]
 cases f:i3 d.a5 with
 |true=>
  rw[BR f]
  simp only[if_true]
  rw[if_neg (by rw[a];simp)]
  simp only[a,m2]
  rw[show({cx:=an.cx,bd:=an.bd,cn:=[(an.cQ+1,d)],cQ:=an.cQ+1}:cK)={an with cQ:=an.cQ+1,cn:=[(an.cQ+1,d)]}from rfl,T2 a]
  refine⟨_,rfl,?_,?_,B,by trivial,B,by simp[iy]⟩
  ·simp only[List.foldl_cons,List.foldl_nil]
   unfold kH
   rw[if_pos B]
   rfl
  ·simp only[List.foldl_cons,List.foldl_nil]
   unfold kH
   rw[if_neg (by simp[iy])]
   rfl
 |false=>
  rw[Jo f]
  simp only[fc,if_false]
  refine⟨[],?_,rfl,rfl,by simp[a],by trivial,by simp[er.kG,iy],by have:=BT (mi an.cx kn an.bd d);simp[er.kG,iy,ga];omega⟩
  unfold cK.j0
  rw[show({an with cQ:=an.cQ+1}:cK).cn=[]from a]
  rfl
end
end Go.Proofs.YtepeilglbedgdaaGreatDoor
namespace Go.Proofs.YtepeilglbedgdaaGreatDoor.c7
open Go.X
attribute[local irreducible]Go.X.W
variable{w:aN}{ak n:Nat}{ae:S}{ee:List l9}
def q7:kQ:=⟨0,0,0,0,T I 0 0,T I 0 0⟩
def UE(w:aN)(b:List UInt8)(ab:S)(a:aN):Prop:=Q [] w a/\match vH b with
 |bA ap=>∃x,ab=bQ #[je x,cT]/\ma a x ap/\nI w.heap.size x.pb/\nI w.heap.size x.mH
 |b5 e=>ab=bQ #[je q7,hQ e]
def JD:C.built 37 (#[]:Array (Nat×S)).toList=E (eb q7).toArray:=K
def akR{d b c ag:Int}{ah:Option es}:C.built 37 #[(0,F H d),(1,F H b),(2,F H c),(3,F H ag),(4,T ah n ak)].toList=E (eb ⟨d,b,c,ag,T ah n ak,T I 0 0⟩).toArray:=K
def akS{d b c ag e aj:e3}(h:lZ w ee [d,b,c,ag,e,aj]):∃f e9 g i j k,ee=[f,e9,g,i,j,k]/\jE w f d/\jE w e9 b/\jE w g c/\jE w i ag/\jE w j e/\jE w k aj:=by
 obtain⟨l,a⟩:=h
 rcases ee with _|⟨f,_|⟨e9,_|⟨g,_|⟨i,_|⟨j,_|⟨k,_|⟨ap,bm⟩⟩⟩⟩⟩⟩⟩<;>simp at l
 exact⟨f,e9,g,i,j,k,rfl,a 0 _ _ rfl rfl,a 1 _ _ rfl rfl,a 2 _ _ rfl rfl,a 3 _ _ rfl rfl,a 4 _ _ rfl rfl,a 5 _ _ rfl rfl⟩
def akT{b:List UInt8}(bH:aT w bs ae b)(bI:b.length<=4611686018427387904):a0 C 125 #[ae] w λab a=>UE w b ab a:=by
 refine a9 M1 1 Tryz.func125 K rfl λa1 bJ=>?_
 simp+decide (maxSteps:=9999999)only[↓a8,ba,M1,Tryz.f125]
 subst bJ
 refine gI CX λaA bK bL cY=>?_
 have bM:aC aA w.heap.size 37 (eb q7):=bK
 generalize cZ:w.heap.size=an at*
 refine aH Gs IH ?_
 rintro c0 ax ⟨bR,aL⟩
 have aM:Q [] w ax:=bL.R aL B
 refine aH Db (EK bR Je (by simp[lc]) (bH.V aM) bI) ?_
 rintro c2 f ⟨bc,l⟩
 have ay:Q [] w f:=aM.R bc B
 have aO:aC f an 37 (eb q7):=(bM.J aL B).J bc B
 have dN:∀(e:ex)(a:aN),Q [] w a->aC a an 37 (eb q7)->vH b=b5 (.d2 w5 0 e)->
   W C (ck 59 #[(bO (eS #[114,101,112,108,121,46,71,101,116])),(F H 0),hQ e]) a λbT bU=>
   W C (dC 37 (aE (E ⟨an,0,I⟩)) (b6 (eb q7).toArray)) bU λ_ bd=>
   aZ C (a4 37 (aE (E ⟨an,0,I⟩))) bd λbV=>o5 (λab a=>UE w b ab a) (gd (bQ #[bV,bT])) bd:=by
  intro e a bW bX o
  refine aH nz Dm ?_
  rintro _ _ ⟨rfl,rfl⟩
  refine f0 (cv:=[]) (c5:=eb q7) (da:=[]) yf bX rfl rfl rfl (by intro ae u;simp[eb,q7,bF]at u;rcases u with rfl|rfl<;>rfl) λp aP aQ be=>?_
  obtain⟨c3,c4,c6,c7,c8,db,b0⟩:=hJ (x:=q7) (by simpa[bF]using aP)
  simp only[b0]
  refine⟨bW.R aQ (by simp;omega),?_⟩
  rw[o]
  rfl
 cases y:mG lc b with
 |error ai=>
  obtain⟨i,k⟩:=ai
  rw[y]at l
  subst l
  simp only[cV,cX]
  refine(rz dk).2 ?_
  simp only[M,N,O,P]
  refine(bY JD).2 ?_
  exact dN (.d2 vG i (.dD k)) f ay aO (by unfold vH;rw[y])
 |ok aF=>
  rw[y]at l
  obtain⟨af,ee,rfl,v,b1,dc,bf,dd⟩:=l
  obtain⟨d,bg,c,ag,e,aj,rfl⟩:∃d b c ag e aj,aF=[d,b,c,ag,e,aj]:=by
   have b2:=KM y
   rcases aF with _|⟨aR,_|⟨e9,_|⟨aS,_|⟨aU,_|⟨R,_|⟨aV,_|⟨ap,bm⟩⟩⟩⟩⟩⟩⟩<;>simp[lc]at b2
   exact⟨_,_,_,_,_,_,rfl⟩
  have bh:=FL (Ah y).1
  have b3:=KP (Ah y).1
  obtain⟨aR,e9,aS,aU,R,aV,rfl,b7,cR,cC,b8,aW,aX⟩:=akS b1
  simp only[cV,cX]
  refine(fp dk).2 ?_
  simp only[M,N,O,P]
  obtain⟨de,df,rfl,dg,b9⟩:=v
  obtain⟨q,ca,rfl,cb⟩:=b9.resolve_left B
  have cell:∀{a:aN},Q [] f a->fu a q ca ([aR,e9,aS,aU,R,aV].flatMap fA):=λm=>cb.J m B
  have V:Q [] f f.drew:=ob
  refine(sB rC tM A B).2 ?_
  simp only[M,N,O,P,Int.reduceToNat,Nat.reduceMul,Nat.zero_mul]
  refine(bl bZ (la (cell V) (j:=0) rfl)).2 ?_
  refine(sB rC tM A B).2 ?_
  simp only[M,N,O,P,Int.reduceToNat,Nat.reduceMul]
  refine(bl bZ (la (cell V) (j:=3) rfl)).2 ?_
  refine(sB rC tM A B).2 ?_
  simp only[M,N,O,P,Int.reduceToNat,Nat.reduceMul]
  refine(bl bZ (la (cell V) (j:=6) rfl)).2 ?_
  refine(sB rC tM A B).2 ?_
  simp only[M,N,O,P,Int.reduceToNat,Nat.reduceMul]
  refine(bl bZ (la (cell V) (j:=9) rfl)).2 ?_
  refine(sB rC tM A B).2 ?_
  simp only[M,N,O,P,Int.reduceToNat,Nat.reduceMul]
  refine(bl mc (la (cell V) (j:=14) rfl)).2 ?_
  obtain⟨dh,dj,bj,dl,dm⟩:=aW.2.2
  obtain⟨a1,X⟩:∃a1:kQ,a1=⟨aR.aR,e9.aR,aS.aR,aU.aR,R.jq,T I 0 0⟩:=⟨_,rfl⟩
  refine(bY (gT:=(eb a1).toArray) (by rw[X,bj];exact akR)).2 ?_
  refine gI CX λcc cf cg ch=>?_
  have ac:Q [] f cc:=V.R cg B
  refine(dz mc (la (cell ac) (j:=14) rfl)).2 ?_
  refine(dz bZ (la (cell ac) (j:=9) rfl)).2 ?_
  refine(dz bZ (la (cell ac) (j:=6) rfl)).2 ?_
  refine(dz bZ (la (cell ac) (j:=3) rfl)).2 ?_
  refine(dz bZ (la (cell ac) (j:=0) rfl)).2 ?_
  have ci:∀ae∈eb a1,ae.oneCell'=G:=by
   rw[X];intro ae u;simp[eb]at u;rcases u with rfl|rfl|rfl|rfl|rfl|rfl<;>first|rfl|(rw[bj];rfl)
  refine f0 (cv:=[]) (c5:=eb q7) (da:=[]) yf cf rfl rfl rfl ci λp aP aQ be=>?_
  have bk:aC p f.heap.size 37 (eb a1):=by simpa[bF]using aP
  have au:Q [] f p:=(ac.R aQ (by intro k m;simp at m;subst m;exact Z (fF _)))
  have bn:Q [] w p:=ay.R au B
  have dp:an<f.heap.size:=aO.aL
  have cj:aC p an 37 (eb q7):=aO.J au B
  have dq:p.heap.size=f.heap.size+1:=by rw[be,ch];rfl
  rw[show f.drew.heap.size=f.heap.size from rfl]
  generalize dr:f.heap.size=cE at*
  refine(sB rC tM A B).2 ?_
  simp only[M,N,O,P,Int.reduceToNat,Nat.reduceMul]
  refine(bl mc (la (cell au) (j:=17) rfl)).2 ?_
  obtain⟨bo,bp,br,ds,dt⟩:=aX.2.2
  have bt:aT p dV aV.jq aj.df:=aX.2.2.V au
  have du:=bh aj B
  have bu:=b3 aj B
  have dv:=bh e B
  rw[br]at bt⊢
  simp only[M,N,O,P]
  have aY:vH b=if aj.df.any (λs=>decide (s.size<8))then b5 (.d2 w5 0 (.dD 2))else(let ab:dn:=⟨d.aR,bg.aR,c.aR,ag.aR,e.df,aj.df.map pc⟩;if ab.bt then bA ab else b5 (.d2 w5 0 (.dD 2))):=by
   unfold vH;rw[y]
  refine c1 (λa2 a=>∃(i:Nat)(cB:S)(am:List Nat),a2=[F H i]/\i<=aj.df.length/\(∀s∈aj.df.take i,8<=s.size)/\bP a 70 2 cB i (((aj.df.take i).map pc).flatMap hX) am/\(∀g∈am,cE+1<=g)/\cB.oneCell'=G/\aC a cE 37 (eb {a1 with mH:=cB})/\
    aC a an 37 (eb q7)/\Q [cE] p a/\Q [] w a/\cE+1<=a.heap.size)
   (λa2 _=>match a2 with|[F _ i]=>aj.df.length-i.toNat|_=>0) ⟨0,T I 0 0,[],rfl,A,B,gJ _ _ _,B,rfl,by rw[X]at bk⊢;exact bk,cj,Q.b0 _ _,bn,A⟩ ?_
  rintro _ _ r ⟨i,cB,am,rfl,al,a3,v,z,dw,ad,aB,a5,a6,dx⟩
  simp only[M,N,O,P,bi]
  have cm:aT f dV (T bo aj.df.length bp) aj.df:=by rw[<-br];exact aX.2.2
  have cn:aT r dV (T bo aj.df.length bp) aj.df:=ID.s1 cm bt a5 (by simp;omega)
  refine⟨λdy=>?_,λdB=>?_⟩
  ·have aq:i<aj.df.length:=A
   refine(Iy.ek cn (Q.b0 _ _) aq).2 ?_
   have dD:=bu _ (dX aq)
   simp only[rv s0,M,N,O,P,bi]
   refine⟨λdE=>?_,λdF=>?_⟩
   ·refine(bY JD).2 ?_
    simp only[hk hY]
    refine dN (.dD 2) r a6 aB ?_
    rw[aY,if_pos]
    exact List.any_eq_true.2 ⟨_,dX aq,decide_eq_true (show(aj.df[i]).size<8 by omega)⟩
   ·have bv:8<=(aj.df[i]).size:=A
    have bw:Q [] r r.drew:=ob
    obtain⟨cp,cq,cs,ct,cu,bx,bz⟩:=hJ (ad.J bw B)
    simp only[bx]
    refine aH Yw (ag4 bv A) ?_
    rintro _ aD ⟨rfl,D⟩
    have bB:Q [] r aD:=bw.R D B
    refine(dz FQ (aa:=cB) ((ad.J bB B).bh (af:=5))).2 ?_
    refine hw C3 [qP (pc aj.df[i])] rfl rfl (by simp[qP,hX,bF]) A A λaG a7 av cw=>?_
    have J:Q [] r aG:=bB.R av B
    have dG:=J.aI
    refine(dz FQ (aa:=cB) ((ad.J J B).bh (af:=5))).2 ?_
    have cx:fu aG aD.heap.size 0 ([pc aj.df[i]].flatMap hX):=by
     have:=a7.cy
     simpa[qP,bF]using this
    refine m8 (ak:=1) C3 (v.J J B) cx rfl (by intro ae u;simp at u;exact Ae _ ae u) A (by unfold d0;omega) A λtw cd az cy aw cz bC=>?_
    have dH:=aw.aI
    have bD:∀g∈az,cE+1<=g:=λg l=>(cz g l).elim (z g) (λh=>A)
    have cA:aC cd cE 37 (eb {a1 with mH:=cB}):=(ad.J J B).J aw (λt=>by have:=z _ t;omega)
    refine eK K1 cA (by simp[eb]) bC λdK cD aI dL=>?_
    rw[bq A A]
    have cF:∀g∈am,g∈[cE]\/p.heap.size<=g:=λg l=>Z (by have:=z g l;omega)
    refine⟨⟨i+1,tw,az,rfl,aq,?_,?_,bD,bC,by simpa[eb]using cD,((aB.J J B).J aw (λt=>by have:=z _ t;omega)).J aI (by simp;omega),((a5.R J B).R aw cF).R aI B,((a6.R J B).R aw (λg l=>Z (by have:=z g l;have:=bn.aI;omega))).R aI (by intro k m;simp at m;subst m;exact Z (by have:=ay.aI;omega)),A⟩,A⟩
    ·intro s ao
     rw[jO aq]at ao
     rcases b4.1 ao with ao|ao
     ·exact a3 s ao
     ·simp at ao;subst ao;exact bv
    ·rw[jO aq,g6,hL]
     exact cy.J aI (λg l t=>by have:=bD g l;simp at t;omega)
  ·obtain rfl:i=aj.df.length:=A
   rw[j3]at v a3
   have cH:(aj.df.any λs=>decide (s.size<8))=U:=by
    rw[List.any_eq_false]
    intro s ao
    have:=a3 s ao
    simp;omega
   rw[cH,if_neg B]at aY
   obtain⟨ap,aJ⟩:∃ap:dn,ap=⟨d.aR,bg.aR,c.aR,ag.aR,e.df,aj.df.map pc⟩:=⟨_,rfl⟩
   have bE:vH b=if ap.bt then bA ap else b5 (.d2 w5 0 (.dD 2)):=by rw[aY,aJ]
   have cI:aT r hX cB (aj.df.map pc):=by
    rw[show aj.df.length=(aj.df.map pc).length by simp]at v
    exact v.eF CK A
   have cJ:aT r dV R.jq e.df:=ID.s1 aW.2.2 (aW.2.2.V au) a5 (by simp;omega)
   have bb:ma r {a1 with mH:=cB} ap:=by
    subst aJ;subst X
    exact⟨b7.1,cR.1,cC.1,b8.1,cJ,cI⟩
   have cK:vd ap:=by
    subst aJ
    refine⟨by show e.df.length<=_;omega,by show(aj.df.map pc).length<=_;rw[dU];omega,λah cL=>?_⟩
    obtain⟨s,ao,rfl⟩:=fS.1 cL
    have:=bu s ao
    show(s.extract 8 s.size).size<=_
    rw[ByteArray.size_extract]
    omega
   obtain⟨cp,cq,cs,ct,cu,bx,bz⟩:=hJ ad
   simp only[bz]
   refine aH LT (TF bb cK) ?_
   rintro _ aD ⟨rfl,D⟩
   have bG:=a6.R D B
   simp only[M,N,O,P,cG]
   refine⟨λcM=>?_,λcO=>?_⟩
   ·refine(bY JD).2 ?_
    simp only[hk hY]
    refine dN (.dD 2) aD bG (aB.J D B) ?_
    rw[bE,if_neg (by simpa using cM)]
   ·obtain⟨dM,dO,dP,dQ,dR,dS,cP⟩:=hJ (ad.J D B)
    simp only[cP]
    refine f0 (cv:=[]) (c5:=eb q7) (da:=[]) yf (aB.J D B) rfl rfl rfl bb.aW λaG a7 av cw=>?_
    have cQ:aC aG an 37 (eb {a1 with mH:=cB}):=by simpa[je,bF]using a7
    obtain⟨dT,dW,dY,dZ,d1,d2,cS⟩:=hJ cQ
    simp only[cS]
    refine⟨bG.R av (by intro k m;simp at m;subst m;exact Z A),?_⟩
    rw[bE,if_pos (by simpa using cO)]
    have ar:=bb.V D
    refine⟨_,rfl,⟨ar.dF,ar.iE,ar.cu,ar.cS,?_,?_⟩,?_,?_⟩
    ·subst X
     subst aJ
     refine ar.gj.J av (λq af n L o t=>?_)
     simp at t
     have cU:=bf R B q af n L o
     have cW:=aL.aI
     omega
    ·exact ar.dY.J av (λq af n L o t=>by
      simp at t
      have:=z _ (v.rt q af n L o)
      omega)
    ·subst X
     intro q af n L o
     have cU:=bf R B q af n L o
     have cW:=aM.aI
     omega
    ·intro q af n L o
     have:=z _ (v.rt q af n L o)
     have:=ay.aI
     omega
end Go.Proofs.YtepeilglbedgdaaGreatDoor.c7
namespace Go.Proofs.YtepeilglbedgdaaGreatDoor
open Go.X
attribute[local irreducible]Go.X.W
variable{a ax bv w:aN}{aQ aX ab ai ak b bu e9 gi hs i iO k n s:Nat}{aB cp:Nat -> Bool}{aD aO am az bU ci d6 eT fy gf:List Nat}{aa bc cA:S}{ac:S -> aN -> Prop}{al ay:Nat -> Nat -> Bool}{an:cK}{gG:Int}{au:eW}{bo:List i8}{c:dR}{cz:ex}{d:dl}{dm:List ByteArray}{l:List UInt8}{fz:kQ}
section
open Go.RowKit fC gO
variable{ao:List gZ}{h:gZ}
def akU{ah:Int×ByteArray}(b:0<=ah.1)(c:ah.1<=9223372036854775807):pc (lL ah)=ah:=by
 obtain⟨d,s⟩:=ah
 obtain⟨n,rfl⟩:=nL b
 have a:eO (lL ((n:Int),s))=eU n 8++eO s:=by
  unfold lL h7 eO
  rw[ByteArray.data_append,Array.toList_append]
 unfold pc
 rw[a,List.take_left' (jp _ _),uP 8 n (by simp at c;omega),bq A A]
 congr 1
 apply ByteArray.ext
 apply Array.toList_inj.1
 have e:(lL ((n:Int),s)).size=8+s.size:=AF _
 have f:(lL ((n:Int),s)).data.toList=eU n 8++eO s:=a
 simp only[ByteArray.data_extract,Array.toList_extract]
 rw[List.extract_eq_take_drop,f,List.drop_left' (jp _ _),e,mv (by rw[oy];omega)]
 rfl
def zC(ab:dn):Prop:=∀ah∈ab.dY,ah.1<=9223372036854775807
def akV{ab:dn}(h:ab.bt=G)(b:zC ab):vH ab.ch=bA ab:=by
 obtain⟨fT,c,d⟩:=c7.TG h
 have e:=Dq c7.Je c
 have f:=((Ds ab).1 h)
 unfold vH
 rw[d,e]
 have g:(List.any (ab.dY.map lL) λs=>decide (s.size<8))=U:=by
  rw[List.any_eq_false]
  intro s ao
  obtain⟨ah,a,rfl⟩:=fS.1 ao
  rw[AF]
  simp
 have i:(ab.dY.map lL).map pc=ab.dY:=by
  rw[ts]
  refine(List.map_congr_left (λah a=>?_)).trans (List.map_id _)
  exact akU (f.2 ah a) (b ah a)
 simp only[dn.h8]
 rw[g,i]
 simp only[fc,if_false]
 exact if_pos h
section
variable{ad:dn}
def akW(c:Q [] bv w)(d:n<65536)(k:∀ae a,ql bv a ae (ga n)->Q [] w a->ac ae a):W C (jR 52 2 #[(0,F cl ((n:Int)%256)),(1,F cl ((n:Int)/256%256))]) w ac:=
 hw ky [F cl ((n:Int)%256),F cl ((n:Int)/256%256)] rfl rfl (by intro aa b;simp at b;rcases b with rfl|rfl<;>rfl) A A λa e f _=>k _ _ ⟨[w.heap.size],by
  rw[Sb d]
  exact x5 (n:=2) (by simpa[bF]using e) rfl (by decide),by simpa using c.aI⟩ f
def akX(g:aT w dV bc d.bk.a7)(ao:qt d)(t:d.ch.length<=60000):a0 C 29 #[ho d bc] w λae a=>aT a bs ae (mZ d)/\Q [] w a:=by
 refine a9 .D 1 Tryz.func29 K rfl λa1 h=>?_
 simp+decide (maxSteps:=9999999)only[↓a8,ba,Tryz.f29]
 subst h
 refine sf λaA i b u=>?_
 obtain⟨v,x,y,z,D,J,L,R,V,W,aa,j⟩:=gc i
 try simp only[M,N,O,P,j]
 refine aH Xt (aiX (g.V b) ao) ?_
 rintro b1 ax ⟨ab,k,ac,l⟩
 have c:Q [] w ax:=b.R l B
 unfold mZ
 generalize d.ch=hs at*
 have e:=(k.eF e2 A)
 obtain⟨ad,af,m,ag,_⟩:=id e
 subst m
 try simp only[M,N,O,P]
 refine(fv kd oE).2 ?_
 refine(nS A).2 ?_
 refine(fv kd oE).2 ?_
 have o:∀n:Nat,((n:Nat):Int)/2^min (8:Int).toNat H.bits=(n:Int)/256:=λ_=>rfl
 rw[o]
 simp only[X.pa]
 refine akW c A λah ai p f=>?_
 refine Bt p (c.R f B) (e.V f) (by simp[ga];omega) λdd aj q r=>?_
 obtain⟨aD,s,ak⟩:=q
 exact⟨s.eF e2 A,r⟩
def akY(h:aT w bs aa l):∃aO,hp w aO bs aa l:=by
 obtain⟨d,c,rfl,e,a⟩:=id h
 rcases a with rfl|⟨b,af,rfl,_⟩
 ·exact⟨[],h,Y rfl⟩
 ·exact⟨[b],h,Z ⟨b,af,c,rfl,B⟩⟩
def JE(w a:aN)(ad:dn)(ae:S):Prop:=∃fz bM af c,ae=T (E ⟨bM,af,I⟩) 1 c/\fu a bM af (eb fz)/\ma a fz ad/\gx w.heap.size fz.pb/\gx w.heap.size fz.mH
def akZ(ac:aT w bs aa (ga ad.ch.length++ad.ch))(ag:ad.bt=G)(ah:zC ad):a0 C 75 #[aa] w λae a=>Q [] w a/\∃cB,ae=bQ #[cB,aK G]/\JE w a ad cB:=by
 have aj:=akV ag ah
 have aL:=BT ad
 have aM:(ga ad.ch.length++ad.ch).length=ad.ch.length+2:=by rw[di,zB];omega
 have s:(ga ad.ch.length++ad.ch).getD 0 0=ed ad.ch.length:=by simp[ga]
 have t:(ga ad.ch.length++ad.ch).getD 1 0=ed (ad.ch.length/256):=by simp[ga]
 have ak:(ga ad.ch.length++ad.ch).drop 2=ad.ch:=by rw[<-zB ad.ch.length,List.drop_left]
 generalize ga ad.ch.length++ad.ch=e at*
 generalize ad.ch=hs at*
 refine a9 MC 1 Tryz.func75 K rfl λa1 al=>?_
 simp+decide (maxSteps:=9999999)only[↓a8,ba,MC,Tryz.f75]
 subst al
 refine c1 (λf a=>Q [] w a/\((f=[aa,T I 0 0])\/∃d c cB,f=[T d 0 c,cB]/\JE w a ad cB)) (λf _=>match f with|[T _ n _,_]=>n|_=>0) ⟨.b0 _ _,Y rfl⟩ ?_
 rintro f _ ax ⟨h,(rfl|⟨d,c,cB,rfl,am⟩)⟩
 ·obtain⟨aO,m⟩:=akY (ac.V h)
  obtain⟨aP,aQ,an,aR,_⟩:=id m.1
  subst an
  try simp only[M,N,O,P,bi]
  refine⟨λu=>?_,λv=>A⟩
  try simp only[M,N,O,P,bi]
  refine⟨λu=>A,λv=>?_⟩
  have o:=m.J (cD [] ax) (bR.D _)
  refine(E2.ek o.1 (Q.b0 _ _) (i:=0) A).2 ?_
  refine vc.2 ?_
  refine(E2.ek o.1 (Q.b0 _ _) (i:=1) A).2 ?_
  refine vc.2 ?_
  refine(BN (j:=8) (ai:=hr) (by have:=(e[0]).toNat_lt;omega) A).2 ?_
  have ao:(e[0]'A).toNat+(e[1]'A).toNat*2^8=hs.length:=by
   rw[iI A]at s t
   rw[s,t,mx,mx];omega
  rw[ao]
  try simp only[M,N,O,P]
  rw[show H.wrap ((e.length:Int)-2)=(e.length:Int)-2 from bq A A]
  try simp only[M,N,O,P,bi]
  refine⟨λu=>A,λv=>?_⟩
  rw[show H.wrap (2+(hs.length:Int))=((2+hs.length:Nat):Int)from by rw[bq A A];omega]
  refine Uh (i:=2) (j:=2+hs.length) o A A λb1 y=>?_
  rw[ak,show 2+hs.length-2=hs.length by omega,j3]at y
  refine aH X1 (c7.akT y.1 A) ?_
  rintro ab ap ⟨aq,z⟩
  rw[aj]at z
  obtain⟨fz,rfl,l,p,q⟩:=z
  have p:gx ax.heap.size fz.pb:=p
  have q:gx ax.heap.size fz.mH:=q
  simp only[cV,cX]
  refine qv λaS ar au aU=>?_
  refine mW (x:=fz) ar l.gj.aW l.dY.aW λb av aw aV=>?_
  have D:Q [] ap b:=au.R aw B
  refine(fp dk).2 ?_
  refine cG.2 ⟨λr=>(by cases r),λ_=>?_⟩
  refine((c7.hJ (bD av)).2.2.2.2.2.2 _).2 ?_
  try simp only[M,N,O,P]
  have J:Q [] ax b.drew:=(((cD [] ax).R aq B).R D B).R (cD [] b) B
  refine BS (k:=2+hs.length) (m.J J (bR.D _)) A λae L=>?_
  rw[List.drop_of_length_le A]at L
  obtain⟨ay,az,rfl,_⟩:=L.1
  have aA:=(l.V D).V (cD [] b)
  refine hw Ll [je fz] rfl rfl (by intro bm R;simp at R;subst R;rfl) A A λaB aC aD aW=>?_
  have aF:fu aB b.drew.heap.size 0 (eb fz):=by have:=aC.cy;simpa[je,bF]using this
  refine m8 Ll (gJ _ _ _) aF rfl l.aW A (by unfold d0;omega) A λaX V aY W aG aZ a2=>?_
  have X:Q [] b.drew V:=aD.R aG B
  have aI:Q [] w V:=(h.R J B).R X B
  obtain⟨g,af,aJ,rfl,a3⟩:=W.gm A
  refine⟨⟨aI,Z ⟨ay,az,_,rfl,fz,g,af,aJ,rfl,by simpa using W.fO.2,aA.V X,p.bw h.aI,q.bw h.aI⟩⟩,by simp;omega⟩
 ·try simp only[M,N,O,P,bi]
  exact⟨λr=>by simp at r,λ_=>⟨h,cB,rfl,am⟩⟩
end
section
variable{s:c3}{t:ByteArray}{av:ji}
def UF{gG:Int}:∀{ao:List gZ}{dj:Nat}{dM l:List (Int×ByteArray)},rI av cp gG dj dM ao=E l->∀ah∈l,ah∈dM\/∃h∈ao,ah.1=h.cu
 |[],dj,dM,l,h=>by
  cases h
  exactλah a=>Y a
 |ap::ao,dj,dM,l,h=>by
  rw[BP]at h
  cases c:pp av cp ap with
  |none=>
   rw[c]at h
   simp only at h
   split at h
   ·cases h
   ·cases h;exactλah a=>Y a
  |some ag=>
   rw[c]at h
   simp only at h
   split at h
   ·cases h;exactλah a=>Y a
   ·intro ah a
    rcases UF h ah a with b|⟨bm,d,e⟩
    ·rcases b4.1 b with b|b
     ·exact Y b
     ·exact Z ⟨ap,B,by rw[ku.1 b]⟩
    ·exact Z ⟨bm,by simp[d],e⟩
def ak0(f:an.bp aX)(g:aX<=64):zC (an.e7 k aX d).2:=by
 have c:∀{ad:dn},ad.dY=[]->zC ad:=λh ah a=>by rw[h]at a;cases a
 unfold cK.e7
 split
 ·exact c ajB.2
 ·show zC (mi an.cx kn an.bd d)
  unfold mi
  split
  ·exact c rfl
  ·split
   ·exact c rfl
   ·rename_i ah a
    have a:=((f.bd g).aP a).dw
    split
    ·split<;>exact c rfl
    ·split
     ·exact c rfl
     ·unfold mO
      split
      ·split
       ·exact c rfl
       ·rename_i i _ l j
        intro ai m
        rcases UF j ai m with n|⟨bm,b,e⟩
        ·cases n
        ·have b:=List.mem_of_mem_take b
         unfold eI.jd at b
         rw[if_pos i]at b
         have b:=tr b
         have o:=a.oG.AB b
         have p:=a.oG.1 bm b
         have q:=a.vR
         omega
      ·exact c rfl
end
def ak1(b:d.bt=G):d.ch.length<=610:=by
 unfold dl.ch
 rw[if_pos b]
 have f:d.pl.length=6:=by simp[dl.pl,jp]
 rw[di,f]
 cases c:i3 d.a5 with
 |true=>
  have e:=tU b c
  have g:=DE e
  have h:=(eG.qT e).1
  simp only[if_true,e8]
  rw[h,gF]
  have j:d.c2.a5=d.a5:=rfl
  omega
 |false=>
  have a:=Pm b c
  have g:=Pl a
  unfold dl.p6 at a
  rw[dA,dA,dA]at a
  have i:=yz (vU _) (sL d) ((xc (vU _) (sL _)).1 a.1.1.2)
  simp only[fc,if_false]
  rw[i]
  simp only[Af]
  omega
structure kq(w:aN)(s:Nat)(am:List Nat)(c:dR)(dN:Nat->Bool)(bu:Nat)(an:cK)(ri:List er):Prop where
 gm:∃b ci d6 bo ab au aB ay ai aQ,fR w s b ci d6 bo ab c au aB ay ix ai aQ an/\bo.map (·.a3)=ri/\am=s::(ci++d6)/\(∀ag,ag<c.aR->dN ag=U->aB ag=U/\∀t,ay ag t=G)/\ai<=bu
 n1:c.aJ<=bV (λag=>!dN ag) c.aR
def q8:List er:=[iy,iy,iy,iy]
section
variable{dN:Nat->Bool}{ad:dn}{ri:List er}
def JF(e:c.bp)(f:c.aJ<=bV (λag=>!dN ag) c.aR)(d:∀ag,ag<c.aR->dN ag=U->aB ag=U/\∀t,ay ag t=G):qo c aB ay:=by
 have bz:∀(g:Nat->Bool),(∀ag,ag<c.aR->dN ag=U->g ag=G)->c.aJ<=bV g c.aR:=λg h=>gz f (r4 λag a b=>h ag a (by simpa using b))
 have k:=e.kh
 exact⟨bz _ λag a b=>(d ag a b).2 0,λj i _ _=>iL A (bz _ λag a b=>(d ag a b).2 _),λt _=>bz _ λag a b=>(d ag a b).2 _,bz _ λag a b=>by simp[(d ag a b).1]⟩
def fR.aL(h:fR w s b ci d6 bo ab c au aB ay al ai aQ an):∀g∈s::(ci++d6),g<w.heap.size:=by
 intro g a
 rcases ce.1 a with rfl|a
 ·exact h.bg.aL
 ·rcases b4.1 a with a|a
  ·exact h.hK.aL g a
  ·exact h.im.aL l2 g a
def fR.J(h:fR w s b ci d6 bo ab c au aB ay al ai aQ an)(d:Q bU w a)(e:bR (s::(ci++d6)) bU)(i:0∉bU):fR a s b ci d6 bo ab c au aB ay al ai aQ an:=
 ⟨h.hK.J d (λg f=>e g (by simp[f])) i,h.bg.J d (e s B),h.oi,h.im.J l2 d (λg f=>e g (by simp[f])),h.eX,h.dG,h.vm,h.xO,h.o3⟩
def kq.aL(h:kq w s am c dN bu an ri):∀g∈am,g<w.heap.size:=by
 obtain⟨⟨b,ci,d6,bo,ab,au,aB,ay,ai,aQ,a,_,rfl,_⟩,_⟩:=h
 exact a.aL
def kq.J(h:kq w s am c dN bu an ri)(d:Q bU w a)(e:bR am bU)(f:0∉bU):kq a s am c dN bu an ri:=by
 obtain⟨⟨b,ci,d6,bo,ab,au,aB,ay,ai,aQ,g,i,rfl,j⟩,k⟩:=h
 exact⟨⟨b,ci,d6,bo,ab,au,aB,ay,ai,aQ,g.J d e f,i,rfl,j⟩,k⟩
def kq.V(h:kq w s am c dN bu an ri)(b:Q [] w a):kq a s am c dN bu an ri:=h.J b (bR.D _) B
def fR.ak2(h:fR w s b ci d6 bo ab c au aB ay al ai aQ an):an.bp c.bd/\c.bp:=by
 obtain⟨ah,cR,b8,dB,fL,ej,dq,aD,c0,ef,a,_⟩:=h.hK
 exact⟨a.cL,a.ij.ij.cL.1⟩
def kq.cL(h:kq w s am c dN bu an ri):an.bp c.bd/\c.bp:=by
 obtain⟨⟨b,ci,d6,bo,ab,au,aB,ay,ai,aQ,a,d,rfl,e⟩,f⟩:=h
 exact a.ak2
def f5.xQ(h:f5 w a s ci d6 eT fy):bX (s::(ci++d6)) (s::(eT++fy)) w a:=
 ⟨h.J,λg b=>by
  rcases ce.1 b with rfl|b
  ·exact Y B
  ·rcases b4.1 b with b|b
   ·exact(h.wz g b).imp (λc=>by simp[c]) id
   ·exact(h.nj g b).imp (λc=>by simp[c]) id⟩
def ak3(h:fR w s b ci d6 bo ab c au aB ay al ai aQ an)(f:i<bo.length)(g:bo[i].a3.eJ=ga ad.ch.length++ad.ch)(m:ad.bt=G)(n:zC ad):
  a0 C 37 #[aP s,F H i] w λae a=>JE w a ad ae/\∃dx d,fR a s b ci d (bo.set i dx) ab c au aB ay al ai aQ an/\dx.a3={bo[i].a3 with eJ:=[]}/\f5 w a s ci d6 ci d:=by
 have y:=BT ad
 have z:bo[i].a3.eJ.length=ad.ch.length+2:=by rw[g,di,zB];omega
 refine a9 .D 2 Tryz.func37 K rfl λa1 o=>?_
 simp+decide (maxSteps:=9999999)only[↓a8,ba,Tryz.f37]
 subst o
 refine aH XA (akl h f) ?_
 rintro _ _ ⟨rfl,rfl⟩
 refine aH Xb (akm (ak:=bo[i].a3.eJ.length) h f A A) ?_
 rintro ae aA ⟨dx,d,p,j,e,k,B⟩
 rw[j3,g]at k
 rw[List.drop_length]at j
 refine aH Xz (akZ k m n) ?_
 rintro _ ax ⟨l,cB,rfl,q⟩
 simp only[cV,cX]
 obtain⟨fz,bM,af,bL,r,t,u,v,x⟩:=q
 exact⟨⟨fz,bM,af,bL,r,t,u,v.bw e.J.aI,x.bw e.J.aI⟩,dx,d,p.V l,j,e.dP (.iu l)⟩
def ak4{x:Option es}{l:Nat}:C.built 59 #[(0,F H 1),(7,T x l ak)].toList=E (mY ⟨1,0,0,0,0,0,T I 0 0,T x l ak⟩).toArray:=K
def UG{k:Int}:C.built 59 #[(0,F H k)].toList=E (mY ⟨k,0,0,0,0,0,T I 0 0,T I 0 0⟩).toArray:=K
def ak5(ao:qo c aB ay):xH c ay al kn:=λt a=>⟨λ_=>ao.BB t a,λh=>by cases h⟩
def ak6(bv w:aN)(ad:dn)(ae:S):Prop:=qw bv w ad ae
def ak7(h:kq w s am c dN bu an q8)(bb:an.cn=[])(bd:an.cQ<=100000)(be:aT w dV bc d.bk.a7)(bf:qt d)(v:d.bt=G)(aa:d.a5≠6)(b8:an.cx.length+1<=c.bd)(b9:bu<=1000000):
  a0 C 11 #[aP s,ho d bc] w λae a=>∃av az,ae=bQ #[av,aK G]/\ak6 w a (an.e7 c.aJ c.bd d).2 av/\kq a s az c dN (bu+1) (an.e7 c.aJ c.bd d).1 q8/\bX am az w a:=by
 obtain⟨ac,aw⟩:=h.cL
 have ca:=aw.jZ
 obtain⟨⟨b,ci,d6,bo,ab,au,aB,ay,ai,aQ,D,aC,rfl,aD,cb⟩,aF⟩:=h
 have ao:=JF aw aF aD
 have cc:=D.oi
 have cd:=ak1 v
 refine a9 Mf 2 Tryz.func11 K rfl λa1 bg=>?_
 simp+decide (maxSteps:=9999999)only[↓a8,ba,Mf,Tryz.f11]
 subst bg
 refine sf λaA bh bi bj=>?_
 refine qv λax bk aG bm=>?_
 have aI:Q [] w ax:=bi.R aG B
 have aJ:=bh.J aG B
 obtain⟨cf,cg,ch,cj,ck,cm,cn,cq,cs,ct,cu,bn⟩:=gc aJ
 try simp only[M,N,O,P,bn]
 refine aH Xa (akX (be.V aI) bf A) ?_
 rintro cv aL ⟨aM,J⟩
 have aO:=aI.R J B
 obtain⟨cw,cx,bp,_⟩:=id aM
 subst bp
 refine(bY ak4).2 ?_
 have bq:=D.V aO
 have ag:0<bo.length:=A
 have aR:∀j(L:j<bo.length),bo[j].a3=iy:=λj L=>by
  have:=congrArg (λl=>l[j]?) aC
  simp only[e1,cr L,m1]at this
  have br:j=0\/j=1\/j=2\/j=3:=A
  rcases br with rfl|rfl|rfl|rfl<;>simpa[q8]using this
 have o:=aR 0 ag
 have cy:(mZ d).length=d.ch.length+2:=by unfold mZ;rw[di,zB];omega
 have bs:k4 kn (bo[0].a3.bG.length+(mZ d).length) an {bo[0].a3 with bG:=bo[0].a3.bG++mZ d}=k4 kn (mZ d).length an (oj (mZ d)):=by
  rw[o]
  simp[iy,oj]
 obtain⟨aS,bt,bv,bw,cz,bx,cA,cB⟩:=akQ (an:=an) (k:=c.aJ) (aX:=c.bd) (n:=(mZ d).length) bb v A A
 refine aH C9 (akB (i:=0) bq ag (ak5 ao) aM (by rw[o];simp[iy]) (by rw[o];simp[iy];omega) (by rw[o];simp[iy]) bd (by rw[o];simp[iy]) ?_) ?_
 ·rw[o]
  have:=akP (cp:=kn) (an:=an) (n:=(mZ d).length) v A aa
  simpa[iy,oj]using this
 rintro _ cC ⟨rfl,cE,cF,tu,ah,aj,aU⟩
 rw[bs]at ah aj
 refine(bY UG).2 ?_
 have cH:=ah.oi
 have aV:∀x∈bo.set 0 tu,x.a3.eJ.length<=500000/\x.a3.hB.length<=100000:=by
  intro x m
  rcases List.mem_or_eq_of_mem_set m with m|rfl
  ·obtain⟨j,L,rfl⟩:=ns m
   rw[aR j L]
   simp[iy]
  ·rw[aj];omega
 refine aH C9 (akC ah ao A (by rw[bx];omega) A (λx m=>(aV x m).1) (λx m=>(aV x m).2)) ?_
 rintro _ cI ⟨rfl,p,cJ,q,bz,bB,ak,aW,aY,cK⟩
 rw[bt]at ak aW
 have bC:bo.set 0 tu=tu::bo.drop 1:=by
  cases bo with
  |nil=>simp at ag
  |cons ap b7=>rfl
 have bE:bo.map (·.a3)=q8:=aC
 have aZ:q.map (·.a3)=[iy.kG (an.e7 c.aJ c.bd d).2,iy,iy,iy]:=by
  rw[aW,bC,ge,aj,bv]
  have e:(bo.drop 1).map (λx=>(aS.foldl (λc t=>kH t c) x.a3).kL)=((bo.drop 1).map (·.a3)).map (λc=>(aS.foldl (λc t=>kH t c) c).kL):=by rw[ts];rfl
  rw[e,List.map_drop,bE]
  simp[q8,bw]
 have cL:=ak.oi
 have al:0<q.length:=A
 have a2:q[0].a3=iy.kG (an.e7 c.aJ c.bd d).2:=by
  have:=congrArg (λl=>l[0]?) aZ
  simp only[e1,cr al,m1]at this
  simpa using this
 have bH:=ajQ (k:=c.aJ) ac A v aa
 refine aH Xf (ak3 (i:=0) (ad:=(an.e7 c.aJ c.bd d).2) ak al (by rw[a2];rfl) bH (ak0 ac A)) ?_
 rintro ae y ⟨⟨fz,bM,af,bL,rfl,a3,R,a4,a5⟩,a6,r,bI,bJ,bK⟩
 have bP:=ajR (k:=c.aJ) ac v aa
 have V:f5 aL y s ci d6 p r:=(aU.dP aY).dP bK
 have a7:f5 w y s ci d6 p r:=(f5.iu aO).dP V
 have aq:=D.aL
 have cM:aA.heap.size=w.heap.size+1:=bj
 have bR:=(aJ.J J B).J V.J (λf=>by have:=aq _ f;omega)
 have bU:=(bk.J J B).J V.J (λf=>by have:=aq _ f;omega)
 have bV:kq y s (s::(p++r)) c dN (bu+1) (an.e7 c.aJ c.bd d).1 q8:=by
  refine⟨⟨b,p,r,_,ab,bz,aB,ay,bB,aQ,bI,?_,rfl,aD,A⟩,aF⟩
  have bW:q.set 0 a6=a6::q.drop 1:=by
   cases q with
   |nil=>simp at al
   |cons ap b7=>rfl
  rw[bW,ge,bJ,a2,List.map_drop,aZ]
  rfl
 have z:=cD [] y
 refine bT (λb0 a=>b0=[aK U]/\y.drew=a) ?_ ?_
 ·try simp only[M,N,O,P]
  refine cG.2 ⟨λW=>(by simp at W),λ_=>?_⟩
  refine(sB C4 yf A B).2 ?_
  try simp only[M,N,O,P,Int.reduceToNat,Nat.zero_mul,qA]
  refine(bl bZ (la (a3.J z B) (j:=0) rfl)).2 ?_
  refine(bl bZ ((bD bR).bh (af:=0))).2 ?_
  try simp only[M,N,O,P]
  rw[R.dF,bP]
  exact⟨B,by trivial⟩
 rintro _ _ _ ⟨rfl,rfl⟩
 try simp only[M,N,O,P]
 refine(sB C4 yf A B).2 ?_
 try simp only[M,N,O,P,Int.reduceToNat,Nat.zero_mul,qA]
 refine(gC (l:=eb fz) F0 (a3.J z B)).2 ?_
 refine mW (x:=fz) (bD bU) R.gj.aW R.dY.aW λcO b1 X cP=>?_
 refine((c7.hJ b1).2.2.2.2.2.2 _).2 ?_
 have cQ:ax.heap.size<=aL.heap.size:=J.aI
 have cR:=(aU.dP aY).J.aI
 have cS:ax.heap.size=aA.heap.size+1:=bm
 have u:=R.V z
 have cU:=D.pM.aL
 have b2:∀g∈s::(p++r),g∉[aA.heap.size]:=λg ar f=>by
  simp only[ku]at f
  subst f
  have b3:=V.xQ.cq _ ar
  rcases b3 with W|W
  ·have:=aq _ W;omega
  ·omega
 refine⟨je fz,s::(p++r),rfl,⟨fz,rfl,⟨u.dF,u.iE,u.cu,u.cS,u.gj.J X (λb af n c e f=>?_),u.dY.J X (λb af n c e f=>?_)⟩,a4.bw A,a5.bw A⟩,(bV.V z).J X b2 (by simp;omega),?_⟩
 ·have:=a4 b af n c e
  simp at f
  omega
 ·have:=a5 b af n c e
  simp at f
  omega
 ·exact⟨(a7.xQ.oM z).J.R X (λg ar=>Z (by simp at ar;omega)),a7.xQ.cq⟩
end
def kr(n:Int)(ay al:Nat):Nat:=(yp n ay al).toNat
def q9{n:Int}{ay al:Nat}(h:ay<=al):yp n ay al=(kr n ay al:Int)/\ay<=kr n ay al/\kr n ay al<=al:=by
 have:=aac (n:=n) (ay:=(ay:Int)) (al:=(al:Int)) A
 unfold kr
 omega
section
variable{n k wJ:Int}{ay al qE:Nat}
def tc(a:ay<=al)(c:al<=4611686018427387904)(b:ac (F H (kr n ay al:Nat)) w):W C (ck 13 #[F H n,F H ay,F H al]) w ac:=
 aH W2 (aad (n:=n) A A A) (by rintro _ _ ⟨rfl,rfl⟩;rw[(q9 a).1];exact b)
def qx(k n:Int)(aX qE:Nat):dR:=⟨7,kr k 1 4,kr n (kr k 1 4) 6,aX,qE⟩
def ak8(a:1<=aX)(c:aX<=64)(e:1<=qE)(f:qE<=4):(qx k n aX qE).bp:=by
 have d:=(q9 (n:=k) (ay:=1) (al:=4) A).2
 have b:=(q9 (n:=n) (ay:=kr k 1 4) (al:=6) A).2
 exact⟨by simp[qx],by simp[qx],by simp only[qx];omega,by simp only[qx];omega,by simp only[qx];omega,by simp only[qx];omega,a,c,e,f⟩
def ak9{d b c:Int}:C.built 25 #[(0,F H 7),(1,F H d),(3,F H b),(4,F H c)].toList=E #[F H 7,F H d,F H 0,F H b,F H c]:=K
def ala:a0 C 9 #[F H k,F H n,F H aX,F H qE] w λae a=>ae=fQ (qx k n aX qE)/\Q [] w a:=by
 have s:=(q9 (n:=k) (ay:=1) (al:=4) A).2
 refine a9 .D 4 Tryz.func9 K rfl λa1 f=>?_
 simp+decide (maxSteps:=9999999)only[↓a8,ba,Tryz.f9]
 subst f
 refine mR λaA h i t=>?_
 refine tc (ay:=1) (al:=4) A A ?_
 refine(bY ak9).2 ?_
 refine mR λax j l u=>?_
 refine ml (g:=⟨7,kr k 1 4,0,aX,qE⟩) j rfl λv c m x=>?_
 obtain⟨y,o,z,D,J⟩:=iV c
 try simp only[M,N,O,P,o]
 refine tc (ay:=kr k 1 4) (al:=6) A A ?_
 try simp only[M,N,O,P]
 refine eK hl c (by simp[en]) rfl λd b p L=>?_
 have b:aC d aA.heap.size 25 (en (qx k n aX qE)):=by simpa[en,qx]using b
 refine(fj b).2 ?_
 have e:Q [] aA d:=(l.R m B).R p B
 refine ml (g:=qx k n aX qE) (h.J e B) rfl λR q r V=>?_
 refine(fj q).2 ?_
 exact⟨rfl,(i.R e B).R r B⟩
def JG(b:c.bp):a0 C 34 #[fQ c] w λae a=>ae=F H (c.e6:Nat)/\Q [] w a:=by
 have e:=b.lh;have k:=b.jY;have l:=b.i6;have m:=b.jZ
 have n:c.cY*c.aJ<=4*8:=Nat.mul_le_mul e A
 refine a9 .D 1 Tryz.func34 K rfl λa1 f=>?_
 simp+decide (maxSteps:=9999999)only[↓a8,ba,Tryz.f34]
 subst f
 refine eA λaA d g o=>?_
 have d:aC aA w.heap.size 25 (en c):=by simpa[fQ,bF]using d
 obtain⟨p,h,q,i,j⟩:=iV d
 try simp only[M,N,O,P,h,i,j]
 refine⟨?_,g⟩
 rw[show(c.cY:Int)*(c.aJ:Int)=((c.cY*c.aJ:Nat):Int)from(uq _ _).symm]
 unfold dR.e6
 generalize c.cY*c.aJ=ak at*
 rw[X.bq (x:=(ak:Int)) A A,X.bq (x:=1+(ak:Int)) A A,bq A A]
 congr 1
def JH(bm:Int):∃b:UInt8,bm%256=(b.toNat:Int):=⟨ed (bm%256).toNat,by rw[mx];omega⟩
structure alb(bv w:aN)(aa:S)(l:List ByteArray)(ak:Nat):Prop where
 cP:aT w dV aa l
 aR:l.length=ak
 E9:∀x∈l,x.size<=7
 zs:gx bv.heap.size aa
def alc(ai:ak<=8):a0 C 12 #[F H ak,F H wJ] w λae a=>(∃l,alb w a ae l ak)/\Q [] w a:=by
 have aj:=(q9 (n:=wJ) (ay:=0) (al:=9) A).2
 have am:=(q9 (n:=wJ) (ay:=0) (al:=5) A).2
 refine a9 Mg 2 Tryz.func12 K rfl λa1 h=>?_
 simp+decide (maxSteps:=9999999)only[↓a8,ba,Mg,Tryz.f12]
 subst h
 refine c1 (λb a=>∃(i:Nat)(aa:S)(l:List ByteArray)(aD:List Nat),b=[aa,F H i]/\i<=ak/\bP a 9 1 aa l.length (l.flatMap dV) aD/\l.length=i/\(∀x∈l,x.size<=7)/\(∀g∈aD,w.heap.size<=g)/\Q [] w a) (λb _=>match b with|[_,F _ i]=>ak-i.toNat|_=>0) ⟨0,_,[],[],rfl,A,gJ _ _ _,rfl,B,B,.b0 _ _⟩ ?_
 rintro _ _ ax ⟨i,aa,l,aD,rfl,al,k,an,q,m,o⟩
 try simp only[M,N,O,P,bi]
 refine⟨λao=>?_,λap=>?_⟩
 ·refine tc (ay:=0) (al:=9) A A ?_
  try simp only[M,N,O,P]
  refine(fv kd oE).2 ?_
  try simp only[M,N,O,P]
  refine(fv kd oE).2 ?_
  simp only[show∀bm:Int,cl.wrap bm=bm%256 fromλ_=>rfl]
  obtain⟨r,h⟩:=JH (H.wrap (48+((kr wJ 0 9:Nat):Int)))
  obtain⟨s,D⟩:=JH (H.wrap (65+(i:Int)))
  rw[h,D]
  refine hw ky [F cl (r.toNat:Nat),F cl (s.toNat:Nat)] rfl rfl (by intro aa d;simp at d;rcases d with rfl|rfl<;>rfl) A A λJ L R aq=>?_
  have V:ql ax J (T (E ⟨ax.heap.size,0,I⟩) 2 2) [r,s]:=⟨[ax.heap.size],x5 (n:=2) (by simpa[bF,bs]using L) rfl (by decide),B⟩
  refine c1 (λb a=>∃(j:Nat)(ae:S)(fT:List UInt8),b=[ae,F H j]/\j<=kr wJ 0 5/\ql ax a ae fT/\fT.length=2+j/\Q [] ax a) (λb _=>match b with|[_,F _ j]=>kr wJ 0 5-j.toNat|_=>0) ⟨0,_,_,rfl,A,V,rfl,R⟩ ?_
  rintro _ _ ar ⟨j,ae,fT,rfl,au,t,av,f⟩
  refine tc (ay:=0) (al:=5) A A ?_
  try simp only[M,N,O,P,bi]
  refine⟨λaw=>?_,λaz=>?_⟩
  ·refine(nS A).2 ?_
   refine(fv kd oE).2 ?_
   rw[show∀bm:Int,cl.wrap bm=bm%256 fromλ_=>rfl]
   obtain⟨u,W⟩:=JH (wJ/2^min (j:Int).toNat H.bits)
   rw[W]
   refine hw ky [F cl (u.toNat:Nat)] rfl rfl (by intro aa d;simp at d;subst d;rfl) A A λX ab v aA=>?_
   have ac:=p3 (be:=bs) (l:=[u]) (by simpa[bF,bs]using ab)
   refine Bt (t.V v) (f.R v B) ac (by simp;omega) λdd aB ad af=>?_
   try simp only[M,N,O,P]
   rw[bq A A]
   exact⟨⟨j+1,dd,_,rfl,A,ad,by simp;omega,af⟩,by simp;omega⟩
  ·obtain⟨aC,ag,aF⟩:=t
   refine(w3 IW n8 (ag.eF e2 A)).2 ?_
   refine yR vM (k.J f B) (x:=h7 fT) (λ_=>rfl) rfl (by intro c y;simp[dV]at y;subst y;rfl) A (by unfold d0;omega) A λdd X ez ah z aG=>?_
   try simp only[M,N,O,P]
   rw[bq A A]
   have aH:=f.aI
   have aI:=o.aI
   refine⟨⟨i+1,dd,l++[h7 fT],ez,rfl,A,ah,by simp;omega,λx e=>?_,λg p=>(z.cq g p).elim (m g) (λaJ=>A),(o.R f B).R z.J (λg p=>Z (m g p))⟩,by simp;omega⟩
   rcases b4.1 e with e|e
   ·exact q x e
   ·rw[ku.1 e]
    have:(h7 fT).size=fT.length:=by simp[h7,vv]
    omega
 ·exact⟨⟨l,k.eF (λ_=>rfl) A,A,q,gx.c4 k m⟩,o⟩
end
def ra:cK:=⟨[],nD,[],0⟩
section
def ald{aj:Nat->Bool}(h:∀ag,ag<n->aj ag=G):bV aj n=n:=by
 unfold bV
 rw[List.filter_eq_self.2 (λag a=>h ag (iK.1 a)),uw]
def ale(b:c.bp):q3 c (ms c) []:=⟨B,B,λt a=>by simp at a,λ_ _ _=>rfl,λj _ h=>by simp[ms]at h,λ_ h=>by simp[ms]at h⟩
def alf(a:c.bp):r5 c (ms c) 1:=⟨A,λ_ _=>by simp[ms],λ_ _=>by simp[ms],λj _ h=>by simp[ms]at h⟩
def alg(b:c.bp):a0 C 33 #[F H c.aR,F H (c.e6:Nat)] w λae a=>∃ab am,ae=bQ #[aP ab,cT]/\dH a ab (cN c.aR (ey.b3.cq c.e6)) am/\(∀g∈am,w.heap.size<=g)/\Q [] w a:=by
 have d:=b.nj;have e:=b.i6;have f:=b.jZ
 have:=Er b
 unfold fg at this
 exact adq d e (by unfold dR.e6;omega) (by unfold dR.e6;omega)
def UH(e:c.bp)(p:jf w):a0 C 10 #[fQ c] w λae a=>∃s am,ae=aP s/\kq a s am c (λ_=>U) 1 ra q8/\(∀g∈am,w.heap.size<=g)/\Q [] w a:=by
 refine a9 Me 1 Tryz.func10 K rfl λa1 v=>?_
 simp+decide (maxSteps:=9999999)only[↓a8,ba,Me,Tryz.f10]
 subst v
 refine kX λaA i j ah=>?_
 obtain⟨ak,al,x,an,ap⟩:=iV (bD i)
 try simp only[M,N,O,P,x]
 refine(fj (bD i)).2 ?_
 refine aH Gg (JG e) ?_
 rintro _ ax ⟨rfl,y⟩
 have k:=(cD [] aA).R y B
 refine(dz bZ ((i.J k B).bh (af:=2))).2 ?_
 refine aH Xc (alg e) ?_
 rintro _ aq ⟨ab,am,rfl,z,D,J⟩
 have l:=k.R J B
 simp only[cV,cX]
 have ar:=(j.R k B).aI
 have q:∀g∈am,w.heap.size<=g:=λg d=>by have:=D g d;omega
 refine bT (λL a=>L=[aK U]/\∃az,eY a ab az c (ms c) (λ_=>U) (λ_ _=>G) ix/\(∀g∈az,w.heap.size<=g)/\Q [] w a) ?_ ?_
 ·refine(ru V6).2 ?_
  refine cG.2 ⟨λf=>(by cases f),λ_=>?_⟩
  refine(fp dk).2 ?_
  refine cG.2 ⟨λf=>(by cases f),λ_=>?_⟩
  refine(fj (i.J l B)).2 ?_
  refine aH Xd (afH z rfl e) ?_
  rintro _ R ⟨rfl,m,V,h⟩
  refine(fp dk).2 ?_
  exact⟨by trivial,m,⟨_,V,λ_ _ _=>⟨λ_=>rfl,λ_=>rfl⟩⟩,λg d=>(h.cq g d).elim (q g) (λf=>by have:=l.aI;have:=j.aI;omega),((j.R l B).bw B).R h.J (λg d=>Z (q g d))⟩
 rintro _ _ R ⟨rfl,m,W,n,o⟩
 try simp only[M,N,O,P]
 have r:∀ag,ag<c.aR->(λ_=>U:Nat->Bool) ag=U->(λ_=>U:Nat->Bool) ag=U/\∀t,(λ_ _=>G:Nat->Nat->Bool) ag t=G:=λ_ _ _=>⟨rfl,λ_=>rfl⟩
 have u:c.aJ<=bV (λag=>!(λ_=>U:Nat->Bool) ag) c.aR:=by rw[ald (aj:=λag=>!(λ_=>U:Nat->Bool) ag) (λ_ _=>rfl)];exact e.jY
 have ao:qo c (λ_=>U) (λ_ _=>G):=JF e u r
 have X:0∉m:=λaa=>by have:=n _ aa;have:=p.aL;omega
 refine aH Xe (ako W ao.SO (alf e) (ale e) rfl B (p.V o) X ao.BB) ?_
 rintro _ au ⟨s,b,ci,ai,rfl,av,ac,ad,h⟩
 have aw:=o.aI
 refine⟨s,s::(ci++[]),rfl,⟨⟨b,ci,[],_,ab,_,_,_,ai,0,ac,rfl,rfl,r,ad⟩,u⟩,λg d=>?_,o.R h.J (λg d=>Z (n g d))⟩
 simp only[kJ,ce]at d
 rcases d with rfl|d
 ·omega
 ·exact(h.cq g d).elim (n g) (λf=>A)
end
def zD(first:Int)(bc cA:S):List S:=[F H first,bc,cA]
section
variable{first af:Int}{ad:dn}{b:cw}
def alq:eH C 35 70 2 X.hX qP:=eH.rx C2 yh CK F3
def JM(l:List UInt8):eO (h7 l)=l:=by simp[eO,h7]
def alr{dK:List UInt8}(h:h7 l=h7 dK):l=dK:=by rw[<-JM l,h,JM]
def xM.fO(n:xM ad first dm af){aQ:Int}(al:i<ad.dY.length)(o:0<i->zu first dm aQ (ad.dY.drop i)):
  ∃(d:Int)(b:cw),ad.dY[i].1=d/\first<=d/\b.bt=G/\ad.dY[i].2=h7 b.ch/\d+b.a7.length<=first+dm.length/\b.a7=wx dm first d b.a7.length/\zu first dm (d+b.a7.length) (ad.dY.drop (i+1))/\(0<i->d=aQ)/\(i=0->d<=af/\af<d+b.a7.length):=by
 have p:=n.yL
 generalize ad.dY=aw at*
 cases i with
 |zero=>
  cases aw with
  |nil=>simp at al
  |cons aj l=>
   obtain⟨q,⟨_,f,b,a,c,g,j,k⟩,r,s,t,u⟩:=p aj l rfl
   have v:b=r:=by
    have e:=alr (c.symm.trans t)
    have m:=xb a
    rw[e,xb s]at m
    cases m;rfl
   subst v
   exact⟨aj.1,b,rfl,f,a,c,g,j,k,λh=>A,λ_=>⟨q,u⟩⟩
 |succ i=>
  have e:=o A
  rw[ot al]at e
  obtain⟨w,f,b,a,c,g,j,k⟩:=e
  exact⟨aQ,b,w,f,a,c,g,j,k,λ_=>rfl,λh=>A⟩
def als(an:aC w e9 46 (zD first bc cA))(y:aT w dV bc dm)(z:ma w fz ad)(D:xM ad first dm af)(bt:0<=first)(bu:first+dm.length<=1000000000000)(bv:ad.dY.length<=4):
  a0 C 16 #[aP e9,je fz,F H af] w λae a=>ae=aK G/\Q [] w a:=by
 refine a9 Mi 3 Tryz.func16 K rfl λa1 aL=>?_
 simp+decide (maxSteps:=9999999)only[↓a8,ba,Mi,Tryz.f16]
 subst aL
 refine eA λaA o ao bw=>?_
 have o:aC aA w.heap.size 37 (eb fz):=o
 have ap:=cD [] aA
 have aM:=ao.R ap B
 have aq:=an.J aM B
 obtain⟨a1,aO,aR,J,aS,L,aU⟩:=c7.hJ (bD o)
 try simp only[M,N,O,P]
 refine(J _).2 ?_
 refine(bl (aa:=F H first) bZ (aq.bh (af:=0))).2 ?_
 try simp only[M,N,O,P]
 refine(bl (aa:=bc) mc (aq.bh (af:=1))).2 ?_
 have bx:=y
 obtain⟨ar,cC,aV,_⟩:=id y
 subst aV
 try simp only[M,N,O,P]
 rw[bq A A,z.cS,D.cS]
 try simp only[M,N,O,P]
 refine cG.2 ⟨λe=>(by simp at e),λ_=>?_⟩
 try simp only[M,N,O,P]
 refine(L _).2 ?_
 have R:=z.dY
 obtain⟨bz,bB,au,_⟩:=id R
 rw[au]at R⊢
 try simp only[M,N,O,P]
 refine c1 (λc a=>∃(i:Nat)(aQ:Int),c=[F H aQ,F H i]/\i<=ad.dY.length/\(0<i->zu first dm aQ (ad.dY.drop i))/\Q [] aA a) (λc _=>match c with|[_,F _ i]=>ad.dY.length-i.toNat|_=>0) ⟨0,-1,rfl,A,λh=>A,ap⟩ ?_
 rintro _ _ ax ⟨i,aQ,rfl,al,aW,V⟩
 have p:=ao.R V B
 try simp only[M,N,O,P,bi]
 refine⟨λbC=>?_,λbE=>?_⟩
 ·have av:i<ad.dY.length:=A
  refine(alq.ek (R.V p) (Q.b0 _ _) av).2 ?_
  obtain⟨d,b,q,bG,aw,aX,bH,aY,a2,a3,a5⟩:=D.fO av aW
  generalize ad.dY[i]=aj at*
  have bI:b.a7.length<=8/\1<=b.a7.length:=by have:=(cw.uR.1 (cw.vT aw)).2.2.2;omega
  refine gI Aq λbJ a6 a7 bK=>?_
  refine f0 (cv:=[]) (c5:=X.hX (0,cg)) (da:=[]) yh a6 rfl rfl rfl (by intro ae ay;simp[qP,X.hX,bF]at ay;rcases ay with rfl|rfl<;>rfl) λW r bb bL=>?_
  have r:aC W ax.heap.size 70 (X.hX aj):=by simpa[qP,bF]using r
  have az:Q [] ax W:=a7.R bb B
  obtain⟨s,aB,bd⟩:=c7.ue r
  try simp only[M,N,O,P,aB]
  rw[aX]
  refine Om n8 IY S4 λbM bP aD be=>?_
  rw[JM]at aD
  have bR:=b.O9
  refine c7.SI aD A λb1 g m _ bU bf=>?_
  rw[xb aw]at m⊢
  have m:aT g dV b1 b.a7:=m
  simp only[cV,cX]
  refine gI CY λbV bg bh bW=>?_
  refine f0 (cv:=[]) (c5:=iS ⟨0,0,0,[]⟩ (T I 0 0)) (da:=[]) yg bg rfl rfl rfl (by simpa[jr,bF]using yy m.aW) λf t bj bX=>?_
  have t:aC f g.heap.size 41 (iS b b1):=by simpa[jr,bF,c7.va]using t
  have aF:Q [] g f:=bh.R bj B
  have ab:Q [] W f:=(be.R bf B).R aF B
  have ag:=r.J ab B
  obtain⟨s,aB,bd⟩:=c7.ue ag
  have aG:=m.V aF
  obtain⟨bk,bm,u,_⟩:=id aG
  have v:∀ac,aZ C (a4 34 (aE (E ⟨g.heap.size,3,I⟩))) f ac↔ac b1:=λ_=>bl mc (t.bh (af:=3))
  refine bT (λc a=>c=[aK U]/\f=a) ?_ ?_
  ·refine(fp dk).2 ?_
   refine cG.2 ⟨λe=>(by cases e),λ_=>?_⟩
   try simp only[M,N,O,P,bi]
   refine⟨λbY=>?_,λaH=>?_⟩
   ·try simp only[M,N,O,P,s]
    rw[q,a3 A]
    try simp only[M,N,O,P]
    refine cG.2 ⟨λe=>(by simp at e),λ_=>?_⟩
    exact⟨λh=>A,λ_=>⟨by trivial,by trivial⟩⟩
   ·refine⟨λaH=>?_,λh=>A⟩
    obtain⟨b0,b2⟩:=a5 A
    try simp only[M,N,O,P,s]
    rw[q]
    try simp only[M,N,O,P,bi]
    refine⟨λe=>A,λ_=>?_⟩
    try simp only[M,N,O,P,s,v]
    rw[u]
    try simp only[M,N,O,P]
    rw[bq A A,decide_eq_false A]
    exact⟨by trivial,by trivial⟩
  rintro _ _ _ ⟨rfl,rfl⟩
  try simp only[M,N,O,P,v]
  rw[u]
  try simp only[M,N,O,P]
  refine c1 (λc a=>∃k:Nat,c=[F H k]/\k<=b.a7.length/\Q [] f a) (λc _=>match c with|[F _ k]=>b.a7.length-k.toNat|_=>0) ⟨0,rfl,A,.b0 _ _⟩ ?_
  rintro _ _ cd ⟨k,rfl,b3,n⟩
  try simp only[M,N,O,P,bi]
  have ah:=n.R (cD [] cd) B
  have aI:Q [] w cd.drew:=((p.R az B).R ab B).R ah B
  refine⟨λb7=>?_,λb8=>?_⟩
  ·have ai:k<b.a7.length:=A
   refine(BG.ek ((u▸aG:aT f dV (T bk b.a7.length bm) b.a7).V n) (Q.b0 _ _) ai).2 ?_
   obtain⟨ak,bn,bo⟩:=c7.ue (ag.J ah B)
   have am:=an.J aI B
   try simp only[M,N,O,P,ak]
   rw[q]
   try simp only[M,N,O,P]
   refine(bl (aa:=F H first) bZ (am.bh (af:=0))).2 ?_
   try simp only[M,N,O,P]
   rw[X.bq (x:=d+(k:Int)) A A,bq A A]
   obtain⟨j,bp⟩:=nL (show 0<=d+k-first by omega)
   rw[bp]
   have aJ:j<dm.length:=A
   have br:dm[j]=b.a7[k]:=by
    have:=congrArg (λl=>l[k]?) aY
    simp only[wx]at this
    rw[List.getElem?_take_of_lt ai,oo,show(d-first).toNat+k=j by omega,cr ai,cr aJ]at this
    exact(re this).symm
   refine bT (λc a=>c=[aK U]/\cd.drew=a) ?_ ?_
   ·try simp only[M,N,O,P,bi]
    refine⟨λe=>A,λ_=>?_⟩
    refine(bl (aa:=T ar dm.length cC) mc (am.bh (af:=1))).2 ?_
    try simp only[M,N,O,P,bi]
    refine⟨λe=>A,λ_=>?_⟩
    refine(bl (aa:=T ar dm.length cC) mc (am.bh (af:=1))).2 ?_
    refine(BG.ek (y.V aI) (Q.b0 _ _) aJ).2 ?_
    refine CA.2 ?_
    rw[br]
    exact⟨B,by trivial⟩
   rintro _ _ _ ⟨rfl,rfl⟩
   try simp only[M,N,O,P]
   rw[bq A A]
   exact⟨⟨k+1,by trivial,A,ah⟩,by simp;omega⟩
  ·obtain⟨ak,bn,bo⟩:=c7.ue (ag.J n B)
   have v:∀ac,aZ C (a4 34 (aE (E ⟨g.heap.size,3,I⟩))) cd ac↔ac b1:=λ_=>bl mc ((t.J n B).bh (af:=3))
   try simp only[M,N,O,P,ak,v]
   rw[u,q]
   try simp only[M,N,O,P]
   rw[bq A A,bq A A]
   refine⟨⟨i+1,d+b.a7.length,by trivial,A,λ_=>a2,((V.R az B).R ab B).R n B⟩,by simp;omega⟩
 ·obtain⟨a1,aO,aR,J,aS,L,aU⟩:=c7.hJ (o.J V B)
  try simp only[M,N,O,P]
  refine(L _).2 ?_
  rw[au]
  try simp only[M,N,O,P,bi]
  refine⟨λ_=>⟨by trivial,p⟩,λaH=>?_⟩
  try simp only[M,N,O,P]
  refine(J _).2 ?_
  have bs:ad.dY=[]:=List.length_eq_zero_iff.1 A
  rw[z.cS,D.t6 bs]
  try simp only[M,N,O,P]
  exact⟨B,p⟩
end
section
variable{dN:Nat->Bool}
def BY{ac:S->S->aN->Prop}(h:kq w s am c dN bu an q8)(j:an.cn=[])(l:an.cQ<=100000)(m:aT w dV bc d.bk.a7)(n:qt d)(o:d.bt=G)(p:d.a5≠6)(q:an.cx.length+1<=c.bd)(r:bu<=1000000)
  (k:∀(hs:Nat)(fz:kQ)(a:aN)(az:List Nat),kq a s az c dN (bu+1) (an.e7 c.aJ c.bd d).1 q8->bX am az w a->w.heap.size<=hs->hs∉az->aC a hs 37 (eb fz)->ma a fz (an.e7 c.aJ c.bd d).2->ac (aK G) (aP hs) a):
  W C (ck 11 #[aP s,ho d bc]) w λaa aA=>aV C (gH aa 0) λt=>aV C (gH aa 1) λu=>W C (hV 37) aA λah ax=>W C (dC 37 ah t) ax λ_ b=>ac u ah b:=by
 refine aH W0 (ak7 h j l m n o p q r) ?_
 rintro _ aA ⟨L,bJ,rfl,⟨fz,rfl,e,M,N⟩,g,i⟩
 simp only[cV,cX]
 refine qv λax v y O=>?_
 refine mW (x:=fz) v e.gj.aW e.dY.aW λb z A P=>?_
 have f:Q [] aA b:=y.R A B
 have D:=g.aL
 have J:=i.J.aI
 exact k _ fz b bJ (g.V f) (i.oM f) J (λK=>by have:=D _ K;omega) z (e.V f)
def f6:ByteArray:=eS #[116]
def m0:dR:=⟨7,2,3,4,1⟩
def alt:m0.bp:=⟨by decide,by decide,by decide,by decide,by decide,by decide,by decide,by decide,by decide,by decide⟩
def wD:dl:=⟨1,1,f6,cg,0,1,0,0,0,0,fr⟩
def un:dl:=⟨2,3,f6,cg,0,0,0,0,0,0,⟨0,0,0,[eS #[112],eS #[113]]⟩⟩
def Fd:dl:=⟨3,7,f6,cg,0,0,0,1,0,0,fr⟩
def JN:wD.bt=G:=by decide+kernel
def JO:un.bt=G:=by decide+kernel
def alu:Fd.bt=G:=by decide+kernel
def alv:C.built 43 #[(0,F H 1),(1,F H 1),(2,bO (eS #[116])),(5,F H 1)].toList=E (f1 wD (T I 0 0)).toArray:=K
def alw{x:Option es}{l:Nat}:C.built 41 #[(3,T x l ak)].toList=E (iS un.bk (T x l ak)).toArray:=K
def alx{x:Option es}{l:Nat}:C.built 43 #[(0,F H 2),(1,F H 3),(2,bO (eS #[116])),(10,jr un.bk (T x l ak))].toList=E (f1 un (T x l ak)).toArray:=K
def aly:C.built 43 #[(0,F H 3),(1,F H 7),(2,bO (eS #[116])),(7,F H 1)].toList=E (f1 Fd (T I 0 0)).toArray:=K
def alz:C.built 25 #[(0,F H 7),(1,F H 2),(2,F H 3),(3,F H 4),(4,F H 1)].toList=E (en m0).toArray:=K
def vp(h:d.cI.size<=100/\d.dg.size<=100/\d.bk.a7.length<=100):qt d:=⟨A,A,A⟩
def qz(w:aN)(am:List Nat):Prop:=∀g∈am,w.heap.size<=g
def qz.de(h:qz bv am)(b:bX am az w a)(d:bv.heap.size<=w.heap.size):qz bv az:=λg c=>(b.cq g c).elim (h g) (λe=>A)
def BZ.de(h:Q [] bv w)(b:qz bv am)(c:bX am az w a):Q [] bv a:=h.R c.J (λg d=>Z (b g d))
def Fe.cW(c:bX am az w a)(d:b∉am)(f:b<w.heap.size):b∉az:=λe=>(c.cq b e).elim d (λg=>A)
def alA(J:jf w):a0 C 17 #[] w λae a=>ae=aK G/\Q [] w a:=by
 refine a9 .D 0 Tryz.func17 K rfl λa1 L=>?_
 simp+decide (maxSteps:=9999999)only[↓a8,ba,Tryz.f17]
 subst L
 refine(bY alz).2 ?_
 refine aH Lq (UH alt J) ?_
 rintro _ aA ⟨s,am,rfl,g,h,i⟩
 refine(ru KY).2 ?_
 refine cG.2 ⟨λR=>(by cases R),λ_=>?_⟩
 refine(bY alv).2 ?_
 have V:=g.cL.1
 refine BY (d:=wD) g rfl (by decide) (aT.gW _ _) (vp (by decide)) JN (by decide) (by decide) A λW aO ax cM j m aP n o p=>?_
 obtain⟨q,X⟩:=T6 (an:=ra) (k:=m0.aJ) (aX:=m0.bd) (d:=wD) JN rfl rfl (by decide) (by decide) (by decide) (by decide)
 have r:=(EZ (k:=m0.aJ) (d:=wD) V rfl JN).2
 have aQ:(ra.e7 m0.aJ m0.bd wD).1.cQ=1:=zw
 have aR:(ra.e7 m0.aJ m0.bd wD).1.cx.length<=1:=zv (an:=ra)
 have t:qz w cM:=qz.de h m i.aI
 have aa:Q [] w ax:=BZ.de i h m
 rw[q]at p
 clear q
 generalize(ra.e7 m0.aJ m0.bd wD).1=b at*
 have u:=j.cL.1
 refine hw vM [bO (eS #[112]),bO (eS #[113])] rfl rfl (by intro bm v;simp at v;rcases v with rfl|rfl<;>rfl) A A λab ac c aS=>?_
 have ad:aT ab dV (T (E ⟨ax.heap.size,0,I⟩) 2 2) [eS #[112],eS #[113]]:=p3 (l:=[eS #[112],eS #[113]]) (by simpa[bF,dV]using ac)
 refine(bY alw).2 ?_
 refine(bY alx).2 ?_
 have af:=j.V c
 refine BY (d:=un) af r A ad (vp (by decide)) JO (by decide) (by show _+1<=4;omega) A λaU aV ag ah x e aW ai aj y=>?_
 obtain⟨z,ak⟩:=Jp (k:=m0.aJ) (d:=un) X u (by decide) JO rfl rfl (Z rfl) (by show _<4;omega) (by decide) (by decide) (by decide)
 have al:=(EZ (k:=m0.aJ) (d:=un) u r JO).2
 have aY:(b.e7 m0.aJ m0.bd un).1.cQ=b.cQ+1:=zw
 have aZ:(b.e7 m0.aJ m0.bd un).1.cx.length<=b.cx.length+1:=zv
 have D:=aa.R c B
 have ao:qz w ah:=qz.de t e D.aI
 have ap:Q [] w ag:=BZ.de D t e
 have a2:W<ax.heap.size:=o.aL
 have a3:=c.aI
 have aq:=(o.J c B).J e.J n
 have ar:=Fe.cW e n A
 rw[z]at y
 clear z
 generalize(b.e7 m0.aJ m0.bd un).1=a4 at*
 have au:=x.cL.1
 refine(bY aly).2 ?_
 refine BY (d:=Fd) x al A (aT.gW _ _) (vp (by decide)) alu (by decide) (by show _+1<=4;omega) A λa5 a6 av a7 bb f bc bd aw ay=>?_
 obtain⟨_,_,_,_,_,_,az⟩:=T7 (k:=m0.aJ) (d:=Fd) ak au (by decide) rfl rfl (by decide) (by decide)
 have aB:=az.cQ (by decide)
 have aC:Q [] w av:=BZ.de ap ao f
 have aD:=aq.J f.J ar
 have aF:=aj.J f.J ai
 obtain⟨_,aG,_,_,_,_,_⟩:=c7.hJ aD
 obtain⟨_,_,_,aI,_,_,_⟩:=c7.hJ aF
 obtain⟨_,_,_,_,_,aJ,_⟩:=c7.hJ aw
 have aL:=ay.dY
 obtain⟨be,bf,aM,_⟩:=id aL
 try simp only[M,N,O,P]
 refine(aG _).2 ?_
 rw[p.iE]
 try simp only[M,N,O,P]
 refine q6 (by decide) ?_
 refine(aI _).2 ?_
 rw[y.cS]
 try simp only[M,N,O,P]
 refine q6 (by decide) ?_
 refine(aJ _).2 ?_
 rw[aM]
 try simp only[M,N,O,P]
 rw[aB]
 exact⟨B,aC⟩
end
section
variable{t:ByteArray}{gY eM s B7:Int}{b:cw}{l:List ByteArray}
def fk(gY kind:Int)(t:ByteArray)(part i0 first eM:Int)(b:cw):dl:=⟨gY,kind,t,cg,part,i0,first,eM,0,0,b⟩
def JP{kind part i0 first:Int}(a:0<=gY/\gY<=4294967295)(c:i3 kind=G)(d:(fk gY kind t part i0 first eM b).c2.Dw):(fk gY kind t part i0 first eM b).bt=G:=by
 unfold dl.bt
 rw[dA,decide_eq_true_iff]
 refine⟨a,?_⟩
 rw[show(fk gY kind t part i0 first eM b).a5=kind from rfl,c,if_pos rfl,dA,decide_eq_true_iff]
 exact⟨⟨rfl,rfl⟩,eG.rE.2 d⟩
def UQ(a:jV t=G)(c:0<=gY/\gY<=4294967295)(d:b.bt=G):(fk gY 3 t 0 0 0 0 b).bt=G:=
 JP c rfl ⟨a,Z (Z (Y ⟨rfl,rfl,by simp[fk,dl.c2],by simp[fk,dl.c2],rfl,rfl,rfl,d⟩))⟩
def JQ{first i0:Int}(c:jV t=G)(d:0<=gY/\gY<=4294967295)(a:1<=i0/\i0<=4)(b:0<=first/\first<=9223372036854775807):(fk gY 1 t 0 i0 first 0 fr).bt=G:=
 JP d rfl ⟨c,Y ⟨rfl,rfl,rfl,a.1,a.2,b.1,b.2,rfl,rfl⟩⟩
def lo(gY:Int)(t:ByteArray)(eM gG:Int):dl:=⟨gY,7,t,cg,0,0,0,eM,gG,0,fr⟩
def UR(a:jV t=G)(e:0<=gY/\gY<=4294967295)(b:0<=eM/\eM<=9223372036854775807)(c:0<=gG/\gG<=1048576):(lo gY t eM gG).bt=G:=by
 have g:=oJ a
 have f:oA (g9 (jG 7) (jg (lo gY t eM gG)))=G:=by
  refine(xc (vU _) (sL (lo gY t eM gG))).2 λah d=>?_
  simp[jG,jg,lo]at d
  rcases d with rfl|rfl|rfl|rfl
  ·exact uT.2 A
  ·exact(ca.p5 rfl).2 ⟨by decide,by decide,rfl,rfl⟩
  ·exact(ca.p5 rfl).2 ⟨b.1,b.2,rfl,rfl⟩
  ·exact(ca.p5 rfl).2 ⟨c.1,c.2,rfl,rfl⟩
 unfold dl.bt
 rw[dA,decide_eq_true_iff]
 refine⟨e,?_⟩
 rw[show(lo gY t eM gG).a5=7 from rfl]
 rw[if_neg (show¬i3 7=G by decide)]
 unfold dl.p6
 rw[dA,dA,dA,show(lo gY t eM gG).a5=7 from rfl]
 refine⟨⟨⟨rfl,f⟩,by simp[dl.le,lo,fr]⟩,?_⟩
 rw[dA]
 refine⟨by simp[dl.lO,nC,jg,lo,gl,ig,hZ],?_⟩
 show((decide ((7:Int)=6)||jV t)&&(decide ((7:Int)≠9)||jV cg))=G
 rw[a]
 rfl
structure Ff(l:List ByteArray):Prop where
 nj:1<=l.length
 US:l.length<=3
 E9:∀x∈l,x.size<=7
def UT{ah:Int}(h:Ff l)(d:ah=1/\0<=s/\s<=1000\/ah=0/\s=0)(a:0<=B7/\B7<=1000):(⟨B7,ah,s,l⟩:cw).bt=G:=by
 have b:=h.nj;have e:=h.US
 unfold cw.bt
 rw[dA,cw.uR]
 refine⟨⟨⟨a.1,by simp only;omega⟩,⟨by simp only;omega,by simp only;omega⟩,⟨by simp only;omega,by simp only;omega⟩,b,by simp only;omega,λx c=>by have:=h.E9 x c;omega⟩,?_⟩
 simp only[pP,decide_eq_true_iff]
 omega
def UU{ah:Int}(h:Ff l):(⟨B7,ah,s,l⟩:cw).ch.length<=48:=by
 cases a:(⟨B7,ah,s,l⟩:cw).bt with
 |false=>rw[cw.AG a];simp
 |true=>
  rw[cw.qT a,Du]
  have c:=Dv (ak:=7) (l:=l) h.E9
  have b:=h.US
  have:l.length*(2+7)<=3*9:=mw _ b
  simp only
  omega
def UV(a:jV t=G)(c:b.ch.length<=60):(fk gY 3 t 0 0 0 0 b).c2.aI<=105:=by
 have:=oJ a
 simp[eG.aI,fk,dl.c2]
 omega
def alC(a:jV t=G):(fk gY 5 t 0 0 0 eM fr).c2.aI<=105:=by
 have:=oJ a
 simp[eG.aI,fk,dl.c2]
 omega
def alD{i0 first:Int}(a:jV t=G):(fk gY 1 t 0 i0 first 0 fr).c2.aI<=105:=by
 have:=oJ a
 simp[eG.aI,fk,dl.c2]
 omega
end
def sm:jV f6=G:=by decide+kernel
section
variable{zJ:Nat}{dN qG:Nat->Bool}{first:Int}{l:List ByteArray}{ad:dn}
def alJ:C.built 43 #[(1,F H 1),(2,bO (eS #[116])),(5,F H 1)].toList=E (f1 (fk 0 1 f6 0 1 0 0 fr) (T I 0 0)).toArray:=K
def JT{b:cw}{x:Option es}:C.built 43 #[(1,F H 3),(2,bO (eS #[116])),(10,jr b (T x n ak))].toList=E (f1 (fk 0 3 f6 0 0 0 0 b) (T x n ak)).toArray:=K
def alL{af:Int}:C.built 43 #[(1,F H 7),(2,bO (eS #[116])),(7,F H af)].toList=E (f1 (lo 0 f6 af 0) (T I 0 0)).toArray:=K
def JU{gU:S->Prop}(a:aC w hs 37 (eb fz))(c:fz.iE=0)(k:gU (aK U)):
  aV C (qH .not (aK G)) λaa=>eV aa (gU (aK G)) (aV C (gB 37 (aP hs) 1) λd=>aZ C (a4 33 d) w λe=>aZ C (eE .neq 33 G e (F H 0)) w λb=>gU b):=by
 obtain⟨_,f,_,_,_,_,_⟩:=c7.hJ a
 try simp only[M,N,O,P]
 refine iY rfl ?_
 refine(f _).2 ?_
 rw[c]
 try simp only[M,N,O,P]
 exact k
def UX:∀{l:List Int}{i:Nat}(h:i<l.length),(l.flatMap ew)[i]?=E (F H l[i])
 |x::l,0,h=>rfl
 |x::l,i+1,h=>by
  rw[iA,show ew x=[F H x]from rfl,List.singleton_append,List.getElem?_cons_succ,List.getElem_cons_succ]
  exact UX (by simpa using h)
def UY{ac:S->Prop}{l:List Int}(h:aT w ew aa l)(al:i<l.length)(k:∀g:es,(∀a,Q [] w a->∀ac,aZ C (a4 3 (aE (E g))) a ac↔ac (F H l[i]))->(∀a,Q [] w a->∀aO,gu C (a4 3 (aE (E g))) (F H l[i]) a aO↔aO)->ac (aE (E g))):aV C (fY 22 aa (F H i)) ac:=by
 obtain⟨d,c,rfl,o,m⟩:=h
 obtain⟨b,af,rfl,n⟩:=m.resolve_left (by intro e;rw[e]at al;simp at al)
 refine(sB vL hl A A).2 ?_
 have j:∀a,Q [] w a->a.cell? ⟨b,af+i,I⟩=E (F H l[i]):=λa f=>la (n.J f B) (UX al)
 refine k _ (λa f ac=>bl bZ ?_) (λa f aO=>dz bZ ?_)
 ·rw[show((i:Int).toNat*1)=i by simp];exact j a f
 ·rw[show((i:Int).toNat*1)=i by simp];exact j a f
end
section
variable{ad:dn}
def amN(e:c.bp)(p:jf w):a0 C 18 #[fQ c] w λae a=>∃ab b am ai,ae=bQ #[aP ab,aP b]/\h2 a b am ab c (ms c) (λ_=>U) (λ_ _=>G) ix ai 0 ra/\ai<=1/\(∀g∈am,w.heap.size<=g)/\Q [] w a:=by
 refine a9 amz 1 Tryz.func18 K rfl λa1 r=>?_
 simp+decide (maxSteps:=9999999)only[↓a8,ba,amz,Tryz.f18]
 subst r
 refine kX λaA i j ah=>?_
 obtain⟨ak,al,s,an,ap⟩:=iV (bD i)
 try simp only[M,N,O,P,s]
 refine(fj (bD i)).2 ?_
 refine aH Gg (JG e) ?_
 rintro _ ax ⟨rfl,u⟩
 have k:=(cD [] aA).R u B
 refine(dz bZ ((i.J k B).bh (af:=2))).2 ?_
 refine aH Xc (alg e) ?_
 rintro _ aq ⟨ab,am,rfl,v,x,y⟩
 have l:=k.R y B
 simp only[cV,cX]
 have ar:=(j.R k B).aI
 have q:∀g∈am,w.heap.size<=g:=λg d=>by have:=x g d;omega
 refine bT (λz a=>z=[aK U]/\∃az,eY a ab az c (ms c) (λ_=>U) (λ_ _=>G) ix/\(∀g∈az,w.heap.size<=g)/\Q [] w a) ?_ ?_
 ·refine(ru V6).2 ?_
  refine cG.2 ⟨λf=>(by cases f),λ_=>?_⟩
  refine(fp dk).2 ?_
  refine cG.2 ⟨λf=>(by cases f),λ_=>?_⟩
  refine(fj (i.J l B)).2 ?_
  refine aH Xd (afH v rfl e) ?_
  rintro _ D ⟨rfl,m,J,h⟩
  refine(fp dk).2 ?_
  exact⟨by trivial,m,⟨_,J,λ_ _ _=>⟨λ_=>rfl,λ_=>rfl⟩⟩,λg d=>(h.cq g d).elim (q g) (λf=>by have:=l.aI;have:=j.aI;omega),((j.R l B).bw B).R h.J (λg d=>Z (q g d))⟩
 rintro _ _ D ⟨rfl,m,L,n,o⟩
 try simp only[M,N,O,P]
 have R:∀ag,ag<c.aR->(λ_=>U:Nat->Bool) ag=U->(λ_=>U:Nat->Bool) ag=U/\∀t,(λ_ _=>G:Nat->Nat->Bool) ag t=G:=λ_ _ _=>⟨rfl,λ_=>rfl⟩
 have V:c.aJ<=bV (λag=>!(λ_=>U:Nat->Bool) ag) c.aR:=by rw[ald (aj:=λag=>!(λ_=>U:Nat->Bool) ag) (λ_ _=>rfl)];exact e.jY
 have ao:qo c (λ_=>U) (λ_ _=>G):=JF e V R
 have W:0∉m:=λX=>by have:=n _ X;have:=p.aL;omega
 refine aH Xm (ajY L ao.SO (alf e) (ale e) (aX:=nD) rfl B (p.V o) W ao.BB) ?_
 rintro _ au ⟨b,aa,ai,rfl,av,ac,ad,h⟩
 have aw:=o.aI
 exact⟨ab,b,aa,ai,rfl,ac,ad,λg d=>(h.cq g d).elim (n g) (λf=>A),o.R h.J (λg d=>Z (n g d))⟩
def amO{l:List ByteArray}(h:aT w dV aa l):∃gf:List Nat,sg w gf aa l/\(∀g∈gf,∃af n c,aa=T (E ⟨g,af,I⟩) n c)/\∀g∈gf,g<w.heap.size:=by
 obtain⟨d,c,rfl,j,f⟩:=id h
 rcases f with e|⟨b,af,rfl,i⟩
 ·exact⟨[],⟨h,Y e⟩,B,B⟩
 ·cases l with
  |nil=>exact⟨[],⟨h,Y rfl⟩,B,B⟩
  |cons x l=>
   refine⟨[b],⟨h,Z ⟨b,af,c,rfl,B⟩⟩,B,λg a=>?_⟩
   simp at a
   subst a
   have:=i 0 (by simp[dV])
   exact block_lt_of_cell (this.trans (show(List.flatMap dV (x::l))[0]?=E (bO x)from rfl))
def cK.amA(an:cK)(cp:Nat->Bool)(d:dl):cK×dn:=({an with cQ:=an.cQ+1},mi an.cx cp an.bd d)
def amP(h:h2 w b am ab c au aB ay al ai aQ an)(ao:xH c ay al cp)(L:sg w gf bc d.bk.a7)(R:bR gf (0::am))(s:∀g∈gf,g<w.heap.size)(V:qt d)(W:d.bt=G)(X:i3 d.a5=U)(aa:d.a5≠6)(aO:an.cQ<=100000):
  a0 C 19 #[aP b,ho d bc] w λae a=>∃q az,ae=bQ #[q,aK G]/\qw w a (an.amA cp d).2 q/\h2 a b az ab c au aB ay al ai aQ (an.amA cp d).1/\bX (am++gf) az w a:=by
 have aR:=h.pM.aL
 have ac:=h.aL
 refine a9 .D 2 Tryz.func19 K rfl λa1 ad=>?_
 simp+decide (maxSteps:=9999999)only[↓a8,ba,Tryz.f19]
 subst ad
 refine sf λax ag ah aj=>?_
 refine qv λak ap t aS=>?_
 have o:Q [] w ak:=ah.R t B
 have aq:=ag.J t B
 obtain⟨aT,aU,aV,aW,aX,aY,aZ,a2,a3,a4,a5,ar⟩:=gc aq
 try simp only[M,N,O,P,ar]
 refine aH Ls (DW (h.V o) ao (L.J o (bR.D _)) R (λg f=>by have:=s g f;omega) V aa A) ?_
 rintro ae av ⟨u,v,l,y⟩
 have e:an.kV cp d=({an with cQ:=an.cQ+1},E (mi an.cx cp an.bd d)):=by
  unfold cK.kV
  rw[if_pos W,if_neg (by simp[X])]
 rw[e]at v y
 obtain⟨q,rfl,fz,rfl,i,z,D⟩:=y
 simp only[na,oB,oC]
 refine qv λa6 aw aA a7=>?_
 refine mW (x:=fz) aw i.gj.aW i.dY.aW λaC aD aF bb=>?_
 have k:Q [] av aC:=aA.R aF B
 try simp only[M,N,O,P]
 refine((c7.hJ aD).2.2.2.2.2.2 _).2 ?_
 have bd:ax.heap.size=w.heap.size+1:=aj
 have J:ax.heap.size∉am++gf:=λj=>(b4.1 j).elim (λm=>by have:=ac _ m;omega) (λm=>by have:=s _ m;omega)
 have aG:=(ap.J l.J J).J k B
 refine mW (x:=fz) aG i.gj.aW i.dY.aW λaI aJ p be=>?_
 refine((c7.hJ aJ).2.2.2.2.2.2 _).2 ?_
 have aL:ax.heap.size∉u:=λj=>(l.cq _ j).elim J (λm=>A)
 have aM:ma aI fz (mi an.cx cp an.bd d):=⟨i.dF,i.iE,i.cu,i.cS,(i.gj.V k).J p (λg af n r e j=>by have:=z g af n r e;simp at j;omega),(i.dY.V k).J p (λg af n r e j=>by have:=D g af n r e;simp at j;omega)⟩
 have bf:=o.aI
 have bg:=l.J.aI
 have bh:=k.aI
 refine⟨_,u,rfl,⟨fz,rfl,aM,z.bw A,D.bw A⟩,(v.V k).J p (λg f j=>by simp at j;subst j;exact aL f) (by simp;omega),⟨((o.bw B).R l.J (λg f=>Y f)).R ((k.bw B).R p (λg f=>Y f)) (λg f=>Z (by simp at f;omega)),λg f=>(l.cq g f).imp id (λm=>A)⟩⟩
end
section
variable{ad:dn}
def amQ(h:h2 w b am ab c au aB ay ix ai aQ an)(q:an.cn=[])(ao:qo c aB ay)(X:sg w gf bc d.bk.a7)(aa:bR gf (0::am))(t:∀g∈gf,g<w.heap.size)(ac:qt d)(ag:d.bt=G)(r:i3 d.a5=G)(ah:d.a5≠6)(a2:an.cQ<=100000)(aj:an.cx.length+1<=c.bd)(a3:ai<=1000000):
  a0 C 19 #[aP b,ho d bc] w λae a=>∃u az gg dL,ae=bQ #[u,aK G]/\qw w a (an.e7 c.aJ c.bd d).2 u/\h2 a b az ab c gg aB ay ix dL aQ (an.e7 c.aJ c.bd d).1/\dL<=ai+1/\bX (am++gf) az w a:=by
 have a4:=h.pM.aL
 have ak:=h.aL
 refine a9 .D 2 Tryz.func19 K rfl λa1 al=>?_
 simp+decide (maxSteps:=9999999)only[↓a8,ba,Tryz.f19]
 subst al
 refine sf λax ap aq ar=>?_
 refine qv λav aw v a5=>?_
 have n:Q [] w av:=aq.R v B
 have aA:=ap.J v B
 obtain⟨a6,a7,bb,bd,be,bf,bg,bh,bi,bj,bk,aC⟩:=gc aA
 try simp only[M,N,O,P,aC]
 refine aH Ls (DW (h.V n) (ak5 ao) (X.J n (bR.D _)) aa (λg f=>by have:=t g f;omega) ac ah A) ?_
 rintro ae aD ⟨aF,y,m,o⟩
 have e:an.kV kn d=({an with cQ:=an.cQ+1,cn:=[(an.cQ+1,d)]},I):=by
  unfold cK.kV
  rw[if_pos ag,if_pos r,if_neg (by rw[q];simp),q]
  rfl
 rw[e]at y o
 have o:ae=bQ #[F H (an.cQ+1:Nat),je vf,aK U]:=o
 subst o
 simp only[na,oB,oC]
 refine qv λbl aG aI bm=>?_
 refine mW (x:=vf) aG rfl rfl λaJ bn aL bo=>?_
 have p:Q [] aD aJ:=aI.R aL B
 try simp only[M,N,O,P]
 refine aH Xn (Ht (y.V p) ao A (by simpa using aj)) ?_
 rintro hN z ⟨D,aM,aO,fX,j⟩
 have s:=j.fW
 have J:=j.hK
 have aR:=j.TX
 have aS:(({an with cQ:=an.cQ+1,cn:=[(an.cQ+1,d)]}:cK).j0 c.aJ c.bd)=((an.e7 c.aJ c.bd d).1,[(an.cQ+1,(an.e7 c.aJ c.bd d).2)]):=by rw[T2 q,BR r]
 rw[aS]at s J
 have L:(an.e7 c.aJ c.bd d).2.gj=[]/\(an.e7 c.aJ c.bd d).2.dY=[]:=by rw[BR r];exact ajB
 generalize(an.e7 c.aJ c.bd d).2=ad at*
 generalize(an.e7 c.aJ c.bd d).1=bp at*
 obtain⟨g,af,bq,rfl,br⟩:=s.gm B
 have aU:fu z g af (k3 (an.cQ+1,ad)):=by have:=s.fO.2;simpa using this
 try simp only[M,N,O,P]
 refine iY B ?_
 refine(sB C5 Le A B).2 ?_
 try simp only[M,N,O,P]
 have aV:fu z g (af+0*7+1) (eb (xJ ad)):=by have:=aU.d1 1 6;simpa[k3,eb]using this
 refine(gC (l:=eb (xJ ad)) F0 aV).2 ?_
 have bs:ax.heap.size=w.heap.size+1:=ar
 have R:ax.heap.size∉am++gf:=λk=>(b4.1 k).elim (λi=>by have:=ak _ i;omega) (λi=>by have:=t _ i;omega)
 have V:ax.heap.size∉aF:=λk=>(m.cq _ k).elim R (λi=>A)
 have bt:=m.J.aI
 have bu:=p.aI
 have bv:=j.de.J.aI
 have aW:ax.heap.size∉D:=λk=>(j.de.cq _ k).elim V (λi=>A)
 have aX:=((aw.J m.J R).J p B).J j.de.J V
 refine mW (x:=xJ ad) aX rfl rfl λcd aY W bw=>?_
 refine((c7.hJ aY).2.2.2.2.2.2 _).2 ?_
 have bx:=n.aI
 have aZ:ma cd (xJ ad) ad:=by
  refine⟨rfl,rfl,rfl,rfl,?_,?_⟩
  ·rw[L.1];exact aT.gW _ _
  ·rw[L.2];exact aT.gW _ _
 refine⟨_,D,aM,aO,rfl,⟨xJ ad,rfl,aZ,s7,s7⟩,J.J W (λg f k=>by simp at k;subst k;exact aW f) (by simp;omega),by simpa using aR,⟨(((n.bw B).R m.J (λg f=>Y f)).R ((p.bw B).R j.de.J (λg f=>Y f)) (λg f=>(m.cq g f).imp id (λi=>A))).R W (λg f=>Z (by simp at f;omega)),λg f=>(j.de.cq g f).elim (λi=>(m.cq g i).imp id (λi=>A)) (λi=>Z A)⟩⟩
def amB{i:Nat}(h:ajV w b am ab c au aB ay al i cz)(aM:d.bk.a7=[])(aO:qt d)(aQ:d.bt=G)(bs:i<=100000):
  a0 C 19 #[aP b,ho d (T I 0 0)] w λae a=>∃fz,ae=bQ #[je fz,aK G]/\fz=ve d 6/\ajV a b am ab c au aB ay al (i+1) cz/\Q am w a:=by
 obtain⟨⟨dc,dB,rfl,L,R,V⟩,r,s,W⟩:=id h
 have bt:=r.aL
 have bu:=R.aL
 refine a9 .D 2 Tryz.func19 K rfl λa1 t=>?_
 simp+decide (maxSteps:=9999999)only[↓a8,ba,Tryz.f19]
 subst t
 refine sf λax aR aS bv=>?_
 refine qv λk aU X bw=>?_
 have j:Q [] w k:=aS.R X B
 have aV:=aR.J X B
 obtain⟨ac,ad,ag,ah,ai,aj,ak,an,ao,ap,aq,l⟩:=gc aV
 try simp only[M,N,O,P,l]
 have aW:a0 C 50 #[aP b,ho d (T I 0 0)] k λae a=>ae=bQ #[F H (i+1:Nat),je (ve d 6),aK G]/\Q [b] k a/\aC a b 136 [aP ab,aE I,ff (E cz),aP dB,aE I,T I 0 0,F H (i+1:Nat)]:=by
  refine a9 Mr 2 Tryz.func50 K rfl λa1 t=>?_
  simp+decide (maxSteps:=9999999)only[↓a8,ba,Mr,Tryz.f50]
  subst t
  have ar:=R.J j B
  refine sf λbx aX aY bz=>?_
  refine qv λaZ a2 av bB=>?_
  have m:Q [] k aZ:=aY.R av B
  have aw:=ar.J m B
  have bC:=ar.aL
  try simp only[M,N,O,P]
  refine(bl (aa:=F H (i:Nat)) bZ (aw.bh (af:=6))).2 ?_
  try simp only[M,N,O,P]
  rw[bq A A,show(i:Int)+1=((i+1:Nat):Int)by omega]
  refine eK hl aw B rfl λu n o bD=>?_
  have n:aC u b 136 [aP ab,aE I,ff (E cz),aP dB,aE I,T I 0 0,F H (i+1:Nat)]:=by simpa using n
  have az:=(aX.J av B).J o (by simp;omega)
  have a3:=a2.J o (by simp;omega)
  have a4:aT u dV (T I 0 0) d.bk.a7:=by rw[aM];exact aT.gW _ _
  obtain⟨ac,ad,ag,ah,ai,aj,ak,an,ao,ap,aq,l⟩:=gc az
  simp only[l]
  refine Jb a4 aO λaA p=>?_
  rw[aQ]
  try simp only[M,N,O,P]
  refine iY rfl ?_
  have aD:=n.J p B
  refine(bl (aa:=aE I) FU (aD.bh (af:=1))).2 ?_
  refine(ru FP).2 ?_
  refine cG.2 ⟨λ_=>?_,λa5=>(by cases a5)⟩
  have q:=cD [] aA
  have aF:=aD.J q B
  obtain⟨ac,ad,ag,ah,ai,aj,ak,an,ao,ap,aq,l⟩:=gc (az.J (p.R q B) B)
  try simp only[M,N,O,P]
  refine(bl (aa:=F H (i+1:Nat)) bZ (aF.bh (af:=6))).2 ?_
  try simp only[M,N,O,P,l]
  refine(bl (aa:=ff (E cz)) FT (aF.bh (af:=2))).2 ?_
  have a6:jf aA.drew:=by
   have a7:jf u:=((r.V j).V m).J o (by simp;intro e;exact s (by simp[e]))
   exact(a7.V p).V q
  refine zp (cz:=cz) a6 λbE bb=>?_
  have v:=(p.R q B).R bb B
  have aG:=n.J v B
  refine(dz bZ (aG.bh (af:=6))).2 ?_
  rw[W]
  refine mW (x:=ve d 6) (a3.J v B) rfl rfl λbG bc aI bH=>?_
  refine((c7.hJ bc).2.2.2.2.2.2 _).2 ?_
  have bd:=m.aI
  exact⟨rfl,(((m.bw B).R o (λg f=>Y f)).R v B).R aI (λg f=>Z (by simp at f;omega)),aG.J aI (by simp;omega)⟩
 refine aH Ls aW ?_
 rintro ae be ⟨rfl,y,bf⟩
 simp only[na,oB,oC]
 refine qv λbI bg bh bJ=>?_
 refine mW (x:=ve d 6) bg rfl rfl λbi bj bk bK=>?_
 have z:Q [] be bi:=bh.R bk B
 try simp only[M,N,O,P]
 refine((c7.hJ bj).2.2.2.2.2.2 _).2 ?_
 have bm:=(aU.J y (by simp;omega)).J z B
 refine mW (x:=ve d 6) bm rfl rfl λaJ bn aL bL=>?_
 refine((c7.hJ bn).2.2.2.2.2.2 _).2 ?_
 have bd:=j.aI
 have bM:=y.aI
 have bo:=L.aL
 have D:Q [b,ax.heap.size] k aJ:=((y.bw (λg f=>Y (by simp at f;simp[f]))).R z B).R aL (λg f=>Y (by simp at f;simp[f]))
 have bp:=L.V j
 have br:Q [b] w aJ:=((j.bw B).R D (λg f=>(ce.1 f).elim (λe=>Y (by simp[e])) (λf=>Z (by simp at f;omega))))
 refine⟨_,rfl,rfl,⟨⟨dc,dB,rfl,bp.J D (λg f J=>(ce.1 J).elim (λe=>V (e▸f)) (λJ=>by simp at J;have:=bo _ f;omega)),⟨(bf.J z B).J aL (by simp;omega),V⟩⟩,(r.V j).J D (by simp;exact⟨λe=>s (by simp[e]),A⟩),s,W⟩,br.bw (λg f=>Y (by simp at f;simp[f]))⟩
end
structure ams(an:cK)(t:ByteArray)(ao:List gZ)(next:Int):Prop where
 gm:∃ah,an.bd.aP t 0=E ah/\ah.dw.eC=ao/\ah.dw.hE=0/\ah.dw.cS=next
 dT:an.cx.length=ao.length+1
 amC:∀h∈ao,∃b:cw,b.bt=G/\sh an.cx h b
section
variable{t:ByteArray}{next:Int}{x f3:gZ}{e:Int}
def amD(b:lN ao e){j:Nat}(d:ao[j]?=E h):∀(ag:Nat)(f3:gZ),ao[j+1+ag]?=E f3->h.cu+h.md<=f3.cu
 |0,f3,a=>by
  have:=b.2 j h d
  unfold uN at this
  rw[show j+1+0=j+1 from rfl]at a
  rw[a]at this
  simp only at this
  omega
 |ag+1,f3,a=>by
  have f:j+1+ag<ao.length:=by have:=(fi.1 a).1;omega
  have c:ao[j+1+ag]?=E ao[j+1+ag]:=cr f
  have g:=amD b d ag _ c
  have:=b.2 (j+1+ag) _ c
  unfold uN at this
  rw[show j+1+ag+1=j+1+(ag+1)by omega,a]at this
  simp only at this
  have:=(b.1 _ (gP c)).2
  omega
def amR(a:lN ao e)(al:ao[i]?=E x):ao.findIdx (me x.cu)=i:=by
 have b:=(fi.1 al).1
 have c:ao[i]=x:=(fi.1 al).2
 rw[List.findIdx_eq b]
 refine⟨?_,λj d=>?_⟩
 ·have:=(a.1 _ (gP al)).2
  unfold me
  rw[c,decide_eq_true_iff]
  omega
 ·have:=amD a (cr (show j<ao.length by omega)) (i-j-1) x (by rw[show j+1+(i-j-1)=i by omega];exact al)
  unfold me
  rw[decide_eq_false_iff_not]
  omega
def amS{b:cw}(a:b.bt=G):0<b.ch.length:=by
 rw[cw.qT a,Du]
 omega
def amT(h:ams an d.cI ao next)(m:an.bp aX)(n:aX<=64)(J:d.a5=7)(o:d.d9=0)(p:d.gK=0)(al:ao[i]?=E x)(q:d.cW=x.cu):
  (cp x.e4.toNat=G->mi an.cx cp an.bd d=ki d 6)/\(cp x.e4.toNat=U->∃aj,mi an.cx cp an.bd d=⟨d.dF,0,0,next,[],[(x.cu,aj)]⟩):=by
 obtain⟨ah,g,a,r,s⟩:=h.gm
 have j:=((m.bd n).aP g).dw
 have c:=j.oG
 rw[a]at c
 have e:=gP al
 have K:=c.1 _ e
 have L:x.cu+x.md<=next:=by
  have:=j.oG.AB (by rw[a];exact e)
  omega
 have k:ah.dw.mg d.cW=0:=by unfold eI.mg;rw[if_neg A]
 have t:mi an.cx cp an.bd d=mO an.cx cp d ah.dw:=by
  unfold mi
  rw[if_neg A,o,g]
  simp only
  rw[if_neg A,if_neg A]
 have u:=(fi.1 al).1
 have v:ao[i]=x:=(fi.1 al).2
 have w:(ah.dw.jd d.cW).take 4=x::(ao.drop (i+1)).take 3:=by
  unfold eI.jd
  rw[if_pos k]
  unfold eI.pg
  rw[a,q,amR c al,ot u,v,List.take_succ_cons]
 obtain⟨b,y,z⟩:=h.amC x e
 have B:=z.hy (cp:=cp)
 rw[t]
 unfold mO
 rw[if_pos k,w,BP,B,p]
 refine⟨λf=>?_,λf=>⟨h7 b.ch,?_⟩⟩
 ·rw[if_pos f]
  rfl
 ·rw[if_neg (by rw[f];simp)]
  simp only[List.isEmpty_nil,Bool.true_eq_false,false_and,if_false,m2]
  have D:rI an.cx cp 0 (0+b.ch.length) [(x.cu,h7 b.ch)] ((ao.drop (i+1)).take 3)=E [(x.cu,h7 b.ch)]:=by
   cases(ao.drop (i+1)).take 3 with
   |nil=>rfl
   |cons ap l=>
    rw[BP]
    cases pp an.cx cp ap with
    |none=>rfl
    |some ag=>
     have:=amS y
     exact if_pos ⟨rfl,A⟩
  rw[D,r,s]
def amU(h:ams an d.cI ao next)(J:an.bp aX)(K:aX<=64)(n:d.bt=G)(g:d.a5=3)(i:d.d9=0)(o:d.bk.hH=0)(p:an.cx.length<aX)(q:1<=k)(r:d.c2.aI<=105)(L:0<=next)(M:next+8<=9223372036854775807):
  (an.e7 k aX d).2=⟨d.dF,0,next,next+d.bk.a7.length,[],[]⟩/\ams (an.e7 k aX d).1 d.cI (ao++[⟨next,d.bk.a7.length,d.bk.g2,an.cx.length,0⟩]) (next+d.bk.a7.length):=by
 have j:i3 d.a5=G:=by rw[g];rfl
 have e:=tU n j
 have s:d.c2.a5=3:=g
 have l:d.bk.bt=G:=by
  obtain⟨_,h|h|h|h|h⟩:=eG.rE.1 e
  ·omega
  ·omega
  ·exact h.2.2.2.2.2.2.2
  all_goals omega
 obtain⟨ah,m,t,u,f⟩:=h.gm
 have N:=cw.uR.1 (cw.vT l)
 have c:ah.dw.mf d.bk.a7.length d.bk.g2 an.cx.length 0=0:=by
  unfold eI.mf
  rw[if_neg (by unfold yw;rw[decide_eq_false A];simp),if_neg A]
 have v:ke ah.jX d.bk.hH d.bk.cP=(i2,U,I):=by rw[o];exact OP
 have w:an.bd.h9 d.c2 an.cx.length 0=bA (an.bd.dt d.cI d.d9 ⟨ah.dw.kM d.bk.a7.length d.bk.g2 an.cx.length 0,sK ah.jX d.bk.hH ⟨d.bk.cP,ah.dw.cS,d.bk.a7.length⟩⟩,⟨ah.dw.cS,d.bk.a7.length,U⟩):=by
  unfold c3.h9
  rw[if_neg A,if_neg A]
  have x:an.bd.aP d.c2.cI d.c2.d9=E ah:=by show an.bd.aP d.cI d.d9=_;rw[i];exact m
  rw[x]
  simp only
  rw[if_neg A,if_neg A]
  have y:ah.po d.c2.bk an.cx.length 0=bA (⟨ah.dw.kM d.bk.a7.length d.bk.g2 an.cx.length 0,sK ah.jX d.bk.hH ⟨d.bk.cP,ah.dw.cS,d.bk.a7.length⟩⟩,⟨ah.dw.cS,d.bk.a7.length,U⟩):=by
   show ah.po d.bk an.cx.length 0=_
   unfold gM.po
   rw[v]
   simp only
   rw[if_pos c]
  rw[y]
  rfl
 rw[BR j,Jn e r q p w rfl]
 have z:(an.bd.dt d.cI d.d9 ⟨ah.dw.kM d.bk.a7.length d.bk.g2 an.cx.length 0,sK ah.jX d.bk.hH ⟨d.bk.cP,ah.dw.cS,d.bk.a7.length⟩⟩).aP d.cI 0=E ⟨ah.dw.kM d.bk.a7.length d.bk.g2 an.cx.length 0,sK ah.jX d.bk.hH ⟨d.bk.cP,ah.dw.cS,d.bk.a7.length⟩⟩:=by rw[i];exact T3 m
 have O:=h.dT
 refine⟨by rw[f],⟨_,z,?_,?_,?_⟩,?_,λap a=>?_⟩
 ·show(ah.dw.kM d.bk.a7.length d.bk.g2 an.cx.length 0).eC=_
  unfold eI.kM
  rw[if_pos c,t,f]
 ·show(ah.dw.kM d.bk.a7.length d.bk.g2 an.cx.length 0).hE=0
  unfold eI.kM
  rw[if_pos c]
  exact u
 ·show(ah.dw.kM d.bk.a7.length d.bk.g2 an.cx.length 0).cS=_
  unfold eI.kM
  rw[if_pos c]
  show ah.dw.cS+_=_
  rw[f]
 ·simp only[di,gF,tl]
  omega
 ·rcases b4.1 a with a|a
  ·obtain⟨b,B,D⟩:=h.amC ap a
   exact⟨b,B,D.p8⟩
  ·rw[ku.1 a]
   refine⟨d.bk,l,an.cx.length,0,d.c2.ch,d.c2,rfl,rfl,?_,G0 e,s,rfl⟩
   unfold sO
   rw[nr (fF _),k6]
   rfl
def amV(f:d.bt=G)(a:d.a5=1)(b:d.hF=0)(g:0<aX)(i:1<=k)(ao:d.c2.aI<=105):(ra.e7 k aX d).2=⟨d.dF,0,0,0,[],[]⟩/\ams (ra.e7 k aX d).1 d.cI [] 0:=by
 have c:i3 d.a5=G:=by rw[a];rfl
 have e:=tU f c
 have j:d.c2.a5=1:=a
 have m:1<=d.ie:=by
  obtain⟨_,h|h|h|h|h⟩:=eG.rE.1 e
  ·exact h.2.2.2.1
  all_goals omega
 have l:ra.bd.h9 d.c2 ra.cx.length 0=bA (⟨hb ra.bd.fs d.cI (cN d.ie.toNat (gM.cq d.hF)),ra.bd.kA⟩,i4):=by
  unfold c3.h9
  rw[if_pos j]
  unfold c3.xe
  show le (if(dv ra.bd.fs d.cI).isSome=G then _ else _)=_
  rw[show dv ra.bd.fs d.cI=I from rfl,if_neg B,if_neg (by decide)]
  rfl
 rw[BR c,Jn e ao i g l rfl]
 refine⟨rfl,⟨gM.cq d.hF,?_,rfl,b,b⟩,rfl,B⟩
 unfold c3.aP
 simp only[DJ,if_pos,tg]
 rw[if_neg A,List.getElem?_replicate,if_pos (by show(0:Int).toNat<_;omega)]
end
structure amr(bv w:aN)(am:List Nat)(c:dR)(iO:Nat)(aa:S)(fT:List Int)(aD:List Nat):Prop where
 qV:Q [] bv w
 B1:qz bv am
 amt:aC w iO 25 (en c)
 a3:bv.heap.size<=iO
 amE:iO∉am
 zE:bP w 3 1 aa fT.length (fT.flatMap ew) aD
 amv:qz bv aD
 amF:bR aD am
 amx:iO∉aD
section
variable{ad:dn}{fT:List Int}
def amr.JR(h:amr bv w am c iO aa fT aD)(f:bX (am++gf) az w a)(i:∀g∈gf,bv.heap.size<=g/\g≠iO/\g∉aD):amr bv a az c iO aa fT aD:=by
 have m:=h.qV.aI
 have l:=h.zE.aL
 have n:=h.amt.aL
 have j:iO∉am++gf:=λe=>(b4.1 e).elim h.amE (λb=>(i _ b).2.1 rfl)
 have k:∀g∈aD,g∉am++gf:=λg d e=>(b4.1 e).elim (h.amF g d) (λb=>(i _ b).2.2 d)
 exact⟨h.qV.R f.J (λg d=>Z ((b4.1 d).elim (h.B1 g) (λb=>(i g b).1))),λg d=>(f.cq g d).elim (λb=>(b4.1 b).elim (h.B1 g) (λb=>(i g b).1)) (λb=>A),h.amt.J f.J j,h.a3,λe=>(f.cq _ e).elim j (λb=>A),h.zE.J f.J k,h.amv,λg d e=>(f.cq _ e).elim (k g d) (λb=>by have:=l g d;omega),h.amx⟩
def amr.V(h:amr bv w am c iO aa fT aD)(b:Q [] w a):amr bv a am c iO aa fT aD:=h.JR (gf:=[]) (by rw[kJ];exact .iu b) B
def amG{ac:S->S->aN->Prop}(h:h2 w b am ab c au aB ay ix ai aQ an)(m:an.cn=[])(ao:qo c aB ay)(n:sg w gf bc d.bk.a7)(o:bR gf (0::am))(p:∀g∈gf,g<w.heap.size)(q:qt d)(r:d.bt=G)(s:i3 d.a5=G)(t:d.a5≠6)(u:an.cQ<=100000)(v:an.cx.length+1<=c.bd)(y:ai<=1000000)
  (k:∀(hs:Nat)(fz:kQ)(a:aN)(az:List Nat)(gg:eW)(dL:Nat),h2 a b az ab c gg aB ay ix dL aQ (an.e7 c.aJ c.bd d).1->dL<=ai+1->bX (am++gf) az w a->w.heap.size<=hs->hs∉az->aC a hs 37 (eb fz)->ma a fz (an.e7 c.aJ c.bd d).2->ac (aK G) (aP hs) a):
  W C (ck 19 #[aP b,ho d bc]) w λaa aA=>aV C (gH aa 0) λz=>aV C (gH aa 1) λA=>W C (hV 37) aA λah ax=>W C (dC 37 ah z) ax λ_ e=>ac A ah e:=by
 refine aH amu (amQ h m ao n o p q r s t u v y) ?_
 rintro _ aA ⟨X,bJ,D,J,rfl,⟨fz,rfl,f,ad,ae⟩,j,K,l⟩
 simp only[cV,cX]
 refine qv λax L M af=>?_
 refine mW (x:=fz) L f.gj.aW f.dY.aW λe N O ag=>?_
 have i:Q [] aA e:=M.R O B
 have P:=j.aL
 have R:=l.J.aI
 exact k _ fz e bJ D J (j.V i) K (l.oM i) R (λV=>by have:=P _ V;omega) N (f.V i)
def amW{ac:S->S->aN->Prop}(h:h2 w b am ab c au aB ay al ai aQ an)(ao:xH c ay al cp)(j:d.bk.a7=[])(n:qt d)(o:d.bt=G)(p:i3 d.a5=U)(q:d.a5≠6)(r:an.cQ<=100000)
  (k:∀(hs:Nat)(fz:kQ)(a:aN)(az:List Nat),h2 a b az ab c au aB ay al ai aQ {an with cQ:=an.cQ+1}->bX (am++[]) az w a->w.heap.size<=hs->hs∉az->aC a hs 37 (eb fz)->ma a fz (mi an.cx cp an.bd d)->ac (aK G) (aP hs) a):
  W C (ck 19 #[aP b,ho d (T I 0 0)]) w λaa aA=>aV C (gH aa 0) λs=>aV C (gH aa 1) λt=>W C (hV 37) aA λah ax=>W C (dC 37 ah s) ax λ_ e=>ac t ah e:=by
 refine aH amu (amP (gf:=[]) h ao ⟨by rw[j];exact aT.gW _ _,Y j⟩ (λg u=>by simp at u) B n o p q r) ?_
 rintro _ aA ⟨L,bJ,rfl,⟨fz,rfl,f,M,N⟩,l,m⟩
 simp only[cV,cX]
 refine qv λax v y O=>?_
 refine mW (x:=fz) v f.gj.aW f.dY.aW λe z A P=>?_
 have i:Q [] aA e:=y.R A B
 have D:=l.aL
 have J:=m.J.aI
 exact k _ fz e bJ (l.V i) (m.oM i) J (λK=>by have:=D _ K;omega) z (f.V i)
def amH:∀(n ak:Nat),bV (λag=>!decide (ag<ak)) n=n-ak
 |0,ak=>by unfold bV;simp
 |n+1,ak=>by
  rw[uX,amH n ak]
  by_cases h:n<ak
  ·simp[h];omega
  ·simp[h];omega
def amq(ak bn:Nat):Nat->Nat->Bool:=λe s=>!(decide (e<ak)&&decide (s=bn))
def amX(bn:Nat):amq 0 bn=λ_ _=>G:=by funext e s;simp[amq]
def amY(ak bn:Nat):sj (amq ak bn) ak bn=amq (ak+1) bn:=by
 funext e s
 unfold sj amq
 by_cases a:s=bn
 ·by_cases b:e=ak
  ·simp[a,b]
  ·by_cases c:e<ak
   ·simp[a,c,show e<ak+1 by omega]
   ·simp[a,b,c,show¬e<ak+1 by omega]
 ·simp[a]
def amZ{x:Nat}(a:c.bp)(d:x<c.bd):xH c (amq (c.aR-c.aJ+1) (fg c+x)) (amq (c.aR-c.aJ+1) (fg c+x)) (λt=>decide (t=x)):=by
 have e:=a.kh;have b:=a.jY
 intro t f
 refine⟨λh=>?_,λh=>?_⟩
 ·have h:¬t=x:=by simpa using h
  have:ia c (amq (c.aR-c.aJ+1) (fg c+x)) t=λ_=>G:=by funext ag;simp[ia,amq,h]
  rw[this,ald (λ_ _=>rfl)]
  exact b
 ·have h:t=x:=by simpa using h
  subst h
  have:ia c (amq (c.aR-c.aJ+1) (fg c+t)) t=λag=>!decide (ag<c.aR-c.aJ+1):=by funext ag;simp[ia,amq]
  rw[this,amH]
  omega
end
end
end Go.Proofs.YtepeilglbedgdaaGreatDoor
