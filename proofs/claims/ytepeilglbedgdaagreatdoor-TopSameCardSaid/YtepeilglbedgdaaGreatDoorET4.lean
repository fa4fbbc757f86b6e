import Derived.Test.YtepeilglbedgdaaGreatDoorET3
/- A part of the proof of this claim: it states and proves what the walk through the program uses. Its names are short ones that a program gave. The last part proves the card: for every input the call returns true, and each argument reads behind the call as it read before. -/
set_option linter.defProp false
set_option linter.all false
set_option maxRecDepth 100000
set_option maxHeartbeats 2000000
open Bool renaming and_eq_true->dA,false->U,false_eq_true->fc,not_eq_false'->ux,not_eq_true'->lq,not_false->lE,not_true->hq,or_eq_true->pP,true->G,true_and->pV
open ByteArray renaming mk->eS,size->vv
open Except renaming error->b5,map->nM,ok->bA
open Go renaming Addr->es,IntKind->iz,Program->ft,TypeId->co,Value->S,World->aN,maxLen->d0,run_underlying->fK,undef->bS
open Go.Builtin renaming append->lp
open Go.Ending renaming returned->gd
open Go.Extern.MapsClone renaming clone->B5
open Go.Extern.ReflectliteType renaming assignableTo->B6,method->vs,relation->vt
open Go.Instr renaming typeAssert->sn
open Go.IntKind renaming i64->H,u64->hr,u8->cl
open Go.Op renaming equalIn->lF
open Go.Proofs.Tryz renaming prog->C
open Go.Result renaming andThen_ok->f7,ok->bN
open Go.Sem renaming run_bind->fx,run_pure->k5
open Go.Value renaming agg->b6,bool->aK,cells->bF,iface->eZ,int->F,map->eB,nilIface->cT,pointer->aE,slice->T,string->bO,tuple->bQ
open Go.Value.slice renaming injEq->zI
open Int renaming eq_ofNat_of_zero_le->nL,natCast_mul->uq,toNat_natCast->hf
open List renaming append_assoc->gq,append_nil->kJ,cons_append->jN,drop_drop->oq,drop_eq_getElem_cons->ot,drop_eq_nil_of_le->uu,drop_length->aoh,flatMap_append->hL,flatMap_cons->iA,getD_cons_zero->kt,getD_eq_getElem?_getD->gp,getElem?_append_left->pR,getElem?_append_right->nr,getElem?_drop->oo,getElem?_eq_getElem->cr,getElem?_eq_none->jy,getElem?_eq_some_iff->fi,getElem?_map->e1,getElem?_range->qD,getElem_map->ic,getElem_mem->dX,getElem_of_mem->ns,length->jm,length_append->di,length_cons->gF,length_drop->e8,length_map->dU,length_nil->tl,length_range->uw,length_replicate->tt,length_set->i9,length_singleton->nt,length_take->ea,map_append->g6,map_cons->ge,map_map->ts,map_nil->tp,map_set->qB,mem_append->b4,mem_append_left->hg,mem_append_right->h3,mem_cons->ce,mem_cons_of_mem->ev,mem_cons_self->fE,mem_filter->ol,mem_flatMap->tm,mem_map->fS,mem_map_of_mem->mz,mem_of_getElem?->gP,mem_range->iK,mem_singleton->ku,nil_append->m2,nodup_append->us,nodup_cons->ks,not_mem_nil->iZ,range->c9,replicate->cN,take_append_drop->l3,take_length->j3,take_of_length_le->mv,take_succ_eq_append_getElem->jO
open List.cons renaming injEq->ss
open Nat renaming add_mul->iM,le_refl->fF,le_trans->gz,lt_of_lt_of_le->iL,lt_trichotomy->ut,min_eq_left->my,mul_le_mul_right->mw,mul_one->gA,one_mul->sq,pow_le_pow_right->pU,sub_self->k6,zero_add->gQ
open Option renaming bind_some->tg,getD_some->om,isSome_none->wH,isSome_some->vu,map_some->m1,none->I,some->E
open Option.some renaming inj->re
open Or renaming inl->Y,inr->Z
open Pure renaming pure->fh
open UInt8 renaming ofNat->ed,toNat_inj->nN,toNat_ofNat'->mx
open Go
namespace Go.Proofs.YtepeilglbedgdaaGreatDoor.c7
open Go.X
attribute[local irreducible]Go.X.W
variable{bU:List Nat}{a bv w:aN}{a2:List ca}{aQ ak b dj k n:Nat}{aF:List e3}{aU:Type}{aa ae b1 bc:S}{ac:S -> aN -> Prop}{aj:ca}{dr l:List UInt8}{ee:List l9}{i0:Array (Nat × S)}
structure hR(w:aN)(c:Nat)(b1:S)(b:List UInt8)(aQ:Nat)(dN:Int):Prop where
 bg:aC w c 230 [b1,F H aQ,F H dN]
 u7:aT w bs b1 b
 hm:aQ<=b.length
 qm:b.length<=4611686018427387904
 cW:b=[]\/∀a af n d,b1=T (E ⟨a,af,I⟩) n d->a≠c
def hR.J{c:Nat}{b:List UInt8}{dN:Int}(h:hR w c b1 b aQ dN)(d:Q [] w a):hR a c b1 b aQ dN:=
 ⟨h.bg.J d B,h.u7.V d,h.hm,h.qm,h.cW⟩
def hR.aL{c:Nat}{b:List UInt8}{dN:Int}(h:hR w c b1 b aQ dN):c<w.heap.size:=h.bg.aL
def hR.By{c:Nat}{b:List UInt8}{ds:Nat}{dN qG:Int}(h:hR w c b1 b aQ dN)(e:aC a c 230 [b1,F H ds,F H qG])(f:Q [c] w a)(g:ds<=b.length):hR a c b1 b ds qG:=
 ⟨e,h.cW.elim (λe=>by
  subst e;obtain⟨d,i,j,k,_⟩:=h.u7;exact⟨d,i,j,k,Y rfl⟩) (λl=>h.u7.J f (λm af n o p=>by simp;exact l m af n o p)),g,h.qm,h.cW⟩
def qn{c:Nat}{b:List UInt8}{dN:Int}(h:hR w c b1 b aQ dN):
  (∀ac,aZ C (a4 52 (aE (E ⟨c,0,I⟩))) w ac↔ac b1)/\(∀ac,aZ C (a4 3 (aE (E ⟨c,1,I⟩))) w ac↔ac (F H aQ))/\(∀ac,aZ C (a4 33 (aE (E ⟨c,2,I⟩))) w ac↔ac (F H dN)):=
 ⟨λ_=>bl nb (h.bg.bh (af:=0)),λ_=>bl bZ (h.bg.bh (af:=1)),λ_=>bl Ak (h.bg.bh (af:=2))⟩
def ob:Q [] w w.drew:=(Q.b0 _ _).h6
def agH:eH C 52 5 1 bs (λb:UInt8=>F cl b.toNat):=eH.aW fP el mb
def agI{c:Nat}{b:List UInt8}{dN dj ay al:Int}(h:hR w c b1 b aQ dN)(d:dN≠0):
  a0 C 160 #[aE (E ⟨c,0,I⟩),F H dj,F H ay,F H al] w λae a=>ae=F H 0/\w=a:=by
 refine a9 Di 4 Tryz.func160 K rfl λa1 e=>?_;simp+decide only[↓a8,ba,Di,Tryz.f160];subst e;obtain⟨g,i,f⟩:=qn h;simp only[M,f,d,ne_eq,not_false_eq_true,decide_true];exact⟨rfl,rfl⟩
def IA(c:Nat)(b1:S)(b:List UInt8)(aQ dj:Nat)(ay al:Int)(w:aN)(ae:S)(a:aN):Prop:=Q [c] w a/\match kO dj ay al (b.drop aQ)with
 |bA (n,_)=>ae=F H n/\aQ+dj<=b.length/\hR a c b1 b (aQ+dj) 0
 |b5 e=>ae=F H 0/\e≠0/\hR a c b1 b aQ e
def IB{c:Nat}{b:List UInt8}{ay al:Int}(h:hR w c b1 b aQ 0)(ao:dj<=8)(z:0<=ay)(aw:ay<=al)(az:al<=9223372036854775807):
  a0 C 160 #[aE (E ⟨c,0,I⟩),F H dj,F H ay,F H al] w λae a=>IA c b1 b aQ dj ay al w ae a:=by
 refine a9 Di 4 Tryz.func160 K rfl λa1 D=>?_;simp+decide only[↓a8,ba,Di,Tryz.f160];subst D;have k:=h.J ob;have n:=k.J ob;obtain⟨aB,aC,J⟩:=qn h;obtain⟨L,R,aD⟩:=qn k;obtain⟨V,W,aG⟩:=qn n;have X:Q [] w w.drew.drew:=ob.R ob B;generalize w.drew.drew=ax at*;obtain⟨r,aa,rfl,aH,aI⟩:=h.u7;have s:=h.hm;have aJ:=h.qm;have ab:Q [] w w.drew:=ob;generalize w.drew=aA at*;simp only[M,J,L,R,V,W,ne_eq,not_true_eq_false,decide_false,bi];rw[bq A A];unfold IA kO;rw[e8];refine⟨λaL=>?_,λaM=>?_⟩
 ·rw[if_pos A];refine eK Al k.bg B rfl λl ac e aO=>?_;have m:Q [c] w l:=(ab.bw B).R e B;exact⟨m,rfl,A,k.By ac e s⟩
 have o:aQ+dj<=b.length:=A;rw[if_neg A,bq A A];have p:=aT.d1 (i:=aQ) (j:=aQ+dj) e2 n.u7 A o;apply(z8 fP el A A A).2;have ad:((aQ:Int)+dj).toNat-(aQ:Int).toNat=dj:=A;have af:aQ+dj-aQ=dj:=A;rw[ad,hf];rw[af]at p;obtain⟨aq,t⟩:∃aq,(b.drop aQ).take dj=aq:=⟨_,rfl⟩;have ag:aq.length=dj:=by rw[<-t,ea,e8];omega
 rw[t]at p⊢;simp only[M];generalize(if aa=aQ then r else r.map (·.add (aQ*1)))=aP at*;apply c1 (λaF a=>∃i:Nat,aF=[F hr (fe (aq.take i)),F H i]/\i<=dj/\Q [] ax a) (λaF _=>match aF with|[_,F _ i]=>dj-i.toNat|_=>0) ⟨0,rfl,A,Q.b0 _ _⟩;rintro _ _ l ⟨i,rfl,aR,e⟩;have f:=n.J e;simp only[M,bi];refine⟨λaS=>?_,λaU=>?_⟩
 ·have u:i<aq.length:=A;apply(agH.ek p e u).2;have aV:=(aq[i]).toNat_lt;have v:(0:Int)<=8*i:=A;rw[bq A A];simp only[fv oE Ge,fv kd tP,l8 v (show(8*(i:Int))<=18446744073709551615 by omega)];rw[l8 A A];apply(w0 v).2;have ah:min (8*(i:Int)).toNat hr.bits=8*i:=by
   rw[my]
   ·omega
   ·show _<=64;omega
  have aW:2^(8*i)*256<=2^64:=by rw[show 256=2^8 from rfl,<-Nat.pow_add];exact pU A A
  have aX:aq[i].toNat*2^(8*i)<=255*2^(8*i):=mw _ A;have ai:fe (aq.take i)<2^(8*i):=by have:=tL (aq.take i);rw[ea,my A,show 256=2^8 from rfl,<-Nat.pow_mul]at this;exact this
  rw[ah];have aj:((aq[i].toNat:Nat):Int)*2^(8*i)=((aq[i].toNat*2^(8*i):Nat):Int):=by rw[uq,Int.natCast_pow];rfl
  rw[aj,l8 A A];have y:=KJ (x:=aq[i].toNat) ai;apply(VH (by rw[y];omega)).2;try simp only[M]
  rw[y,bq A A];refine⟨⟨i+1,?_,A,e⟩,A⟩;have ak:fe (aq.take (i+1))=fe (aq.take i)+aq[i].toNat*2^(8*i):=by rw[jO u,CG,ea,my A,show 256=2^8 from rfl,<-Nat.pow_mul]
  rw[ak];rfl
 ·obtain rfl:i=dj:=A;have am:aq.take i=aq:=mv A;rw[am];have aY:fe aq<2^64:=by have:=tL aq;rw[ag,show 256=2^8 from rfl,<-Nat.pow_mul]at this;exact iL this (pU A A)
  obtain⟨aZ,an,a2⟩:=qn f;have m:Q [] w l:=X.R e B;refine bT (λaF a=>aF=[aK (decide ((fe aq:Int)<ay\/al<fe aq))]/\l=a) ?_ ?_
  ·simp only[fv kd Ge,l8 z (show ay<=18446744073709551615 by omega),l8 (show 0<=al by omega) (show al<=18446744073709551615 by omega),M,bi];refine⟨λd=>⟨by simp[d],trivial⟩,λd=>⟨by simp[d],trivial⟩⟩
  rintro _ _ _ ⟨rfl,rfl⟩;simp only[M,bi];refine⟨λap=>?_,λar=>?_⟩
  ·rw[if_pos ap];exact eK Al f.bg B rfl λau q g av=>⟨(m.bw B).R g B,rfl,A,f.By q g s⟩
  ·rw[if_neg ar];simp only[an,M];rw[bq A A];refine eK hl f.bg B rfl λau q g av=>?_;simp only[fv Ge kd];rw[bq A A];refine⟨(m.bw B).R g B,rfl,o,f.By ?_ g o⟩;simpa using q
def Sw{aU:Type}(bI:aU->S)(zero:S)(ab:Except Int (aU×List UInt8))(c:Nat)(b1:S)(b:List UInt8)(w:aN)(ae:S)(a:aN):Prop:=Q [c] w a/\match ab with
 |bA (x,d)=>ae=bI x/\∃ds,d=b.drop ds/\hR a c b1 b ds 0
 |b5 e=>ae=zero/\e≠0/\∃ds,hR a c b1 b ds e
def IC{c:Nat}{b:List UInt8}{ay al:Int}(h:IA c b1 b aQ dj ay al w ae a):Sw (F H) (F H 0) (kO dj ay al (b.drop aQ)) c b1 b w ae a:=by
 obtain⟨f,h⟩:=h;refine⟨f,?_⟩;cases d:kO dj ay al (b.drop aQ)with
 |error e=>
  rw[d]at h;exact⟨h.1,h.2.1,aQ,h.2.2⟩
 |ok x=>
  obtain⟨n,ab⟩:=x;rw[d]at h;have g:ab=b.drop (aQ+dj):=by
   unfold kO at d;split at d
   ·cases d
   ·split at d
    ·cases d
    ·cases d;rw[oq]
  exact⟨h.1,_,g,h.2.2⟩
def Sx{ay al n:Int}{ab:List UInt8}(h:kO dj ay al ab=bA (n,dr)):n=(fe (ab.take dj):Nat)/\dj<=ab.length/\ay<=n/\n<=al/\dr=ab.drop dj:=by
 unfold kO at h;split at h
 ·cases h
 ·split at h
  ·cases h
  ·cases h;exact⟨rfl,A,A,A,rfl⟩
def agJ(l:List UInt8):fe (l.take 2)<65536:=by
 have h:=tL (l.take 2);have:(l.take 2).length<=2:=by rw[ea];omega
 exact iL h (gz (pU A this) A)
def agK{c:Nat}{b:List UInt8}{dN ay al:Int}(h:hR w c b1 b aQ dN)(d:dN≠0):
  a0 C 161 #[aE (E ⟨c,0,I⟩),F H ay,F H al] w λae a=>ae=bO cg/\Q [c] w a/\hR a c b1 b aQ dN:=by
 refine a9 Dj 3 Tryz.func161 K rfl λa1 f=>?_;simp+decide only[↓a8,ba,Dj,Tryz.f161];subst f;apply aH Dd (agI h d);rintro _ _ ⟨rfl,rfl⟩;have e:=h.J ob;obtain⟨i,j,g⟩:=qn e;refine l7 (l7 ?_);simp only[M,g,d,decide_false,decide_true,ne_eq,not_false_eq_true];exactλ_ _=>⟨rfl,ob.bw B,e⟩
def Sy{c:Nat}{b:List UInt8}{ay al:Int}(h:hR w c b1 b aQ 0)(V:0<=ay)(W:ay<=al)(X:al<=9223372036854775807):
  a0 C 161 #[aE (E ⟨c,0,I⟩),F H ay,F H al] w λae a=>Sw bO (bO cg) (o9 ay al (b.drop aQ)) c b1 b w ae a:=by
 refine a9 Dj 3 Tryz.func161 K rfl λa1 o=>?_;simp+decide only[↓a8,ba,Dj,Tryz.f161];subst o;apply aH Dd ((IB (dj:=2) h A V W X).bw λ_ _=>IC);rintro ae aA ⟨t,k⟩;unfold o9;cases l:kO 2 ay al (b.drop aQ)with
 |error e=>
  rw[l]at k;obtain⟨rfl,u,ds,f⟩:=k;have d:=f.J ob;obtain⟨v,y,p⟩:=qn d;refine l7 (l7 ?_);simp only[M,p,u,decide_false,decide_true,ne_eq,not_false_eq_true];exactλ_ _=>⟨t.h6,rfl,u,ds,d⟩
 |ok x=>
  obtain⟨n,ab⟩:=x;rw[l]at k;obtain⟨aa,-,-,-,-⟩:=Sx l;have ac:=agJ (b.drop aQ);obtain⟨rfl,ds,rfl,f⟩:=k;obtain⟨ak,rfl⟩:=nL (show 0<=n by omega);have aj:ak<65536:=A;clear aa ac l;have d:=f.J ob;obtain⟨v,y,p⟩:=qn d;have ad:=f.hm;have am:=f.qm;obtain⟨an,ao,rfl,ap,aq⟩:=f.u7;have z:Q [c] w aA.drew:=t.h6;generalize aA.drew=ax at*;refine l7 (l7 ?_);simp only[M,v,y,p,decide_true];rw[bq A A];intro _;simp only[M,bi,e8,hf];refine⟨λar=>?_,λau=>?_⟩
  ·rw[if_pos A];refine eK Al d.bg B rfl λq r g af=>?_;have m:=d.By (ds:=ds) (qG:=3) (by simpa using r) g ad;obtain⟨D,J,L⟩:=qn m;intro _;simp only[M,L,show decide ((3:Int)≠0)=G from rfl];exact⟨z.R g B,rfl,A,ds,m⟩
  ·rw[if_neg A];intro _;refine⟨λh=>absurd rfl h,λ_=>?_⟩;rw[bq A A];refine eK hl d.bg B rfl λq r g af=>?_;have m:=d.By (ds:=ds+ak) (qG:=0) (by simpa using r) g A;have s:=m.J ob;obtain⟨D,J,L⟩:=qn s;have ag:Q [c] w q.drew:=(z.R g B).h6;generalize q.drew=av at*;simp only[M,D,J];rw[bq A A];have R:=aT.d1 (i:=ds) (j:=ds+ak) e2 s.u7 A A;apply(z8 fP el A A A).2;have o:(((ds+ak:Nat):Int)-(ak:Nat)).toNat=ds:=A;have ah:((ds+ak:Nat):Int).toNat-ds=ak:=A;have ai:ds+ak-ds=ak:=A;rw[o,ah];rw[ai]at R;exact(w3 Ss s0 R).2 ⟨ag,rfl,ds+ak,by rw[oq],s⟩
def nI(an:Nat)(aa:S):Prop:=∀b af n c,aa=T (E ⟨b,af,I⟩) n c->an<=b
def nI.D(an:Nat):nI an (T I 0 0):=λ_ _ _ _ h=>by cases h
def nI.bw{an dO:Nat}(h:nI an aa)(a:dO<=an):nI dO aa:=λb af n c e=>gz a (h b af n c e)
def EJ.J{an:Nat}{x:l9}{aa:e3}(h:jE w x aa)(d:nI an x.jq)(e:Q bU w a)(f:∀k∈bU,k<an):jE a x aa:=
 ⟨h.1,h.2.1,h.2.2.J e (λb af n c g i=>by have:=d b af n c g;have:=f b i;omega)⟩
def ID.s1{be:aU->List S}{g:aN}{l:List aU}(h:aT w be aa l)(n:aT a be aa l)(o:Q bU a g)(p:∀k∈bU,w.heap.size<=k):aT g be aa l:=by
 obtain⟨d,c,rfl,q,b⟩:=h;obtain⟨fl,x,r,y,e⟩:=n;cases r;refine⟨d,c,rfl,q,?_⟩;rcases b with b|⟨f,af,rfl,s⟩
 ·exact Y b
 ·rcases e with e|⟨z,A,t,u⟩
  ·exact Y e
  ·cases t;refine Z ⟨f,af,rfl,?_⟩;by_cases i:l.flatMap be=[]
   ·rw[i];exact fu.D _ _ _
   ·refine u.J o (λv=>?_);have B:=p f v;have j:0<(l.flatMap be).length:=List.length_pos_iff.2 i;have m:=s 0 j;rw[cr j]at m;have D:f<w.heap.size:=by simpa using block_lt_of_cell m
    omega
def hR.s1{d:aN}{c:Nat}{b:List UInt8}{i:Nat}{j dN:Int}(e:hR w c b1 b i j)(h:hR a c b1 b aQ dN)(f:Q bU a d)(g:∀k∈bU,w.heap.size<=k):hR d c b1 b aQ dN:=
 ⟨h.bg.J f (λl=>by have:=g c l;have:=e.aL;omega),ID.s1 e.u7 h.u7 f g,h.hm,h.qm,h.cW⟩
def ub(av:Nat)(aa:S):Prop:=∀b af n c,aa=T (E ⟨b,af,I⟩) n c->b<av
def ub.D(av:Nat):ub av (T I 0 0):=λ_ _ _ _ h=>by cases h
def ub.bw{av a:Nat}(h:ub av aa)(d:av<=a):ub a aa:=λb af n c e=>iL (h b af n c e) d
def Bz(am:List Nat)(aa:S):Prop:=∀b af n c,aa=T (E ⟨b,af,I⟩) n c->b∉am
def EJ.BA{x:l9}{aa:e3}(h:jE w x aa)(d:Bz bU x.jq)(e:Q bU w a):jE a x aa:=
 ⟨h.1,h.2.1,h.2.2.J e (λb af n c f=>d b af n c f)⟩
def uc:l9:=⟨0,cg,T I 0 0⟩
def agL(ab:Except Int (e3×List UInt8))(c:Nat)(b1:S)(b:List UInt8)(w:aN)(ae:S)(a:aN):Prop:=Q [c] w a/\∃x,ae=ls x/\x.jq.oneCell'=G/\match ab with
 |bA (aa,d)=>jE a x aa/\nI w.heap.size x.jq/\ub a.heap.size x.jq/\∃ds,d=b.drop ds/\hR a c b1 b ds 0
 |b5 e=>e≠0/\∃ds,hR a c b1 b ds e
def agM(h:aj.bt=G):(aj.a5=1\/aj.a5=2\/aj.a5=3)/\0<=aj.iQ/\aj.iQ<=aj.gw/\(aj.a5=3->0<=aj.gK/\aj.gK<=65535):=by
 unfold ca.bt at h;by_cases a:aj.a5=1
 ·simp[a]at h;omega
 ·by_cases b:aj.a5=3
  ·simp[b]at h;omega
  ·by_cases c:aj.a5=2
   ·simp[c]at h;omega
   ·simp[a,c,b]at h
def agN{c:Nat}{b:List UInt8}(h:hR w c b1 b aQ 0)(a7:aj.bt=G)(aM:aj.gw<=9223372036854775807):
  a0 C 107 #[aE (E ⟨c,0,I⟩),gL aj] w λae a=>agL (aj.jT (b.drop aQ)) c b1 b w ae a:=by
 obtain⟨br,aO,aP,bs⟩:=agM a7;refine a9 MU 2 Tryz.func107 K rfl λa1 bt=>?_;simp+decide only[↓a8,ba,MU,Tryz.f107];subst bt;refine eA λaA bv bw ci=>gI C0 λax bx bb cj=>gI C0 λaR bz aS ck=>?_;have cn:=h.aL;have aG:Q [] w aR:=(bw.R bb B).R aS B;have ag:=h.J aG;have bc:=(bv.J bb B).J aS B;have bB:=bx.J aS B;have aT:aC aR ax.heap.size 152 (fA uc):=bz;have aU:aC aR aA.heap.size 152 (fA uc):=bB;generalize cp:w.heap.size=an at*;generalize cq:aA.heap.size=aV at*;generalize cs:ax.heap.size=W at*;obtain⟨aW,aX,aY,aZ,ct,cu⟩:=oa (aj:=aj) bc;refine bT (λ_ a=>Q [c] w a/\aC a aV 152 (fA uc)/\∃x,aC a W 152 (fA x)/\x.jq.oneCell'=G/\match aj.jT (b.drop aQ)with
  |bA (aa,bC)=>jE a x aa/\nI (W+1) x.jq/\ub a.heap.size x.jq/\∃ds,bC=b.drop ds/\hR a c b1 b ds 0
  |b5 e=>e≠0/\∃ds,hR a c b1 b ds e) ?_ ?_
 ·rcases br with ah|al|bd
  ·obtain⟨k,v,be⟩:∃k:Nat,k<=8/\aj.aI=k:=by rcases Iz a7 ah with h|h|h|h<;>exact⟨aj.aI.toNat,A,A⟩
   simp only[M,aW,aX,aY,aZ,ah,be,decide_true];apply aH Dd ((IB ag v aO aP aM).bw λ_ _=>IC);rintro ae y ⟨o,d⟩;have cm:aj.jT (b.drop aQ)=match kO k aj.iQ aj.gw (b.drop aQ)with|b5 e=>b5 e|bA (n,dr)=>bA (⟨n,cg,[]⟩,dr):=by unfold ca.jT;rw[if_pos ah,be,hf];cases kO k aj.iQ aj.gw (b.drop aQ)<;>rfl
   have ao:=aT.J o (by simp;omega);have ap:=aU.J o (by simp;omega);have aq:Q [c] w y:=(aG.bw B).R o B;obtain⟨n,rfl⟩:∃n,ae=F H n:=by cases j:kO k aj.iQ aj.gw (b.drop aQ)<;>rw[j]at d<;>exact⟨_,d.1⟩
   refine eK hl ao (by simp[fA,uc]) rfl λz ar m a2=>⟨aq.R m (by simp;omega),ap.J m (by simp;omega),⟨n,cg,T I 0 0⟩,by simpa[fA,uc]using ar,rfl,?_⟩;rw[cm];have D:∀{ds:Nat}{e:Int},hR y c b1 b ds e->hR z c b1 b ds e:=λp=>h.s1 p m (by simp;omega);cases j:kO k aj.iQ aj.gw (b.drop aQ)with
   |error e=>
    rw[j]at d;exact⟨d.2.1,d.2.2.imp λds h=>D h⟩
   |ok ai=>
    obtain⟨ak,ab⟩:=ai;rw[j]at d;obtain⟨q,ds,au,p⟩:=d;cases q;exact⟨⟨rfl,rfl,I,0,rfl,B,Y rfl⟩,nI.D _,ub.D _,ds,au,D p⟩
  ·simp only[M,aW,aX,aY,aZ,al,show decide ((2:Int)=1)=U from rfl,decide_true];apply aH LL (Sy ag aO aP aM);rintro ae y ⟨o,d⟩;have cm:aj.jT (b.drop aQ)=match o9 aj.iQ aj.gw (b.drop aQ)with|b5 e=>b5 e|bA (s,dr)=>bA (⟨0,s,[]⟩,dr):=by unfold ca.jT;rw[if_neg A,if_pos al];cases o9 aj.iQ aj.gw (b.drop aQ)<;>rfl
   have ao:=aT.J o (by simp;omega);have ap:=aU.J o (by simp;omega);have aq:Q [c] w y:=(aG.bw B).R o B;obtain⟨s,rfl⟩:∃s,ae=bO s:=by cases j:o9 aj.iQ aj.gw (b.drop aQ)<;>rw[j]at d<;>exact⟨_,d.1⟩
   refine eK vJ ao (by simp[fA,uc]) rfl λz ar m a2=>⟨aq.R m (by simp;omega),ap.J m (by simp;omega),⟨0,s,T I 0 0⟩,by simpa[fA,uc]using ar,rfl,?_⟩;rw[cm];have D:∀{ds:Nat}{e:Int},hR y c b1 b ds e->hR z c b1 b ds e:=λp=>h.s1 p m (by simp;omega);cases j:o9 aj.iQ aj.gw (b.drop aQ)with
   |error e=>
    rw[j]at d;exact⟨d.2.1,d.2.2.imp λds h=>D h⟩
   |ok ai=>
    obtain⟨ak,ab⟩:=ai;rw[j]at d;obtain⟨q,ds,au,p⟩:=d;cases q;exact⟨⟨rfl,rfl,I,0,rfl,B,Y rfl⟩,nI.D _,ub.D _,ds,au,D p⟩
  ·obtain⟨bE,cw⟩:=bs bd;simp only[M,aW,aX,aY,aZ,bd,show decide ((3:Int)=1)=U from rfl,show decide ((3:Int)=2)=U from rfl,decide_true];apply aH Dd ((IB (dj:=1) ag A aO aP aM).bw λ_ _=>IC);rintro ae y ⟨o,d⟩;have bG:=bc.J o (by simp;omega);have ao:=aT.J o (by simp;omega);have ap:=aU.J o (by simp;omega);have aq:Q [c] w y:=(aG.bw B).R o B;have cm:aj.jT (b.drop aQ)=match kO 1 aj.iQ aj.gw (b.drop aQ)with|b5 e=>b5 e|bA (k,dr)=>match nT aj.gK k.toNat dr with|b5 e=>b5 e|bA (l,av)=>bA (⟨0,cg,l⟩,av):=by
    unfold ca.jT;rw[if_neg A,if_neg A];cases kO 1 aj.iQ aj.gw (b.drop aQ)with
    |error e=>rfl
    |ok ai=>
     simp only;cases nT aj.gK ai.1.toNat ai.2<;>rfl
   obtain⟨k,rfl,cx⟩:∃k:Nat,ae=F H k/\k<=255:=by
    cases j:kO 1 aj.iQ aj.gw (b.drop aQ)with
    |error e=>rw[j]at d;exact⟨0,d.1,A⟩
    |ok ai=>
     obtain⟨ak,ab⟩:=ai;rw[j]at d;obtain⟨bH,-,-,-,-⟩:=Sx j;have:=tL ((b.drop aQ).take 1);have bI:((b.drop aQ).take 1).length<=1:=by rw[ea];omega
     have:fe ((b.drop aQ).take 1)<256:=iL this (gz (pU A bI) A);exact⟨fe ((b.drop aQ).take 1),by rw[d.1,bH],A⟩
   refine c1 (λaF a=>∃(i:Nat)(aw:List ByteArray)(cB:S)(am:List Nat),aF=[F H i]/\i<=k/\aw.length=i/\bP a 9 1 cB i (aw.flatMap dV) am/\(∀g∈am,W+1<=g)/\cB.oneCell'=G/\
     aC a an 232 (fd aj)/\aC a aV 152 (fA uc)/\aC a W 152 (fA ⟨0,cg,cB⟩)/\Q [c] w a/\W+1<=a.heap.size/\
     ((∃ds,hR a c b1 b ds 0/\aj.jT (b.drop aQ)=match nT aj.gK (k-i) (b.drop ds)with|b5 e=>b5 e|bA (l,av)=>bA (⟨0,cg,aw++l⟩,av))\/(∃e ds,e≠0/\hR a c b1 b ds e/\aj.jT (b.drop aQ)=b5 e)))
    (λaF _=>match aF with|[F _ i]=>k-i.toNat|_=>0) ⟨0,[],T I 0 0,[],rfl,A,rfl,gJ _ _ _,B,rfl,bG,ap,ao,aq,by have:=o.aI;omega,?_⟩ ?_
   ·rw[cm];cases j:kO 1 aj.iQ aj.gw (b.drop aQ)with
    |error e=>
     rw[j]at d;obtain⟨_,f,ds,p⟩:=d;exact Z ⟨e,ds,f,p,rfl⟩
    |ok ai=>
     obtain⟨ak,ab⟩:=ai;rw[j]at d;obtain⟨q,ds,au,p⟩:=d;cases q;refine Y ⟨ds,p,?_⟩;rw[au];simp only[hf,Nat.sub_zero,m2]
   rintro _ _ z ⟨i,aw,cB,am,rfl,cy,bf,ay,J,aI,bg,bh,a3,m,a2,L⟩;simp only[M,bi];refine⟨λbj=>?_,λcz=>?_⟩
   ·have bJ:i<k:=A;obtain⟨cA,cC,cD,cE,bK,cF⟩:=oa (bD bg);obtain⟨bL,bM,bk,bl⟩:=u6 (x:=⟨0,cg,cB⟩) (bD a3);simp only[bk,bK];refine aH (bu:=λae a=>∃s:ByteArray,ae=bO s/\Q [c] z.drew a/\((∃ds,hR a c b1 b ds 0/\aj.jT (b.drop aQ)=match nT aj.gK (k-(i+1)) (b.drop ds)with|b5 e=>b5 e|bA (l,av)=>bA (⟨0,cg,(aw++[s])++l⟩,av))\/(∃e ds,e≠0/\hR a c b1 b ds e/\aj.jT (b.drop aQ)=b5 e))) LL ?_ ?_
    ·rcases L with⟨ds,V,f⟩|⟨e,ds,X,V,f⟩
     ·refine(Sy (V.J ob) (Int.le_refl 0) bE A).bw λae a⟨aJ,d⟩=>?_;rw[show k-i=(k-(i+1))+1 by omega]at f;unfold nT at f;cases bm:o9 0 aj.gK (b.drop ds)with
      |error e=>
       rw[bm]at d f;exact⟨cg,d.1,aJ,Z ⟨e,d.2.2.choose,d.2.1,d.2.2.choose_spec,f⟩⟩
      |ok ai=>
       obtain⟨s,ab⟩:=ai;rw[bm]at d f;obtain⟨q,bn,bR,r⟩:=d;refine⟨s,q,aJ,Y ⟨bn,r,?_⟩⟩;rw[f,bR];simp only;cases nT aj.gK (k-(i+1)) (b.drop bn)with
       |error e=>rfl
       |ok ai=>simp
     ·exact(agK (V.J ob) X).bw λae a⟨q,aJ,r⟩=>⟨cg,q,aJ,Z ⟨e,ds,X,r,f⟩⟩
    rintro _ aL ⟨s,rfl,ac,bU⟩;have bV:=(bD bg).J ac (by simp;omega);have a4:=(bD bh).J ac (by simp;omega);have aB:=(bD a3).J ac (by simp;omega);have bW:=ac.aI;have cG:z.heap.size<=aL.heap.size:=bW;have bX:bP aL 9 1 cB i (aw.flatMap dV) am:=(ay.J ob B).J ac (λg t u=>by have:=J g t;simp at u;omega);refine(dz mc (aa:=cB) (aB.bh (af:=2))).2 (hw vM [bO s] rfl rfl (by simp[bF]) A A λbY bZ R cH=>(dz mc (aa:=cB) ((aB.J R B).bh (af:=2))).2 ?_);have b0:fu bY aL.heap.size 0 ([s].flatMap dV):=bZ.cy;refine m8 (ak:=1) vM (bX.J R B) b0 rfl (by simp[dV];rfl) A (by unfold d0;omega) A λtw cI az b2 v b3 bo=>?_;have cJ:=v.aI;have b7:=(bV.J R B).J v (λu=>by have:=J _ u;omega);have b8:=(a4.J R B).J v (λu=>by have:=J _ u;omega);have b9:=(aB.J R B).J v (λu=>by have:=J _ u;omega);try simp only[M]
    refine eK K0 b9 (by simp[fA]) bo λcd cb aD cK=>?_;rw[bq A A];have bp:∀g∈az,W+1<=g:=λg t=>(b3 g t).elim (J g) (λh=>A);have D:∀{ds:Nat}{e:Int},hR aL c b1 b ds e->hR cd c b1 b ds e:=λr=>
     h.s1 (h.s1 (r.J R) v (λg t=>by have:=J g t;omega)) aD (by simp;omega)
    have cc:Q [c] w cd:=((((m.R (ob.bw (dE:=[c]) B) B).R ac B).R R B).R v (λg t=>Z (by have:=J g t;omega))).R aD (by simp;omega);refine⟨⟨i+1,aw++[s],tw,az,rfl,bJ,by simp[bf],?_,bp,bo,b7.J aD (by simp;omega),b8.J aD (by simp;omega),by simpa[fA]using cb,cc,by have:=R.aI;omega,?_⟩,A⟩
    ·rw[hL];exact b2.J aD (λg t u=>by have:=bp g t;simp at u;omega)
    ·rcases bU with⟨ds,r,f⟩|⟨e,ds,X,r,f⟩
     ·exact Y ⟨ds,D r,f⟩
     ·exact Z ⟨e,ds,X,D r,f⟩
   ·obtain rfl:i=k:=A;refine⟨m,bh,⟨0,cg,cB⟩,a3,aI,?_⟩;rcases L with⟨ds,V,f⟩|⟨e,ds,X,V,f⟩
    ·rw[k6]at f;unfold nT at f;rw[f];subst bf;refine⟨⟨rfl,rfl,by simpa using ay.eF KD A⟩,λa5 af n a6 ad=>J _ (ay.rt a5 af n a6 ad),λa5 af n a6 ad=>ay.aL _ (ay.rt a5 af n a6 ad),ds,rfl,V⟩
    ·rw[f];exact⟨X,ds,V⟩
 ·rintro _ _ y ⟨o,a4,x,aB,aI,L⟩;obtain⟨bL,bM,bk,bl⟩:=u6 (x:=x) aB;simp only[M,bl];refine f0 (cv:=[]) (c5:=fA uc) (da:=[]) tM a4 rfl rfl rfl (by intro ae q;simp[ls,fA,bF]at q;rcases q with rfl|rfl|rfl<;>first|rfl|exact aI) λz ar m a2=>?_;have cf:aC z aV 152 (fA x):=by simpa[ls,bF]using ar
  obtain⟨cL,cM,cO,ch⟩:=u6 (x:=x) cf;simp only[M,ch];refine⟨o.R m (by simp;omega),x,rfl,aI,?_⟩;cases ad:aj.jT (b.drop aQ)with
  |error e=>
   rw[ad]at L;exact⟨L.1,L.2.imp λds p=>h.s1 p m (by simp;omega)⟩
  |ok ai=>
   obtain⟨aa,ab⟩:=ai;rw[ad]at L;obtain⟨ah,al,bj,ds,ag,p⟩:=L;exact⟨EJ.J ah al m (by simp;omega),al.bw A,bj.bw m.aI,ds,ag,h.s1 p m (by simp;omega)⟩
def lZ(w:aN)(ee:List l9)(aF:List e3):Prop:=ee.length=aF.length/\∀(i:Nat) x ap,ee[i]?=E x->aF[i]?=E ap->jE w x ap
def lZ.D(w:aN):lZ w [] []:=⟨rfl,λi x ap h=>by simp at h⟩
def lZ.BA(h:lZ w ee aF)(c:∀x∈ee,Bz bU x.jq)(d:Q bU w a):lZ a ee aF:=
 ⟨h.1,λi x ap b e=>EJ.BA (h.2 i x ap b e) (c x (gP b)) d⟩
def lZ.uO{x:l9}{aa:e3}(h:lZ w ee aF)(f:jE w x aa):lZ w (ee++[x]) (aF++[aa]):=by
 refine⟨by simp[h.1],λi d b a c=>?_⟩;rcases ut i ee.length with al|al|al
 ·rw[pR al]at a;rw[pR (by have:=h.1;omega)]at c;exact h.2 i d b a c
 ·subst al;have e:=h.1;rw[nr (fF _),k6]at a;rw[nr A,e,k6]at c;simp at a c;subst a;subst c;exact f
 ·rw[nr A]at a;have:i-ee.length>=1:=A;rw[jy (by simp;omega)]at a;cases a
def agO:ByteArray:=⟨#[103,114,97,109,46,71,101,116]⟩
def Sz(w:aN)(a2:List ca)(b:List UInt8)(ab:S)(a:aN):Prop:=Q [] w a/\match mG a2 b with
 |bA aF=>∃af ee,ab=bQ #[af,cT]/\aT a fA af ee/\lZ a ee aF/\nI w.heap.size af/\(∀x∈ee,nI w.heap.size x.jq)/\(∀x∈ee,x.jq.oneCell'=G)
 |b5 (i,k)=>ab=bQ #[T I 0 0,vP agO i (qR k)]
def SA{x:l9}(h:x.jq.oneCell'=G):∀ae∈fA x,ae.oneCell'=G:=by intro ae a;simp[fA]at a;rcases a with rfl|rfl|rfl<;>first|rfl|exact h
def EK{b:List UInt8}(R:aT w fd aa a2)(ao:qm a2)(cg:a2.length<=1000000)(c:aT w bs ae b)(bk:b.length<=4611686018427387904):
  a0 C 62 #[aa,ae] w λab a=>Sz w a2 b ab a:=by
 refine a9 Mx 2 Tryz.func62 K rfl λa1 bl=>?_;simp+decide only[↓a8,ba,Mx,Tryz.f62];subst bl;apply aH LA (St R A ao);rintro _ aA ⟨rfl,ah⟩;unfold Sz mG;by_cases r:a2.findIdx (λaj=>!aj.bt)<a2.length
 ·rw[if_pos r,if_pos r];have an:(0:Int)<=(a2.findIdx (λaj=>!aj.bt):Nat):=A;simp only[M,an,decide_true,hk hY];apply aH nz qS;rintro _ _ ⟨rfl,rfl⟩;exact⟨ah,rfl⟩
 rw[if_neg r,if_neg r];have an:¬(0:Int)<=-1:=A;obtain⟨aR,aS,rfl,bm,bn⟩:=R;have R:aT w fd (T aR a2.length aS) a2:=⟨aR,aS,rfl,bm,bn⟩;have bo:∀aj∈a2,aj.bt=G:=λaj f=>by
  cases s:aj.bt with
  |true=>rfl
  |false=>exact absurd (List.findIdx_lt_length_of_exists ⟨aj,f,by simp[s]⟩) r
 simp only[M,an,decide_false];refine(bY (gT:=#[ae,F H 0,F H 0]) ?_).2 ?_
 ·obtain⟨aq,ar,rfl,-,-⟩:=c;kernel_rfl
 refine eA λax bp br ch=>?_;have aU:Q [] w ax:=ah.R br B;have ci:=ah.aI;generalize cj:aA.heap.size=cE at*;have aV:hR ax cE ae b 0 0:=⟨by
   obtain⟨aq,ar,rfl,-,-⟩:=c;simpa[bF]using bp,c.V aU,A,bk,by
   obtain⟨aq,ar,rfl,_,s⟩:=c;rcases s with s|⟨j,af,rfl,au⟩
   ·exact Y s
   ·by_cases aW:b=[]
    ·exact Y aW
    ·right;intro ck aX cm cn bt;cases bt;have aY:0<(b.flatMap bs).length:=by rw[kx e2];have:=List.length_pos_iff.2 aW;omega
     have aZ:=au 0 aY;rw[cr aY]at aZ;have a3:j<w.heap.size:=by simpa using block_lt_of_cell aZ
     omega⟩
 refine c1 (λav a=>∃(i:Nat)(af:S)(am:List Nat)(ee:List l9)(aF:List e3)(ds:Nat),av=[af,F H i]/\i<=a2.length/\ee.length=i/\bP a 152 3 af i (ee.flatMap fA) am/\(∀g∈am,cE+1<=g)/\
   lZ a ee aF/\(∀x∈ee,nI (cE+1) x.jq/\ub a.heap.size x.jq/\Bz am x.jq)/\(∀x∈ee,x.jq.oneCell'=G)/\hR a cE ae b ds 0/\Q [] w a/\cE+1<=a.heap.size/\ir b.length a2 b=(ir b.length (a2.drop i) (b.drop ds)).map (aF++·))
  (λav _=>match av with|[_,F _ i]=>a2.length-i.toNat|_=>0) ⟨0,T I 0 0,[],[],[],0,rfl,A,rfl,gJ _ _ _,B,lZ.D _,B,B,aV,aU,A,by simp[nM];cases ir b.length a2 b<;>rfl⟩ ?_
 rintro _ _ t ⟨i,af,am,ee,aF,ds,rfl,al,a4,u,v,a5,V,a6,W,y,cp,aw⟩;simp only[M,bi];refine⟨λa3=>?_,λbu=>?_⟩
 ·have z:i<a2.length:=A;refine(Ix.ek R y z).2 (gI F6 λcq bv bw cs=>f0 (cv:=[]) (c5:=[F H 0,F H 0,F H 0,F H 0,F H 0]) (da:=[]) vK bv rfl rfl rfl (uK a2[i]) λay bx bz ct=>?_);have bB:aC ay t.heap.size 232 (fd a2[i]):=by simpa[bF,gL]using bx
  have X:Q [] t ay:=bw.dP bz B B;have cu:=X.aI;have a7:=W.J X;obtain⟨cw,cx,cy,cz,cA,bC⟩:=oa bB;obtain⟨bD,aB,bE⟩:=qn a7;simp only[M,bC,aB];apply aH XU (agN a7 (bo _ (dX z)) (ao _ (dX z)));rintro cB aD ⟨aG,x,rfl,aI,p⟩;have cC:=aG.aI;refine gI C0 λcD bG bH cF=>f0 (cv:=[]) (c5:=fA uc) (da:=[]) tM bG rfl rfl rfl (SA aI) λac bJ bK cG=>?_;have bL:aC ac aD.heap.size 152 (fA x):=by simpa[bF,ls]using bJ
  have q:Q [] aD ac:=bH.dP bK B B;have cH:=q.aI;have bM:Q [] w ac:=((y.R X B).R aG (by simp;omega)).R q B;have bb:ir b.length (a2.drop i) (b.drop ds)=match a2[i].jT (b.drop ds)with|b5 e=>b5 (b.length-(b.drop ds).length,e)|bA (aa,dr)=>(ir b.length (a2.drop (i+1)) dr).map (aa::·):=by rw[ot z];simp only[ir];cases a2[i].jT (b.drop ds)<;>rfl
  have bR:=W.hm;cases ad:a2[i].jT (b.drop ds)with
  |error e=>
   rw[ad]at p;obtain⟨bT,aJ,ag⟩:=p;have aL:=ag.J q;obtain⟨bU,bV,aM⟩:=qn aL;simp only[M,aM,ne_eq,bT,not_false_eq_true,decide_true,hk hY];apply aH nz qS;rintro _ _ ⟨rfl,rfl⟩;rw[aw,bb,ad];refine⟨bM,?_⟩;simp only[nM];rw[e8];rw[show((b.length:Int)-((b.length-ds:Nat):Int))=(ds:Int)by omega];rfl
  |ok ai=>
   obtain⟨bI,cI⟩:=ai;rw[ad]at p;obtain⟨p,bc,bd,aJ,rfl,ag⟩:=p;have aL:=ag.J q;obtain⟨bU,bV,aM⟩:=qn aL;obtain⟨cJ,cK,cL,bW⟩:=u6 (x:=x) bL;simp only[M,aM,show decide ((0:Int)≠0)=U from rfl,bW];refine hw vN [ls x] rfl rfl (by simp[ls,fA,bF]) A A λcd bX be cM=>?_;have au:fu cd ac.heap.size 0 ([x].flatMap fA):=by have:=bX.cy;simpa[ls,bF]using this
   have bZ:Q [cE] ay cd:=(aG.R q B).R be B;have D:Q [cE] t cd:=(X.bw B).R bZ B;have b0:bP cd 152 3 af i (ee.flatMap fA) am:=u.J D (λg o f=>by have:=v g o;simp at f;omega);refine m8 (ak:=1) vN b0 au (by rw[kx w4];rfl) (by intro d bf;simp at bf;exact SA aI d bf) A (by unfold d0;omega) A λaX bg az b1 J aO _=>?_;rw[bq A A];have cO:=J.aI;have b2:∀g∈am,g<t.heap.size:=u.aL;have aP:Q [] aD cd:=q.R be B;have cP:Q [cE] t cd:=D;have cQ:=D.aI;have cR:=aP.aI;have b3:∀g∈az,cE+1<=g:=λg o=>(aO g o).elim (v g) (λh=>A);have b7:∀x∈ee,Bz [cE] x.jq:=λx L j l n m c f=>by have:=(V x L).1 j l n m c;simp at f;omega
   have b8:lZ cd ee aF:=a5.BA b7 D;have b9:lZ bg ee aF:=b8.BA (λx L=>(V x L).2.2) J;have bh:Bz am x.jq:=λj l n m c f=>by have:=bc j l n m c;have:=b2 j f;omega
   have ca:jE bg x bI:=EJ.BA (p.V aP) bh J;refine⟨⟨i+1,aX,az,ee++[x],aF++[bI],aJ,rfl,z,by simp[a4],by rw[hL];simpa using b1,b3,b9.uO ca,?_,?_,?_,((y.R D (λg o=>Z (by simp at o;omega))).R J (λg o=>Z (by have:=v g o;omega))),A,?_⟩,A⟩
   ·intro ap k;rcases b4.1 k with k|k
    ·obtain⟨cb,bj,cc⟩:=V ap k;refine⟨cb,bj.bw A,λj l n m c f=>?_⟩;rcases aO j f with f|f
     ·exact cc j l n m c f
     ·have:=bj j l n m c;omega
    ·simp at k;subst k;refine⟨bc.bw A,bd.bw A,λj l n m c f=>?_⟩;rcases aO j f with f|f
     ·exact bh j l n m c f
     ·have:=bd j l n m c;omega
   ·intro ap k;rcases b4.1 k with k|k
    ·exact a6 ap k
    ·simp at k;subst k;exact aI
   ·exact aV.s1 (ag.J aP) J (λg o=>by have:=v g o;omega)
   ·rw[aw,bb,ad];simp only;cases ir b.length (a2.drop (i+1)) (b.drop aJ)<;>simp[nM]
 ·obtain rfl:i=a2.length:=A;obtain⟨bD,aB,bE⟩:=qn W;obtain⟨aq,ar,rfl,cS,cU⟩:=c;simp only[M,aB,bi];rw[aw,aoh];have bR:=W.hm;refine⟨λa3=>?_,λbu=>?_⟩
  ·simp only[hk hY];apply aH nz qS;rintro _ _ ⟨rfl,rfl⟩;refine⟨y,?_⟩;have aQ:(b.drop ds).isEmpty=U:=by rw[List.isEmpty_eq_false_iff];intro cf;have:=congrArg jm cf;rw[e8]at this;simp at this;omega
   simp only[ir,aQ,nM,fc,if_false,e8];rw[show((b.length:Int)-((b.length-ds:Nat):Int))=(ds:Int)by omega];rfl
  ·refine⟨y,?_⟩;have aQ:(b.drop ds).isEmpty=G:=by rw[List.isEmpty_iff];exact uu A
   simp only[ir,aQ,nM,if_true,kJ];refine⟨af,ee,rfl,?_,a5,λj l n m c=>by have:=v _ (u.rt j l n m c);omega,λx L=>(V x L).1.bw A,a6⟩;rw[<-a4]at u;exact u.eF w4 A
section
open Go.RowKit
def nl.eF(h:nl w a aa l):aT a bs aa l:=by obtain⟨am,b,_,_⟩:=h;exact b.eF e2 A
def nl.wj(h:nl w a aa l):Q [] w a:=by obtain⟨am,_,_,b⟩:=h;exact b
def nl.EL(h:nl w a aa l)(b:Q [] bv w):nl bv a aa l:=by obtain⟨am,c,d,e⟩:=h;exact⟨am,c,λg f=>gz b.aI (d g f),b.R e B⟩
def IE{n:Int}:C.built 152 #[(0,F H n)].toList=E (fA ⟨n,cg,T I 0 0⟩).toArray:=K
def agP{d:Option es}{c:Nat}:C.built 152 #[(2,T d n c)].toList=E (fA ⟨0,cg,T d n c⟩).toArray:=K
def agQ(b:ee.length=n)(d:0<n)(ao:n<=1000)(e:i0.toList=((ee.map ls).zipIdx).map λah=>(ah.2,ah.1))
  (k:∀ae a,aT a fA ae ee->Q [] w a->ac ae a):W C (jR 146 n i0) w ac:=by
 refine hw vN (ee.map ls) e (by simp[b]) (by intro aa f;obtain⟨ap,-,rfl⟩:=fS.1 f;rfl) d A λa c g i=>?_;have h:(ee.map ls).flatMap (λaa=>aa.cells.toList)=ee.flatMap fA:=by rw[List.flatMap_map];rfl
 rw[h]at c;have:=p3 c;rw[b]at this;exact k _ _ this g
def agR(b:a2.length=n)(d:0<n)(ao:n<=1000)(e:i0.toList=((a2.map gL).zipIdx).map λah=>(ah.2,ah.1))
  (k:∀ae a,aT a fd ae a2->Q [] w a->ac ae a):W C (jR 149 n i0) w ac:=by
 refine hw As (a2.map gL) e (by simp[b]) (by intro aa f;obtain⟨ap,-,rfl⟩:=fS.1 f;rfl) d A λa c g i=>?_;have h:(a2.map gL).flatMap (λaa=>aa.cells.toList)=a2.flatMap fd:=by rw[List.flatMap_map];rfl
 rw[h]at c;have:=p3 c;rw[b]at this;exact k _ _ this g
def SB:qm kR:=O6
def oX{b:cw}(h:aC w k 41 (iS b bc)):
  (∀ac,aZ C (a4 3 (aE (E ⟨k,0,I⟩))) w ac↔ac (F H b.g2))/\(∀ac,aZ C (a4 3 (aE (E ⟨k,1,I⟩))) w ac↔ac (F H b.hH))/\
  (∀ac,aZ C (a4 3 (aE (E ⟨k,2,I⟩))) w ac↔ac (F H b.cP))/\(∀ac,aZ C (a4 34 (aE (E ⟨k,3,I⟩))) w ac↔ac bc)/\(∀ac,aZ C (a4 41 (aE (E ⟨k,0,I⟩))) w ac↔ac (jr b bc)):=
 ⟨λ_=>bl bZ (h.bh (af:=0)),λ_=>bl bZ (h.bh (af:=1)),λ_=>bl bZ (h.bh (af:=2)),λ_=>bl mc (h.bh (af:=3)),λ_=>gC (l:=iS b bc) F1 h.cy⟩
def li.EL{ab:S}(h:li w a2 aF ab a)(c:Q [] bv w):li bv a2 aF ab a:=by
 unfold li at*;cases d:g9 a2 aF with
 |error e=>rw[d]at h;exact⟨h.1,c.R h.2 B⟩
 |ok b=>rw[d]at h;obtain⟨ae,e,f⟩:=h;exact⟨ae,e,f.EL c⟩
def agS{be:aU->List S}{l:List aU}(h:aT w be bc l):C.built 152 #[(2,bc)].toList=E (fA ⟨0,cg,bc⟩).toArray:=by obtain⟨d,c,rfl,_⟩:=h;exact agP
def IF:a0 C 63 #[] w λae a=>aT a fd ae kR/\Q [] w a:=by refine a9 .D 0 Tryz.func63 K rfl λa1 b=>?_;simp+decide only[↓a8,ba,Tryz.f63];subst b;refine(bY (gT:=(fd ⟨1,8,0,1125899906842624,0⟩).toArray) K).2 ?_;refine(bY (gT:=(fd ⟨1,4,0,1048576,0⟩).toArray) K).2 ?_;refine(bY (gT:=(fd ⟨1,8,0,1099511627776,0⟩).toArray) K).2 ?_;refine(bY (gT:=(fd ⟨3,0,1,8,60⟩).toArray) K).2 ?_;refine agR (a2:=kR) rfl A A rfl λae a h c=>?_;exact⟨h,c⟩
def u9(b:cw)(bc:S):List l9:=[⟨b.g2,cg,T I 0 0⟩,⟨b.hH,cg,T I 0 0⟩,⟨b.cP,cg,T I 0 0⟩,⟨0,cg,bc⟩]
def agT{b:cw}(h:aT w dV bc b.a7):lZ w (u9 b bc) b.h8:=by
 refine⟨rfl,λi x ap a c=>?_⟩;rcases i with _|_|_|_|i
 ·simp[u9,cw.h8]at a c;subst a;subst c;exact⟨rfl,rfl,aT.gW _ _⟩
 ·simp[u9,cw.h8]at a c;subst a;subst c;exact⟨rfl,rfl,aT.gW _ _⟩
 ·simp[u9,cw.h8]at a c;subst a;subst c;exact⟨rfl,rfl,aT.gW _ _⟩
 ·simp[u9,cw.h8]at a c;subst a;subst c;exact⟨rfl,rfl,h⟩
 ·simp[u9]at a
def agU{b:cw}(h:b.a7.length<=9223372036854775806):∀ap∈b.h8,ap.df.length<=9223372036854775806:=by intro ap a;simp[cw.h8]at a;rcases a with rfl|rfl|rfl|rfl<;>simp<;>omega
def SC{b:cw}(k:∀ae a,aT a fA ae (u9 b bc)->Q [] w a->ac ae a):
  W C (jR 146 4 #[(0,ls ⟨b.g2,cg,T I 0 0⟩),(1,ls ⟨b.hH,cg,T I 0 0⟩),(2,ls ⟨b.cP,cg,T I 0 0⟩),(3,ls ⟨0,cg,bc⟩)]) w ac:=
 agQ (ee:=u9 b bc) rfl A A rfl k
def SD{b:cw}(h:aT w dV bc b.a7)(v:b.a7.length<=9223372036854775806):a0 C 108 #[jr b bc] w λae a=>li w kR b.h8 ae a:=by
 refine a9 MV 1 Tryz.func108 K rfl λa1 y=>?_;simp+decide only[↓a8,ba,MV,Tryz.f108];subst y;refine eA λaA z A ah=>?_;have o:aC aA w.heap.size 41 (iS b bc):=z;generalize ai:w.heap.size=an at*;have p:=cD [] aA;obtain⟨D,J,L,R,aj⟩:=oX (bD o);simp only[M,D,J,L,R];refine(bY IE).2 ((bY IE).2 ((bY IE).2 ((bY (agS h)).2 ?_)));have q:∀(c d:S)(a:aN),Q [] aA a->aT a fd c kR->aT a fA d (u9 b bc)->
   W C (ck 112 #[c,d]) a λr V=>aV C (gH r 0) λX=>aV C (gH r 1) λac=>o5 (λae a=>li w kR b.h8 ae a) (gd (bQ #[X,ac])) V:=by
  intro c d a ad g i;have s:=A.R ad B;have t:=agT (b:=b) (h.V s);apply aH yo (zg (aF:=b.h8) g SB (by simp[kR]) i t.1 t.2 (by simp[cw.h8]) (agU v));intro ab ak f;have ag:=f.EL s;unfold li at f;have cz:∃x ap,ab=bQ #[x,ap]:=by
   cases u:g9 kR b.h8 with
   |error e=>rw[u]at f;exact⟨_,_,f.1⟩
   |ok l=>rw[u]at f;obtain⟨ae,e,_⟩:=f;exact⟨_,_,e⟩
  obtain⟨x,ap,rfl⟩:=cz;simp only[cV,cX];exact ag
 refine⟨?_,?_⟩
 ·apply aH Gk IF;rintro c ax ⟨g,k⟩;have m:=(bD o).J k B;exact(dz mc (aa:=bc) (m.bh (af:=3))).2 ((dz bZ (m.bh (af:=2))).2 ((dz bZ (m.bh (af:=1))).2 ((dz bZ (m.bh (af:=0))).2 (SC (b:=b) (bc:=bc) λd n i j=>q c d n ((p.R k B).R j B) (g.V j) i))))
 ·refine SC (b:=b) (bc:=bc) λd ax i k=>aH Gk IF ?_;rintro c n ⟨g,j⟩;exact q c d n ((p.R k B).R j B) g (i.V j)
def agV(b:cw):(b.ei=G/\g9 kR b.h8=bA (xa b))\/(b.ei=U/\∃e,g9 kR b.h8=b5 e):=by
 cases a:g9 kR b.h8 with
 |error e=>
  right;refine⟨?_,e,rfl⟩;cases h:b.ei with
  |false=>rfl
  |true=>rw[GX h]at a;cases a
 |ok l=>have:=abv a;exact Y ⟨this.1,by rw[this.2]⟩
def SE{b:cw}(h:aT w dV bc b.a7)(l:b.a7.length<=9223372036854775806):a0 C 64 #[jr b bc] w λae a=>ae=aK b.bt/\Q [] w a:=by
 refine a9 .D 1 Tryz.func64 K rfl λa1 m=>?_;simp+decide only[↓a8,ba,Tryz.f64];subst m;refine eA λaA n f u=>?_;have i:aC aA w.heap.size 41 (iS b bc):=n;obtain⟨v,x,y,z,o⟩:=oX i;simp only[o];apply aH LB (SD (h.V f) l);intro ab ax c;unfold li at c;unfold cw.bt;rcases agV b with⟨d,g⟩|⟨d,e,g⟩
 ·rw[g]at c;obtain⟨ae,rfl,j⟩:=c;simp only[cV,cX];apply(ry dk).2;obtain⟨A,p,q,D,J⟩:=oX (i.J j.wj B);simp only[M,p,q,k9,bi];have k:=f.R j.wj B;refine⟨λr=>⟨by rw[d,decide_eq_true (show 0<b.hH from r)];rfl,k⟩,λs=>⟨by rw[d,decide_eq_false s];rfl,k⟩⟩
 ·rw[g]at c;obtain⟨rfl,t⟩:=c;simp only[cV,cX];apply(z7 dk).2;simp only[M];exact⟨by rw[d];rfl,f.R t B⟩
def agW{b:cw}(h:aT w dV bc b.a7)(e:b.a7.length<=9223372036854775806):a0 C 222 #[jr b bc] w λae a=>nl w a ae b.ch:=by
 refine a9 .D 1 Tryz.func222 K rfl λa1 j=>?_;simp+decide only[↓a8,ba,Tryz.f222];subst j;refine eA λaA k f r=>?_;have g:aC aA w.heap.size 41 (iS b bc):=k;obtain⟨s,t,u,v,l⟩:=oX g;simp only[l];apply aH Lu (SE (h.V f) e);rintro _ ax ⟨rfl,i⟩;have c:=f.R i B;obtain⟨x,y,z,A,m⟩:=oX (g.J i B);simp only[M,cG,m];refine⟨λn=>?_,λo=>?_⟩
 ·rw[cw.AG (by simpa using n)];exact⟨[],gJ _ _ _,B,c⟩
 ·have p:=O8 (b:=b) (by simpa using o);apply aH LB (SD (h.V c) e);intro ab D d;unfold li at d;rw[p]at d;obtain⟨ae,rfl,q⟩:=d;simp only[cV,cX];exact q.EL c
def SF{b:cw}(h:aT w dV bc b.a7)(d:b.a7.length<=9223372036854775806)(k:∀ae a,aT a bs ae b.ch->Q [] w a->ac ae a):W C (ck 222 #[jr b bc]) w ac:=
 aH YU (agW h d) (λae a c=>k ae a c.eF c.wj)
def agX{b:cw}(h:aT w dV bc b.a7)(c:b.a7.length<=9223372036854775806)(k:∀a,Q [] w a->ac (aK b.bt) a):W C (ck 64 #[jr b bc]) w ac:=
 aH Lu (SE h c) (λae a⟨d,e⟩=>by subst d;exact k a e)
def SG:C.built 41 (#[]:Array (Nat×S)).toList=E (iS ⟨0,0,0,[]⟩ (T I 0 0)).toArray:=K
def agY{d b c:Int}{ah:Option es}{l:List ByteArray}:C.built 41 #[(0,F H d),(1,F H b),(2,F H c),(3,T ah n ak)].toList=E (iS ⟨d,b,c,l⟩ (T ah n ak)).toArray:=K
def agZ{d b c:Int}{l:List ByteArray}{be:aU->List S}{dK:List aU}(h:aT w be bc dK):C.built 41 #[(0,F H d),(1,F H b),(2,F H c),(3,bc)].toList=E (iS ⟨d,b,c,l⟩ bc).toArray:=by obtain⟨x,ap,rfl,_⟩:=h;exact agY
def ud:cw:=⟨0,0,0,[]⟩
def va(e:Except ex cw):cw:=match e with
 |bA b=>b
 |b5 _=>ud
def IG(e:Except ex cw):Option ex:=match e with
 |bA _=>I
 |b5 e=>E e
def ag0{d b c ag:e3}(h:lZ w ee [d,b,c,ag]):∃a e9 e f,ee=[a,e9,e,f]/\jE w a d/\jE w e9 b/\jE w e c/\jE w f ag:=by obtain⟨i,g⟩:=h;rcases ee with _|⟨a,_|⟨e9,_|⟨e,_|⟨f,_|⟨ap,bm⟩⟩⟩⟩⟩<;>simp at i;exact⟨a,e9,e,f,rfl,g 0 _ _ rfl rfl,g 1 _ _ rfl rfl,g 2 _ _ rfl rfl,g 3 _ _ rfl rfl⟩
def ag1{af:S}{j e9 l e:l9}{d b c ag:e3}(D:ee=[j,e9,l,e])(J:aT w fA af ee)(L:jE w j d)(cR:jE w e9 b)(dI:jE w l c)(n:jE w e ag)
  (k:∀a,aC a w.heap.size 41 (iS ⟨d.aR,b.aR,c.aR,ag.df⟩ e.jq)->Q [] w a->ac (aE (E ⟨w.heap.size,0,I⟩)) a):
  aV C (fY 146 af (F H 0)) λN=>aV C (gB 152 N 0) λo=>aZ C (a4 3 o) (w.drew) λp=>
  aV C (fY 146 af (F H 1)) λO=>aV C (gB 152 O 0) λq=>aZ C (a4 3 q) (w.drew) λr=>
  aV C (fY 146 af (F H 2)) λP=>aV C (gB 152 P 0) λs=>aZ C (a4 3 s) (w.drew) λt=>
  aV C (fY 146 af (F H 3)) λR=>aV C (gB 152 R 2) λu=>aZ C (a4 34 u) (w.drew) λv=>
  aV C (nw 41 #[(0,p),(1,r),(2,t),(3,v)]) λV=>
  W C (hV 41) (w.drew) λy f=>
  gu C (a4 34 u) v f<|gu C (a4 3 s) t f<|gu C (a4 3 q) r f<|gu C (a4 3 o) p f<|
  W C (dC 41 y V) f λ_ X=>ac y X:=by
 have g:=cD [] w;have aoG:∀(i:Nat)(x:l9)(ai:Nat)(aO:co)(m:S)(ac:S->S->Prop),ee[i]?=E x->wY C 152 ai ai=G->fZ C aO=G->(fA x)[ai]?=E m->
   (∀cs:es,(∀z,Q [] w z->z.cell? cs=E m)->ac (aE (E cs)) m)->
   ∀a,Q [] w a->(aV C (fY 146 af (F H (i:Nat))) λaa=>aV C (gB 152 aa ai) λc=>aZ C (a4 aO c) a λae=>ac c ae):=by
  intro i x ai aO m ac ab ad ah aj ak a am;obtain⟨al,an⟩:=fi.1 ab;exact Bx.gc J am al ad ah (by rw[an];exact aj) ak
 subst D;refine aoG 0 j 0 3 _ _ rfl K bZ rfl (λaA ao=>?_) _ g;refine aoG 1 e9 0 3 _ _ rfl K bZ rfl (λaB ap=>?_) _ g;refine aoG 2 l 0 3 _ _ rfl K bZ rfl (λaD aq=>?_) _ g;refine aoG 3 e 2 34 _ _ rfl K mc rfl (λaF ar=>?_) _ g;refine(bY (gT:=(iS ⟨j.aR,e9.aR,l.aR,ag.df⟩ e.jq).toArray) (agZ n.2.2)).2 (gI CY λau A av aw=>?_);rw[show w.drew.heap.size=w.heap.size from rfl]at A aw⊢;have h:Q [] w au:=g.R av B;refine(dz mc (ar _ h)).2 ((dz bZ (aq _ h)).2 ((dz bZ (ap _ h)).2 ((dz bZ (ao _ h)).2 (f0 (cv:=[]) (c5:=iS ud (T I 0 0)) (da:=[]) yg A rfl rfl rfl (yy n.2.2.aW) λax ay az aG=>k ax ?_ (h.R az B)))));have:=ay;rw[L.1,cR.1,dI.1]at this;simpa[bF]using this
def SH(w:aN)(l:List UInt8)(ab:S)(a:aN):Prop:=Q [] w a/\∃bc,ab=bQ #[jr (va (oI l)) bc,ff (IG (oI l))]/\aT a dV bc (va (oI l)).a7/\(va (oI l)).a7.length<=255/\nI w.heap.size bc
def ag2(aj:aT w bs ae l)(ak:l.length<=4611686018427387904):a0 C 26 #[ae] w λab a=>SH w l ab a:=by
 refine a9 Mk 1 Tryz.func26 K rfl λa1 al=>?_;simp+decide only[↓a8,ba,Mk,Tryz.f26];subst al;refine gI CY λaA am ao aY=>?_;have ap:aC aA w.heap.size 41 (iS ud (T I 0 0)):=am;generalize a2:w.heap.size=an at*;apply aH Gk IF;rintro a3 ax ⟨aq,p⟩;have q:Q [] w ax:=ao.R p B;apply aH Db (EK aq SB (by simp[kR]) (aj.V q) ak);rintro a5 j ⟨A,m⟩;have D:Q [] w j:=q.R A B;have r:aC j an 41 (iS ud (T I 0 0)):=(ap.J p B).J A B;have a6:=p.aI;have dN:∀(e:ex)(a:aN),Q [] w a->aC a an 41 (iS ud (T I 0 0))->oI l=b5 (.d2 Dt 0 e)->
   W C (ck 59 #[(bO (eS #[98,97,116,99,104,46,71,101,116])),(F H 0),hQ e]) a λar au=>
   W C (dC 41 (aE (E ⟨an,0,I⟩)) (jr ud (T I 0 0))) au λ_ J=>
   aZ C (a4 41 (aE (E ⟨an,0,I⟩))) J λav=>o5 (λab a=>SH w l ab a) (gd (bQ #[av,ar])) J:=by
  intro e a aw ay g;apply aH nz Dm;rintro _ _ ⟨rfl,rfl⟩;refine f0 (cv:=[]) (c5:=iS ud (T I 0 0)) (da:=[]) yg ay rfl rfl rfl (yy rfl) λL az f a7=>?_;obtain⟨aB,aD,aG,aI,s⟩:=oX (b:=ud) (bc:=T I 0 0) (by simpa[jr,bF]using az);simp only[s];refine⟨aw.R f (by simp;omega),T I 0 0,?_,?_⟩
  ·rw[g];rfl
  ·rw[g];exact⟨aT.gW _ _,by simp[va,ud],nI.D _⟩
 cases h:mG kR l with
 |error ai=>
  obtain⟨i,k⟩:=ai;rw[h]at m;subst m;simp only[cV,cX];apply(rz dk).2;simp only[M];exact(bY SG).2 (dN (.d2 vG i (.dD k)) j D r (by unfold oI;rw[h]))
 |ok aF=>
  rw[h]at m;obtain⟨af,ee,rfl,aJ,aL,bb,aM,bd⟩:=m;obtain⟨d,b,c,ag,rfl⟩:=abx h;have aO:=FL (Ah h).1 ag B;obtain⟨be,e9,bf,o,rfl,aP,cR,cC,R⟩:=ag0 aL;have V:=aM o B;simp only[cV,cX];apply(fp dk).2;simp only[kN];refine ag1 rfl aJ aP cR cC R λaQ X t=>?_;have aR:=D.R t B;have bg:an<j.heap.size:=r.aL;have aa:=r.J t B;generalize j.heap.size=cE at*;obtain⟨aB,aD,aG,aI,s⟩:=oX X;simp only[s];have u:aT aQ dV o.jq ag.df:=R.2.2.V t;refine agX u (show ag.df.length<=_ by omega) λL f=>?_;have ac:=aR.R f B;have v:oI l=if(⟨d.aR,b.aR,c.aR,ag.df⟩:cw).bt then bA ⟨d.aR,b.aR,c.aR,ag.df⟩else b5 (.d2 Dt 0 (.dD 2)):=by unfold oI;rw[h]
  simp only[M,cG];refine⟨λaS=>?_,λad=>?_⟩
  ·apply(bY SG).2;simp only[hk hY];exact dN (.dD 2) L ac (aa.J f B) (by rw[v,if_neg (by simpa using aS)])
  ·obtain⟨bh,bi,bj,bk,aU⟩:=oX (X.J f B);simp only[aU];refine f0 (cv:=[]) (c5:=iS ud (T I 0 0)) (da:=[]) yg (aa.J f B) rfl rfl rfl (yy u.aW) λbl aV ah bm=>?_;obtain⟨bn,bo,bp,bq,aW⟩:=oX (b:=⟨d.aR,b.aR,c.aR,ag.df⟩) (bc:=o.jq) (by simpa[jr,bF]using aV);simp only[aW];refine⟨ac.R ah (by simp;omega),o.jq,?_,?_⟩
   ·rw[v,if_pos (by simpa using ad)];rfl
   ·rw[v,if_pos (by simpa using ad)];refine⟨(u.V f).J ah (λx y n z g aX=>?_),aO,λx y n z g=>?_⟩
    ·have:=V x y n z g;simp at aX;omega
    ·have:=V x y n z g;have:=q.aI;omega
def SI(b:aT w bs ae l)(c:l.length<=4611686018427387904)(k:∀bc a,aT a dV bc (va (oI l)).a7->(va (oI l)).a7.length<=255->nI w.heap.size bc->Q [] w a->ac (bQ #[jr (va (oI l)) bc,ff (IG (oI l))]) a):W C (ck 26 #[ae]) w ac:=
 aH W8 (ag2 b c) (λab a⟨d,bc,e,f,g,h⟩=>by subst e;exact k bc a f g h d)
end
def ue{ah:Int×ByteArray}(h:aC w b 70 (hX ah)):
  (∀ac,aZ C (a4 3 (aE (E ⟨b,0,I⟩))) w ac↔ac (F H ah.1))/\(∀ac,aZ C (a4 9 (aE (E ⟨b,1,I⟩))) w ac↔ac (bO ah.2))/\(∀ac,aZ C (a4 70 (aE (E ⟨b,0,I⟩))) w ac↔ac (qP ah)):=
 ⟨λ_=>bl bZ (h.bh (af:=0)),λ_=>bl oD (h.bh (af:=1)),λ_=>gC (l:=hX ah) F3 h.cy⟩
def SJ:eH C 35 70 2 hX qP:=eH.rx C2 yh CK F3
def hJ{x:kQ}(h:aC w b 37 (eb x)):
  (∀ac,aZ C (a4 3 (aE (E ⟨b,0,I⟩))) w ac↔ac (F H x.dF))/\(∀ac,aZ C (a4 33 (aE (E ⟨b,1,I⟩))) w ac↔ac (F H x.iE))/\
  (∀ac,aZ C (a4 3 (aE (E ⟨b,2,I⟩))) w ac↔ac (F H x.cu))/\(∀ac,aZ C (a4 3 (aE (E ⟨b,3,I⟩))) w ac↔ac (F H x.cS))/\
  (∀ac,aZ C (a4 34 (aE (E ⟨b,4,I⟩))) w ac↔ac x.pb)/\(∀ac,aZ C (a4 35 (aE (E ⟨b,5,I⟩))) w ac↔ac x.mH)/\(∀ac,aZ C (a4 37 (aE (E ⟨b,0,I⟩))) w ac↔ac (je x)):=
 ⟨λ_=>bl bZ (h.bh (af:=0)),λ_=>bl Ak (h.bh (af:=1)),λ_=>bl bZ (h.bh (af:=2)),λ_=>bl bZ (h.bh (af:=3)),λ_=>bl mc (h.bh (af:=4)),λ_=>bl FQ (h.bh (af:=5)),λ_=>gC (l:=eb x) F0 h.cy⟩
def IH:a0 C 179 #[] w λae a=>aT a fd ae lc/\Q [] w a:=by refine a9 .D 0 Tryz.func179 K rfl λa1 b=>?_;simp+decide only[↓a8,ba,Tryz.f179];subst b;refine(bY (gT:=#[F H 1,F H 4,F H 0,F H 4294967295,F H 0]) K).2 ?_;refine(bY (gT:=#[F H 1,F H 1,F H 0,F H 255,F H 0]) K).2 ?_;refine(bY (gT:=#[F H 1,F H 8,F H 0,F H 9223372036854775807,F H 0]) K).2 ?_;refine(bY (gT:=#[F H 1,F H 8,F H 0,F H 9223372036854775807,F H 0]) K).2 ?_;refine(bY (gT:=#[F H 3,F H 0,F H 0,F H 8,F H 24]) K).2 ?_;refine(bY (gT:=#[F H 3,F H 0,F H 0,F H 4,F H 608]) K).2 ?_;refine hw As (lc.map gL) rfl rfl (by simp[lc,gL,fd,bF]) A A λaA c d e=>?_;exact⟨⟨_,_,rfl,by simp[lc],Z ⟨_,_,rfl,c.cy⟩⟩,d⟩
def ag3{ah:Int×ByteArray}(ao:ah.2.size<=9223372036854775799):a0 C 234 #[qP ah] w λae a=>ae=bO (lL ah)/\Q [] w a:=by
 refine a9 NS 1 Tryz.func234 K rfl λa1 m=>?_;simp+decide only[↓a8,ba,NS,Tryz.f234];subst m;refine eA λbv n o y=>x6 ky (l:=8) A (by unfold d0;omega) λaA p c z=>?_;have q:aC aA w.heap.size 70 (hX ah):=n.J c B;simp only[M];generalize D:w.heap.size=an at*;refine c1 (λaF a=>∃i:Nat,aF=[F H i]/\i<=8/\aC a bv.heap.size 5 ((eU ah.1 i).flatMap bs++cN (8-i) (F cl 0))/\aC a an 70 (hX ah)/\Q [] w a)
  (λaF _=>match aF with|[F _ i]=>8-i.toNat|_=>0) ⟨0,rfl,A,p,q,o.R c B⟩ ?_
 rintro _ _ ax ⟨i,rfl,al,b,d,e⟩;obtain⟨r,s,J⟩:=ue d;simp only[M,r,bi];have f:((eU ah.1 i).flatMap bs).length=i:=by rw[kx e2,jp,gA]
 refine⟨λL=>?_,λR=>?_⟩
 ·have g:i<8:=A;have h:(0:Int)<=8*i:=A;rw[bq A A];simp only[fv kd tP,l8 h (show(8*(i:Int))<=18446744073709551615 by omega)];apply(nS h).2;have t:min (8*(i:Int)).toNat H.bits=8*i:=by
   rw[my]
   ·omega
   ·show _<=64;omega
  rw[t];simp only[fv kd oE,pa,KF];apply(hP fP el g).2;simp only[M,gA];refine eK el b (by rw[di,f,tt];omega) rfl λV j k W=>?_;rw[bq A A];refine⟨⟨i+1,rfl,g,?_,d.J k (by simp;omega),e.R k (by simp;omega)⟩,A⟩;have u:8-i=(8-(i+1))+1:=A;rw[u,KG f]at j;rw[CF,hL];simpa[bs]using j
 ·obtain rfl:i=8:=A;rw[k6,List.replicate_zero,kJ]at b;have v:aT ax bs (T (E ⟨bv.heap.size,0,I⟩) 8 8) (eU ah.1 8):=⟨_,8,by rw[jp],by rw[jp];omega,Z ⟨_,_,rfl,b.cy⟩⟩;apply(w3 Ss s0 v).2;simp only[M,s];have x:(eS (eU ah.1 8).toArray).size=8:=by show(eU ah.1 8).toArray.size=8;rw[List.size_toArray,jp]
  exact(Vz (by rw[x];omega)).2 ⟨rfl,e⟩
def ag4{s:ByteArray}(ao:8<=s.size)(ac:s.size<=9223372036854775807):a0 C 180 #[bO s] w λae a=>ae=qP (pc s)/\Q [] w a:=by
 refine a9 Nw 1 Tryz.func180 K rfl λa1 m=>?_;simp+decide only[↓a8,ba,Nw,Tryz.f180];subst m;refine gI Aq λaA n o ad=>(KC s0 A A).2 ((bY (gT:=#[F H 0,bO (s.extract 8 s.size)]) K).2 (gI Aq λax p e af=>f0 (cv:=[]) (c5:=hX (0,cg)) (da:=[]) yh p rfl rfl rfl (Ae (0,s.extract 8 s.size)) λf q g ag=>?_));have r:aC f aA.heap.size 70 (hX (0,s.extract 8 s.size)):=by simpa[bF,hX]using q
 have t:=(n.J e B).J g (by simp;omega);have u:Q [] w f:=(o.R e B).R g (by simp;omega);generalize ah:w.heap.size=an at*;generalize ai:aA.heap.size=v at*;refine c1 (λaF a=>∃i:Nat,aF=[F H i]/\i<=8/\aC a v 70 (hX (H.wrap (fe ((eO s).take i)),s.extract 8 s.size))/\aC a an 70 (hX (0,cg))/\Q [] w a)
  (λaF _=>match aF with|[F _ i]=>8-i.toNat|_=>0) ⟨0,rfl,A,r,t,u⟩ ?_
 rintro _ _ aj ⟨i,rfl,al,c,h,j⟩;obtain⟨y,ak,am⟩:=ue (bD c);simp only[M,y,bi];have ap:=oy s;refine⟨λaq=>?_,λar=>?_⟩
 ·have z:i<8:=A;have k:(0:Int)<=8*i:=A;apply(z2 s0 A).2;rw[bq A A];simp only[fv oE kd,fv kd tP,l8 k (show(8*(i:Int))<=18446744073709551615 by omega)];apply(w0 k).2;have D:min (8*(i:Int)).toNat H.bits=8*i:=by
   rw[my]
   ·omega
   ·show _<=64;omega
  rw[D];have J:i<(eO s).length:=A;have au:=((eO s)[i]).toNat_lt;have L:fe ((eO s).take i)<2^(8*i):=by have:=tL ((eO s).take i);rw[ea,my A,show 256=2^8 from rfl,<-Nat.pow_mul]at this;exact this
  have av:2^(8*i)*256<=2^64:=by rw[show 256=2^8 from rfl,<-Nat.pow_add];exact pU A A
  have aw:2^(8*i)<=2^56:=pU A A;have ay:((eO s)[i]).toNat*2^(8*i)<=255*2^(8*i):=mw _ A;have bx:(s[i]'A)=(eO s)[i]:=rfl;rw[bx,bq (x:=(((eO s)[i]).toNat:Int)) A A];have R:(((eO s)[i].toNat:Nat):Int)*2^(8*i)=(((eO s)[i].toNat*2^(8*i):Nat):Int):=by rw[uq,Int.natCast_pow];rfl
  rw[R,bq (x:=((fe ((eO s).take i):Nat):Int)) A A];have V:fe ((eO s).take (i+1))=fe ((eO s).take i)+(eO s)[i].toNat*2^(8*i):=by rw[jO J,CG,ea,my A,show 256=2^8 from rfl,<-Nat.pow_mul]
  apply(Ag L A).2;rw[<-V];try simp only[M]
  refine eK hl (bD c) (by simp[hX]) rfl λl d b W=>?_;rw[bq (x:=(i:Int)+1) A A];refine⟨⟨i+1,rfl,z,by simpa[hX]using d,(bD h).J b (by simp;omega),j.h6.R b (by simp;omega)⟩,A⟩
 ·obtain rfl:i=8:=A;obtain⟨az,aB,X⟩:=ue c;simp only[M,X];refine f0 (cv:=[]) (c5:=hX (0,cg)) (da:=[]) yh h rfl rfl rfl (Ae _) λl d b W=>?_;have aa:aC l an 70 (hX (pc s)):=by simpa[bF,qP,pc]using d
  obtain⟨aD,aG,ab⟩:=ue aa;simp only[M,ab];exact⟨rfl,j.R b (by simp;omega)⟩
end Go.Proofs.YtepeilglbedgdaaGreatDoor.c7
namespace Go.Proofs.YtepeilglbedgdaaGreatDoor
open Go.X
attribute[local irreducible]Go.X.W
variable{aD am bU ez:List Nat}{a bv w:aN}{a2:List ca}{a6 aQ ab af ag ah ai ak b bj bu cR i io j k n s t:Nat}{aB:Nat -> Bool}{aU:Type}{aa ae bc bm jn vx:S}{ac:S -> aN -> Prop}{aj:ca}{al ay bB vy:Nat -> Nat -> Bool}{ar av:co}{au:eW}{c:dR}{e gh:eG}{i0:Array (Nat × S)}{x:iX}
section
open Go.RowKit ey
variable{aG fo:List b3}{aq:b3}
section
variable{l:List (List UInt8)}{b x:List UInt8}
def ag5(w a:aN)(c:dR)(l:List (List UInt8))(ae:S):Prop:=(lf c.aJ l=U/\ae=T I 0 0)\/(lf c.aJ l=G/\(∃g b,ae=T (E ⟨g,0,I⟩) c.aJ b)/\aT a eL ae (qk c.aJ (g5 l))/\gx w.heap.size ae)
def ag6(k:Nat):(cN k jL).flatMap eL=(cN (k*108) (0:UInt8)).flatMap bs:=by
 induction k with
 |zero=>rfl
 |succ k a=>
  rw[List.replicate_succ,iA,a,iM,sq,Nat.add_comm,<-List.replicate_append_replicate,hL];rfl
def II{ak:Nat}:∀{l:List (List UInt8)}{i:Nat},(∀ap∈l,ap.length+2<=ak)->l.length<=i->(g5 l).length<=i*ak
 |[],_,_,_=>by simp[g5]
 |ap::l,0,_,h=>by simp at h
 |ap::l,i+1,a,b=>by
  have e:(g5 (ap::l)).length=2+ap.length+(g5 l).length:=by simp[g5,ga];omega
  have:=II (l:=l) (i:=i) (λbm c=>a bm (ev _ c)) (by simpa using b);have:=a ap fE;rw[iM,sq];omega
def ag7(aw:List UInt8)(n:Nat):(aw.flatMap bs).take n=(aw.take n).flatMap bs:=by have:=Cv e2 aw n;rwa[gA]at this
def SK(aw:List UInt8)(n:Nat):(aw.flatMap bs).drop n=(aw.drop n).flatMap bs:=by have:=z1 e2 aw n;rwa[gA]at this
def ag8(aw:List UInt8)(n:Nat):aw.drop (min aw.length n)=aw.drop n:=by
 by_cases h:n<=aw.length
 ·rw[Nat.min_eq_right h]
 ·rw[my A,aoh,uu A]
def ag9(b:List UInt8)(a:j<k):((jh 108 j b).flatten++cN ((k-j)*108) (0:UInt8)).take (j*108)++(b.drop (j*108)).take 108++((jh 108 j b).flatten++cN ((k-j)*108) (0:UInt8)).drop (j*108+((b.drop (j*108)).take 108).length)=(jh 108 (j+1) b).flatten++cN ((k-(j+1))*108) 0:=by
 have c:((b.drop (j*108)).take 108).length<=108:=by rw[ea];omega
 rw[PX];generalize(b.drop (j*108)).take 108=aO at*;rw[HE (ak:=(k-j)*108) (PY 108 j b) rfl A];unfold xj;rw[<-gq,gq (_++aO),List.replicate_append_replicate];congr 2;omega
def IJ(p:c.bp)(ai:ju w aa l)(bh:l.length<=10000):a0 C 209 #[fQ c,aa] w λae a=>ag5 w a c l ae/\Q [] w a:=by
 have aH:c.aJ<=8:=by have:=p.jY;have:=p.i6;omega
 have aI:=p.kh;obtain⟨bj,cC,aJ⟩:=ai.cY;refine a9 NG 2 Tryz.func209 K rfl λa1 aL=>?_;simp+decide only[↓a8,ba,NG,Tryz.f209];subst aL;refine kX λaA aM aj bk=>?_;have am:∀ac:S->Prop,aV C (dG .len #[183] #[aa]) ac↔ac (F H l.length):=λac=>by rw[aJ];exact zY pe
 simp only[M,am];apply c1 (λf a=>∃(i:Nat)(b1:S),f=[b1,F H i]/\i<=l.length/\ql aA a b1 (g5 (l.take i))/\(∀ap∈l.take i,ap≠[]/\ap.length+2<=c.aJ*108)/\Q [] aA a) (λf _=>match f with|[_,F _ i]=>l.length-i.toNat|_=>0) ⟨0,_,rfl,A,⟨[],by simpa[g5]using gJ _ _ _,B⟩,B,Q.b0 _ _⟩;rintro _ _ ax ⟨i,b1,rfl,al,v,q,z⟩;have y:=aj.R z B;have D:=aM.J z B;simp only[M,bi];refine⟨λaO=>?_,λaP=>?_⟩
 ·have r:i<l.length:=A;refine ai.ek Ez y r λae J=>?_;rw[iI r]at J;have an:l[i]∈l:=dX r;obtain⟨bl,bm,rfl,bn,bo⟩:=id J;simp only[M];refine bT (λf a=>f=[aK (decide (l[i].length=0)||decide (c.aJ*108<l[i].length+2))]/\Q [] ax a) ?_ ?_
  ·simp only[M];by_cases o:l[i].length=0
   ·rw[o];simp only[M,Int.natCast_zero,decide_true];exact⟨B,Q.b0 _ _⟩
   ·rw[decide_eq_false (show¬((l[i].length:Int)=0)by omega)];simp only[M];refine(fj D).2 (Sa p λs d=>?_);simp only[M];rw[bq A A];refine⟨?_,d⟩;rw[decide_eq_false o,Bool.false_or,show decide (((c.aJ*108:Nat):Int)-2<(l[i].length:Int))=decide (c.aJ*108<l[i].length+2)from decide_eq_decide.2 A]
  rintro _ _ s ⟨rfl,d⟩;simp only[M,cG];refine⟨λL=>⟨Y ⟨?_,rfl⟩,y.R d B⟩,λt=>?_⟩
  ·refine Bool.eq_false_iff.2 λR=>?_;obtain⟨aq,ar,aQ⟩:=xk.1 R;have et:=ar _ an;have gb:=AP an;have aR:=List.length_pos_iff.2 et;simp only[pP,decide_eq_true_eq]at L;omega
  ·simp only[Bool.or_eq_false_iff,decide_eq_false_iff_not]at t;have aS:l[i]≠[]:=λe=>t.1 (by rw[e];rfl);have aT:(g5 (l.take i)).length<=i*864:=II (λap m=>by have:=(q ap m).2;omega) (by rw[ea];omega);refine(fv kd oE).2 ((nS A).2 ((fv kd oE).2 ?_));have aU:((l[i].length:Nat):Int)/2^min (8:Int).toNat H.bits=(l[i].length:Int)/256:=rfl;rw[aU];simp only[pa];refine Sc A λbp V W u=>?_;have aW:Q [] aA V:=(z.R d B).R u B;refine Bt ((v.V d).V u) aW W (by simp[ga];omega) λbr aX aY au=>Bt aY au (J.V (aj.R au B)) (by simp[ga];omega) λaZ a2 av a3=>?_;rw[bq A A];rw[<-aci r]at av;refine⟨⟨i+1,aZ,rfl,A,av,λap m=>?_,a3⟩,by simp;omega⟩;rw[jO r]at m;rcases b4.1 m with m|m
   ·exact q ap m
   ·rw[ku.1 m];exact⟨aS,A⟩
 ·obtain rfl:i=l.length:=A;rw[j3]at v q;have aT:(g5 l).length<=l.length*864:=II (λap m=>by have:=(q ap m).2;omega) (fF _);obtain⟨bt,bu,a4⟩:=v.cY;refine bT (λf a=>f=[aK (decide (l.length=0)||decide (c.aJ*108<(g5 l).length))]/\Q [] ax a) ?_ ?_
  ·simp only[M,am];refine⟨λo=>⟨by rw[decide_eq_true (show l.length=0 by omega)];rfl,Q.b0 _ _⟩,λo=>?_⟩
   ·have o:¬l.length=0:=A;rw[a4];simp only[M];refine(fj D).2 (Sa p λs d=>?_);simp only[M];refine⟨?_,d⟩;rw[decide_eq_false o,Bool.false_or,show decide (((c.aJ*108:Nat):Int)<((g5 l).length:Int))=decide (c.aJ*108<(g5 l).length)from decide_eq_decide.2 A]
  rintro _ _ s ⟨rfl,d⟩;simp only[M,cG];refine⟨λL=>⟨Y ⟨?_,rfl⟩,y.R d B⟩,λt=>?_⟩
  ·refine Bool.eq_false_iff.2 λR=>?_;obtain⟨aq,ar,aQ⟩:=xk.1 R;have aR:=List.length_pos_iff.2 aq;simp only[pP,decide_eq_true_eq]at L;omega
  ·simp only[Bool.or_eq_false_iff,decide_eq_false_iff_not]at t;have a5:lf c.aJ l=G:=xk.2 ⟨λe=>t.1 (by rw[e];rfl),λx a6=>(q x a6).1,A⟩;have a7:=D.J d B;have aw:=y.R d B;obtain⟨bv,bb,bw,bx,bz⟩:=iV a7;simp only[M,bb];refine RY aH aI λV X u=>?_;simp only[M];have bc:=aw.R u B;have bB:=aw.aI;have bC:s.heap.size<V.heap.size:=X.aL;generalize bD:s.heap.size=g at*;obtain⟨aD,ay,bE⟩:=(v.V d);have bd:=ay.aL;rw[ag6]at X;have be:∀j,((jh 108 j (g5 l)).flatten++cN ((c.aJ-j)*108) (0:UInt8)).length=j*108+(c.aJ-j)*108:=λj=>by rw[di,PY,tt]
   apply c1 (λf a=>∃(j:Nat)(ab:S),f=[ab,F H j]/\j<=c.aJ/\bP a 5 1 ab ((g5 l).drop (j*108)).length (((g5 l).drop (j*108)).flatMap bs) aD/\aC a g 294 (((jh 108 j (g5 l)).flatten++cN ((c.aJ-j)*108) (0:UInt8)).flatMap bs)/\Q [] w a) (λf _=>match f with|[_,F _ j]=>c.aJ-j.toNat|_=>0) ⟨0,b1,rfl,A,by simpa using ay.J u B,by simpa[jh]using X,bc⟩;rintro _ _ aX ⟨j,ab,rfl,bG,ad,ag,az⟩;simp only[M,bi];refine⟨λaO=>?_,λaP=>?_⟩
   ·have aB:j<c.aJ:=A;refine(hP At CU aB).2 ((yc Ey el).2 ?_);have bf:=ad.eF e2 A;obtain⟨bH,bI,rfl,bJ,_⟩:=ad.jD;refine af6 fP el ag (by rw[qb,be];simp;omega) bf λa2 ak aF aG bK=>?_;simp only[M];rw[show min (((g5 l).drop (j*108)).length:Int) 108=((min ((g5 l).drop (j*108)).length 108:Nat):Int)by omega];apply(rs fP el A A).2;rw[bq A A,hf];have bg:∀h∈aD,h∉[g]:=λh W e=>by simp at e;have:=bd h W;omega
    have ah:=(ad.J aG bg).jd rfl (k:=min ((g5 l).drop (j*108)).length 108) A;refine⟨⟨j+1,_,rfl,A,?_,?_,az.R aG (by simp;omega)⟩,by simp;omega⟩
    ·rw[SK,gA,ag8,oq,show j*108+108=(j+1)*108 by omega]at ah;rw[show((g5 l).drop (j*108)).length-min ((g5 l).drop (j*108)).length 108=((g5 l).drop ((j+1)*108)).length by simp only[e8];omega]at ah⊢;simpa using ah
    ·rw[ag7,SK,<-hL,<-hL,gQ,ag9 _ aB]at aF;exact aF
   ·obtain rfl:j=c.aJ:=A;rw[k6,Nat.zero_mul,List.replicate_zero,kJ,<-R9]at ag;have ao:=p3 ag;rw[It]at ao;exact⟨Z ⟨a5,⟨g,_,rfl⟩,ao,λb af n c e=>by cases e;omega⟩,az⟩
end
def zh(bv w:aN)(aa:S)(l:List (List UInt8)):Prop:=∃cj aD,jv 52 5 bv w aa cj aD/\cj.map gN.c6=l
section
variable{l:List kC}{b x:List UInt8}{aw:List (List UInt8)}
def zh.mn(h:zh bv w aa aw):ju w aa aw:=by obtain⟨cj,aD,a,rfl⟩:=h;exact a.mn
def oY(l:List kC):List UInt8:=(l.map (·.1)).flatten
def aha{l:List kC}(h:i<l.length):oY (l.take (i+1))=oY (l.take i)++l[i].1:=by unfold oY;rw[jO h,g6,List.flatten_append];simp only[ge,tp,List.flatten_cons,List.flatten_nil,kJ]
def SL(l:List kC):(oY l).length=l.length*108:=by
 induction l with
 |nil=>rfl
 |cons ap l a=>
  have:=ap.2;have e:(oY (ap::l)).length=ap.1.length+(oY l).length:=by simp[oY]
  rw[e,a,gF,this,iM];omega
def ahb(h:b.length<=k*108):oY (qk k b)=b++cN (k*108-b.length) 0:=by unfold oY;rw[R8,PW 108 k b h]
def SM(X:aT w eL aa l)(a4:l.length<=8):a0 C 103 #[aa] w λae a=>zh w a ae (tW (oY l))/\Q [] w a:=by
 obtain⟨a5,cC,rfl,-,-⟩:=id X;refine a9 MR 1 Tryz.func103 K rfl λa1 au=>?_;simp+decide only[↓a8,ba,MR,Tryz.f103];subst au;simp only[M];apply c1 (λc a=>∃(i:Nat)(b1:S),c=[b1,F H i]/\i<=l.length/\ql w a b1 (oY (l.take i))/\Q [] w a) (λc _=>match c with|[_,F _ i]=>l.length-i.toNat|_=>0) ⟨0,_,rfl,A,⟨[],by simpa[oY]using gJ _ _ _,B⟩,Q.b0 _ _⟩;rintro _ _ aA ⟨i,b1,rfl,al,z,e⟩;simp only[M,bi];refine⟨λa6=>?_,λa7=>?_⟩
 ·have ac:i<l.length:=A;refine(H6.ek X e ac).2 (RL λax av p bb=>RM (ap:=l[i]) av λq aw u bc=>(yc Ey el).2 ?_);have f:Q [] aA q:=p.R u B;have ao:aT q bs (T (E ⟨aA.heap.size,0,I⟩) 108 108) l[i].1:=by have h:=p3 (l:=l[i].1) (show aC q aA.heap.size 294 (l[i].1.flatMap bs)from aw);rwa[l[i].2]at h
  refine Bt (z.V f) (e.R f B) ao (by rw[SL,l[i].2,ea];omega) λay az ad v=>?_;rw[bq A A];rw[<-aha ac]at ad;exact⟨⟨i+1,ay,rfl,A,ad,v⟩,by simp;omega⟩
 ·obtain rfl:i=l.length:=A;rw[j3]at z;have bd:=SL l;refine bT (λc a=>∃ae,c=[ae]/\zh w a ae (tW (oY l))/\Q [] w a) ?_ ?_
  ·have aB:=z.eF;generalize aF:tW (oY l)=ar at*;apply c1 (λc a=>∃(D jn:S)(k:List UInt8)(cj:List gN)(aD:List Nat),c=[D,jn]/\aT aA bs D k/\k.length<=864/\cj.length+k.length<=864/\jv 52 5 aA a jn cj aD/\ar=cj.map gN.c6++tW k/\Q [] aA a) (λc _=>match c with|[T _ n _,_]=>n|_=>0) ⟨b1,_,oY l,[],[],rfl,aB,A,by simp;omega,y0 _ _,by simp[aF],Q.b0 _ _⟩;rintro _ _ ax ⟨D,jn,k,cj,aD,rfl,r,aG,aH,m,J,p⟩;obtain⟨y,s,rfl,aI,be⟩:=id r;simp only[M,bi];refine⟨λL=>?_,λL=>⟨jn,rfl,⟨cj,aD,⟨m.c4,λg b=>gz e.aI (m.oT g b),m.cL,λab o g b=>⟨gz e.aI (m.qf ab o g b).1,(m.qf ab o g b).2⟩,m.hj⟩,by rw[J,acd A,kJ]⟩,e.R p B⟩⟩;obtain⟨ap,bm,t,rfl⟩:∃ap bm t,k=ap::bm::t:=by
    match k,L with
    |[],h=>simp at h
    |[_],h=>simp at h
    |ap::bm::t,_=>exact⟨ap,bm,t,rfl⟩
   have af:Q [] aA ax.drew:=p.R (cD [] ax) B;refine(p4.ek (l:=ap::bm::t) (i:=0) r af B).2 ((fv oE kd).2 ((p4.ek (l:=ap::bm::t) (i:=1) r af B).2 ((fv oE kd).2 ?_)));have bf:=ap.toNat_lt;have bg:=bm.toNat_lt;simp only[List.getElem_cons_zero,List.getElem_cons_succ];rw[bq (x:=(ap.toNat:Int)) A A,bq (x:=(bm.toNat:Int)) A A];apply(w0 A).2;rw[show(bm.toNat:Int)*2^min (8:Int).toNat H.bits=((bm.toNat*2^8:Nat):Int)by show(bm.toNat:Int)*2^8=_;omega];apply(Ag A A).2;rw[bq A A];have ag:=Hp ap bm t;rw[show ap.toNat+bm.toNat*2^8=ap.toNat+256*bm.toNat by omega];generalize ap.toNat+256*bm.toNat=n at*;simp only[gF]at aG aH aI L r⊢;apply(rs fP el A A).2;have ah:aT aA bs (T (if s=2 then y else y.map (·.add (2*1))) t.length (s-2)) t:=by have h:=aT.d1 (i:=2) (j:=(ap::bm::t).length) e2 r B (fF _);simpa using h
   rw[show(2:Int).toNat=2 from rfl,show t.length+1+1-2=t.length by omega];generalize(if s=2 then y else y.map (·.add (2*1)))=aj at*;simp only[M];refine bT (λc a=>c=[aK (decide (n=0\/t.length<n))]/\Q [] ax a) ?_ ?_
   ·simp only[M,bi];refine⟨λaJ=>⟨by rw[decide_eq_true (show n=0\/t.length<n by omega)],cD [] ax⟩,λaJ=>⟨?_,cD [] ax⟩⟩;rw[show decide ((t.length:Int)<(n:Int))=decide (n=0\/t.length<n)from decide_eq_decide.2 A]
   rintro _ _ q ⟨rfl,u⟩;have f:Q [] aA q:=p.R u B;have d:=m.V u;simp only[M,bi];refine⟨λaL=>⟨jn,rfl,⟨cj,aD,⟨d.c4,λg b=>gz e.aI (d.oT g b),d.cL,λab o g b=>⟨gz e.aI (d.qf ab o g b).1,(d.qf ab o g b).2⟩,d.hj⟩,by rw[J,ag,if_pos aL,kJ]⟩,e.R f B⟩,λbh=>?_⟩;have ak:n<=t.length:=A;apply(z9 fP el A A).2;rw[hf];have aM:=aT.VS (j:=n) e2 (ah.V f) ak;refine eR.Ic aM (by rw[ea];omega) λai az am aO R v=>y1 mK am.aW λbj aP V bk=>?_;have aQ:=f.R v B;have an:=aQ.R V B;have aq:=d.V (v.R V B);have aR:=d.c4.aL;refine aq.p8 mK (am.V V) (λg b=>⟨?_,?_,?_⟩) aP A A an.aI λaS aU aV aW aX bl=>?_
   ·have:=R g b;have:=f.aI;omega
   ·intro W;have:=R g b;have:=aR g W;omega
   ·intro ab o W;have:=R g b;have:=(d.cL ab o).aL g W;omega
   have aY:Q [] aA aU:=an.R aX (λg b=>Z (aq.oT g b));apply(rs fP el A A).2;rw[hf];have aZ:aT aA bs (T (if s-2=n then aj else aj.map (·.add (n*1))) (t.length-n) (s-2-n)) (t.drop n):=by have h:=aT.d1 (i:=n) (j:=t.length) e2 ah ak (fF _);rwa[mv (by rw[e8];omega)]at h
   refine⟨⟨_,aS,t.drop n,cj++[ai],aV,rfl,aZ,by rw[e8];omega,by simp only[di,e8,gF,tl];omega,aW,?_,aY⟩,by simp only;omega⟩;rw[J,ag,if_neg A,g6,ge,tp,aO,gq];rfl
  ·rintro _ _ ax ⟨ae,rfl,a2,a3⟩;exact⟨a2,a3⟩
end
structure q3(c:dR)(au:eW)(av:List (List (List UInt8))):Prop where
 dT:av.length<=c.bd
 e0:∀e∈av,lf c.aJ e=G
 IK:∀t,(h:t<av.length)->2<=au.g4 t/\au.bg t=qk c.aJ (g5 av[t])
 SN:∀t,av.length<=t->t<c.bd->au.g4 t=1
 dh:∀j,j<c.cY->2<=(au.dh j).L->(au.dh j).e4<av.length
 aog:c.cY=1->2<=(au.dh 0).L->(au.dh 0).e4+1=av.length
structure qo(c:dR)(aB:Nat->Bool)(ay:Nat->Nat->Bool):Prop where
 Iq:c.aJ<=bV (λag=>ay ag 0) c.aR
 lw:∀j i,j<c.cY->i<c.aJ->0<bV (mo c ay j i) c.aR
 BB:∀t,t<c.bd->c.aJ<=bV (ia c ay t) c.aR
 mt:c.aJ<=bV (λag=>!aB ag) c.aR
def ix:Nat->Nat->Bool:=λ_ _=>G
def lz(b n:Nat):List S:=[aP b,F H n]
structure nJ(w:aN)(ah:Nat)(am:List Nat)(ab:Nat)(c:dR)(au:eW)(aB:Nat->Bool)(ay al:Nat->Nat->Bool)(ai:Nat)(av:List (List (List UInt8))):Prop where
 gm:∃b dc,am=ah::dc/\ib w b dc ab c au aB ay al ai/\fb w dc ah 209 (lz b av.length)
 BC:q3 c au av
def qp(w:aN)(ah cR:Nat)(am:List Nat)(ab:Nat)(c:dR)(au:eW)(aB:Nat->Bool)(ay al:Nat->Nat->Bool)(ai:Nat)(av:List (List (List UInt8))):Prop:=∃dc,am=ah::dc/\ib w cR dc ab c au aB ay al ai/\fb w dc ah 209 (lz cR av.length)/\q3 c au av
def ahc:ByteArray:=eS #[116,97,112,101,46,65,112,112,101,110,100]
section
variable{av:List (List (List UInt8))}{l:List (List UInt8)}
def qo.SO(h:qo c aB ay):zc c au aB ay ix:=⟨h.Iq,h.lw,λ_ _ _ _=>rfl,λ_ _ _ _ _=>rfl,h.mt⟩
def ib.J(h:ib w b am ab c au aB ay al ai)(d:Q bU w a)(e:∀g∈am,g∉bU):ib a b am ab c au aB ay al ai:=by obtain⟨dc,rfl,i,f⟩:=h.gm;exact⟨⟨dc,rfl,i.J d λg j=>e g (by simp[j]),f.1.J d (e b B),f.2⟩,h.kU⟩
def ib.V(h:ib w b am ab c au aB ay al ai)(d:Q [] w a):ib a b am ab c au aB ay al ai:=h.J d B
def ib.aL(h:ib w b am ab c au aB ay al ai):∀g∈am,g<w.heap.size:=by
 obtain⟨dc,rfl,d,e⟩:=h.gm;intro g a;rcases ce.1 a with rfl|a
 ·exact e.1.aL
 ·exact d.aL g a
def ib.cL(h:ib w b am ab c au aB ay al ai):c.bp/\au.bp c:=by obtain⟨dc,rfl,a,d⟩:=h.gm;exact a.cL
def nJ.J(h:nJ w ah am ab c au aB ay al ai av)(d:Q bU w a)(e:∀g∈am,g∉bU):nJ a ah am ab c au aB ay al ai av:=by obtain⟨b,dc,rfl,i,f⟩:=h.gm;exact⟨⟨b,dc,rfl,i.J d λg j=>e g (by simp[j]),f.1.J d (e ah B),f.2⟩,h.BC⟩
def nJ.V(h:nJ w ah am ab c au aB ay al ai av)(b:Q [] w a):nJ a ah am ab c au aB ay al ai av:=h.J b B
def nJ.aL(h:nJ w ah am ab c au aB ay al ai av):∀g∈am,g<w.heap.size:=by
 obtain⟨b,dc,rfl,d,e⟩:=h.gm;intro g a;rcases ce.1 a with rfl|a
 ·exact e.1.aL
 ·exact d.aL g a
def nJ.cL(h:nJ w ah am ab c au aB ay al ai av):c.bp/\au.bp c:=by obtain⟨b,dc,rfl,a,d⟩:=h.gm;exact a.cL
def q4(h:aC w ah ar (lz b n)):(∀ac,aZ C (a4 144 (aE (E ⟨ah,0,I⟩))) w ac↔ac (aP b))/\(∀ac,aZ C (a4 3 (aE (E ⟨ah,1,I⟩))) w ac↔ac (F H n)):=
 ⟨λ_=>bl FV (h.bh (af:=0)),λ_=>bl bZ (h.bh (af:=1))⟩
def IL(h:aC w ah ar (lz b n))(k:∀a,aC a ah ar (lz b ak)->Q [ah] w a->a.heap.size=w.heap.size->ac bS a):W C (dC 3 (aE (E ⟨ah,1,I⟩)) (F H ak)) w ac:=by refine f0 (cv:=[aP b]) (c5:=[F H n]) (da:=[]) hl (by simpa[lz]using h) rfl rfl rfl (by simp[bF,Value.oneCell']) λa c d e=>k a (by simpa[bF,lz]using c) d e
def ahd(h:nJ w ah am ab c au aB ay al ai av):a0 C 207 #[aP ah] w λae a=>ae=F H av.length/\w=a:=by obtain⟨b,dc,rfl,g,d⟩:=h.gm;refine a9 .D 1 Tryz.func207 K rfl λa1 e=>?_;simp+decide only[↓a8,ba,Tryz.f207];subst e;obtain⟨i,f⟩:=q4 d.1;simp only[M,f];exact⟨rfl,rfl⟩
def qp.ij(h:qp w ah cR am ab c au aB ay al ai av):nJ w ah am ab c au aB ay al ai av:=by obtain⟨dc,rfl,a,b,d⟩:=h;exact⟨⟨cR,dc,rfl,a,b⟩,d⟩
def nJ.ahe(h:nJ w ah am ab c au aB ay al ai av):∃cR,qp w ah cR am ab c au aB ay al ai av:=by obtain⟨b,dc,rfl,a,d⟩:=h.gm;exact⟨b,dc,rfl,a,d,h.BC⟩
def qp.J(h:qp w ah cR am ab c au aB ay al ai av)(b:Q bU w a)(d:∀g∈am,g∉bU):qp a ah cR am ab c au aB ay al ai av:=by obtain⟨dc,rfl,f,e,i⟩:=h;exact⟨dc,rfl,f.J b λg j=>d g (by simp[j]),⟨e.1.J b (d ah B),e.2⟩,i⟩
def IM(h:qp w ah cR am ab c au aB ay al ai av):a0 C 61 #[aP ah] w λae a=>ae=aP cR/\w=a:=by obtain⟨dc,rfl,f,b,g⟩:=h;refine a9 .D 1 Tryz.func61 K rfl λa1 d=>?_;simp+decide only[↓a8,ba,Tryz.f61];subst d;obtain⟨e,i⟩:=q4 b.1;simp only[M,e];exact⟨rfl,rfl⟩
def q3.lY(h:q3 c au av)(g:lf c.aJ l=G)(m:av.length<c.bd)(n:1<=ai)(o:1<=c.cY):q3 c (au.lY c av.length (qk c.aJ (g5 l)) (ai+1)) (av++[l]):=by
 refine⟨by simp;omega,λe a=>?_,λt i=>?_,λt b d=>?_,λj k=>?_,λb _=>by simp[eW.lY,b,Nat.mod_one]⟩
 ·rcases b4.1 a with a|a
  ·exact h.e0 e a
  ·rw[ku.1 a];exact g
 ·simp only[eW.lY];by_cases e:t=av.length
  ·subst e;simp;omega
  ·have f:t<av.length:=by simp at i;omega
   rw[if_neg e,if_neg e,List.getElem_append_left f];exact h.IK t f
 ·simp only[eW.lY];simp at b;rw[if_neg A];exact h.SN t A d
 ·simp only[eW.lY,di,nt];split
  ·intro _;simp
  ·intro d;have:=h.dh j k d;omega
end
section
variable{av:List (List (List UInt8))}{l:List (List UInt8)}
def ahf(h:qp w ah cR am ab c au aB ay ix ai av)(ao:qo c aB ay)(X:ju w aa l)(ac:l.length<=10000)(y:lf c.aJ l=G)(ad:ai+1<=1152921504606846976):
  a0 C 148 #[aP ah,aa] w λae a=>(av.length<c.bd/\ae=bQ #[F H av.length,cT]/\∃az,qp a ah cR az ab c (au.lY c av.length (qk c.aJ (g5 l)) (ai+1)) aB ay ix (ai+1) (av++[l])/\bX am az w a)\/(av.length=c.bd/\ae=bQ #[F H 0,ff (E (.d2 ahc av.length (.dD 8)))]/\Q [] w a):=by
 obtain⟨s,aS⟩:=h.ij.cL;have aT:=s.jZ;obtain⟨dc,rfl,o,z,t⟩:=h;have aU:=t.dT;have ag:=o.kU.Bq;have aj:=o.aL;refine a9 Nd 2 Tryz.func148 K rfl λa1 ak=>?_;simp+decide only[↓a8,ba,Nd,Tryz.f148];subst ak;obtain⟨f,b⟩:=q4 z.1;simp only[M,f];apply aH tQ (ua o);rintro _ aA ⟨rfl,u⟩;apply aH Gv (IJ s (X.V u) ac);rintro _ ax ⟨al,an⟩;rcases al with⟨D,_⟩|⟨_,⟨g,ap,rfl⟩,aq,ar⟩
 ·rw[y]at D;cases D
 have p:=u.R an B;apply(Hv (o8 At)).2;have J:=z.V p;have L:=o.V p;obtain⟨f,b⟩:=q4 (bD J.1);simp only[M,f,b];apply aH tQ (ua (L.V (cD [] ax)));rintro _ i ⟨rfl,aw⟩;have m:=(cD [] ax).R aw B;have q:=J.V m;have aC:=L.V m;refine(dz bZ (q.1.bh (af:=1))).2 ((Cu (aa:=F H c.bd) KX rfl).2 ?_);simp only[M,bi];refine⟨λaV=>?_,λn=>?_⟩
 ·obtain⟨f,b⟩:=q4 q.1;simp only[M,b];exact(hk hY).2 (rO (e:=E (.dD 8)) (Z ⟨A,rfl,p.R m B⟩))
 ·have n:av.length<c.bd:=A;obtain⟨f,b⟩:=q4 (bD q.1);simp only[M,f,b];have aD:=aC.V (cD [] i);have aF:eo i.drew dc eL (T (E ⟨g,0,I⟩) c.aJ ap) (qk c.aJ (g5 l)):=eo.cq (a:=aA) ((aq.V m).V (cD [] i)) (λx=>by rw[nG];omega) ar (λg d=>iL (aj g d) u.aI);apply aH YK (af5 aD n aF (It _ _) (ao.BB _ n) ao.mt ad (λj aG aI=>by have:=t.dh j aG aI;omega) (λ_ _ _ _=>rfl) (λ_ _=>rfl));rintro _ v ⟨rfl,k,aJ,R⟩;apply(fp dk).2;have r:fb v k ah 209 (lz cR av.length):=(q.V (cD [] i)).de R;obtain⟨f,b⟩:=q4 r.1;simp only[M,b];rw[bq A A,show(av.length:Int)+1=(av.length+1:Nat)by omega];refine IL r.1 λaL V W aW=>?_;obtain⟨f,b⟩:=q4 V;simp only[M,b];rw[bq A A];have aM:Q [] w i.drew:=((p.R m B).R (cD [] i) B);have aO:bX (ah::dc) (ah::k) i.drew v:=R.qj (λg d=>by simp[d]) (λg d=>by
   rcases ce.1 d with rfl|aQ
   ·exact Z B
   ·exact Y aQ)
  have aR:bX (ah::k) (ah::k) v aL:=⟨W.bw B,λg d=>Y d⟩;refine Y ⟨n,by congr 1;simp,ah::k,⟨k,rfl,aJ.J W (λg d e=>by simp at e;subst e;exact r.2 d),?_,t.lY y n ag.1 s.kk⟩,(aO.dP aR).mN aM⟩;refine⟨?_,r.2⟩;simpa using V
def q3.uV(h:q3 c au av)(b:c.bp)(d:t<av.length):tW (oY (au.bg t))=av[t]:=by
 have a:=xk.1 (h.e0 _ (dX d));have f:c.aJ<=8:=by have:=b.jY;have:=b.i6;omega
 rw[(h.IK t d).2,ahb a.2.2];exact PV _ _ λx e=>⟨a.2.1 x e,by have:=AP e;have:=a.2.2;omega⟩
def ahg(h:nJ w ah am ab c au aB ay al ai av)(m:c.aJ<=bV (λag=>!aB ag) c.aR)(n:t<av.length)(e:i<(av[t]).length):
  a0 C 247 #[aP ah,F H t,F H i] w λae a=>Q [] w a/\((∃x,ae=bQ #[x,cT]/\aT a bs x ((av[t])[i])/\c.aJ<=bV (ia c al t) c.aR)\/∃cz:ex,cz.a5=6/\bV (ia c ay t) c.aR<c.aJ/\ae=bQ #[T I 0 0,ff (E cz)]):=by
 obtain⟨d,o⟩:=h.cL;have f:=h.BC;have W:=f.dT;have p:=f.uV d n;have q:=o.wc t A;obtain⟨b,dc,rfl,r,u⟩:=h.gm;refine a9 (.L .D (.L (.bK [25] .D .D) .D)) 3 Tryz.func247 K rfl λa1 v=>?_;simp+decide only[↓a8,ba,Tryz.f247];subst v;obtain⟨y,z⟩:=q4 u.1;refine bT (λD a=>D=[aK U]/\w=a) ?_ ?_
 ·simp only[M];rw[decide_eq_false A];simp only[M,z];rw[decide_eq_false A];simp only[M];rw[decide_eq_false A];exact⟨by trivial,by trivial⟩
 rintro _ _ _ ⟨rfl,rfl⟩;simp only[M,y];apply aH Ly (R7 r m (s:=t) A);rintro _ aA ⟨g,⟨b1,rfl,J,X,L⟩|⟨ak,R,rfl⟩⟩
 ·simp only[M,na,oB,oC];apply(fp dk).2;simp only[M];apply aH Lz (SM J (by rw[q];have:=d.jY;have:=d.i6;omega));rintro _ ax ⟨j,V⟩;rw[p]at j;have k:=j.mn;obtain⟨aa,ac,rfl⟩:=k.cY;simp only[M];rw[decide_eq_false A];simp only[M];refine k.ek Ez (Q.b0 _ _) e λx l=>?_;rw[iI e]at l;exact⟨g.R V B,Y ⟨x,rfl,l,L⟩⟩
 ·simp only[M,na,oB,oC];apply(rz dk).2;simp only[M];exact rO ⟨g,Z ⟨_,by rfl,R,rfl⟩⟩
end
def xB(w:aN)(aD:List Nat)(aa:S)(l:List (List UInt8)):Prop:=∃(bv:aN)(cj:List gN)(a:List Nat),jv 52 5 bv w aa cj a/\cj.map gN.c6=l/\(∀g∈a,g∉aD)/\∀ab∈cj,∀g∈ab.gD,g∉aD
def SP(w:aN)(aa:S)(av:List (List (List UInt8))):Prop:=∃aF:List S,aT w t8 aa aF/\aF.length=av.length/\∀i,(h:i<aF.length)->(a:i<av.length)->ju w aF[i] av[i]
section
variable{av:List (List (List UInt8))}{l:List (List UInt8)}
def xB.de(h:xB w aD aa l)(b:bX aD ez w a):xB a ez aa l:=by obtain⟨bv,cj,g,c,i,d,e⟩:=h;exact⟨bv,cj,g,c.J b.J d e,i,b.pn d c.c4.aL,λab f=>b.pn (e ab f) (c.cL ab f).aL⟩
def xB.mn(h:xB w aD aa l):ju w aa l:=by obtain⟨bv,cj,b,a,rfl,c,d⟩:=h;exact a.mn
def zh.c6(h:zh bv w aa l)(d:∀g∈aD,g<bv.heap.size):xB w aD aa l:=by obtain⟨cj,e,a,f⟩:=h;exact⟨bv,cj,e,a,f,λg b c=>by have:=a.oT g b;have:=d g c;omega,λab i g b c=>by have:=(a.qf ab i g b).1;have:=d g c;omega⟩
structure BD(bv w:aN)(ah b:Nat)(av:List (List (List UInt8)))(s:Nat)(jn:S)(aF:List S)(aD:List Nat):Prop where
 c4:bP w 183 1 jn aF.length (aF.flatMap t8) aD
 cq:∀g∈aD,bv.heap.size<=g
 dT:aF.length=min s av.length
 mn:∀i,(h:i<aF.length)->(a:i<av.length)->xB w (ah::aD) aF[i] av[i]
 bg:aC w ah 209 (lz b (min s av.length))
 J:Q [ah] bv w
def BD.V{aF:List S}(h:BD bv w ah b av s jn aF aD)(c:Q [] w a):BD bv a ah b av s jn aF aD:=
 ⟨h.c4.J c B,h.cq,h.dT,λi d b=>(h.mn i d b).de (.iu c),h.bg.J c B,h.J.R c B⟩
def ahh:C.built 209 #[(0,aP b)].toList=E (lz b 0).toArray:=K
def ahi(h:eY w ab am c au aB ay al)(aq:zc c au aB ay al)(aV:r5 c au bu)(n:q3 c au av):
  a0 C 57 #[aP ab] w λae a=>(∃ah az dL jn,ae=bQ #[aP ah,jn,cT]/\nJ a ah az ab c au aB ay al dL av/\dL<=bu/\bX am az w a/\SP a jn av/\∀t,t<c.bd->c.aJ<=bV (ia c al t) c.aR)\/
   ∃(az:List Nat)(cz:ex),eY a ab az c au aB ay al/\bX am az w a/\cz.a5=6/\(∃t,t<c.bd/\bV (ia c ay t) c.aR<c.aJ)/\ae=bQ #[aE I,T I 0 0,ff (E cz)]:=by
 obtain⟨v,aW⟩:=h.cL;have bD:=v.jZ;have bE:=n.dT;refine a9 Mv 1 Tryz.func57 K rfl λa1 aX=>?_;simp+decide only[↓a8,ba,Mv,Tryz.f57];subst aX;apply aH XR (afW h aq aV);rintro _ aA (⟨b,bJ,aY,rfl,y,aZ,z,a2⟩|⟨bJ,t,ak,y,z,a3,X,rfl⟩)
 ·simp only[cV,cX];apply(fp dk).2;simp only[M];refine(bY ahh).2 (eA λax ac ar bG=>?_);have ac:aC ax aA.heap.size 209 (lz b 0):=by simpa[bF]using ac
  have a4:=y.aL;have aw:=y.V ar;apply aH tQ (ua aw);rintro _ o ⟨rfl,ad⟩;apply(Cu (aa:=F H c.bd) KX rfl).2;have a5:=ar.R ad B;have aG:=ac.J ad B;have a6:=aw.V ad;have bH:=aG.aL;have aI:aA.heap.size∉bJ:=λl=>by have:=a4 _ l;omega
  have a7:bX am (aA.heap.size::bJ) w o:=by
   have m:=z.oM a5;refine⟨m.J,λg f=>?_⟩;rcases ce.1 f with rfl|f
   ·exact Z z.J.aI
   ·exact m.cq g f
  generalize aA.heap.size=ah at*;apply c1 (λp a=>∃(s:Nat)(jn:S)(aF:List S)(aD:List Nat),p=[jn,F H s]/\s<=c.bd/\BD o a ah b av s jn aF aD) (λp _=>match p with|[_,F _ s]=>c.bd-s.toNat|_=>0) ⟨0,_,[],[],rfl,A,gJ _ _ _,B,B,B,by simpa using aG,Q.b0 _ _⟩;rintro _ _ bb ⟨s,jn,aF,aD,rfl,ao,k⟩;have af:=a6.J k.J (λg f e=>by simp at e;subst e;exact aI f);have aJ:∀{q:aN},Q [ah] o q->bX am (ah::bJ) w q:=λbc=>a7.dP ⟨bc.bw B,λg f=>Y f⟩;simp only[M,bi];refine⟨λbI=>?_,λbK=>?_⟩
  ·have D:s<c.bd:=A;refine bT (λp a=>∃J ag ez,p=[J]/\BD o a ah b av (s+1) J ag ez) ?_ ?_
   ·apply aH Ly (R7 af aq.mt (s:=s) D);rintro _ q ⟨L,⟨b1,rfl,bd,bf,bL⟩|⟨ak,X,rfl⟩⟩
    ·simp only[M,na,oB,oC];apply(fp dk).2;simp only[M,bi];have j:=k.V L;refine⟨λai=>?_,λai=>?_⟩
     ·have:av.length<=s:=by refine Nat.le_of_not_lt λl=>?_;have:=(n.IK s l).1;omega
      refine⟨jn,aF,aD,rfl,j.c4,j.cq,by rw[j.dT];omega,j.mn,?_,j.J⟩;have e:min (s+1) av.length=min s av.length:=A;rw[e];exact j.bg
     ·have bg:s<av.length:=by refine Nat.lt_of_not_le λl=>?_;have:=n.SN s l D;omega
      have R:min s av.length=s:=A;have bh:min (s+1) av.length=s+1:=A;have aj:=j.bg;rw[R]at aj;obtain⟨bM,bj⟩:=q4 aj;simp only[M,bj];rw[decide_eq_false (show¬((s:Int)≠(s:Int))by simp)];simp only[M];rw[bq A A,show(s:Int)+1=(s+1:Nat)by omega];have bk:ah<bb.heap.size:=k.bg.aL;have aL:ah∉aD:=λl=>by have:=k.cq ah l;omega
      refine IL aj λbl bm V bP=>?_;have bn:=bd.J V (bf.cW (by simp;exact bk));apply aH Lz (SM bn (by rw[aW.wc s D];have:=v.jY;have:=v.i6;omega));rintro ae aM ⟨an,r⟩;rw[n.uV v bg]at an;have bo:bX (ah::aD) (ah::aD) q bl:=⟨V.bw B,λg f=>Y f⟩;have bp:=bo.oM r;have br:=(j.c4.J V (λg f e=>by simp at e;subst e;exact aL f)).J r B;have bs:=j.c4.aL;have bR:=L.aI;have bU:=r.aI;have bt:=an.c6 (aD:=ah::aD) (λg f=>by
       rcases ce.1 f with rfl|f
       ·omega
       ·have:=bs g f;omega)
      have u:=j.dT;rw[R]at u;have aO:r3 ae:=by obtain⟨d,c,rfl⟩:=an.mn.cY;exact⟨_,_,_,rfl⟩
      refine yR WU (x:=ae) (be:=t8) br (λ_=>rfl) (by rw[aO.Ik];rfl) (by intro ap aQ;simp[t8]at aQ;subst aQ;exact aO.aW) A (by unfold d0;omega) A λbv bw aR bx W _=>?_;have aS:bX (ah::aD) (ah::aR) aM bw:=W.qj (λg f=>by simp[f]) (λg f=>by
       rcases ce.1 f with rfl|m
       ·exact Z B
       ·exact Y m)
      refine⟨bv,aF++[ae],aR,rfl,bx,λg f=>?_,by simp;omega,λi ai bz=>?_,?_,?_⟩
      ·rcases W.cq g f with m|m
       ·exact k.cq g m
       ·have:=k.J.aI;omega
      ·by_cases al:i<aF.length
       ·rw[List.getElem_append_left al];exact((j.mn i al bz).de bp).de aS
       ·obtain rfl:i=s:=by simp at ai;omega
        rw[List.getElem_append_right A];simp only[u,k6,List.getElem_cons_zero];exact bt.de aS
      ·rw[bh];exact(bm.J r B).J W.J aL
      ·have bB:Q [ah] o aM:=(j.J.R V B).R r B;exact bB.R W.J λg f=>Z (k.cq g f)
    ·simp only[M,na,oB,oC];apply(rz dk).2;simp only[M];apply rO;obtain⟨dc,rfl,bC,bW⟩:=(af.V L).gm;have aT:=aJ (k.J.R L B);exact Z ⟨dc,_,bC,⟨aT.J,λg f=>aT.cq g (by simp[f])⟩,by rfl,⟨s,D,X⟩,rfl⟩
   ·rintro _ _ q ⟨J,ag,ez,rfl,j⟩;simp only[M];rw[bq A A];exact⟨⟨s+1,J,ag,ez,rfl,A,j⟩,by simp;omega⟩
  ·obtain rfl:s=c.bd:=A;have R:min c.bd av.length=av.length:=A;have aU:=k.bg;have u:=k.dT;rw[R]at aU u;refine Y ⟨ah,ah::bJ,aY,jn,rfl,⟨⟨b,bJ,rfl,af,aU,aI⟩,n⟩,aZ,aJ k.J,⟨aF,?_,u,λi d b=>(k.mn i d b).mn⟩,a2⟩;exact k.c4.eF (λ_=>rfl) A
 ·simp only[cV,cX];apply(rz dk).2;simp only[M];exact rO (Z ⟨bJ,_,y,z,by rfl,⟨t,a3,X⟩,rfl⟩)
end
section
variable{aj:dQ}
def ahj{ap:Bool}(h:dH w ab aG am)(al:aG[ag]?=E aq)(i:aq.dW=U)(j:∀gX∈aG,gX.d3.length=aq.d3.length)(ao:s<aq.d3.length)(b:aj.bp):
  a0 C 187 #[aP ab,F H ag,F H s,iU aj,iU (if ap then aj else hz),aK ap] w λae a=>ae=bQ #[aK (!ap),cT]/\∃az,dH a ab (if ap then aG else aG.set ag (aq.kW s aj.e5)) az/\bX am az w a:=by
 have d:(if ap then aj else hz).hy.length=108:=by split;exact b.dT;exact hd
 refine a9 (.L .D (.L (.bK [20] .D .D) .D)) 6 Tryz.func187 K rfl λa1 k=>?_;simp+decide only[↓a8,ba,Tryz.f187];subst k;refine D3 λaA l m v=>D3 λax n e x=>?_;have f:=l.J e B;have c:=m.R e B;refine bT (λo a=>o=[aK ap]/\ax=a) ?_ ?_
 ·cases ap with
  |false=>
   simp only[M];exact⟨by trivial,by trivial⟩
  |true=>
   simp only[M];exact(ly n d).2 ((ly f b.dT).2 ((eqFx d b.dT).2 ⟨B,by trivial⟩))
 rintro _ _ _ ⟨rfl,rfl⟩;cases ap with
 |true=>
  simp only[M];exact⟨rfl,am,h.V c,.iu c⟩
 |false=>
  simp only[M];refine(ly f b.dT).2 (Eb b λaa y p z q=>?_);have g:=c.R q B;refine Ea (h.V g) al i j ao b p λA r t u=>(fp dk).2 ?_;simp only[M];exact⟨rfl,r,by simpa using t,u.mN g⟩
def SQ{ap:Bool}(h:dH w ab aG am)(al:aG[ag]?=E aq)(b:aq.dW=U)(c:∀gX∈aG,gX.d3.length=aq.d3.length)(ao:s<aq.d3.length)(d:aj.bp)(k:∀a az,dH a ab (if ap then aG else aG.set ag (aq.kW s aj.e5)) az->bX am az w a->ac (bQ #[aK (!ap),cT]) a):
  W C (ck 187 #[aP ab,F H ag,F H s,iU aj,iU (if ap then aj else hz),aK ap]) w ac:=
 aH Yx (ahj h al b c ao d) (by rintro _ a ⟨rfl,az,e,f⟩;exact k a az e f)
end
section
variable{aj:dQ}
def SR(h:dH w ab aG am):a0 C 190 #[aP ab,F H n] w λae a=>ae=cT/\∃fo az,dH a ab fo az/\bX am az w a/\he aG fo λ_ aq=>if n=0\/aq.dW=G then aq else aq.pv:=by
 have R:=h.aL;refine a9 NB 2 Tryz.func190 K rfl λa1 V=>?_;simp+decide only[↓a8,ba,NB,Tryz.f190];subst V;simp only[M,bi];refine⟨λW=>⟨rfl,aG,am,h,.b0 _ _,(he.b0 aG).hu λag aq _=>by rw[if_pos (Y A)]⟩,λW=>?_⟩;have q:(dZ (cH aG)).length=(cH aG).length:=by simp[dZ]
 have aj:(cH aG).length<=8:=gz (H4 aG) h.dT.2;have r:=H5 aG;refine t0 h λcB aA X aa s=>?_;have b:eo aA am ew cB (dZ (cH aG)):=eo.cq (a:=w) X (by intro ap;simp[ew]) aa R;obtain⟨t,u,rfl,_,_⟩:=id b.1;simp only[M];rw[q];have b:eo aA am ew (T t (cH aG).length u) (dZ (cH aG)):=by rw[<-q];exact b
 refine c1 (λg a=>∃(ak:Nat)(c:List b3)(cM:List Nat),g=[F H ak]/\ak<=(cH aG).length/\dH a ab c cM/\bX am cM w a/\he aG c (λag aq=>if ag∈(cH aG).take ak then aq.pv else aq)/\eo a cM ew (T t (cH aG).length u) (dZ (cH aG)))
  (λg _=>match g with|[F _ ak]=>(cH aG).length-ak.toNat|_=>0) ⟨0,aG,am,rfl,A,h.V s,.iu s,(he.b0 aG).hu B,b⟩ ?_
 clear b;rintro _ _ ax ⟨ak,c,cM,rfl,al,v,x,i,y⟩;simp only[M,bi];refine⟨λan=>?_,λao=>?_⟩
 ·have j:ak<(cH aG).length:=A;refine(xo.ek (l:=dZ (cH aG)) y.1 (Q.b0 _ _) A).2 ?_;obtain⟨aq,k,ac⟩:=sS.1 (dX j);rw[show(dZ (cH aG))[ak]'A=(((cH aG)[ak]:Nat):Int)by simp[dZ]];have ad:=xw r j;have m:=λe=>t7 r j e;generalize(cH aG)[ak]=ag at*;have af:c[ag]?=E aq:=(i.2 ag aq k).trans (congrArg E (if_neg ad));refine A0 v af ac λar ah ai z=>(fp dk).2 ?_;simp only[M];rw[bq A A];refine⟨⟨ak+1,_,ah,rfl,A,ai,x.dP z,(i.tG k).hu (λe o d=>?_),y.de z⟩,by simp;omega⟩;by_cases p:e=ag
  ·subst p;rw[k]at d;cases d;rw[if_pos rfl,if_pos ((m _).2 (Y rfl))]
  ·rw[if_neg p];by_cases f:e∈(cH aG).take ak
   ·rw[if_pos f,if_pos ((m _).2 (Z f))]
   ·rw[if_neg f,if_neg (λh=>((m _).1 h).elim p f)]
 ·obtain rfl:ak=(cH aG).length:=A;refine⟨rfl,c,cM,v,x,i.hu (λe o d=>?_)⟩;rw[j3];cases D:o.dW with
  |true=>
   have:e∉cH aG:=λh=>by obtain⟨au,J,L⟩:=sS.1 h;rw[d]at J;cases J;rw[D]at L;cases L
   rw[if_neg this,if_pos (Z rfl)]
  |false=>
   rw[if_pos (sS.2 ⟨o,d,D⟩),if_neg (by simp;omega)]
end
section
def IN{gU:List S->aN->Prop}(u:aC w ak 226 (lz cR aQ))(i:ib w cR am ab c au aB ay al ai)(k:∀b a,aC a b 25 (en c)->w.heap.size<=b->Q [] w a->gU [aP ab,aP b] a):
  aV C (ov (aP ak)) λL=>
  aV C (gB 226 L 0) λv=>
  aZ C (a4 144 v) (w.drew) λn=>
  aV C (ov (aP ak)) λR=>
  aV C (gB 226 R 0) λj=>
  aZ C (a4 144 j) (w.drew) λe=>
  (W C (ck 132 #[n]) (w.drew) λx cd=>
  gu C (a4 144 j) e cd<|
  (W C (ck 101 #[e]) cd λV X=>
  W C (hV 25) X λy aa=>
  W C (dC 25 y V) aa λ_ ac=>
  gU [x,y] ac)/\
  (W C (hV 25) cd λz A=>
  gu C (a4 144 j) e A<|
  W C (ck 101 #[e]) A λad ae=>
  W C (dC 25 z ad) ae λ_ ag=>
  gU [x,z] ag))/\
  (W C (hV 25) (w.drew) λD o=>
  gu C (a4 144 j) e o<|
  gu C (a4 144 v) n o<|
  W C (ck 132 #[n]) o λah J=>
  gu C (a4 144 j) e J<|
  W C (ck 101 #[e]) J λaj an=>
  W C (dC 25 D aj) an λ_ ao=>
  gU [ah,D] ao):=by
 have h:=cD [] w;obtain⟨ap,aw⟩:=q4 (bD u);simp only[M,ap];have aX:∀{aA:aN}{aO:Prop},Q [] w aA->(gu C (a4 144 (aE (E ⟨ak,0,I⟩))) (aP cR) aA aO↔aO):=λaq=>dz FV ((u.J aq B).bh (af:=0));refine⟨?_,?_⟩
 ·apply aH Gp (Ir (i.V h));rintro _ _ ⟨rfl,rfl⟩;refine(aX h).2 ⟨?_,?_⟩
  ·apply aH tQ (ua (i.V h));rintro _ aA ⟨rfl,p⟩;exact mR λax l m K=>ml (g:=c) l rfl λq ar f az=>k _ q ar p.aI (((h.R p B).R m B).R f (by simp;exact p.aI))
  ·refine mR λax l m K=>?_;have d:=h.R m B;refine(aX d).2 (aH tQ (ua (i.V d)) ?_);rintro _ q ⟨rfl,f⟩;exact ml (g:=c) (l.J f B) rfl λr s t av=>k _ r s (fF _) ((d.R f B).R t B)
 ·refine mR λax l m K=>?_;have d:=h.R m B;refine(aX d).2 ((aX d).2 (aH Gp (Ir (i.V d)) ?_));rintro _ _ ⟨rfl,rfl⟩;refine(aX d).2 (aH tQ (ua (i.V d)) ?_);rintro _ q ⟨rfl,f⟩;exact ml (g:=c) (l.J f B) rfl λr s t av=>k _ r s (fF _) ((d.R f B).R t B)
end
section
def eY.bw(h:eY w ab am c au aB ay al)(d:∀ag s,ag<c.aR->vy ag s=G->ay ag s=G):eY w ab am c au aB vy al:=by obtain⟨bB,e,b⟩:=h;exact⟨bB,e,λag s a=>⟨λf=>(b ag s a).1 (d ag s a f),(b ag s a).2⟩⟩
def kZ(c:dR)(aB:Nat->Bool):List Nat:=(c9 c.aR).filter λag=>!aB ag
def ahk(h:hA c au aG bB aB):cH aG=kZ c aB:=by
 unfold cH rP kZ;rw[h.ei.aR];refine List.filter_congr λag b=>?_;have a:ag<aG.length:=by rw[h.ei.aR];exact iK.1 b
 rw[cr a];simp only[(h.ih ag _ (cr a)).dW]
def IP:ag∈kZ c aB↔ag<c.aR/\aB ag=U:=by unfold kZ;rw[ol,iK];simp
def IQ:(kZ c aB).length<=c.aR:=by have:=List.length_filter_le (λag=>!aB ag) (c9 c.aR);rwa[uw]at this
def IR:(kZ c aB).Nodup:=List.nodup_range.filter _
def eY.EM(h:eY w ab am c au aB ay al)(k:∀b d a,eo a am ew (T b (kZ c aB).length d) (dZ (kZ c aB))->Q [] w a->ac (T b (kZ c aB).length d) a):W C (ck 72 #[aP ab]) w ac:=by
 have g:=h.aL;obtain⟨bB,⟨aG,i,j⟩,o⟩:=h;refine t0 i λcB a f l m=>?_;rw[ahk j]at f;have e:eo a am ew cB (dZ (kZ c aB)):=eo.cq (a:=w) f (by intro ap;simp[ew]) l g;obtain⟨b,d,rfl,_,_⟩:=id e.1;have n:(dZ (kZ c aB)).length=(kZ c aB).length:=by simp[dZ]
 rw[n]at e⊢;exact k b d a e m
end
section
def IS{a:Option es}{b:Nat}{aw:List Nat}{ac:S->Prop}(h:aT w ew (T a aw.length b) (dZ aw))(c:ak<aw.length)(k:ac (F H (aw[ak]:Nat))):aV C (fY 22 (T a aw.length b) (F H ak)) λae=>aZ C (a4 3 ae) w ac:=by refine(xo.ek (l:=dZ aw) h (Q.b0 _ _) (by simp[dZ];exact c)).2 ?_;rw[show(dZ aw)[ak]'(by simp[dZ];exact c)=((aw[ak]:Nat):Int)by simp[dZ]];exact k
def s2(ay:Nat->Nat->Bool)(aB:Nat->Bool)(ad:Nat->Bool)(ag s:Nat):Bool:=ay ag s||(!aB ag&&ad s)
def ahl(aq:fb w am ak 226 (lz cR aQ))(o:ib w cR am ab c au aB ay al ai)(ar:∀ag,ag<c.aR->al ag 0=G):
  a0 C 133 #[aP ak] w λae a=>(∃n:Nat,ae=bQ #[F H n,cT])/\∃az,ib a cR az ab c au aB (s2 ay aB λs=>decide (s=0)) al ai/\bX am az w a:=by
 have V:=o.cL.1;have bc:=V.i6;refine a9 M3 1 Tryz.func133 K rfl λa1 av=>?_;simp+decide only[↓a8,ba,M3,Tryz.f133];subst av;refine bT (λf a=>∃b,f=[aP ab,aP b]/\aC a b 25 (en c)/\w.heap.size<=b/\Q [] w a) ?_ ?_
 ·exact IN (gU:=λf a=>∃b,f=[aP ab,aP b]/\aC a b 25 (en c)/\w.heap.size<=b/\Q [] w a) aq.1 o λb a j k aD=>⟨b,rfl,j,k,aD⟩
 rintro _ _ aA ⟨p,rfl,q,bd,W⟩;have aF:=o.V W;have aI:=o.aL;have aJ:fb aA am p 25 (en c):=⟨q,λd=>by have:=aI _ d;omega⟩;obtain⟨dc,rfl,X,aL⟩:=aF.gm;have aM:fb aA dc p 25 (en c):=⟨q,λd=>aJ.2 (by simp[d])⟩;simp only[M];refine eY.EM X λaa ac ax ad x=>?_;simp only[M];have be:(kZ c aB).length<=c.aR:=IQ;have aO:(kZ c aB).Nodup:=IR;have ah:∀ag,ag∈kZ c aB↔ag<c.aR/\aB ag=U:=λag=>IP;generalize bf:kZ c aB=aw at*;refine c1 (λf a=>∃(n ak:Nat)(az:List Nat),f=[F H n,F H ak]/\ak<=aw.length/\n<=ak/\eY a ab az c au aB (λag s=>ay ag s||(decide (ag∈aw.take ak)&&decide (s=0))) al/\bX dc az aA a/\fb a az p 25 (en c)/\eo a az ew (T aa aw.length ac) (dZ aw)) (λf _=>match f with|[_,F _ ak]=>aw.length-ak.toNat|_=>0)
  ⟨0,0,dc,rfl,A,A,(X.V x).bw B,.iu x,aM.V x,ad⟩ ?_
 clear ad;rintro _ _ aR ⟨n,ak,r,rfl,bg,bh,y,t,u,z⟩;simp only[M,bi];refine⟨λbj=>?_,λbk=>?_⟩
 ·have D:ak<aw.length:=A;have J:=(ah _).1 (dX D);have aj:=λe=>t7 aO D e;refine bT (λf a=>∃(v:Nat)(az:List Nat),f=[F H v]/\v<=ak+1/\eY a ab az c au aB (λag s=>ay ag s||(decide (ag∈aw.take (ak+1))&&decide (s=0))) al/\bX dc az aA a/\fb a az p 25 (en c)/\eo a az ew (T aa aw.length ac) (dZ aw)) ?_ ?_
  ·apply IS z.1 D;generalize aw[ak]=ag at*;obtain⟨bB,⟨aG,j,k⟩,m⟩:=id y;have eu:ag<aG.length:=by rw[k.ei.aR];exact J.1
   have an:=cr eu;apply aH LW (QE (af:=if bB ag 0 then E c else I) j an A (by rw[k.ei.cP _ (dX eu)];unfold dR.e6;omega) (λbl e=>by split at e<;>cases e;exact V) (by rw[k.R4 an];split<;>rfl));rintro _ aS ⟨rfl,ao⟩;simp only[cV,cX];refine mR λbm q aT bn=>ml (g:=(if bB ag 0 then E c else I).getD qW) q rfl λL ap aU bo=>?_;have h:Q [] aR L:=(ao.R aT B).R aU (by simp;exact ao.aI);refine bT (λf a=>f=[aK (bB ag 0)]/\L=a) ?_ ?_
   ·cases l:bB ag 0 with
    |false=>
     simp only[M,fc,if_false,wH];exact⟨by trivial,by trivial⟩
    |true=>
     rw[l]at ap;simp only[M,if_true,vu];exact(fj ap).2 ((fj (u.V h).1).2 (eqC.2 ⟨B,by trivial⟩))
   rintro _ _ _ ⟨rfl,rfl⟩;cases l:bB ag 0 with
   |true=>
    simp only[M];refine⟨n,r,rfl,A,?_,t.oM h,u.V h,z.V h⟩;refine eY.V ⟨bB,⟨aG,j,k⟩,λe s i=>⟨λd=>?_,(m e s i).2⟩⟩ h;simp only[pP,dA,decide_eq_true_eq]at d;rcases d with d|⟨d,rfl⟩
    ·exact(m e s i).1 (by simp[d])
    ·rcases(aj e).1 d with rfl|d
     ·exact l
     ·exact(m e 0 i).1 (by simp[d])
   |false=>
    simp only[M];refine(fj (u.V h).1).2 ?_;have aV:iw L ab r c au bB aB:=iw.V ⟨aG,j,k⟩ h;refine R0 aV J.1 J.2 λbp aW aX aY=>(fp dk).2 ?_;simp only[M];rw[bq A A];have R:=aY.mN h;refine⟨n+1,aW,rfl,A,⟨_,aX,λe s i=>⟨λd=>?_,λd=>?_⟩⟩,t.dP R,u.de R,z.de R⟩
    ·simp only[pP,dA,decide_eq_true_eq]at d⊢;rcases d with d|⟨d,rfl⟩
     ·exact Y ((m e s i).1 (by simp[d]))
     ·rcases(aj e).1 d with rfl|d
      ·exact Z ⟨rfl,rfl⟩
      ·exact Y ((m e 0 i).1 (by simp[d]))
    ·simp only[pP,dA,decide_eq_true_eq]at d;rcases d with d|⟨rfl,rfl⟩
     ·exact(m e s i).2 d
     ·exact ar _ i
  ·rintro _ _ aS ⟨v,aZ,rfl,a2,a3,a4,a5,a6⟩;simp only[M];rw[bq A A];exact⟨⟨v,ak+1,aZ,rfl,A,a2,a3,a4,a5,a6⟩,by simp;omega⟩
 ·obtain rfl:ak=aw.length:=A;rw[j3]at y;refine⟨⟨n,rfl⟩,cR::r,⟨⟨r,rfl,y.bw (λag s a7 d=>?_),aL.de t⟩,o.kU⟩,(t.qj (λg l=>by simp[l]) (λg l=>by
   rcases ce.1 l with rfl|bb
   ·exact Z B
   ·exact Y bb)).mN W⟩
  unfold s2 at d;simp only[pP,dA,decide_eq_true_eq,lq]at d⊢;rcases d with d|⟨j,rfl⟩
  ·exact Y d
  ·exact Z ⟨(ah ag).2 ⟨a7,j⟩,rfl⟩
end
def lA(c:dR)(bj:Nat)(x:iX)(g:Nat->Bool)(i s:Nat):Option (List UInt8):=if g s then I else kD c bj x i s
section
variable{g:Nat->Bool}
def ahm(a:g (1+bj*c.aJ+i)=U):({aq with dp:=lA c bj x g i}:b3).kW (1+bj*c.aJ+i) (x.eQ i).e5={aq with dp:=lA c bj x g (i+1)}:=by
 unfold b3.kW;congr 1;funext s;have h:=congrArg (λaq:b3=>aq.dp s) (Rg (aq:=aq) (c:=c) (bj:=bj) (x:=x) (i:=i));unfold b3.kW at h;simp only at h⊢;unfold lA;by_cases ao:s=1+bj*c.aJ+i
 ·subst ao;rw[a];simpa using h
 ·cases b:g s with
  |true=>simp[ao]
  |false=>simpa[ao]using h
def SS(d:g (1+bj*c.aJ+i)=G):lA c bj x g (i+1)=lA c bj x g i:=by
 funext s;unfold lA;cases b:g s with
 |true=>rfl
 |false=>
  have ao:s≠1+bj*c.aJ+i:=λe=>by rw[e,d]at b;cases b
  simp only[fc,if_false];unfold kD;by_cases a:1+bj*c.aJ<=s/\s<1+bj*c.aJ+i
  ·rw[if_pos a,if_pos ⟨a.1,A⟩]
  ·rw[if_neg a,if_neg A]
def ST:lA c bj x g 0=λ_=>I:=by funext s;unfold lA kD;rw[if_neg (show¬(1+bj*c.aJ<=s/\s<1+bj*c.aJ+0)by omega)];simp
def ahn:lA c bj x g i (1+bj*c.aJ+i)=I:=by unfold lA kD;rw[if_neg (show¬(1+bj*c.aJ<=1+bj*c.aJ+i/\1+bj*c.aJ+i<1+bj*c.aJ+i)by omega)];simp
def aho{bE:Nat->Option (List UInt8)}{k d b:Int}(a:aq.dp=λ_=>I)(h:bE s=I):ec {aq with dp:=bE} s k d b=ec aq s k d b:=by unfold ec b3.j5;rw[a];simp only[h]
def ahp(al:i<c.aJ):(⟨(au.dh bj).L,(au.dh bj).e4,lW au bj c.aJ⟩:iX).eQ i=jk au bj i:=by
 unfold iX.eQ jk iX.eQ lW;have:((c9 c.aJ).map λi=>(au.dh bj).ii.getD i jL).getD i jL=(au.dh bj).ii.getD i jL:=by rw[gp,e1,qD al];rfl
 simp only[this]
end
section
variable{g:Nat->Bool}
def SU{bE:Nat->Nat->Option (List UInt8)}{ad:Nat->Bool}(d:hA c au aG bB aB)(f:∀ag s,ag<c.aR->(ay ag s=G->bB ag s=G)/\(bB ag s=G->al ag s=G))(g:he aG fo λag aq=>if aq.dW then aq else jJ aq (bE ag))(i:dH w ab fo am)
  (j:∀ag s b,ag<c.aR->s<c.e6->bE ag s=E b->b=(au.eQ c ag s).e5) (k:∀ag s,ag<c.aR->ad s=G->bB ag s=G\/(bE ag s).isSome=G) (l:∀ag s,(bE ag s).isSome=G->ad s=G) (m:∀ag s,ag<c.aR->ad s=G->al ag s=G):eY w ab am c au aB (s2 ay aB ad) al:=by
 refine⟨_,⟨fo,i,d.dt d.cL g j (λ_ _ _ _ _ _=>rfl)⟩,λag s a=>⟨λh=>?_,λh=>?_⟩⟩
 ·have n:ag<aG.length:=by rw[d.ei.aR];exact a
  unfold s2 at h;simp only[pP,dA,lq]at h⊢;rcases h with h|⟨o,p⟩
  ·have e:=(f ag s a).1 h;refine⟨?_,Z e⟩;cases q:aB ag with
   |false=>rfl
   |true=>rw[(d.ih ag _ (cr n)).t6 q s]at e;cases e
  ·exact⟨o,(k ag s a p).symm⟩
 ·simp only[pP,dA]at h;rcases h.2 with h|h
  ·exact m ag s a (l ag s h)
  ·exact(f ag s a).2 h
def SV{bE:Nat->Option (List UInt8)}(c:aq.dp=λ_=>I)(d:n=0->aq.dW=U->bE=λ_=>I):(if n=0\/aq.dW=G then(if aq.dW then aq else{aq with dp:=bE})else({aq with dp:=bE}:b3).pv)=if aq.dW then aq else jJ aq bE:=by
 by_cases a:aq.dW=G
 ·rw[if_pos (Z a),if_pos a,if_pos a]
 ·by_cases b:n=0
  ·rw[if_pos (Y b),if_neg a,if_neg a,d b (by simpa using a),RQ c,<-c]
  ·rw[if_neg (by simp[b,a]),if_neg a];rfl
end
section
variable{g:Nat->Bool}
def ahq(bU:fb w am ak 226 (lz cR aQ))(aa:ib w cR am ab c au aB ay al ai)(ao:bj<c.cY)(bW:∀i,i<c.aJ->0<bV (mo c ay bj i) c.aR)(bY:∀ag s,ag<c.aR->s<fg c->al ag s=G):
  a0 C 134 #[aP ak,F H bj] w λae a=>(∃n:Nat,ae=bQ #[F H n,cT])/\∃az,ib a cR az ab c au aB (s2 ay aB (n7 c bj)) al ai/\bX am az w a:=by
 obtain⟨ah,bh⟩:=aa.cL;have cQ:=ah.i6;have cS:c.aJ<=8:=by have:=ah.jY;omega
 refine a9 M4 2 Tryz.func134 K rfl λa1 bZ=>?_;simp+decide only[↓a8,ba,M4,Tryz.f134];subst bZ;refine bT (λj a=>∃b,j=[aP ab,aP b]/\aC a b 25 (en c)/\w.heap.size<=b/\Q [] w a) ?_ ?_
 ·exact IN (gU:=λj a=>∃b,j=[aP ab,aP b]/\aC a b 25 (en c)/\w.heap.size<=b/\Q [] w a) bU.1 aa λb a aj p b0=>⟨b,rfl,aj,p,b0⟩
 rintro _ _ aA ⟨ac,rfl,aV,cU,bk⟩;have b2:=aa.V bk;have b7:=aa.aL;have b8:fb aA am ac 25 (en c):=⟨aV,λv=>by have:=b7 _ v;omega⟩;obtain⟨dc,rfl,aW,b9⟩:=b2.gm;have bl:fb aA dc ac 25 (en c):=⟨aV,λv=>b8.2 (by simp[v])⟩;have bm:=aW.aL;simp only[M];apply(fj aV).2;obtain⟨bB,⟨aG,aj,p⟩,bn⟩:=id aW;apply aH Gt (H9 aj p ao (λi al=>iL (bW i al) (r4 λag k v=>(bn ag _ k).1 v)));rintro _ ax ⟨b1,rfl,bo,ca,bp⟩;simp only[In];refine wd λcW cb cc cY=>?_;generalize aX:(⟨(au.dh bj).L,(au.dh bj).e4,lW au bj c.aJ⟩:iX)=x;have cf:x.ii=lW au bj c.aJ:=by rw[<-aX]
 have aY:∀i,i<c.aJ->x.eQ i=jk au bj i:=λi al=>by rw[<-aX];exact ahp al
 rw[show mS ⟨(au.dh bj).L,(au.dh bj).e4,[]⟩ b1=mS x b1 by rw[<-aX];rfl];refine we (ap:=x) (ae:=b1) cb rfl (Br bo).aW λaZ cg ch cZ=>?_;have br:Q [] ax aZ:=cc.R ch B;have bs:=bp.R br B;apply(fp dk).2;simp only[M];have bt:fb aZ dc ax.heap.size 310 (j1 x b1):=⟨cg,λv=>by have:=bm _ v;have:=bp.aI;omega⟩;have bu:eo aZ dc eL b1 x.ii:=by rw[cf];exact eo.cq (a:=aA) (bo.V br) (λap=>by rw[nG];omega) ca bm
 generalize ax.heap.size=a2 at*;refine eY.EM (aW.V bs) λa3 a4 c0 t a5=>?_;simp only[M];have a6:=bs.R a5 B;have c2:(kZ c aB).length<=c.aR:=IQ;have bv:(kZ c aB).Nodup:=IR;have a7:∀ag,ag∈kZ c aB↔ag<c.aR/\aB ag=U:=λag=>IP;generalize c3:kZ c aB=aw at*;have bw:∀(ag:Nat)(aq:b3),aG[ag]?=E aq->aq.dp=λ_=>I:=λag aq d=>(p.ih ag aq d).dp
 have bb:∀(ag:Nat)(aq:b3),aG[ag]?=E aq->aq.dW=aB ag:=λag aq d=>(p.ih ag aq d).dW;refine c1 (λj a=>∃(n ak:Nat)(an:List b3)(az:List Nat),j=[F H n,F H ak]/\ak<=aw.length/\n<=ak*8/\dH a ab an az/\he aG an (λe aq=>if e∈aw.take ak then{aq with dp:=lA c bj x (bB e) c.aJ}else aq)/\(n=0->∀e,e∈aw.take ak->lA c bj x (bB e) c.aJ=λ_=>I)/\bX dc az aA a/\fb a az ac 25 (en c)/\fb a az a2 310 (j1 x b1)/\eo a az eL b1 x.ii/\eo a az ew (T a3 aw.length a4) (dZ aw)) (λj _=>match j with|[_,F _ ak]=>aw.length-ak.toNat|_=>0)
  ⟨0,0,aG,dc,rfl,A,A,aj.V a6,(he.b0 aG).hu B,B,.iu a6,bl.V a6,bt.V a5,bu.V a5,t⟩ ?_
 clear t bt bu bl;rintro _ _ c4 ⟨n,ak,an,cM,rfl,c5,c6,L,q,bc,R,y,V,W,t⟩;simp only[M,bi];refine⟨λc7=>?_,λc8=>?_⟩
 ·have ar:ak<aw.length:=A;have bd:=(a7 _).1 (dX ar);have av:=λe=>t7 bv ar e;have ad:=xw bv ar;apply IS t.1 ar;generalize aw[ak]=ag at*;obtain⟨da,ci,db,dd,de⟩:=iV y.1;simp only[M,ci];have d:aG[ag]?=E (aG[ag]'(by rw[p.ei.aR];exact bd.1)):=cr _;generalize aG[ag]'(by rw[p.ei.aR];exact bd.1)=aq at d;have cj:aq.dW=U:=(bb ag aq d).trans bd.2;have bx:=bw ag aq d;refine c1 (λj a=>∃(D i:Nat)(m:List b3)(o:List Nat),j=[F H D,F H i]/\i<=c.aJ/\D<=n+i/\n<=D/\dH a ab m o/\he aG m (λe aq=>if e∈aw.take ak then{aq with dp:=lA c bj x (bB e) c.aJ}else if e=ag then{aq with dp:=lA c bj x (bB ag) i}else aq)/\(D=n->lA c bj x (bB ag) i=λ_=>I)/\bX dc o aA a/\fb a o ac 25 (en c)/\fb a o a2 310 (j1 x b1)/\eo a o eL b1 x.ii/\eo a o ew (T a3 aw.length a4) (dZ aw)) (λj _=>match j with|[_,F _ i]=>c.aJ-i.toNat|_=>0)
   ⟨n,0,an,cM,rfl,A,A,A,L,q.hu (λe aD r=>?_),λ_=>ST,R,y,V,W,t⟩ ?_
  ·by_cases z:e=ag
   ·subst z;rw[d]at r;cases r;rw[if_neg ad,if_neg ad,if_pos rfl,ST,<-bx]
   ·rw[if_neg z]
  clear R y V W t L q;rintro _ _ be ⟨D,i,m,o,rfl,al,df,dg,L,q,bz,R,y,V,W,t⟩;simp only[M,bi];refine⟨λck=>?_,λck=>?_⟩
  ·have X:i<c.aJ:=A;have aF:=xu ao X;have bC:1+bj*c.aJ+i<c.e6:=by unfold dR.e6;unfold fg at aF;omega
   have aI:m[ag]?=E {aq with dp:=lA c bj x (bB ag) i}:=(q.2 ag aq d).trans (congrArg E (by dsimp only;rw[if_neg ad,if_pos rfl]));have aJ:lv m c:=q.ei p.ei (λe aD _=>by split<;>first|rfl|(split<;>rfl));refine bT (λj a=>∃(ap:Bool)(J:List Nat),j=[F H (if ap then D else D+1:Nat)]/\bB ag (1+bj*c.aJ+i)=ap/\dH a ab (if ap then m else m.set ag {aq with dp:=lA c bj x (bB ag) (i+1)}) J/\bX dc J aA a/\fb a J ac 25 (en c)/\fb a J a2 310 (j1 x b1)/\eo a J eL b1 x.ii/\eo a J ew (T a3 aw.length a4) (dZ aw)) ?_ ?_
   ·refine(fj y.1).2 (aH LX (Rk (ap:=bB ag (1+bj*c.aJ+i)) L aJ bh aI ao X ?_) ?_)
    ·rw[aho bx ahn,p.ec d bC (by rw[y4 ao X];simp[e0,iX.eQ]),y4 ao X]
    rintro _ cm ⟨rfl,bG⟩;simp only[cV,cX];generalize aL:bB ag (1+bj*c.aJ+i)=ap;have cn:=bh.t5 bj ao;have dh:=ah.jZ;have cp:(jk au bj i).bp:=iX.wb A A cn.2.1;have aM:(if ap then jk au bj i else hz).hy.length=108:=by split;exact qg _ _ _;exact hd
    refine nF λcd cq cs dj=>lT cq hd aM λbH bf ct dl=>?_;have aO:Q [] be bH:=(bG.R cs B).R ct (by simp;exact bG.aI);have cu:=cD [] bH;have cv:=y.V aO;have bI:=V.V aO;refine(fj (bD cv.1)).2 ((u0 (bD bI.1)).2 ((ly (bD bf) aM).2 (aH Gu (H7 ah ao X) ?_)));rintro _ dm ⟨rfl,cw⟩;have aR:=cu.R cw B;refine(mE (l:=fa (if ap then jk au bj i else hz)) (by rw[pu aM];exact tN) (bf.J aR B).cy).2 ((mE CV (bI.V aR).1.cy).2 ?_);have cx:=W.V (aO.R aR B);apply aH LY (Rf cx.1);rintro _ dn ⟨rfl,cy⟩;have bJ:=aR.R cy B;apply(mE (l:=fa (if ap then jk au bj i else hz)) (by rw[pu aM];exact tN) (bf.J bJ B).cy).2;have bK:=aO.R bJ B;rw[aY i X];refine SQ (L.V bK) aI cj (λgX cz=>?_) ?_ cp λcA bg aS cB=>?_
    ·rw[aJ.cP gX cz,aJ.cP _ (gP aI)]
    ·rw[aJ.cP _ (gP aI)];exact bC
    simp only[cV,cX];apply(fp dk).2;simp only[M];have u:=cB.mN bK;have bL:dH cA ab (if ap then m else m.set ag {aq with dp:=lA c bj x (bB ag) (i+1)}) bg:=by
     cases ap with
     |true=>exact aS
     |false=>
      have e:=ahm (aq:=aq) (c:=c) (x:=x) (i:=i) (bj:=bj) (g:=bB ag) aL;rw[aY i X]at e;simp only[fc,if_false]at aS⊢;rw[e]at aS;exact aS
    cases ap with
    |true=>
     simp only[M,hq];exact⟨G,bg,rfl,rfl,bL,R.dP u,y.de u,V.de u,W.de u,t.de u⟩
    |false=>
     simp only[M,lE];rw[bq A A];exact⟨U,bg,rfl,rfl,bL,R.dP u,y.de u,V.de u,W.de u,t.de u⟩
   ·rintro _ _ cm ⟨ap,J,rfl,aL,cC,cE,cF,cG,cH,cI⟩;simp only[M];rw[bq A A];refine⟨⟨_,i+1,_,J,rfl,A,by split<;>omega,by split<;>omega,cC,?_,?_,cE,cF,cG,cH,cI⟩,by simp;omega⟩
    ·cases ap with
     |true=>
      simp only[if_true];refine q.hu λe aD r=>?_;rw[SS aL]
     |false=>
      simp only[fc,if_false];refine(q.tG d).hu λe aD r=>?_;by_cases z:e=ag
      ·subst z;rw[d]at r;cases r;rw[if_pos rfl,if_neg ad,if_pos rfl]
      ·simp only[z,if_false]
    ·cases ap with
     |true=>
      simp only[if_true];intro e;rw[SS aL];exact bz e
     |false=>
      simp only[fc,if_false];intro e;omega
  ·obtain rfl:i=c.aJ:=A;try simp only[M]
   rw[bq A A];refine⟨⟨D,ak+1,m,o,rfl,A,A,L,q.hu λe aD r=>?_,λbM e r=>?_,R,y,V,W,t⟩,by simp;omega⟩
   ·by_cases z:e=ag
    ·subst z;rw[if_neg ad,if_pos rfl,if_pos ((av _).2 (Y rfl))]
    ·rw[if_neg z];by_cases aT:e∈aw.take ak
     ·rw[if_pos aT,if_pos ((av _).2 (Z aT))]
     ·rw[if_neg aT,if_neg (λh=>((av _).1 h).elim z aT)]
   ·rcases(av e).1 r with rfl|r
    ·exact bz A
    ·exact bc A e r
 ·obtain rfl:ak=aw.length:=A;rw[j3]at q bc;apply aH LZ (SR L);rintro _ be ⟨rfl,m,o,cJ,cK,bP⟩;have cL:he aG m λag aq=>if aq.dW then aq else jJ aq (lA c bj x (bB ag) c.aJ):=by
   refine⟨bP.1.trans q.1,λag aq d=>(bP.2 ag _ (q.2 ag aq d)).trans (congrArg E ?_)⟩;dsimp only;have eu:ag<c.aR:=by rw[<-p.ei.aR];exact(fi.1 d).1
   by_cases k:aq.dW=G
   ·have:ag∉aw:=λv=>by have:=((a7 ag).1 v).2;rw[<-bb ag aq d,k]at this;cases this
    simp only[this,if_false,k,or_true,if_true]
   ·have:ag∈aw:=(a7 ag).2 ⟨eu,by rw[<-bb ag aq d];simpa using k⟩;simp only[this,if_true];rw[if_neg k];have aU:=SV (n:=n) (aq:=aq) (bE:=lA c bj x (bB ag) c.aJ) (bw ag aq d) (λbM _=>bc bM ag this);rw[if_neg k,if_neg k]at aU;exact aU
  have aF:∀s,n7 c bj s=G->∃i,i<c.aJ/\s=1+bj*c.aJ+i:=λs f=>by have f:=of_decide_eq_true f;exact⟨s-(1+bj*c.aJ),A,A⟩
  have cO:∀i,i<c.aJ->1+bj*c.aJ+i<fg c:=λi al=>xu ao al;have cP:eY be ab o c au aB (s2 ay aB (n7 c bj)) al:=by
   refine SU p bn cL cJ (λag s b k dq e=>?_) (λag s k f=>?_) (λag s f=>?_) (λag s k f=>?_)
   ·unfold lA at e;split at e
    ·cases e
    ·have f:n7 c bj s=G:=by rw[<-Bn (x:=x),e];rfl
     obtain⟨i,al,rfl⟩:=aF s f;unfold kD at e;rw[if_pos ⟨A,A⟩,show 1+bj*c.aJ+i-(1+bj*c.aJ)=i by omega,aY i al]at e;cases e;rw[y4 ao al];rfl
   ·cases af:bB ag s with
    |true=>exact Y rfl
    |false=>
     right;unfold lA;rw[af];simp only[fc,if_false];rw[Bn];exact f
   ·unfold lA at f;split at f
    ·cases f
    ·rw[Bn]at f;exact f
   ·obtain⟨i,al,rfl⟩:=aF s f;exact bY ag _ k (cO i al)
  have bR:=R.dP cK;exact⟨⟨n,rfl⟩,cR::o,⟨⟨o,rfl,cP,b9.de bR⟩,aa.kU⟩,(bR.qj (λg af=>by simp[af]) (λg af=>by
   rcases ce.1 af with rfl|aU
   ·exact Z B
   ·exact Y aU)).mN bk⟩
end
def oc(c:dR)(au:eW)(t:Nat)(bB:Nat->Nat->Bool)(ag s:Nat):Option (List UInt8):=if s=fg c+t/\bB ag s=U then E (jw c au t ag).e5 else I
section
variable{g:Nat->Bool}
def ahr(bZ:fb w am ak 226 (lz cR aQ))(V:ib w cR am ab c au aB ay al ai)(X:t<c.bd)(b0:c.aJ<=bV (ia c ay t) c.aR)(b2:c.aJ<=bV (λag=>!aB ag) c.aR)(b7:∀ag,ag<c.aR->al ag (fg c+t)=G):
  a0 C 135 #[aP ak,F H t] w λae a=>(∃n:Nat,ae=bQ #[F H n,cT])/\∃az,ib a cR az ab c au aB (s2 ay aB (r2 c t)) al ai/\bX am az w a:=by
 obtain⟨D,bg⟩:=V.cL;have c6:=D.i6;have bh:c.aJ<=8:=by have:=D.jY;omega
 refine a9 M5 2 Tryz.func135 K rfl λa1 b8=>?_;simp+decide only[↓a8,ba,M5,Tryz.f135];subst b8;refine bT (λp a=>∃b,p=[aP ab,aP b]/\aC a b 25 (en c)/\w.heap.size<=b/\Q [] w a) ?_ ?_
 ·exact IN (gU:=λp a=>∃b,p=[aP ab,aP b]/\aC a b 25 (en c)/\w.heap.size<=b/\Q [] w a) bZ.1 V λb a aa k b9=>⟨b,rfl,aa,k,b9⟩
 rintro _ _ aA ⟨ad,rfl,af,c7,bj⟩;have ca:=V.V bj;have cb:=V.aL;have cc:fb aA am ad 25 (en c):=⟨af,λi=>by have:=cb _ i;omega⟩;obtain⟨dc,rfl,aO,cf⟩:=ca.gm;have bk:fb aA dc ad 25 (en c):=⟨af,λi=>cc.2 (by simp[i])⟩;have cg:=aO.aL;simp only[M];apply(fj af).2;obtain⟨bB,⟨aG,aa,k⟩,bl⟩:=id aO;have ch:c.aJ<=(cH aG).length:=by rw[hA.cH k];exact b2
 have ci:c.aJ<=bV (ia c bB t) c.aR:=gz b0 (r4 λag f i=>(bl ag _ f).1 i);apply aH Dc (EB aa k X ch);rintro _ ax ⟨aR,i⟩;rw[if_pos ci]at i;obtain⟨b1,rfl,cj,c8⟩:=i;simp only[na,oB,oC];apply(fp dk).2;simp only[M];have ck:=af.J aR B;apply(fj ck).2;have cm:=bg.wc t X;apply aH LQ (RN (t:=t) (h5:=au.g4 t) D cm cj);rintro _ cn ⟨cp,a2,rfl,bm,bn,cq,cs⟩;simp only[cV,cX];apply(fp dk).2;simp only[M];have bo:=aR.R cs B;have x:eo cn dc jx cp a2:=eo.cq (a:=ax) bm (λap=>by rw[qh];omega) cq (λg j=>iL (cg g j) aR.aI);have bp:a2.length=c.aR:=by have:=congrArg jm bn;simpa using this
 have ct:∀ag,(f:ag<a2.length)->a2[ag].1=jw c au t ag:=by
  intro ag f;have:(a2.map (·.1))[ag]?=E a2[ag].1:=by rw[e1,cr f];rfl
  rw[bn,e1,qD A]at this;exact(re this).symm
 obtain⟨br,bs,rfl,_,_⟩:=id bm;rw[bp]at x⊢;refine eY.EM (aO.V bo) λbt bu da J bv=>?_;simp only[M];have aS:=bo.R bv B;have db:(kZ c aB).length<=c.aR:=IQ;have bw:(kZ c aB).Nodup:=IR;have aT:∀ag,ag∈kZ c aB↔ag<c.aR/\aB ag=U:=λag=>IP;generalize dd:kZ c aB=aw at*;have aU:∀(ag:Nat)(aq:b3),aG[ag]?=E aq->aq.dp=λ_=>I:=λag aq d=>(k.ih ag aq d).dp
 have aV:∀(ag:Nat)(aq:b3),aG[ag]?=E aq->aq.dW=aB ag:=λag aq d=>(k.ih ag aq d).dW;have ah:fg c+t<c.e6:=by unfold dR.e6 fg;omega
 refine c1 (λp a=>∃(n ak:Nat)(o:List b3)(az:List Nat),p=[F H n,F H ak]/\ak<=aw.length/\n<=ak/\dH a ab o az/\he aG o (λe aq=>if e∈aw.take ak then{aq with dp:=oc c au t bB e}else aq)/\(n=0->∀e,e∈aw.take ak->oc c au t bB e=λ_=>I)/\bX dc az aA a/\fb a az ad 25 (en c)/\eo a az jx (T br c.aR bs) a2/\eo a az ew (T bt aw.length bu) (dZ aw)) (λp _=>match p with|[_,F _ ak]=>aw.length-ak.toNat|_=>0)
  ⟨0,0,aG,dc,rfl,A,A,aa.V aS,(he.b0 aG).hu B,B,.iu aS,bk.V aS,x.V bv,J⟩ ?_
 clear J x bk;rintro _ _ cu ⟨n,ak,o,cM,rfl,de,df,aW,y,aX,aY,an,x,J⟩;simp only[M,bi];refine⟨λdg=>?_,λdh=>?_⟩
 ·have ar:ak<aw.length:=A;have L:=(aT _).1 (dX ar);have av:=λe=>t7 bw ar e;have bx:=xw bw ar;refine bT (λp a=>∃(ap:Bool)(z:List Nat),p=[F H (if ap then n else n+1:Nat)]/\bB aw[ak] (fg c+t)=ap/\(∃aq,aG[aw[ak]]?=E aq/\dH a ab (if ap then o else o.set aw[ak] {aq with dp:=oc c au t bB aw[ak]}) z)/\bX dc z aA a/\fb a z ad 25 (en c)/\eo a z jx (T br c.aR bs) a2/\eo a z ew (T bt aw.length bu) (dZ aw)) ?_ ?_
  ·apply IS J.1 ar;generalize aw[ak]=ag at*;have d:aG[ag]?=E (aG[ag]'(by rw[k.ei.aR];exact L.1)):=cr _;generalize aG[ag]'(by rw[k.ei.aR];exact L.1)=aq at d;have cv:aq.dW=U:=(aV ag aq d).trans L.2;have a3:=aU ag aq d;have a5:o[ag]?=E aq:=(y.2 ag aq d).trans (congrArg E (if_neg bx));have bC:∀gX∈o,gX.d3.length=c.e6:=(y.ei k.ei (λe q _=>by split<;>rfl)).cP;have a6:aq.d3.length=c.e6:=bC aq (gP a5);refine(fj an.1).2 (aH De (Ex D X) ?_);rintro _ bG ⟨rfl,bH⟩;apply aH L0 (Qu (aW.V bH) a5 (by rw[a6];exact ah));rintro _ cw ⟨rfl,bh⟩;rw[k.ec d ah (by rw[xv];simp[e0,jw]),xv];simp only[cV,cX];generalize aD:bB ag (fg c+t)=ap;have bI:(jw c au t ag).bp:=by rw[<-xv];exact wb bg D L.1 ah
   have cx:((if ap=G then E (jw c au t ag)else I).getD hz)=if ap then jw c au t ag else hz:=by split<;>rfl
   have cy:(if ap=G then E (jw c au t ag)else I).isSome=ap:=by cases ap<;>rfl
   rw[cx,cy];have a7:(if ap then jw c au t ag else hz).hy.length=108:=by split;exact bI.dT;exact hd
   refine nF λcd cz cA dj=>lT cz hd a7 λbb bJ cB dl=>?_;have bK:=bH.R bh B;have bc:Q [] cu bb:=(bK.R cA B).R cB (by simp;exact bK.aI);have cC:=cD [] bb;have cE:=an.V bc;apply(fj (bD cE.1)).2;have cF:=x.V bc;have bL:ag<a2.length:=by rw[bp];exact L.1
   obtain⟨aF,aI,dm,bM,bP⟩:=cF.1.sH qh bL;simp only[zI]at bM;obtain⟨rfl,_,rfl⟩:=bM;apply(hP Au Ap L.1).2;have cG:∀{a},fu a aF (aI+ag*112) (jx a2[ag])->∀ac:S->Prop,aZ C (a4 317 (aE (E ⟨aF,aI+ag*112,I⟩))) a ac↔ac (iU a2[ag].1):=λh ac=>gC (l:=jx a2[ag]) (by rw[qh];exact tN) h;have cI:fu bb.drew aF (aI+ag*112) (jx a2[ag]):=bP;refine(cG cI _).2 ((ly (bD bJ) a7).2 (aH De (Ex D X) ?_));rintro _ cJ ⟨rfl,cK⟩;have bd:=cC.R cK B;apply(mE (l:=fa (if ap then jw c au t ag else hz)) (by rw[pu a7];exact tN) (bJ.J bd B).cy).2;have cL:fu cJ aF (aI+ag*112) (jx a2[ag]):=bP.J bd B;apply(mE (l:=jx a2[ag]) (by rw[qh];exact tN) cL).2;have bR:=bc.R bd B;rw[ct ag bL];refine SQ (aW.V bR) a5 cv (λgX cO=>by rw[bC gX cO,a6]) (by rw[a6];exact ah) bI λcP be aJ cQ=>?_;simp only[cV,cX];apply(fp dk).2;simp only[M];have u:=cQ.mN bR;have bU:dH cP ab (if ap then o else o.set ag {aq with dp:=oc c au t bB ag}) be:=by
    cases ap with
    |true=>exact aJ
    |false=>
     have e:aq.kW (fg c+t) (jw c au t ag).e5={aq with dp:=oc c au t bB ag}:=by
      unfold b3.kW;congr 1;funext s;unfold oc;rw[a3];by_cases ao:s=fg c+t
      ·subst ao;rw[if_pos rfl,if_pos ⟨rfl,aD⟩]
      ·rw[if_neg ao,if_neg (λh=>ao h.1)]
     simp only[fc,if_false]at aJ⊢;rw[e]at aJ;exact aJ
   cases ap with
   |true=>
    simp only[M,hq];exact⟨G,be,rfl,rfl,⟨aq,d,bU⟩,aY.dP u,an.de u,x.de u,J.de u⟩
   |false=>
    simp only[M,lE];rw[bq A A];exact⟨U,be,rfl,rfl,⟨aq,d,bU⟩,aY.dP u,an.de u,x.de u,J.de u⟩
  ·rintro _ _ cw ⟨ap,z,rfl,aD,⟨aq,d,cS⟩,cU,cW,cY,cZ⟩;simp only[M];rw[bq A A];generalize aw[ak]=ag at*;have a3:=aU ag aq d;refine⟨⟨_,ak+1,_,z,rfl,A,by split<;>omega,cS,?_,?_,cU,cW,cY,cZ⟩,by simp;omega⟩
   ·have bz:∀(W:List b3)(aj:Nat->b3->b3),he aG W aj->(∀e q,aG[e]?=E q->aj e q=if e=ag then{aq with dp:=oc c au t bB ag}else if e∈aw.take ak then{q with dp:=oc c au t bB e}else q)->he aG W λe aq=>if e∈aw.take (ak+1)then{aq with dp:=oc c au t bB e}else aq:=by
     intro W aj c0 r;refine c0.hu λe q v=>(r e q v).trans ?_;by_cases R:e=ag
     ·subst R;rw[d]at v;cases v;rw[if_pos rfl,if_pos ((av _).2 (Y rfl))]
     ·rw[if_neg R];by_cases aL:e∈aw.take ak
      ·rw[if_pos aL,if_pos ((av _).2 (Z aL))]
      ·rw[if_neg aL,if_neg (λh=>((av _).1 h).elim R aL)]
    cases ap with
    |true=>
     simp only[if_true];refine bz o _ y λe q r=>?_;by_cases R:e=ag
     ·subst R;rw[d]at r;cases r;rw[if_neg bx,if_pos rfl];have:oc c au t bB e=λ_=>I:=by funext s;unfold oc;rw[if_neg];rintro⟨rfl,j⟩;rw[aD]at j;cases j
      rw[this,<-a3]
     ·rw[if_neg R]
    |false=>
     simp only[fc,if_false];exact bz _ _ (y.tG d) λe q r=>rfl
   ·cases ap with
    |true=>
     simp only[if_true];intro v e r;rcases(av e).1 r with rfl|r
     ·funext s;unfold oc;rw[if_neg];rintro⟨rfl,j⟩;rw[aD]at j;cases j
     ·exact aX v e r
    |false=>
     simp only[fc,if_false];intro v;omega
 ·obtain rfl:ak=aw.length:=A;rw[j3]at y aX;apply aH LZ (SR aW);rintro _ bG ⟨rfl,W,bf,c2,c3,bW⟩;have c4:he aG W λag aq=>if aq.dW then aq else jJ aq (oc c au t bB ag):=by
   refine⟨bW.1.trans y.1,λag aq d=>(bW.2 ag _ (y.2 ag aq d)).trans (congrArg E ?_)⟩;dsimp only;have eu:ag<c.aR:=by rw[<-k.ei.aR];exact(fi.1 d).1
   by_cases f:aq.dW=G
   ·have:ag∉aw:=λi=>by have:=((aT ag).1 i).2;rw[<-aV ag aq d,f]at this;cases this
    simp only[this,if_false,f,or_true,if_true]
   ·have:ag∈aw:=(aT ag).2 ⟨eu,by rw[<-aV ag aq d];simpa using f⟩;simp only[this,if_true];rw[if_neg f];have aM:=SV (n:=n) (aq:=aq) (bE:=oc c au t bB ag) (aU ag aq d) (λv _=>aX v ag this);rw[if_neg f,if_neg f]at aM;exact aM
  have c5:eY bG ab bf c au aB (s2 ay aB (r2 c t)) al:=by
   refine SU k bl c4 c2 (λag s b f dn e=>?_) (λag s f m=>?_) (λag s m=>?_) (λag s f m=>?_)
   ·unfold oc at e;split at e
    ·rename_i i;cases e;rw[i.1,xv]
    ·cases e
   ·have m:=of_decide_eq_true m;subst m;cases j:bB ag (fg c+t)with
    |true=>exact Y rfl
    |false=>
     right;unfold oc;rw[if_pos ⟨rfl,j⟩];rfl
   ·unfold oc at m;split at m
    ·rename_i i;exact decide_eq_true i.1
    ·cases m
   ·have m:=of_decide_eq_true m;subst m;exact b7 ag f
  have bY:=aY.dP c3;exact⟨⟨n,rfl⟩,cR::bf,⟨⟨bf,rfl,c5,cf.de bY⟩,V.kU⟩,(bY.qj (λg j=>by simp[j]) (λg j=>by
   rcases ce.1 j with rfl|aM
   ·exact Z B
   ·exact Y aM)).mN bj⟩
end
def qq(c:dR):Nat:=1+c.cY+c.bd
def xC(c:dR)(g s:Nat):Bool:=if g=0 then decide (s=0)else if g<=c.cY then n7 c (g-1) s else r2 c (g-1-c.cY) s
section
def ahs(b:c.bp):a0 C 28 #[fQ c] w λae a=>ae=F H (qq c:Nat)/\Q [] w a:=by have i:=b.lh;have ao:=b.jZ;refine a9 .D 1 Tryz.func28 K rfl λa1 d=>?_;simp+decide only[↓a8,ba,Tryz.f28];subst d;refine kX λaA e f j=>?_;obtain⟨k,l,m,g,h⟩:=iV e;simp only[M,g,h];rw[show H.wrap (1+(c.cY:Int))=1+(c.cY:Int)from bq A A,bq A A];exact⟨by unfold qq;congr 1,f⟩
def aht:C.built 226 #[(0,aP b)].toList=E (lz b 0).toArray:=K
def ahu:a0 C 60 #[aP b] w λae a=>ae=aP w.heap.size/\aC a w.heap.size 226 (lz b 0)/\Q [] w a/\a.heap.size=w.heap.size+1:=by refine a9 .D 1 Tryz.func60 K rfl λa1 c=>?_;simp+decide only[↓a8,ba,Tryz.f60];subst c;refine(bY aht).2 ?_;refine eA λax d e f=>?_;exact⟨rfl,by simpa[bF]using d,e,f⟩
def ahv{gU:List S->aN->Prop}(l:aC w ak 226 (lz cR aQ))(t:ib w cR am ab c au aB ay al ai)(k:∀b a,aC a b 25 (en c)->w.heap.size<=b->Q [] w a->gU [aP b,F H aQ] a):
  aV C (ov (aP ak)) λV=>
  aV C (gB 226 V 0) λu=>
  aZ C (a4 144 u) (w.drew) λm=>
  aV C (ov (aP ak)) λX=>
  aV C (gB 226 X 1) λe=>
  aZ C (a4 3 e) (w.drew) λd=>
  (W C (ck 101 #[m]) (w.drew) λaa cd=>
  gu C (a4 3 e) d cd<|
  W C (hV 25) cd λv x=>
  gu C (a4 3 e) d x<|
  W C (dC 25 v aa) x λ_ y=>
  gu C (a4 3 e) d y<|
  gU [v,d] y)/\
  (W C (hV 25) (w.drew) λz n=>
  gu C (a4 3 e) d n<|
  gu C (a4 144 u) m n<|
  W C (ck 101 #[m]) n λac A=>
  gu C (a4 3 e) d A<|
  W C (dC 25 z ac) A λ_ D=>
  gu C (a4 3 e) d D<|
  gU [z,d] D):=by
 have o:=cD [] w;obtain⟨ad,ae⟩:=q4 (bD l);simp only[M,ad,ae];have aX:∀{aA:aN}{aO:Prop},Q [] w aA->(gu C (a4 144 (aE (E ⟨ak,0,I⟩))) (aP cR) aA aO↔aO):=λp=>dz FV ((l.J p B).bh (af:=0));have f:∀{aA:aN}{aO:Prop},Q [] w aA->(gu C (a4 3 (aE (E ⟨ak,1,I⟩))) (F H aQ) aA aO↔aO):=λp=>dz bZ ((l.J p B).bh (af:=1));refine⟨?_,?_⟩
 ·apply aH tQ (ua (t.V o));rintro _ aA ⟨rfl,q⟩;have J:=o.R q B;refine(f J).2 (mR λax r s ag=>?_);have K:=J.R s B;refine(f K).2 (ml (g:=c) r rfl λL ah i ap=>?_);have h:=K.R i (by simp;exact q.aI);exact(f h).2 (k _ L ah q.aI h)
 ·refine mR λax r s ag=>?_;have j:=o.R s B;refine(f j).2 ((aX j).2 (aH tQ (ua (t.V j)) ?_));rintro _ L ⟨rfl,i⟩;have h:=j.R i B;refine(f h).2 (ml (g:=c) (r.J i B) rfl λaj an ao aq=>?_);have R:=h.R ao B;exact(f R).2 (k _ aj an (fF _) R)
def ib.SW(h:ib w cR am ab c au aB ay al ai):a0 C 71 #[aP ab] w λae a=>ae=aK U/\w=a:=by obtain⟨dc,rfl,⟨bB,⟨aG,b,d⟩,e⟩,f⟩:=h.gm;exact AV b
def ahw(l:fb w am ak 226 (lz cR aQ))(o:ib w cR am ab c au aB ay ix ai)(ao:qo c aB ay)(aa:aQ<qq c):
  a0 C 82 #[aP ak] w λae a=>(∃n:Nat,ae=bQ #[F H n,cT])/\∃az,ib a cR az ab c au aB (s2 ay aB (xC c aQ)) ix ai/\fb a az ak 226 (lz cR ((aQ+1)%qq c))/\bX (ak::am) (ak::az) w a:=by
 obtain⟨u,aF⟩:=o.cL;have aG:=u.lh;have aI:=u.jZ;have ac:=o.aL;refine a9 MG 1 Tryz.func82 K rfl λa1 ad=>?_;simp+decide only[↓a8,ba,MG,Tryz.f82];subst ad;refine bT (λf a=>∃b,f=[aP b,F H aQ]/\aC a b 25 (en c)/\w.heap.size<=b/\Q [] w a) ?_ ?_
 ·exact ahv (gU:=λf a=>∃b,f=[aP b,F H aQ]/\aC a b 25 (en c)/\w.heap.size<=b/\Q [] w a) l.1 o λb a v af ag=>⟨b,rfl,v,af,ag⟩
 rintro _ _ aA ⟨x,rfl,V,aJ,y⟩;have p:=o.V y;have W:=l.V y;have ah:ak≠x:=λe=>by have:=l.1.aL;omega
 have aL:x∉am:=λaj=>by have:=ac _ aj;omega
 refine bT (λf a=>f=[aK U]/\aA=a) ?_ ?_
 ·obtain⟨X,aM⟩:=q4 W.1;simp only[M,X];apply aH LI (R6 p);rintro _ _ ⟨rfl,rfl⟩;simp only[M,X];apply aH Gp (Ir p);rintro _ _ ⟨rfl,rfl⟩;apply aH yn (ib.SW p);rintro _ _ ⟨rfl,rfl⟩;exact⟨by trivial,by trivial⟩
 rintro _ _ _ ⟨rfl,rfl⟩;simp only[M];unfold qq at aa;rw[bq A A];refine(fj V).2 (aH W9 (ahs u) ?_);rintro _ ax ⟨rfl,q⟩;have an:=W.V q;apply(vE (by unfold qq;omega)).2;rw[show((aQ:Int)+1).tmod ((qq c:Nat):Int)=(((aQ+1)%qq c:Nat):Int)by
  rw[Int.tmod_eq_emod_of_nonneg A,Int.natCast_emod];rfl]
 try simp only[M]
 refine IL (ak:=(aQ+1)%qq c) an.1 λj ap z aO=>?_;have D:ib j cR am ab c au aB ay ix ai:=(p.V q).J z (λg d e=>by simp at e;subst e;exact l.2 d);have r:fb j am ak 226 (lz cR ((aQ+1)%qq c)):=⟨ap,l.2⟩;have aq:aC j x 25 (en c):=(V.J q B).J z (by simp;exact Ne.symm ah);have ar:Q [ak] w j:=((y.R q B).bw B).R z (λg d=>Y d);refine bT (λf a=>∃(n:Nat)(az:List Nat),f=[F H n,cT]/\ib a cR az ab c au aB (s2 ay aB (xC c aQ)) ix ai/\bX am az j a) ?_ ?_
 ·obtain⟨aR,aS,aT,aU,av⟩:=iV aq;simp only[M,bi,av];refine⟨λJ=>?_,λJ=>⟨λv=>?_,λv=>?_⟩⟩
  ·have J:aQ=0:=A;subst J;apply aH X6 (ahl r D (λ_ _=>rfl));rintro _ m ⟨⟨n,rfl⟩,az,k,h⟩;simp only[cV,cX];exact⟨n,az,rfl,k,h⟩
  ·have L:aQ≠0:=A;rw[bq A A,show(aQ:Int)-1=((aQ-1:Nat):Int)by omega];apply aH X7 (ahq r D (bj:=aQ-1) A (λi al=>ao.lw _ i A al) (λ_ _ _ _=>rfl));rintro _ m ⟨⟨n,rfl⟩,az,k,h⟩;simp only[cV,cX];refine⟨n,az,rfl,?_,h⟩;have e:xC c aQ=n7 c (aQ-1):=by funext s;unfold xC;rw[if_neg L,if_pos A]
   rw[e];exact k
  ·have L:aQ≠0:=A;rw[show H.wrap ((aQ:Int)-1)=(aQ:Int)-1 from bq A A,bq A A,show(aQ:Int)-1-(c.cY:Nat)=((aQ-1-c.cY:Nat):Int)by omega];apply aH X8 (ahr r D (t:=aQ-1-c.cY) A (ao.BB _ A) ao.mt (λ_ _=>rfl));rintro _ m ⟨⟨n,rfl⟩,az,k,h⟩;simp only[cV,cX];refine⟨n,az,rfl,?_,h⟩;have e:xC c aQ=r2 c (aQ-1-c.cY):=by funext s;unfold xC;rw[if_neg L,if_neg A]
   rw[e];exact k
 rintro _ _ m ⟨n,az,rfl,k,h⟩;simp only[M];have aw:=r.de h;refine bT (λf a=>m=a) ?_ ?_
 ·refine(hk hY).2 (aH Da GI ?_);rintro _ _ ⟨rfl,rfl⟩;simp only[M]
 rintro _ _ _ rfl;apply aH nz GA;rintro _ _ ⟨rfl,rfl⟩;refine⟨⟨n,rfl⟩,az,k,aw,?_⟩;have R:bX (ak::am) (ak::az) j m:=h.qj (λg d=>by simp[d]) (λg d=>by
   rcases ce.1 d with rfl|R
   ·exact Z B
   ·exact Y R)
 have aD:bX (ak::am) (ak::am) w j:=⟨ar.bw B,λg d=>Y d⟩;exact aD.dP R
end
end
section
open Go.RowKit
section
variable{k:Int}
def ik(h:aC w b ar (ha e bc)):
  (∀ac,aZ C (a4 3 (aE (E ⟨b,0,I⟩))) w ac↔ac (F H e.a5))/\(∀ac,aZ C (a4 9 (aE (E ⟨b,1,I⟩))) w ac↔ac (bO e.cI))/\(∀ac,aZ C (a4 9 (aE (E ⟨b,2,I⟩))) w ac↔ac (bO e.dg))/\
  (∀ac,aZ C (a4 3 (aE (E ⟨b,3,I⟩))) w ac↔ac (F H e.d9))/\(∀ac,aZ C (a4 3 (aE (E ⟨b,4,I⟩))) w ac↔ac (F H e.ie))/\(∀ac,aZ C (a4 3 (aE (E ⟨b,5,I⟩))) w ac↔ac (F H e.hF))/\
  (∀ac,aZ C (a4 3 (aE (E ⟨b,6,I⟩))) w ac↔ac (F H e.cW))/\(∀ac,aZ C (a4 41 (aE (E ⟨b,7,I⟩))) w ac↔ac (jr e.bk bc))/\(∀ac,aZ C (a4 82 (aE (E ⟨b,0,I⟩))) w ac↔ac (jW e bc)):=
 ⟨λ_=>bl bZ (h.bh (af:=0)),λ_=>bl oD (h.bh (af:=1)),λ_=>bl oD (h.bh (af:=2)),λ_=>bl bZ (h.bh (af:=3)),λ_=>bl bZ (h.bh (af:=4)),λ_=>bl bZ (h.bh (af:=5)),λ_=>bl bZ (h.bh (af:=6)),
  λ_=>gC (l:=iS e.bk bc) F1 (h.cy.d1 7 4),λ_=>gC (l:=ha e bc) An h.cy⟩
def ahx:du C 82 (jW tT (T I 0 0)):=by unfold du;kernel_rfl
def uf(k:∀a,aC a w.heap.size 82 (ha tT (T I 0 0))->Q [] w a->a.heap.size=w.heap.size+1->ac (aP w.heap.size) a):W C (hV 82) w ac:=
 gI ahx λa b c d=>k a (by simpa[jW,bF]using b) c d
def xD(k:∀a,aC a w.heap.size 82 (ha e bc)->Q [] w a->a.heap.size=w.heap.size+1->ac (aP w.heap.size) a):W C (rk 82 (jW e bc)) w ac:=
 eA λa b c d=>k a (by simpa[jW,bF]using b) c d
def s3{l:List S}(h:aC w b ar l)(c:l.length=11)(d:bc.oneCell'=G)(k:∀a,aC a b ar (ha e bc)->Q [b] w a->a.heap.size=w.heap.size->ac bS a):W C (dC 82 (aE (E ⟨b,0,I⟩)) (jW e bc)) w ac:=
 f0 (cv:=[]) (c5:=l) (da:=[]) Wq (by simpa using h) rfl c (by simp[jW,bF,ha]) (by simpa[jW,bF]using aby d) λa f g i=>k a (by simpa[jW,bF]using f) g i
def zi{aO:co}(c:ep C aO 1=G)(h:aC w b ar (ha e bc))(d:af<11)(f:ae.oneCell'=G)(g:(ha e bc).set af ae=ha gh bc)(k:∀a,aC a b ar (ha gh bc)->Q [b] w a->a.heap.size=w.heap.size->ac bS a):W C (dC aO (aE (E ⟨b,af,I⟩)) ae) w ac:=
 eK c h (by simpa[ha]using d) f λa i j l=>k a (by rw[<-g];exact i) j l
def ahy{aou:cw}(h:aC w b ar (ha e bc))(c:vx.oneCell'=G)(k:∀a,aC a b ar (ha {e with bk:=aou} vx)->Q [b] w a->a.heap.size=w.heap.size->ac bS a):W C (dC 41 (aE (E ⟨b,7,I⟩)) (jr aou vx)) w ac:=
 f0 (cv:=(ha e bc).take 7) (c5:=(ha e bc).drop 7) (da:=[]) yg (by rw[l3,kJ];exact h) rfl rfl (by simp[jr,bF,iS]) (by simpa[jr,bF]using yy c) λa d f g=>k a (by simpa[jr,bF,ha,iS]using d) f g
def ahz:C.built 82 #[(0,F H k)].toList=E (ha ⟨k,cg,cg,0,0,0,0,fr⟩ (T I 0 0)).toArray:=K
def EN:C.built 82 (#[]:Array (Nat×S)).toList=E (ha tT (T I 0 0)).toArray:=K
def zj:du C 232 (gL ⟨0,0,0,0,0⟩):=by unfold du;kernel_rfl
def ahA:a0 C 216 #[] w λae a=>ae=gL kf/\Q [] w a:=by
 refine a9 .D 0 Tryz.func216 K rfl λa1 c=>?_;simp+decide only[↓a8,ba,Tryz.f216];subst c;refine gI zj λaA d e g=>(bY (gT:=(fd kf).toArray) K).2 (f0 (cv:=[]) (c5:=fd ⟨0,0,0,0,0⟩) (da:=[]) vK (by simpa[gL,bF]using d) rfl rfl rfl (by simpa[gL,bF]using uK kf) λax b f h=>?_);have b:aC ax w.heap.size 232 (fd kf):=by simpa[gL,bF]using b
 exact(gC (l:=fd kf) yi b.cy).2 ⟨rfl,e.R f B⟩
def ahB{s ay al:Int}:C.built 232 #[(0,F H 1),(1,F H s),(2,F H ay),(3,F H al)].toList=E (fd (iT s ay al)).toArray:=K
def ahC{s ay al:Int}:a0 C 215 #[F H s,F H ay,F H al] w λae a=>ae=gL (iT s ay al)/\Q [] w a:=by
 refine a9 .D 3 Tryz.func215 K rfl λa1 c=>?_;simp+decide only[↓a8,ba,Tryz.f215];subst c;refine gI zj λaA d e g=>(bY (gT:=(fd (iT s ay al)).toArray) ahB).2 (f0 (cv:=[]) (c5:=fd ⟨0,0,0,0,0⟩) (da:=[]) vK (by simpa[gL,bF]using d) rfl rfl rfl (by simpa[gL,bF]using uK (iT s ay al)) λax b f h=>?_);have b:aC ax w.heap.size 232 (fd (iT s ay al)):=by simpa[gL,bF]using b
 exact(gC (l:=fd (iT s ay al)) yi b.cy).2 ⟨rfl,e.R f B⟩
def IT{s ay al:Int}(k:∀a,Q [] w a->ac (gL (iT s ay al)) a):W C (ck 215 #[F H s,F H ay,F H al]) w ac:=
 aH YN ahC (by rintro _ a ⟨rfl,b⟩;exact k a b)
def BE(k:∀a,Q [] w a->ac (gL kf) a):W C (ck 216 #[]) w ac:=
 aH YO ahA (by rintro _ a ⟨rfl,b⟩;exact k a b)
def zk{x:S}{be:aU->List S}{l c5:List aU}(d:hO C ar av a6 io bm)(e:bP w av a6 ae l.length (l.flatMap be) am)(f:gV C ar av=G)(h:∀x,(be x).length=a6)(i:∀x,∀c∈be x,c.oneCell'=G)(j:aT w be x c5)(m:(l.length+c5.length)*io<=140737488355328)(n:l.length+c5.length<=d0)
  (k:∀b a az,bP a av a6 b (l++c5).length ((l++c5).flatMap be) az->(∀g∈az,g∈am\/w.heap.size<=g)->Q am w a->ac b a):W C (dG lp #[ar,ar] #[ae,x]) w ac:=by
 refine tJ d e (sE.x7 (l:=c5) (gh:=av) (o8 f) j h i) m n λo ax cM p q r _=>k o ax cM ?_ r q;rw[hL,di];exact p
def r9{ac:S->Prop}(h:aC w b 232 (fd aj)):aZ C (a4 232 (aE (E ⟨b,0,I⟩))) w ac↔ac (gL aj):=gC (l:=fd aj) yi h.cy
def s4{aO:Prop}(h:aC w b 232 (fd aj)):gu C (a4 232 (aE (E ⟨b,0,I⟩))) (gL aj) w aO↔aO:=mE (l:=fd aj) yi h.cy
def SX(w a:aN)(ae:S)(l:List ca):Prop:=aT a fd ae l/\(∃d c,ae=T d l.length c/\d.isNone=l.isEmpty)/\Q [] w a
def wk(b:a2.length=n)(d:0<n)(ao:n<=1000)(e:i0.toList=((a2.map gL).zipIdx).map λah=>(ah.2,ah.1))(k:∀ae a,SX w a ae a2->ac ae a):W C (jR 149 n i0) w ac:=by
 refine hw As (a2.map gL) e (by simp[b]) (by intro aa f;obtain⟨ap,-,rfl⟩:=fS.1 f;rfl) d A λa c g j=>?_;have i:(a2.map gL).flatMap (λaa=>aa.cells.toList)=a2.flatMap fd:=by rw[List.flatMap_map];rfl
 rw[i]at c;have h:=p3 c;rw[b]at h;refine k _ _ ⟨h,⟨_,_,by rw[b],?_⟩,g⟩;cases a2 with
 |nil=>simp at b;omega
 |cons aj a2=>rfl
def IU:a0 C 154 #[F H k] w λae a=>SX w a ae (g3 k):=by
 refine a9 Ni 1 Tryz.func154 K rfl λa1 ar=>?_;simp+decide only[↓a8,ba,Ni,Tryz.f154];subst ar;refine IT λaA J=>IT λax L=>gI zj λr R au aI=>gI zj λav V X aJ=>?_;have ab:aC r ax.heap.size 232 (fd ⟨0,0,0,0,0⟩):=by simpa[gL,bF]using R
 have ad:aC av r.heap.size 232 (fd ⟨0,0,0,0,0⟩):=by simpa[gL,bF]using V
 have aX:∀{i:aN}{b:Nat}{aj g:ca}{ac:S->aN->Prop},aC i b 232 (fd aj)->(∀a,aC a b 232 (fd g)->Q [b] i a->a.heap.size=i.heap.size->ac bS a)->W C (dC 232 (aE (E ⟨b,0,I⟩)) (gL g)) i ac:=λ{i b aj g ac} h k=>
  f0 (cv:=[]) (c5:=fd aj) (da:=[]) vK (by simpa using h) rfl rfl rfl (by simpa[gL,bF]using uK g) λa aw ay az=>k a (by simpa[gL,bF]using aw) ay az
 refine aX (ab.J X B) λi ag ah aL=>aX (ad.J ah (by simp;omega)) λp q ai aM=>?_;have aO:=J.aI;have aP:=L.aI;have j:Q [] w p:=(((((J.R L B).R au B).R X B).R ah (by simp;omega))).R ai (by simp;omega);have s:=ag.J ai (by simp;omega);generalize ax.heap.size=aQ at*;generalize r.heap.size=aR at*;clear R V ab ad ag;have ak:=cD [] p;refine bT (λaB a=>(k=4\/k=5)/\∃ae aD,aB=[ae]/\bP a 232 5 ae (if k=4 then[kf]else[]).length ((if k=4 then[kf]else[]).flatMap fd) aD/\(∀g∈aD,p.heap.size<=g)/\Q [] p a) ?_ ?_
 ·simp only[M,bi];refine⟨λh=>?_,λjb=>⟨λh=>?_,λaoy=>⟨λh=>?_,λmB=>⟨λh=>?_,λlG=>⟨λh=>?_,λm3=>?_⟩⟩⟩⟩⟩
  ·subst h;refine(r9 (bD q)).2 (BE λm f=>?_);have n:=ak.R f B;refine(s4 (q.J n B)).2 (IT λal t=>?_);have o:=n.R t B;exact(s4 (q.J o B)).2 (wk (a2:=g3 1) rfl A A rfl λae cd d=>⟨d.1,d.2.1,(j.R o B).R d.2.2 B⟩)
  ·subst h;exact BE λm f=>wk (a2:=g3 2) rfl A A rfl λae cd d=>⟨d.1,d.2.1,(j.R f B).R d.2.2 B⟩
  ·subst h;refine(r9 (bD s)).2 ((bY (gT:=(fd ⟨2,0,1,600,0⟩).toArray) K).2 (BE λm f=>?_));have n:=ak.R f B;exact(s4 (s.J n B)).2 (wk (a2:=g3 3) rfl A A rfl λae cd d=>⟨d.1,d.2.1,(j.R n B).R d.2.2 B⟩)
  ·subst h;refine BE λm f=>wk (a2:=[kf]) rfl A A rfl λae al am=>zk As (l:=[]) (gJ _ _ _) yk CE uK am.1 B (by simp[d0]) λan cd aD u v aF=>?_;have o:=f.R am.2.2 B;refine⟨Y rfl,an,aD,rfl,?_,λg x=>(v g x).elim B (λh=>gz o.aI h),o.R aF B⟩;simpa using u
  ·subst h;exact⟨Z rfl,_,[],rfl,gJ _ _ _,B,.b0 _ _⟩
  ·have e:g3 k=[]:=by unfold g3;rw[if_neg jb,if_neg aoy,if_neg mB,if_neg lG,if_neg m3]
   rw[e];exact⟨aT.gW _ _,⟨I,0,rfl,rfl⟩,j⟩
 rintro _ _ m ⟨y,ae,aD,rfl,u,v,f⟩;simp only[M];have ao:=s.J f B;have ap:=q.J f B;refine(r9 (bD ao)).2 ((r9 (bD ap)).2 (BE λal t=>?_));have z:=(cD [] m).R t B;refine(s4 (ap.J z B)).2 ((s4 (ao.J z B)).2 (wk (a2:=[kf,iT 1 0 3,iT 8 0 uS]) rfl A A rfl λaa cd d=>?_));have aq:=z.R d.2.2 B;refine zk As (u.J aq B) yk CE uK d.1 (by split<;>simp) (by split<;>simp[d0]) λan aS ez D aU aG=>?_;have e:(if k=4 then[kf]else[])++[kf,iT 1 0 3,iT 8 0 uS]=g3 k:=by rcases y with rfl|rfl<;>rfl
 rw[e]at D;have aH:0<(g3 k).length:=by rcases y with rfl|rfl<;>decide
 obtain⟨g,af,c,rfl,_⟩:=D.gm aH;refine⟨D.eF CE A,⟨_,_,rfl,?_⟩,((j.R f B).R aq B).R aG λg x=>Z (gz j.aI (v g x))⟩;rcases y with rfl|rfl<;>rfl
end
end
end Go.Proofs.YtepeilglbedgdaaGreatDoor
namespace Go.X
variable{w:aN}{a6:Nat}{aU:Type}{aa:S}{ad:ft}{qF:co}
section
open Go.RowKit
section
variable{dd:S}{be:aU->List S}{l dK:List aU}
def sE.ahD{gh:co}{l:List aU}(e:ad.underlying qF=E (.slice gh))(g:aT w be aa l)(i:∀x,(be x).length=a6)(k:∀x∈l,∀ae∈be x,ae.oneCell'=G):Src ad a6 qF aa l.length (l.flatMap be) w:=by
 obtain⟨d,c,rfl,r,f⟩:=g;have one:∀ae∈l.flatMap be,ae.oneCell'=G:=λae m=>by obtain⟨x,n,o⟩:=tm.1 m;exact k x n ae o
 cases d with
 |none=>
  have:l=[]:=by
   rcases f with h|⟨b,af,h,_⟩
   ·exact h
   ·cases h
  subst this;exact Src.ofNil w e c
 |some d=>
  refine Src.ofSlice w e d _ _ _ (kx i l) (λj ae a=>?_) one;rcases f with rfl|⟨b,af,p,q⟩
  ·simp at a
  ·cases p;rw[jC,q j (fi.1 a).1,a]
end
end
end Go.X
namespace Go.Proofs.YtepeilglbedgdaaGreatDoor
open Go.X
attribute[local irreducible]Go.X.W
variable{aD am bJ bU h4:List Nat}{a bv w:aN}{a6 ab ag ah ak b dE fI g g7 i io j n:Nat}{aF:List e3}{aU cU jA:Type}{aa ae bc bm vx:S}{ac:S -> aN -> Prop}{ar av:co}{l:List UInt8}{e gh:eG}{ee:List l9}{i0:Array (Nat × S)}
section
open Go.RowKit
section
variable{k:Int}
def pE(aa:e3):l9:=⟨aa.aR,aa.cP,T I 0 0⟩
def zl(h:∀aa∈aF,aa.df=[]):c7.lZ w (aF.map pE) aF:=by refine⟨B,λi x ap a b=>?_⟩;rw[e1,b]at a;cases a;refine⟨rfl,rfl,?_⟩;rw[h ap (gP b)];exact aT.gW _ _
def EO(e:eG):∀aa∈fU e,aa.df=[]:=by
 intro aa a;unfold fU at a;repeat' split at a
 all_goals simp only[ce,iZ,or_false]at a
 all_goals first|exact a.elim|skip
 all_goals rcases a with rfl|rfl|rfl|rfl<;>rfl
def SY(e:eG):∀ap∈fU e,ap.df.length<=9223372036854775806:=λap a=>by rw[EO e ap a];simp
def nm{n:Int}:C.built 152 #[(0,F H n)].toList=E (X.fA (pE (hZ n))).toArray:=K
def ug{s:ByteArray}:C.built 152 #[(1,bO s)].toList=E (X.fA (pE (ig s))).toArray:=K
def BF{x:S}{be:aU->List S}{l c5:List aU}(d:hO C ar av a6 io bm)(e:bP w av a6 ae l.length (l.flatMap be) am)(f:gV C ar av=G)(h:∀x,(be x).length=a6)(i:∀x∈c5,∀c∈be x,c.oneCell'=G)(j:aT w be x c5)(m:(l.length+c5.length)*io<=140737488355328)(n:l.length+c5.length<=d0)
  (k:∀b a az,bP a av a6 b (l++c5).length ((l++c5).flatMap be) az->(∀g∈az,g∈am\/w.heap.size<=g)->Q am w a->ac b a):W C (dG lp #[ar,ar] #[ae,x]) w ac:=by
 refine tJ d e (sE.ahD (l:=c5) (gh:=av) (o8 f) j h i) m n λo ax cM p q r _=>k o ax cM ?_ r q;rw[hL,di];exact p
def IV(aa:e3):S:=b6 (X.fA (pE aa)).toArray
def zm(w a:aN)(ae:S)(l:List e3):Prop:=aT a X.fA ae (l.map pE)/\Q [] w a
def zm.dT{l:List e3}(h:zm w a ae l):∃d c,ae=T d l.length c:=by obtain⟨⟨d,c,rfl,_⟩,_⟩:=h;exact⟨d,c,by rw[dU]⟩
def wl{l:List e3}(b:l.length=n)(d:0<n)(ao:n<=1000)(e:i0.toList=((l.map IV).zipIdx).map λah=>(ah.2,ah.1))(k:∀ae a,zm w a ae l->ac ae a):W C (jR 146 n i0) w ac:=by
 refine hw vN (l.map IV) e (by simp[b]) (by intro aa f;obtain⟨ap,-,rfl⟩:=fS.1 f;rfl) d A λa c g j=>?_;have i:(l.map IV).flatMap (λaa=>aa.cells.toList)=(l.map pE).flatMap X.fA:=by rw[List.flatMap_map,List.flatMap_map];rfl
 rw[i]at c;have h:=p3 c;rw[dU,b]at h;exact k _ _ ⟨h,g⟩
def ahE(aa:e3):∀ae∈X.fA (pE aa),ae.oneCell'=G:=by intro ae a;simp[X.fA,pE]at a;rcases a with rfl|rfl|rfl<;>rfl
def SZ{l:List e3}:∀x∈l.map pE,∀c∈X.fA x,c.oneCell'=G:=by intro x a;obtain⟨ap,_,rfl⟩:=fS.1 a;exact ahE ap
def IW:CB C 52:=⟨5,K,K⟩
def S0(z:aT w dV bc e.bk.a7)(D:e.bk.a7.length<=9223372036854775806):a0 C 162 #[jW e bc] w λae a=>zm w a ae (fU e):=by
 refine a9 Nm 1 Tryz.func162 K rfl λa1 J=>?_;simp+decide only[↓a8,ba,Nm,Tryz.f162];subst J;refine xD λax f d aq=>?_;have ar:w.heap.size<ax.heap.size:=A;generalize w.heap.size=b at*;obtain⟨s,L,R,V,W,ab,ac,au,av⟩:=ik f;simp only[M,s];refine bT (λad a=>(e.a5=4\/e.a5=5)/\∃ae aD,ad=[ae]/\bP a 152 3 ae ((if e.a5=4 then[ig e.dg]else[]).map pE).length (((if e.a5=4 then[ig e.dg]else[]).map pE).flatMap X.fA) aD/\(∀g∈aD,ax.heap.size<=g)/\Q [] ax a) ?_ ?_
 ·simp only[M,bi,s,L,R,V,W,ab,ac];refine⟨λh=>?_,λjb=>⟨λh=>?_,λaoy=>⟨λh=>?_,λmB=>⟨λh=>?_,λlG=>⟨λh=>?_,λm3=>?_⟩⟩⟩⟩⟩
  ·exact(bY ug).2 ((bY nm).2 ((bY nm).2 (wl (l:=fU e) (by unfold fU;rw[if_pos h];rfl) A A (by unfold fU;rw[if_pos h];rfl) λae cd c=>⟨c.1,d.R c.2 B⟩)))
  ·exact(bY ug).2 (wl (l:=fU e) (by unfold fU;rw[if_neg jb,if_pos h];rfl) A A (by unfold fU;rw[if_neg jb,if_pos h];rfl) λae cd c=>⟨c.1,d.R c.2 B⟩)
  ·obtain⟨ag,k,ah,i,ai,aj,m,t,ak⟩:=ik (bD f);simp only[k];apply(bY ug).2;simp only[M,i];apply(bY nm).2;simp only[M,t];refine c7.SF (z.V (d.R (cD [] ax) B)) D λae aw al am=>?_;have u:=(cD [] ax).R am B;have j:=f.J u B;exact(dz bZ (j.bh (af:=3))).2 ((dz oD (j.bh (af:=1))).2 ((w3 IW n8 al).2 ((dz bZ (j.bh (af:=3))).2 ((dz oD (j.bh (af:=1))).2 ((bY ug).2 (wl (l:=fU e) (by unfold fU;rw[if_neg jb,if_neg aoy,if_pos h];rfl) A A (by unfold fU;rw[if_neg jb,if_neg aoy,if_pos h];rfl) λae cd c=>⟨c.1,(d.R u B).R c.2 B⟩))))))
  ·refine(bY ug).2 (wl (l:=[ig e.dg]) rfl A A rfl λae ay n=>BF vN (l:=([]:List l9)) (gJ _ _ _) rC X.w4 SZ n.1 B (by simp[d0]) λv cd aD o p an=>⟨Y h,v,aD,rfl,?_,λg q=>(p g q).elim B (λh=>gz n.2.aI h),n.2.R an B⟩);rw[if_pos h];simpa using o
  ·exact⟨Z h,_,[],rfl,by rw[if_neg lG];exact gJ _ _ _,B,.b0 _ _⟩
  ·have r:fU e=[]:=by unfold fU;rw[if_neg jb,if_neg aoy,if_neg mB,if_neg lG,if_neg m3]
   rw[r];exact⟨aT.gW _ _,d⟩
 rintro _ _ az ⟨ao,ae,aD,rfl,o,p,x⟩;obtain⟨ag,k,ah,i,ai,aj,m,t,ak⟩:=ik (f.J x B);simp only[M,k,i,m];apply(bY ug).2;try simp only[M,i]
 apply(bY nm).2;try simp only[M,m]
 refine(bY nm).2 (wl (l:=[ig e.cI,hZ e.d9,hZ e.cW]) rfl A A rfl λaa cd c=>BF vN (o.J c.2 B) rC X.w4 SZ c.1 (by split<;>simp) (by split<;>simp[d0]) λv aA ez y aB ap=>?_);have r:(if e.a5=4 then[ig e.dg]else[]).map pE++[ig e.cI,hZ e.d9,hZ e.cW].map pE=(fU e).map pE:=by rw[<-g6];congr 1;unfold fU;rcases ao with h|h<;>simp[h]
 rw[r]at y;exact⟨y.eF X.w4 A,((d.R x B).R c.2 B).R ap λg q=>Z (gz d.aI (p g q))⟩
end
section
variable{k:Int}
def EP{s:ByteArray}(h:aC w b ar (ha e bc))(k:∀a,aC a b ar (ha {e with cI:=s} bc)->Q [b] w a->a.heap.size=w.heap.size->ac bS a):W C (dC 9 (aE (E ⟨b,1,I⟩)) (bO s)) w ac:=zi vJ h A rfl rfl k
def ahF{s:ByteArray}(h:aC w b ar (ha e bc))(k:∀a,aC a b ar (ha {e with dg:=s} bc)->Q [b] w a->a.heap.size=w.heap.size->ac bS a):W C (dC 9 (aE (E ⟨b,2,I⟩)) (bO s)) w ac:=zi vJ h A rfl rfl k
def S1{n:Int}(h:aC w b ar (ha e bc))(k:∀a,aC a b ar (ha {e with d9:=n} bc)->Q [b] w a->a.heap.size=w.heap.size->ac bS a):W C (dC 3 (aE (E ⟨b,3,I⟩)) (F H n)) w ac:=zi hl h A rfl rfl k
def ahG{n:Int}(h:aC w b ar (ha e bc))(k:∀a,aC a b ar (ha {e with ie:=n} bc)->Q [b] w a->a.heap.size=w.heap.size->ac bS a):W C (dC 3 (aE (E ⟨b,4,I⟩)) (F H n)) w ac:=zi hl h A rfl rfl k
def ahH{n:Int}(h:aC w b ar (ha e bc))(k:∀a,aC a b ar (ha {e with hF:=n} bc)->Q [b] w a->a.heap.size=w.heap.size->ac bS a):W C (dC 3 (aE (E ⟨b,5,I⟩)) (F H n)) w ac:=zi hl h A rfl rfl k
def ahI{n:Int}(h:aC w b ar (ha e bc))(k:∀a,aC a b ar (ha {e with cW:=n} bc)->Q [b] w a->a.heap.size=w.heap.size->ac bS a):W C (dC 3 (aE (E ⟨b,6,I⟩)) (F H n)) w ac:=zi hl h A rfl rfl k
def uh{ac:S->S->Prop}(f:aT w X.fA aa ee)(b:c7.lZ w ee aF)(al:i<aF.length)(g:Q [] w a)(k:∀cs:es,(∀d,Q [] w d->d.cell? cs=E (bO (gl aF i).cP))->ac (aE (E cs)) (bO (gl aF i).cP)):
  aV C (fY 146 aa (F H (i:Nat))) λah=>aV C (gB 152 ah 1) λc=>aZ C (a4 9 c) a λae=>ac c ae:=by
 have e:i<ee.length:=by rw[b.1];exact al
 have h:=b.2 i _ _ (cr e) (cr al);have j:gl aF i=aF[i]:=iI al;refine c7.Bx.gc (eM:=1) f g e K oD ?_ k;rw[j,<-h.2.1];rfl
def s5{ac:S->S->Prop}(f:aT w X.fA aa ee)(b:c7.lZ w ee aF)(al:i<aF.length)(g:Q [] w a)(k:∀cs:es,(∀d,Q [] w d->d.cell? cs=E (F H (gl aF i).aR))->ac (aE (E cs)) (F H (gl aF i).aR)):
  aV C (fY 146 aa (F H (i:Nat))) λah=>aV C (gB 152 ah 0) λc=>aZ C (a4 3 c) a λae=>ac c ae:=by
 have e:i<ee.length:=by rw[b.1];exact al
 have h:=b.2 i _ _ (cr e) (cr al);have j:gl aF i=aF[i]:=iI al;refine c7.Bx.gc (eM:=0) f g e K bZ ?_ k;rw[j,<-h.1];rfl
def S2(k:Int):(g3 k).length=if k=1 then 3 else if k=2 then 1 else if k=3 then 3 else if k=4 then 4 else if k=5 then 3 else 0:=by
 unfold g3;repeat' split
 all_goals rfl
def S3(e:Except ex cw):c7.va e=Pc e:=by cases e<;>rfl
def ahJ(e:Except ex cw):c7.IG e=Pd e:=by cases e<;>rfl
def ahK(w a:aN)(k:Int)(aF:List e3)(ae:S):Prop:=∃bc,ae=bQ #[jW (js k aF) bc,ff (nA k aF)]/\aT a dV bc (js k aF).bk.a7/\(js k aF).bk.a7.length<=255/\gx w.heap.size bc/\Q [] w a
def IX(aF:List e3)(h:∀aa∈aF,aa.cP.size<=4611686018427387904)(i:Nat):(gl aF i).cP.size<=4611686018427387904:=by
 unfold gl;rw[gp];cases a:aF[i]? with
 |none=>simp[hZ,cg,vv]
 |some aa=>exact h aa (gP a)
def IY:C.underlying 52=E (.slice 5):=K
def S4:C.underlying 5=E (.int cl):=K
def S5(p:aT w X.fA aa ee)(o:c7.lZ w ee aF)(u:aF.length=(g3 k).length)(aX:∀aa∈aF,aa.cP.size<=4611686018427387904):a0 C 155 #[F H k,aa] w λae a=>ahK w a k aF ae:=by
 rw[S2]at u;refine a9 Nj 2 Tryz.func155 K rfl λa1 aY=>?_;simp+decide only[↓a8,ba,Nj,Tryz.f155];subst aY;refine uf λax aB aZ bl=>(bY ahz).2 (uf λbm aD aG bn=>s3 (e:=⟨k,cg,cg,0,0,0,0,fr⟩) aD rfl rfl λj z aH bo=>?_);have a2:aC j w.heap.size 82 (ha tT (T I 0 0)):=(aB.J aG B).J aH (by simp;omega);have ad:Q [] w j:=(aZ.R aG B).R aH (by simp;omega);have bp:w.heap.size<ax.heap.size:=A;generalize a3:w.heap.size=am at*;generalize ax.heap.size=l at*;clear aB aD;refine bT (λan a=>∃bc,an=[ff (nA k aF)]/\aC a l 82 (ha (js k aF) bc)/\aT a dV bc (js k aF).bk.a7/\(js k aF).bk.a7.length<=255/\gx (am+1) bc/\Q [l] j a) ?_ ?_
 ·have ag:=cD [] j;have r:∀{f:aN},Q [l] j f->Q [] w f:=λh=>ad.R h (by simp;omega);have D:Q [] w j.drew:=ad.R ag B;have ah:∀{f:aN},nA k aF=I->(js k aF).bk=fr->aC f l 82 (ha (js k aF) (T I 0 0))->Q [l] j f->∃bc,[cT]=[ff (nA k aF)]/\aC f l 82 (ha (js k aF) bc)/\aT f dV bc (js k aF).bk.a7/\(js k aF).bk.a7.length<=255/\gx (am+1) bc/\Q [l] j f:=λa4 aI a5 a6=>⟨_,by rw[a4];rfl,a5,by rw[aI];exact aT.gW _ _,by rw[aI];simp[fr],λb af n c e=>(by cases e),a6⟩;refine bT (λan a=>(k=4\/k=5)/\∃ae ao J g,an=[ae,cT]/\aT w X.fA ae ao/\c7.lZ w ao J/\J.length=3/\js k aF=⟨k,(gl J 0).cP,g,(gl J 1).aR,0,0,(gl J 2).aR,fr⟩/\aC a l 82 (ha ⟨k,cg,g,0,0,0,0,fr⟩ (T I 0 0))/\Q [l] j a) ?_ ?_
  ·simp only[M,bi];refine⟨λh=>?_,λjb=>⟨λh=>?_,λaoy=>⟨λh=>?_,λmB=>⟨λh=>?_,λlG=>⟨λh=>?_,λm3=>?_⟩⟩⟩⟩⟩
   ·subst h;rw[if_pos rfl]at u;refine uh (i:=0) p o A D λai aj=>s5 (i:=1) p o A D λaJ ac=>s5 (i:=2) p o A D λaL L=>EP (bD z) λf q m aq=>?_;have R:Q [l] j f:=(ag.bw B).R m B;refine(dz bZ (L _ (r R))).2 ((dz bZ (ac _ (r R))).2 (ahG q λV s v ar=>?_));have t:Q [l] j V:=R.R v B;exact(dz bZ (L _ (r t))).2 (ahH s λcd au y a7=>ah rfl rfl au (t.R y B))
   ·subst h;rw[if_neg A,if_pos rfl]at u;exact uh (i:=0) p o A ad λai aj=>EP z λf q m aq=>ah rfl rfl q m
   ·subst h;rw[if_neg A,if_neg A,if_pos rfl]at u;refine uh (i:=0) p o A D λai aj=>s5 (i:=1) p o A D λaJ ac=>EP (bD z) λf q m aq=>?_;have R:Q [l] j f:=(ag.bw B).R m B;refine(dz bZ (ac _ (r R))).2 (S1 q λV s v ar=>?_);have t:Q [l] j V:=R.R v B;refine uh (i:=2) p o A (r t) λaL L=>Om n8 IY S4 λcd bq bb y=>c7.SI bb (by rw[oy];exact IX aF aX 2) λbc aM W ak aO av=>?_;simp only[cV,cX];have aP:=y.R av B;rw[S3]at W ak;rw[S3,ahJ];have bd:Q [l] j aM:=t.R aP B;refine ahy (s.J aP B) W.aW λbr be aQ bs=>?_;have al:gx (am+1) bc:=λb af n c e=>by have:=aO b af n c e;have:=s.aL;have:=y.aI;omega
    refine⟨bc,rfl,be,?_,ak,al,bd.R aQ B⟩;exact W.J aQ λb af n c e aw=>by have:=aO b af n c e;have:=s.aL;have:=y.aI;simp at aw;omega
   ·subst h;rw[if_neg A,if_neg A,if_neg A,if_pos rfl]at u;refine uh (i:=0) p o A D λai aj=>?_;obtain⟨d,c,rfl,bt,bu⟩:=id p;have bv:ee.length=4:=by rw[o.1];exact u
    refine(rs (i:=1) rC tM A A).2 (ahF (bD z) λf q m aq=>⟨Y rfl,_,ee.drop 1,aF.drop 1,(gl aF 0).cP,rfl,?_,⟨by rw[e8,e8,o.1],λi x ap aR aS=>?_⟩,by rw[e8];omega,?_,q,(ag.bw B).R m B⟩)
    ·have:=aT.Is X.w4 p A;simpa using this
    ·rw[oo]at aR aS;exact o.2 _ x ap aR aS
    ·have ab:∀i,gl (aF.drop 1) i=gl aF (i+1):=λi=>by unfold gl;rw[gp,oo,gp,Nat.add_comm]
     rw[ab,ab,ab];rfl
   ·subst h;rw[if_neg A,if_neg A,if_neg A,if_neg A,if_pos rfl]at u;exact⟨Z rfl,aa,ee,aF,cg,rfl,p,o,u,rfl,z,.b0 _ _⟩
   ·have ab:js k aF=⟨k,cg,cg,0,0,0,0,fr⟩:=by unfold js;rw[if_neg jb,if_neg aoy,if_neg mB,if_neg lG,if_neg m3]
    have bf:nA k aF=I:=by unfold nA;rw[if_neg mB]
    exact ah bf (by rw[ab]) (by rw[ab];exact z) (.b0 _ _)
  rintro _ _ f ⟨bw,ae,ao,J,g,rfl,ay,az,bx,aU,q,m⟩;simp only[M];have aV:=cD [] f;have bg:=r m;have aA:Q [] w f.drew:=bg.R aV B;refine uh (i:=0) ay az A aA λai aj=>s5 (i:=1) ay az A aA λaJ ac=>s5 (i:=2) ay az A aA λaL L=>EP (bD q) λV s v ar=>?_;have t:Q [l] j V:=(m.R aV B).R v B;refine(dz bZ (L _ (r t))).2 ((dz bZ (ac _ (r t))).2 (S1 s λcd au y a7=>?_));have aW:Q [l] j cd:=t.R y B;refine(dz bZ (L _ (r aW))).2 (ahI au λaM bh av bz=>ah ?_ (by rw[aU]) (by rw[aU];exact bh) (aW.R av B));unfold nA;rw[if_neg A]
 rintro _ _ f ⟨bc,rfl,q,W,ak,al,m⟩;simp only[M];obtain⟨bB,bC,bE,bG,bH,bI,bJ,bK,bj⟩:=ik q;simp only[bj];refine s3 (a2.J m (by simp;omega)) rfl W.aW λV s v ar=>?_;obtain⟨bL,bM,bP,bR,bU,bV,bW,bX,bk⟩:=ik s;simp only[bk];refine⟨bc,rfl,?_,ak,by rw[a3];exact al.bw A,(ad.R m (by simp;omega)).R v (by simp;omega)⟩;exact W.J v λb af n c e aw=>by have:=al b af n c e;simp at aw;omega
end
section
variable{k:Int}
theorem BG:eH C 34 9 1 dV λs=>bO s:=eH.aW Ar vJ oD
def eqS_ok{aS b7:List ByteArray}{d c:S}(j:aT w dV d aS)(k:aT w dV c b7)(r:aS.length<=9223372036854775806):a0 C 240 #[d,c] w λae a=>ae=aK (decide (aS=b7))/\Q [] w a:=by
 refine a9 NX 2 Tryz.func240 K rfl λa1 o=>?_;simp+decide only[↓a8,ba,NX,Tryz.f240];subst o;obtain⟨s,t,rfl,u,v⟩:=id j;obtain⟨x,y,rfl,z,D⟩:=id k;simp only[M,bi];refine⟨λh=>⟨?_,.b0 _ _⟩,λh=>?_⟩
 ·rw[decide_eq_false];rintro rfl;exact h rfl
 have p:aS.length=b7.length:=A;apply c1 (λe a=>∃i:Nat,e=[F H i]/\i<=aS.length/\aS.take i=b7.take i/\Q [] w a) (λe _=>match e with|[F _ i]=>aS.length-i.toNat|_=>0) ⟨0,rfl,A,rfl,.b0 _ _⟩;rintro _ _ ax ⟨i,rfl,al,f,l⟩;simp only[M,bi];refine⟨λJ=>?_,λL=>?_⟩
 ·have m:i<aS.length:=A;have n:i<b7.length:=A;have b:=l.R (cD [] ax) B;refine(BG.ek j b m).2 ((BG.ek k b n).2 (CA.2 (cG.2 ⟨λq=>⟨?_,b⟩,λg=>?_⟩)))
  ·rw[decide_eq_false];rintro rfl;simp at q
  ·have g:aS[i]=b7[i]:=by simpa using g
   try simp only[M]
   rw[bq A A];refine⟨⟨i+1,rfl,A,?_,b⟩,by simp;omega⟩;rw[jO m,jO n,f,g]
 ·obtain rfl:i=aS.length:=A;refine⟨?_,l⟩;rw[j3,p,j3]at f;rw[decide_eq_true f]
def ahL{x ap:cw}(r:aT w dV bc x.a7)(s:aT w dV vx ap.a7)(t:x.a7.length<=9223372036854775806):a0 C 194 #[jr x bc,jr ap vx] w λae a=>ae=aK (decide (x=ap))/\Q [] w a:=by
 refine a9 .D 2 Tryz.func194 K rfl λa1 u=>?_;simp+decide only[↓a8,ba,Tryz.f194];subst u;refine eA λaA f v ab=>eA λax g m ac=>?_;have f:aC aA w.heap.size 41 (iS x bc):=by simpa[jr,bF]using f
 have g:aC ax aA.heap.size 41 (iS ap vx):=by simpa[jr,bF]using g
 obtain⟨y,z,A,D,ad⟩:=c7.oX (f.J m B);obtain⟨J,L,R,V,af⟩:=c7.oX g;have e:=v.R m B;obtain⟨n,o,aS,W⟩:=x;obtain⟨p,q,b7,X⟩:=ap;simp only[M,y,z,A,D,J,L,R,V,bi];have i:¬(n=p/\o=q/\aS=b7)->decide (({g2:=n,hH:=o,cP:=aS,a7:=W}:cw)={g2:=p,hH:=q,cP:=b7,a7:=X})=U:=λh=>decide_eq_false (by simp only[cw.mk.injEq];rintro⟨d,b,c,_⟩;exact h ⟨d,b,c⟩);refine⟨λj=>⟨λk=>⟨λl=>?_,λl=>⟨by rw[i (λh=>l h.2.2)],e⟩⟩,λk=>⟨by rw[i (λh=>k h.2.1)],e⟩⟩,λj=>⟨by rw[i (λh=>j h.1)],e⟩⟩;apply aH Y8 (eqS_ok (r.V e) (s.V e) t);rintro _ ag ⟨rfl,aa⟩;refine⟨?_,e.R aa B⟩;congr 1;rw[decide_eq_decide];simp[j,k,l]
def sa(e:eG):List S:=[F H e.a5,bO e.cI,bO e.dg,F H e.d9,F H e.ie,F H e.hF,F H e.cW]
def ahM:yb C 337 [(0,U),(1,G),(2,G),(3,U),(4,U),(5,U),(6,U)]:=⟨K,K,K,K⟩
def S6(e:eG):∀s∈[(0,U),(1,G),(2,G),(3,U),(4,U),(5,U),(6,U)],nV (sa e).toArray s:=by intro s ao;simp at ao;rcases ao with rfl|rfl|rfl|rfl|rfl|rfl|rfl;all_goals exact⟨_,rfl⟩
def ahN(x ap:eG):([(0,U),(1,G),(2,G),(3,U),(4,U),(5,U),(6,U)].all λs=>m9 (sa x).toArray[s.1]? (sa ap).toArray[s.1]?)=decide (x.a5=ap.a5/\x.cI=ap.cI/\x.dg=ap.dg/\x.d9=ap.d9/\x.ie=ap.ie/\x.hF=ap.hF/\x.cW=ap.cW):=by simp[sa,m9,Bool.and_assoc]
def ahO(e:eG):C.built 337 #[(0,F H e.a5),(1,bO e.cI),(2,bO e.dg),(3,F H e.d9),(4,F H e.ie),(5,F H e.hF),(6,F H e.cW)].toList=E (sa e).toArray:=K
def S7:a0 C 193 #[jW e bc] w λae a=>ae=b6 (sa e).toArray/\Q [] w a:=by
 refine a9 .D 1 Tryz.func193 K rfl λa1 d=>?_;simp+decide only[↓a8,ba,Tryz.f193];subst d;refine xD λax f g t=>?_;have h:du C 337 (b6 (sa tT).toArray):=by unfold du;kernel_rfl
 refine gI h λu i c v=>?_;obtain⟨j,k,m,n,o,p,q,x,y⟩:=ik (f.J c B);simp only[M,j,k,m,n,o,p,q];refine(bY (ahO e)).2 (f0 (cv:=[]) (c5:=sa tT) (da:=[]) Wy (by simpa[bF]using i) rfl rfl (by simp[bF,sa]) (by simp[bF,sa,Value.oneCell']) λr b s z=>?_);have b:aC r ax.heap.size 337 (sa e):=by simpa[bF]using b
 exact(gC (l:=sa e) Wx b.cy).2 ⟨rfl,(g.R c B).R s (by simp;omega)⟩
end
structure wm(e:eG):Prop where
 g2:e.cI.size<=4611686018427387904
 sZ:e.dg.size<=4611686018427387904
 a7:e.bk.a7.length<=4611686018427387904
section
variable{k:Int}
def ahP(h:wm e):∀aa∈fU e,aa.cP.size<=4611686018427387904:=by
 intro aa a;have b:=h.g2;have c:=h.sZ;have d:(h7 e.bk.ch).size<=4611686018427387904:=by rw[GZ];have:=e.bk.Dy;omega
 have f:(cg).size<=4611686018427387904:=by simp[cg,vv]
 unfold fU at a;repeat' split at a
 all_goals simp only[ce,iZ,or_false]at a
 all_goals first|exact a.elim|skip
 all_goals rcases a with rfl|rfl|rfl|rfl<;>first|exact b|exact c|exact d|exact f
def BH(k:Int):(g3 k).length<=4:=by
 rw[S2];repeat' split
 all_goals omega
def ahQ(X:aT w dV bc e.bk.a7)(ao:wm e):a0 C 139 #[jW e bc] w λae a=>ae=aK e.bt/\Q [] w a:=by
 have bh:=ao.a7;refine a9 M8 1 Tryz.func139 K rfl λa1 aC=>?_;simp+decide only[↓a8,ba,M8,Tryz.f139];subst aC;refine xD λax f r bj=>?_;have bk:w.heap.size<ax.heap.size:=A;generalize w.heap.size=b at*;obtain⟨bl,bm,bn,bo,bp,bq,br,bs,aD⟩:=ik f;simp only[aD];apply aH LM (S0 (X.V r) A);rintro bt bu n;obtain⟨aG,bv,bw,bx,bz,bB,bC,bE,bG⟩:=ik (f.J n.2 B);simp only[M,aG];apply aH Gq IU;rintro bH t c;have aI:Q [] ax t:=n.2.R c.2.2 B;have aa:=zl (w:=t) (EO e);have ad:=n.1.V c.2.2;apply aH yo (c7.zg (aF:=fU e) c.1 (Dx _) (by have:=BH e.a5;omega) ad aa.1 aa.2 (by rw[yB];have:=BH e.a5;omega) (SY e));intro ab o g;obtain⟨bI,bJ,aJ⟩:=n.dT;have aL:∃x ap,ab=bQ #[x,ap]/\(∀ac:S->Prop,aZ C (eE .neq 73 G ap cT) o ac↔ac (aK (!oA (g9 (g3 e.a5) (fU e)))))/\Q [] t o:=by
  unfold c7.li at g;cases af:g9 (g3 e.a5) (fU e)with
  |error ai=>
   obtain⟨i,j⟩:=ai;rw[af]at g;obtain⟨rfl,aM⟩:=g;exact⟨_,_,rfl,λac=>rz dk,aM⟩
  |ok l=>
   rw[af]at g;obtain⟨ae,rfl,aO⟩:=g;exact⟨_,_,rfl,λac=>fp dk,aO.wj⟩
 obtain⟨zK,bK,rfl,aP,ag⟩:=aL;simp only[cV,cX];have u:=aI.R ag B;refine bT (λv a=>v=[aK (!(oA (g9 (g3 e.a5) (fU e))&&!(fU e).isEmpty))]/\o=a) ?_ ?_
 ·refine(aP _).2 (cG.2 ⟨λh=>⟨?_,rfl⟩,λh=>?_⟩)
  ·have h:oA (g9 (g3 e.a5) (fU e))=U:=by simpa using h
   rw[h];rfl
  ·have h:oA (g9 (g3 e.a5) (fU e))=G:=by simpa using h
   subst aJ;simp only[M];refine⟨?_,by trivial⟩;rw[h];cases fU e<;>simp;omega
 rintro _ _ _ ⟨rfl,rfl⟩;simp only[M,cG];unfold eG.bt;refine⟨λh=>?_,λh=>?_⟩
 ·have h:(oA (g9 (g3 e.a5) (fU e))&&!(fU e).isEmpty)=U:=by rw[lq]at h;exact h
  rw[h];exact⟨rfl,r.R u B⟩
 have h:(oA (g9 (g3 e.a5) (fU e))&&!(fU e).isEmpty)=G:=by rw[ux]at h;exact h
 rw[h,pV];obtain⟨aQ,bL,bM,bP,bR,bU,bV,bW,bX⟩:=ik (f.J u B);simp only[aQ];apply aH LK (S5 (k:=e.a5) (ad.V ag) (zl (EO e)) (yB e) (ahP ao));rintro _ aR ⟨ah,rfl,aj,bY,aS,aU⟩;simp only[cV,cX];refine uf λbZ aV al b0=>s3 aV rfl aj.aW λy aW am b1=>?_;have an:=u.R aU B;have aq:Q [] ax y:=(an.R al B).R am (by simp;exact an.aI);have ar:=f.J aq B;obtain⟨b2,aoT,aoS,b3,b7,b8,b9,ca,cb⟩:=ik ar;have cc:gx o.heap.size ah:=aS;have aX:aT y dV ah (js e.a5 (fU e)).bk.a7:=aj.V (al.R am B);generalize aR.heap.size=cf at*;refine bT (λv a=>v=[aK e.gj]/\Q [] y a) ?_ ?_
 ·simp only[M,aoT];apply aH Ax (Bv (by have:=ao.g2;omega));rintro _ cd ⟨rfl,d⟩;obtain⟨au,aY,av,a2,a3,a4,a5,a6,aw⟩:=ik (ar.J d B);simp only[cG,M,au,av];refine⟨λp=>?_,λp=>⟨by unfold eG.gj;rw[p];rfl,d⟩⟩;refine⟨λc=>?_,λc=>?_⟩
  ·have c:e.a5≠4:=by simpa using c
   exact⟨by unfold eG.gj;rw[p,decide_eq_true c];rfl,d⟩
  ·have c:e.a5=4:=by simpa using c
   apply aH Ax (Bv (by have:=ao.sZ;omega));rintro _ a7 ⟨rfl,z⟩;refine⟨?_,d.R z B⟩;unfold eG.gj;rw[p,decide_eq_false (by simpa using c)];rfl
 rintro _ _ cd ⟨rfl,d⟩;simp only[M];have ay:=aq.R d B;have D:=cD [] cd;have J:Q [] w cd:=r.R ay B;refine AA.2 (cG.2 ⟨λL=>?_,λL=>⟨by rw[L];rfl,J.R D B⟩⟩);rw[L,pV];refine cG.2 ⟨λR=>?_,λR=>⟨by rw[R];rfl,J.R D B⟩⟩;rw[R,pV];have V:=f.J ay B;have az:=aW.J d B;obtain⟨au,aY,av,a2,a3,a4,a5,a6,aw⟩:=ik (bD az);simp only[aw];obtain⟨a1,cg,ch,ci,cj,ck,cm,cn,bb⟩:=ik (bD V);simp only[bb];apply aH L1 S7;rintro _ a7 ⟨rfl,z⟩;have aA:=D.R z B;refine(mE (l:=ha e bc) An (V.J aA B).cy).2 (aH L1 S7 ?_);rintro _ cp ⟨rfl,bd⟩;have q:=aA.R bd B;apply(KQ ahM (λs ao=>⟨S6 _ s ao,S6 e s ao⟩)).2;rw[ahN];have W:=J.R q B;refine bi.2 ⟨λm=>?_,λm=>⟨?_,W⟩⟩
 ·obtain⟨cq,cs,ct,cu,cv,cw,cx,be,cy⟩:=ik (az.J q B);simp only[M,be];obtain⟨cz,cA,cB,cC,cE,cF,cH,bf,cI⟩:=ik (V.J q B);simp only[bf];apply aH Yy (ahL ((aX.V d).V q) (X.V W) A);rintro _ cJ ⟨rfl,bg⟩;refine⟨?_,W.R bg B⟩;congr 1;rw[decide_eq_decide];constructor
  ·intro aB;generalize js e.a5 (fU e)=ak at*;obtain⟨pY,ou,cK,cL,cM,cO,cP,cQ⟩:=ak;obtain⟨jb,aoy,mB,lG,m3,n6,n7,cR⟩:=e;simp only at m aB;obtain⟨rfl,rfl,rfl,rfl,rfl,rfl,rfl⟩:=m;subst aB;rfl
  ·intro h;rw[h]
 ·congr 1;symm;rw[decide_eq_false_iff_not];intro h;rw[h]at m;exact m ⟨rfl,rfl,rfl,rfl,rfl,rfl,rfl⟩
end
section
variable{k:Int}
def IZ{be:aU->List S}{l:List aU}(a:∀x,(be x).length=a6)(h:aC w b av (l.flatMap be))(c:l.length<=1000000):bP w av a6 (T (E ⟨b,0,I⟩) l.length l.length) l.length (l.flatMap be) [b]:=by have:=kx a l;exact⟨this,Z ⟨b,0,l.length,l.flatMap be,rfl,rfl,h,fF _,by unfold d0;omega,A,by rw[List.drop_zero,mv A]⟩⟩
def EQ(b:aT w dV bc e.bk.a7)(ao:wm e)(k:∀a,Q [] w a->ac (aK e.bt) a):W C (ck 139 #[jW e bc]) w ac:=
 aH Ya (ahQ b ao) (by rintro _ a ⟨rfl,c⟩;exact k a c)
def S8(q:aT w dV bc e.bk.a7)(ao:wm e):a0 C 109 #[jW e bc] w λae a=>c7.nl w a ae e.ch:=by
 have ak:=ao.a7;refine a9 MW 1 Tryz.func109 K rfl λa1 D=>?_;simp+decide only[↓a8,ba,MW,Tryz.f109];subst D;refine xD λax d r al=>?_;have am:=d.aL;generalize w.heap.size=b at*;obtain⟨an,ap,aq,ar,au,av,aw,ay,J⟩:=ik d;simp only[J];refine EQ (q.V r) ao λL s=>?_;have f:=d.J s B;have c:=r.R s B;simp only[M,cG];refine⟨λh=>?_,λh=>?_⟩
 ·unfold eG.ch;rw[if_neg (by simpa using h)];exact⟨[],gJ _ _ _,B,c⟩
 have h:e.bt=G:=by simpa using h
 obtain⟨i,Q⟩:=eG.qT h;have R:=cD [] L;obtain⟨V,az,aA,aB,aG,aI,aJ,aL,W⟩:=ik (bD f);simp only[V,W];apply aH Gq IU;rintro aM aO t;have j:=R.R t.2.2 B;refine(mE (l:=ha e bc) An (f.J j B).cy).2 (aH LM (S0 (q.V (c.R j B)) A) ?_);rintro aP X m;have u:=zl (w:=X) (EO e);apply aH yo (c7.zg (aF:=fU e) (t.1.V m.2) (Dx _) (by have:=BH e.a5;omega) m.1 u.1 u.2 (by rw[yB];have:=BH e.a5;omega) (SY e));intro ab aa n;unfold c7.li at n;rw[Q]at n;obtain⟨ae,rfl,v⟩:=n;simp only[cV,cX];have o:=(j.R m.2 B).R v.wj B;obtain⟨ac,aQ,aR,aS,aU,aV,aW,aX,aY⟩:=ik (f.J o B);simp only[M,ac];apply(fv (k:=H) (hC:=cl) (by unfold iq;kernel_rfl) (by unfold iq;kernel_rfl)).2;have aZ:=(eG.rE.1 h).a5;have ad:cl.wrap e.a5=((ed e.a5.toNat).toNat:Int):=by
  rw[mx];have:cl.wrap e.a5=e.a5%256:=by simp[IntKind.wrap,IntKind.bits,IntKind.signed]
  rw[this];omega
 rw[ad];refine hw ky [F cl (ed e.a5.toNat).toNat] rfl rfl (by simp[bF]) A A λaf p x a2=>?_;have y:=(c.R o B).R x B;have p:aC af aa.heap.size 5 ([ed e.a5.toNat].flatMap bs):=by simpa[bF,bs]using p
 refine zk ky (IZ e2 p B) fP e2 uZ (v.eF.V x) (by
  have i:=DE h;simp;omega) (by
  have i:=DE h;unfold d0;simp;omega) λdd a3 aD ag ah ai=>?_
 have a4:=((c.R o B)).aI;rw[i];refine⟨aD,ag,λg aj=>?_,y.R ai (by simp;omega)⟩;have:=y.aI;rcases ah g aj with z|z
 ·simp at z;omega
 ·omega
end
def S9:ByteArray:=eS #[101,110,116,114,121,46,71,101,116]
section
variable{k:Int}
def eqSlNone{ac:S->Prop}{d:Option es}{c:Nat}(h:C.underlying ar=E (.slice av)):aZ C (eE .eql ar G (T d n c) (T I 0 0)) w ac↔ac (aK d.isNone):=by
 cases d with
 |some d=>exact ey.Hv h
 |none=>
  apply j8;unfold eE;apply gv _ _ w;have:eqGuard .eql ar (bif G then .const bS else .tmp 0) (.tmp 0) (T I n c) (T I 0 0)=fh ():=rfl;rw[this];simp only[pure_bind];simp only[binOp,Op.equal,Op.maxDepth];have e:∀ag:Nat,(lF (ag+1) ar (T I n c) (T I 0 0)).run C w=bN G w:=λag=>by simp[lF,fK h]
  have:=e 9999;simp[this]
def I0(w a:aN)(l:List UInt8)(ae:S):Prop:=Q [] w a/\match nB l with
 |bA e=>∃bc,ae=bQ #[jW e bc,cT]/\aT a dV bc e.bk.a7/\e.bk.a7.length<=255/\gx w.heap.size bc
 |b5 cz=>ae=bQ #[jW tT (T I 0 0),ff (E cz)]
def ahR(d:aT w bs aa l)(aM:l.length<=4611686018427387904):a0 C 104 #[aa] w λae a=>I0 w a l ae:=by
 obtain⟨bo,cC,rfl,aO,bp⟩:=id d;refine a9 MS 1 Tryz.func104 K rfl λa1 aQ=>?_;simp+decide only[↓a8,ba,MS,Tryz.f104];subst aQ;refine uf λax z r br=>?_;have bt:=z.aL;have s:∀{cz:ex}{t:aN}{ac:Prop},nB l=b5 (.d2 S9 0 cz)->Q [] w t->aC t w.heap.size 82 (ha tT (T I 0 0))->
   W C (ck 59 #[bO S9,F H 0,ff (E cz)]) t λpW u=>W C (dC 82 (aP w.heap.size) (jW tT (T I 0 0))) u λ_ cd=>aZ C (a4 82 (aP w.heap.size)) cd λaR=>o5 (λae a=>I0 w a l ae) (gd (bQ #[aR,pW])) cd:=by
  intro cz t ac aS aU aV;refine rO (s3 aV rfl rfl λaW v o bu=>?_);obtain⟨ah,aj,ak,al,am,an,ao,ap,p⟩:=ik v;simp only[p];refine⟨aU.R o B,?_⟩;rw[aS];rfl
 simp only[M,bi];refine⟨λg=>?_,λg=>?_⟩
 ·have aX:l=[]:=by rw[<-List.length_eq_zero_iff];omega
  exact(bY EN).2 ((hk hY).2 (s (cz:=.dD 3) (ac:=True) (by rw[aX];rfl) r z))
 obtain⟨x,ab,rfl⟩:=List.exists_cons_of_ne_nil (λh=>g (by rw[h];rfl):l≠[]);apply(p4.ek d r (i:=0) B).2;simp only[List.getElem_cons_zero];apply(fv (k:=cl) (hC:=H) (by unfold iq;kernel_rfl) (by unfold iq;kernel_rfl)).2;have bv:=x.toNat_lt;rw[bq A A];apply aH Gq IU;rintro bw aW ⟨aY,⟨bx,bz,rfl,a2⟩,o⟩;have D:=r.R o B;have v:=z.J o B;apply(eqSlNone (o8 yk)).2;rw[a2];refine cG.2 ⟨λJ=>?_,λJ=>?_⟩
 ·exact(bY EN).2 ((hk hY).2 (s (cz:=.dD 2) (ac:=True) (by simp only[nB];rw[if_pos J];rfl) D v))
 have aq:∀ai,mG (g3 x.toNat) ab=ai->nB (x::ab)=match ai with
  |b5 (i,j)=>b5 (.d2 yA 0 (.d2 vG i (.dD j)))
  |bA aa=>if(nA x.toNat aa).isNone&&(js x.toNat aa).bt then bA (js x.toNat aa)else b5 (.d2 yA 0 (.dD 2)):=by
  rintro ai rfl;simp only[nB];rw[if_neg (by rw[J];simp)];rcases mG (g3 (x.toNat:Int)) ab with⟨i,j⟩|aa<;>rfl
 rw[gF]at aO aM;apply(rs (i:=1) fP el A (by rw[gF];omega)).2;have a3:=aT.Is e2 (d.V D) B;apply aH Db (c7.EK (b:=ab) aY (Dx _) (by have:=BH (x.toNat:Int);omega) (by simpa using a3) A);rintro bB bC ⟨L,y⟩;have ar:=D.R L B;have au:=v.J L B;cases q:mG (g3 x.toNat) ab with
 |error ai=>
  obtain⟨i,j⟩:=ai;rw[q]at y;subst y;simp only[cV,cX];apply(rz dk).2;simp only[M];exact(bY EN).2 (s (cz:=.d2 vG i (.dD j)) (ac:=True) (aq _ q) ar au)
 |ok aF=>
  rw[q]at y;obtain⟨af,ee,rfl,a5,a6,bD,bE,bG⟩:=y;obtain⟨a7,R⟩:=G1 q;simp only[cV,cX];apply(fp dk).2;simp only[M];apply aH LK (S5 (k:=(x.toNat:Int)) a5 a6 a7 (λaa d=>by have:=R aa d;omega));rintro _ av ⟨aw,rfl,V,bb,bc,ay⟩;simp only[cV,cX];refine uf λbH bd be bI=>s3 bd rfl V.aW λu az bf bJ=>?_;have aA:=ar.R ay B;have X:Q [] av u:=be.R bf B;have bg:=aA.R X B;have aB:=V.V X;have bh:=(au.J ay B).J X B;have bK:=aA.aI;generalize av.heap.size=bL at*;have aD:=aq _ q;have bj:wm (js (x.toNat:Int) aF):=by
   refine⟨?_,?_,A⟩
   ·have ad:=IX aF (λaa d=>by have:=R aa d;omega);have g:cg.size<=4611686018427387904:=by simp[cg,vv]
    unfold js;repeat' split
    all_goals first|exact ad _|exact g
   ·have ad:=IX aF (λaa d=>by have:=R aa d;omega);have g:cg.size<=4611686018427387904:=by simp[cg,vv]
    unfold js;repeat' split
    all_goals first|exact ad _|exact g
  refine bT (λbk a=>bk=[aK (!((nA (x.toNat:Int) aF).isNone&&(js (x.toNat:Int) aF).bt))]/\Q [] u a) ?_ ?_
  ·refine oF.2 (cG.2 ⟨λf=>⟨by cases ag:nA (x.toNat:Int) aF<;>simp[ag]at f⊢,.b0 _ _⟩,λf=>?_⟩);obtain⟨ah,aj,ak,al,am,an,ao,ap,p⟩:=ik az;simp only[M,p];refine EQ aB bj λcd m=>?_;simp only[M];refine⟨?_,m⟩;cases ag:nA (x.toNat:Int) aF<;>simp[ag]at f⊢
  rintro _ _ cd ⟨rfl,m⟩;have aG:=bg.R m B;have aI:=bh.J m B;simp only[M,cG];refine⟨λf=>?_,λf=>?_⟩
  ·apply(bY EN).2;simp only[hk hY];refine s (cz:=.dD 2) (ac:=True) ?_ aG aI;rw[aD];simp only;rw[lq]at f;rw[if_neg (by rw[f];simp)];rfl
  ·rw[ux]at f;obtain⟨ah,aj,ak,al,am,an,ao,ap,p⟩:=ik (az.J m B);simp only[M,p];refine s3 aI rfl V.aW λbM bl aJ bP=>?_;obtain⟨bR,bU,bV,bW,bX,bZ,b0,b1,bm⟩:=ik bl;simp only[bm];refine⟨aG.R aJ B,?_⟩;rw[aD];simp only;rw[if_pos f];have aL:gx (w.heap.size+1) aw:=bc.bw (by have:=L.aI;have:=o.aI;have:=r.aI;omega);refine⟨aw,rfl,(aB.V m).J aJ λb af n c e bn=>?_,bb,aL.bw A⟩;have:=aL b af n c e;simp at bn;omega
def I1(b:aT w bs aa l)(c:l.length<=4611686018427387904)(k:∀ae a,I0 w a l ae->ac ae a):W C (ck 104 #[aa]) w ac:=aH XS (ahR b c) k
end
end
section
open Go.RowKit fC gO
variable{ao:List gZ}{aw:eI}
def aml.aL{e:Nat}(h:lM w b e ao am):∀g∈am,g<w.heap.size:=by
 obtain⟨cB,i,j,k,fM,c,d,f,l,m,n,o,p,q,rfl⟩:=h;intro g a;simp only[jN,ce,b4]at a;rcases a with rfl|a|a
 ·exact c.aL
 ·exact d.aL g a
 ·exact f.aL g a
section
variable{ak:List (Int×hG)}
def ahS(h:kz w ah aw am)(ar:aw.bp)(au:aw.eC.length<=100000):a0 C 249 #[aP ah] w λae a=>∃jB az,ae=aP jB/\kz a jB aw az/\(∀g∈az,w.heap.size<=g)/\Q [] w a:=by
 obtain⟨b,dQ,e,t,av,rfl⟩:=h;refine a9 NZ 1 Tryz.func249 K rfl λa1 L=>?_;simp+decide only[↓a8,ba,NZ,Tryz.f249];subst L;have R:=cD [] w;obtain⟨V,W,X⟩:=nW (bD e);simp only[M,V,W,X];apply aH L9 (Ot A A);rintro _ aA ⟨rfl,u,aa,ay⟩;rw[show w.drew.heap.size=w.heap.size from rfl]at*;have l:=R.R aa B;refine(dz bZ ((e.J l B).bh (af:=2))).2 ((dz bZ ((e.J l B).bh (af:=1))).2 ((bY (gT:=#[aE (E ⟨w.heap.size,0,I⟩),F H aw.hE,F H aw.cS]) K).2 (eA λax m v aB=>?_)));have m:aC ax aA.heap.size 352 [aP w.heap.size,F H aw.hE,F H aw.cS]:=m;have n:=l.R v B;obtain⟨ab,aD,aF⟩:=nW (e.J n B);simp only[M,ab];refine GL (t.J n B) λaG o=>?_;have ac:=n.R o B;have ad:(max (4:Int) 1).toNat=4:=rfl;rw[ad]at u;have ag:=m.J o B;have aI:=l.aI;have ai:=v.R o B;refine c1 (λp a=>∃(i:Nat)(d:List Nat),p=[F H i]/\i<=aw.eC.length/\lM a w.heap.size 4 (aw.eC.take i) d/\(∀g∈d,w.heap.size<=g)/\aA.heap.size∉d/\aC a aA.heap.size 352 [aP w.heap.size,F H aw.hE,F H aw.cS]/\Q [] w a) (λp _=>match p with|[F _ i]=>aw.eC.length-i.toNat|_=>0)
  ⟨0,[w.heap.size],rfl,A,u.J ai B,B,by simp;omega,ag,ac⟩ ?_
 rintro _ _ aj ⟨i,d,rfl,al,q,r,s,f,j⟩;simp only[M,bi];refine⟨λaJ=>?_,λaL=>?_⟩
 ·have x:i<aw.eC.length:=A;have y:=cD [] aj;obtain⟨ak,aM,aO⟩:=nW (bD f);obtain⟨an,aoT,aoS⟩:=nW (bD (e.J j B));simp only[M,ak,an];refine GK (t.J (j.R y B) B) x λaQ ao=>?_;have k:=y.R ao B;refine(dz w6 ((f.J k B).bh (af:=0))).2 (aH Gx (Ay (q.J k B) (by rw[ea];omega)) ?_);rintro _ aR ⟨-,ap,aq,z,D⟩;try simp only[M]
  rw[bq A A];have aS:=j.aI;have aT:=k.aI;refine⟨⟨i+1,ap,rfl,A,?_,λg c=>(D g c).elim (r g) (λJ=>A),λJ=>(D _ J).elim s (λh=>by have:=f.aL;omega),(f.J k B).J z s,(j.R k B).R z (λg c=>Z (r g c))⟩,by simp;omega⟩;rw[jO x];exact aq
 ·obtain rfl:i=aw.eC.length:=A;rw[j3]at q;refine⟨aA.heap.size,aA.heap.size::d,rfl,⟨w.heap.size,d,f,q,s,rfl⟩,λg c=>?_,j⟩;rcases ce.1 c with rfl|c
  ·omega
  ·exact r g c
def ahT:C.underlying 457=E (.map 3 426):=K
def Ta:sF C 457=G:=K
def ahU(h:pj w ag ab ak):a0 C 250 #[aP ag] w λae a=>∃b dr,ae=aP b/\pj a b dr ak/\w.heap.size<=b/\w.heap.size<=dr/\Q [] w a:=by
 refine a9 .D 1 Tryz.func250 K rfl λa1 c=>?_;simp+decide only[↓a8,ba,Tryz.f250];subst c;simp only[M];refine(bl FZ (h.bg.bh (af:=0))).2 (aH (bu:=λae a=>ae=eB (E w.heap.size)/\kb a w.heap.size nX ak/\Q [] w a) ZK ?_ ?_)
 ·refine a9 .D 1 Tryz.func295 K rfl λa1 c=>?_;simp+decide only[↓a8,ba,Tryz.f295];subst c;apply(KU ahT).2;simp only[M,hk Ta];obtain⟨a,g,i,j,m⟩:=V0 (ad:=C) 457 h.gk;exact qQ (e:=B5) Tryz.func317 K K K K g ((KV Ta).2 ⟨rfl,i,j⟩)
 rintro _ aA ⟨rfl,d,k⟩;refine(bY (gT:=#[eB (E w.heap.size)]) K).2 (eA λax l f n=>?_);have:=d.aL;exact⟨_,_,rfl,⟨l,d.J f B,A⟩,A,fF _,k.R f B⟩
end
def k0(ai:Nat×Nat):List S:=[aP ai.1,aP ai.2]
def ahV(ai:Nat×Nat):(k0 ai).length=2:=rfl
def I2(ai:Nat×Nat):∀ae∈k0 ai,ae.oneCell'=G:=by intro ae a;simp[k0]at a;rcases a with rfl|rfl<;>rfl
abbrev lB:=(Nat×Nat)×gM
def sb(w:aN)(x:lB)(am:List Nat):Prop:=∃ab a,kz w x.1.1 x.2.dw a/\pj w x.1.2 ab x.2.jX/\bR a [x.1.2,ab]/\am=a++[x.1.2,ab]
abbrev qr:=ByteArray×(S×List lB)
def mU(l:List lB):List S:=l.flatMap λx=>k0 x.1
def ER(w:aN)(x:qr)(am:List Nat):Prop:=∃aD h4,bP w 349 2 x.2.1 x.2.2.length (mU x.2.2) aD/\hc sb w x.2.2 h4/\bR aD h4/\am=aD++h4
def ui(s:ByteArray):S:=bO s
def qs(aa:S×List lB):S:=aa.1
def od(x:qr):ByteArray×List gM:=(x.1,x.2.2.map (·.2))
structure wn(w:aN)(b ab g ak:Nat)(aS:List qr)(a:List Nat)(aX:c3):Prop where
 bg:aC w b 205 [eB (E ab),aP g]
 s6:n9 w g ak aX.kA
 gk:hx w ab ui qs aS
 jI:hc ER w aS a
 fs:aX.fs=aS.map od
 hj:[b,ab,g,ak].Nodup
 mV:bR [b,ab,g,ak] a
def iJ(w:aN)(b:Nat)(am:List Nat)(aX:c3):Prop:=∃ab g ak aS a,wn w b ab g ak aS a aX/\am=[b,ab,g,ak]++a
def oe:vX sb where
 J:=by rintro w a x am bU ⟨ab,h,e,d,i,rfl⟩ j f;exact⟨ab,h,e.J j (λg b c=>f g (hg _ b) c),d.J j (λc=>f _ B c) (λc=>f _ B c),i,rfl⟩
 aL:=by
  rintro w x am ⟨ab,h,e,d,i,rfl⟩ g b;rcases b4.1 b with b|b
  ·exact e.aL g b
  ·simp at b;rcases b with rfl|rfl
   ·exact d.bg.aL
   ·exact d.gk.aL
def pF:vX ER where
 J:=by rintro w a x am bU ⟨aD,h4,c,d,e,rfl⟩ f i;exact⟨aD,h4,c.J f (λg b j=>i g (hg _ b) j),d.J oe f (i.d1 (λg b=>h3 _ b) λ_ h=>h),e,rfl⟩
 aL:=by
  rintro w x am ⟨aD,h4,c,d,e,rfl⟩ g b;rcases b4.1 b with b|b
  ·exact c.aL g b
  ·exact d.aL oe g b
section
variable{aX:c3}{t:ByteArray}{aS:List qr}
def iJ.aL(h:iJ w b am aX):∀g∈am,g<w.heap.size:=by
 obtain⟨ab,g,ak,aS,c,h,rfl⟩:=h;intro x a;simp only[jN,m2,ce]at a;rcases a with rfl|rfl|rfl|rfl|a
 ·exact h.bg.aL
 ·exact h.gk.aL
 ·exact h.s6.bg.aL
 ·exact h.s6.gk.aL
 ·exact h.jI.aL pF x a
def wn.J{f:List Nat}(h:wn w b ab g ak aS f aX)(e:Q bU w a)(d:bR ([b,ab,g,ak]++f) bU):wn a b ab g ak aS f aX:=
 ⟨h.bg.J e (λc=>d b B c),h.s6.J e (λc=>d g B c) (λc=>d ak B c),h.gk.J e (λc=>d ab B c),h.jI.J pF e (d.d1 (λg i=>h3 _ i) λ_ h=>h),h.fs,h.hj,h.mV⟩
def iJ.J(h:iJ w b am aX)(c:Q bU w a)(d:bR am bU):iJ a b am aX:=by obtain⟨ab,g,ak,aS,e,h,rfl⟩:=h;exact⟨ab,g,ak,aS,e,h.J c d,rfl⟩
def iJ.V(h:iJ w b am aX)(c:Q [] w a):iJ a b am aX:=h.J c (bR.D _)
def Tb{cU aU jA:Type}[DecidableEq cU](aj:aU->jA)(k:cU):∀l:List (cU×aU),dv (l.map λx=>(x.1,aj x.2)) k=(dv l k).map aj
 |[]=>rfl
 |x::l=>by
  simp only[ge,dv];split
  ·rfl
  ·exact Tb aj k l
def Tc{cU aU jA:Type}[DecidableEq cU](aj:aU->jA)(k:cU)(aa:aU):∀l:List (cU×aU),hb (l.map λx=>(x.1,aj x.2)) k (aj aa)=(hb l k aa).map λx=>(x.1,aj x.2)
 |[]=>rfl
 |x::l=>by
  simp only[ge,hb];split
  ·rfl
  ·rw[Tc aj k aa l];rfl
def ahW[DecidableEq cU](aj:aU->jA)(k:cU)(l:List (cU×aU)):mh (l.map λx=>(x.1,aj x.2)) k=(mh l k).map λx=>(x.1,aj x.2):=by unfold mh;rw[List.filter_map];rfl
def BI(aS:List qr)(t:ByteArray):dv (aS.map od) t=(dv aS t).map λaa=>aa.2.map (·.2):=Tb (λaa:S×List lB=>aa.2.map (·.2)) t aS
def ahX(aS:List qr)(t:ByteArray)(aa:S×List lB):(hb aS t aa).map od=hb (aS.map od) t (aa.2.map (·.2)):=(Tc (λaa:S×List lB=>aa.2.map (·.2)) t aa aS).symm
def ahY(aS:List qr)(t:ByteArray):(mh aS t).map od=mh (aS.map od) t:=(ahW (λaa:S×List lB=>aa.2.map (·.2)) t aS).symm
def wo:pm C 9 ui:=abX K
def sc:oL C 201 9 344:=by unfold oL;kernel_rfl
def BJ:du C 344 (T I 0 0):=by unfold du;kernel_rfl
def sd(h:aC w b 205 [eB (E ab),aP g]):(∀ac,aZ C (a4 201 (aE (E ⟨b,0,I⟩))) w ac↔ac (eB (E ab)))/\(∀ac,aZ C (a4 202 (aE (E ⟨b,1,I⟩))) w ac↔ac (aP g)):=
 ⟨λ_=>bl FX (h.bh (af:=0)),λ_=>bl Wf (h.bh (af:=1))⟩
structure Td(w:aN)(b:Nat)(am:List Nat)(aX:c3)(t:ByteArray)(n:Int)(ah:gM)(ae:S):Prop where
 gm:∃fI c g7 ag bJ,ae=aE (E ⟨fI,c,I⟩)/\fu w fI c (k0 (g7,ag))/\sb w ((g7,ag),ah) bJ/\fI∉bJ/\(∀g∈bJ,g∈am)/\∀(jB:gM)(fy:List Nat)(a:aN),sb a ((g7,ag),jB) fy->bX bJ fy w a->∃az,iJ a b az (aX.dt t n jB)/\bX am az w a
def I3[DecidableEq cU]{l:List (cU×aU)}{k:cU}{aa ae:aU}(h:dv l k=E ae):∃j,kT l k=E (j,ae)/\hb l k aa=l.set j (k,aa)/\l[j]?=E (k,ae):=by
 rw[DG]at h;cases a:kT l k with
 |none=>rw[a]at h;cases h
 |some ai=>
  obtain⟨j,b⟩:=ai;rw[a]at h;cases h;exact⟨j,rfl,Pp a,G3 a⟩
def wn.Te{z:List Nat}{aa:S×List lB}(h:wn w b ab g ak aS z aX)(r:dv aS t=E aa)(al:i<aa.2.length):
  ∃fI k c,aa.1=T (E ⟨fI,k,I⟩) aa.2.length c/\Td w b ([b,ab,g,ak]++z) aX t i (aa.2[i]).2 (aE (E ⟨fI,k+i*2,I⟩)):=by
 obtain⟨j,R,aA,V⟩:=I3 (aa:=aa) r;obtain⟨W,s⟩:=fi.1 V;obtain⟨cM,D,J,X⟩:=h.jI.ek pF W;rw[s]at D;obtain⟨aD,h4,m,K,u,rfl⟩:=D;simp only at m K;obtain⟨fI,k,c,L,ac⟩:=m.gm A;obtain⟨bJ,ad,p,ae⟩:=K.ek oe al;refine⟨fI,k,c,L,⟨fI,k+i*2,(aa.2[i]).1.1,(aa.2[i]).1.2,bJ,rfl,?_,ad,?_,?_,?_⟩⟩
 ·have af:=(bP.fO (L▸m)).2;have dI:=af.d1 (i*2) 2;have e:∀(l:List lB)(i:Nat)(al:i<l.length),((mU l).drop (i*2)).take 2=k0 (l[i]).1:=by
   intro l;induction l with
   |nil=>intro i al;simp at al
   |cons x l v=>
    intro i al;cases i with
    |zero=>simp[mU,k0]
    |succ i=>
     have:=v i (by simpa using al);rw[show(i+1)*2=i*2+2 by omega];simp only[mU,iA]at this⊢;rw[show i*2+2=2+i*2 by omega,<-oq];exact this
  rw[e aa.2 i al]at dI;exact dI
 ·intro ag;exact u fI (by rw[ac];simp) (p _ ag)
 ·intro x d;exact h3 _ (J x (h3 _ (p x d)))
 ·intro jB fy a ah n;obtain⟨y,aj,N⟩:=ae ((aa.2[i]).1,jB) fy a ah n;have am:=m.aL;have an:bP a 349 2 aa.1 (aa.2.set i ((aa.2[i]).1,jB)).length (mU (aa.2.set i ((aa.2[i]).1,jB))) aD:=by
   have e:mU (aa.2.set i ((aa.2[i]).1,jB))=mU aa.2:=by
    have bz:∀(l:List lB)(i:Nat)(ai:Nat×Nat)(ap:gM),(∃h:i<l.length,(l[i]).1=ai)->mU (l.set i (ai,ap))=mU l:=by
     intro l;induction l with
     |nil=>rintro i ai ap ⟨h,_⟩;simp at h
     |cons x l v=>
      rintro i ai ap ⟨h,e⟩;cases i with
      |zero=>simp at e;simp[mU,e]
      |succ i=>
       have:=v i ai ap ⟨by simpa using h,by simpa using e⟩;simp only[mU,List.set_cons_succ,iA]at this⊢;rw[this]
    exact bz aa.2 i _ jB ⟨al,rfl⟩
   rw[e,i9];exact m.J n.J (λx d f=>u x d (p x f))
  have ao:bX (aD++h4) (aD++y) w a:=N.He;obtain⟨O,aq,P⟩:=X (t,(aa.1,aa.2.set i ((aa.2[i]).1,jB))) (aD++y) a ⟨aD,y,an,aj,(u.nc.de N (λx d=>am x d)).nc,rfl⟩ ao;have q:bR [b,ab,g,ak] bJ:=h.mV.d1 (λ_ h=>h) (λx d=>J x (h3 _ (p x d)));have ar:hb aS t (aa.1,aa.2.set i ((aa.2[i]).1,jB))=aS.set j (t,(aa.1,aa.2.set i ((aa.2[i]).1,jB))):=by obtain⟨aB,Q,au,_⟩:=I3 (aa:=(aa.1,aa.2.set i ((aa.2[i]).1,jB))) r;rw[R]at Q;cases Q;exact au
  have av:∀x∈[b,ab,g,ak],x<w.heap.size:=by
   intro x d;simp only[ce,iZ,or_false]at d;rcases d with rfl|rfl|rfl|rfl
   ·exact h.bg.aL
   ·exact h.gk.aL
   ·exact h.s6.bg.aL
   ·exact h.s6.gk.aL
  refine⟨[b,ab,g,ak]++O,⟨ab,g,ak,aS.set j (t,(aa.1,aa.2.set i ((aa.2[i]).1,jB))),O,⟨h.bg.J n.J (λf=>q b B f),?_,?_,aq,?_,h.hj,(h.mV.nc.de P av).nc⟩,rfl⟩,P.He⟩
  ·exact h.s6.J n.J (λf=>q g B f) (λf=>q ak B f)
  ·have aw:=h.gk.J n.J (λf=>q ab B f);have ax:(aS.set j (t,(aa.1,aa.2.set i ((aa.2[i]).1,jB)))).map (kg ui qs)=aS.map (kg ui qs):=by
    refine List.ext_getElem B λai ay az=>?_;simp only[ic,List.getElem_set];by_cases o:j=ai
    ·subst o;rw[if_pos rfl];simp only[kg,qs,s]
    ·rw[if_neg o]
   refine aw.hu ax (List.ext_getElem B λai ay az=>?_);simp only[ic,List.getElem_set];by_cases o:j=ai
   ·subst o;rw[if_pos rfl,s]
   ·rw[if_neg o]
  ·show(aX.dt t i jB).fs=_;unfold c3.dt;have:dv aX.fs t=E (aa.2.map (·.2)):=by rw[h.fs,BI,r];rfl
   rw[this];simp only[hf];rw[<-ar,ahX,h.fs];simp[qB]
end
section
variable{aX:c3}{t:ByteArray}{n:Int}
def Tf(h:iJ w b am aX):a0 C 198 #[aP b,bO t,F H n] w λae a=>w=a/\match aX.aP t n with
  |none=>ae=aE I
  |some ah=>Td w b am aX t n ah ae:=by
 obtain⟨ab,g,ak,aS,J,h,rfl⟩:=h;refine a9 (.L .D (.L .D (.L (.bK [21] .D .D) .D))) 3 Tryz.func198 K rfl λa1 r=>?_;simp+decide only[↓a8,ba,Tryz.f198];subst r;simp only[M,(sd h.bg).1];apply(Pv sc wo h.gk BJ (k:=t)).2;have d:aX.aP t n=(dv aS t).bind λaa=>if n<0 then I else(aa.2.map (·.2))[n.toNat]?:=by unfold c3.aP;rw[h.fs,BI];cases dv aS t<;>rfl
 cases e:dv aS t with
 |none=>
  rw[e]at d;simp only[Option.map_none,Option.getD_none];refine bT (λf a=>f=[aK G]/\w=a) ?_ ?_
  ·simp only[M,bi];exact⟨λ_=>⟨by trivial,by trivial⟩,λL=>⟨by rw[decide_eq_true (by simp;omega)],by trivial⟩⟩
  rintro _ _ _ ⟨rfl,rfl⟩;simp only[M];rw[d];exact⟨by trivial,rfl⟩
 |some aa=>
  rw[e]at d;simp only[m1,om,tg]at d⊢;obtain⟨j,Q,R,s⟩:=I3 (aa:=aa) e;obtain⟨u,v⟩:=fi.1 s;obtain⟨cM,m,V,W⟩:=h.jI.ek pF u;rw[v]at m;obtain⟨aD,h4,o,X,ac,rfl⟩:=m;simp only at o;obtain⟨x,cC,p,_⟩:=o.jD;have y:qs aa=T x aa.2.length cC:=p;rw[y];refine bT (λf a=>f=[aK (decide (n<0\/(aa.2.length:Int)<=n))]/\w=a) ?_ ?_
  ·simp only[M,bi];refine⟨λl=>⟨by rw[decide_eq_true (Y l)],by trivial⟩,λl=>⟨?_,by trivial⟩⟩;congr 2;rw[decide_eq_decide];exact⟨Z,λz=>z.resolve_left l⟩
  rintro _ _ _ ⟨rfl,rfl⟩;simp only[M,bi];refine⟨λB=>⟨by trivial,?_⟩,λB=>?_⟩
  ·have:aX.aP t n=I:=by
    rw[d];split
    ·rfl
    ·rw[jy (by simp;omega)]
   rw[this]
  ·obtain⟨i,rfl⟩:=nL (show 0<=n by omega);have al:i<aa.2.length:=A;obtain⟨fI,ad,c,q,D⟩:=h.Te e al;rw[p]at q;cases q;refine(hP C7 F5 al).2 ⟨by trivial,?_⟩;have:aX.aP t i=E (aa.2[i]).2:=by rw[d,if_neg A];simp[al]
   rw[this];exact D
def ahZ{k:rG}(h:iJ w b am aX):a0 C 143 #[aP b,bO k.dg,bO k.cI,F H k.d9] w λae a=>ae=bQ #[F H ((dv aX.kA k).getD 0),aK (dv aX.kA k).isSome]/\w=a:=by obtain⟨ab,g,ak,aS,d,h,rfl⟩:=h;refine a9 .D 4 Tryz.func143 K rfl λa1 c=>?_;simp+decide only[↓a8,ba,Tryz.f143];subst c;simp only[M,(sd h.bg).2];refine aH YA (ago h.s6) ?_;rintro _ _ ⟨rfl,rfl⟩;simp only[cV,cX];exact⟨rfl,rfl⟩
def ah0(h:iJ w b am aX):a0 C 142 #[aP b,bO t,F H n] w λae a=>Q [] w a/\match aX.aP t n with
  |none=>ae=aE I
  |some ah=>∃g7 bJ,ae=aP g7/\kz a g7 ah.dw bJ/\∀g∈bJ,g∈am:=by
 refine a9 .D 3 Tryz.func142 K rfl λa1 e=>?_;simp+decide only[↓a8,ba,Tryz.f142];subst e;apply aH L2 (Tf (t:=t) (n:=n) h);rintro ae aA ⟨rfl,c⟩;cases d:aX.aP t n with
 |none=>
  rw[d]at c;subst c;refine(ru CM).2 (cG.2 ⟨λ_=>⟨.b0 _ _,by trivial⟩,λh=>(by cases h)⟩)
 |some ah=>
  rw[d]at c;obtain⟨fI,o,g7,ag,bJ,rfl,f,i,p,j,_⟩:=c;refine(ru CM).2 (cG.2 ⟨λh=>(by cases h),λ_=>?_⟩);simp only[M];refine(bl (aa:=aP g7) CS ?_).2 ?_
  ·exact f 0 (by simp[k0])
  ·obtain⟨ab,k,l,q,r,rfl⟩:=i;exact⟨.b0 _ _,g7,k,rfl,l,λg m=>j g (hg _ m)⟩
def og(ag:nY):List S:=[F H ag.cu,F H ag.bV,aK ag.vY]
def oZ(ag:nY):S:=b6 (og ag).toArray
def ah1:du C 220 (oZ i4):=by unfold du;kernel_rfl
def ah2(ag:nY):∀ae∈og ag,ae.oneCell'=G:=by intro ae a;simp[og]at a;rcases a with rfl|rfl|rfl<;>rfl
def wq(k:∀a,aC a w.heap.size 220 (og i4)->Q [] w a->a.heap.size=w.heap.size+1->ac (aP w.heap.size) a):W C (hV 220) w ac:=
 gI ah1 λa b c d=>k a (by simpa[oZ,bF]using b) c d
def nn{c:Nat}{ag e:nY}(h:aC w c 220 (og ag))(k:∀a,aC a c 220 (og e)->Q [c] w a->a.heap.size=w.heap.size->ac bS a):W C (dC 220 (aE (E ⟨c,0,I⟩)) (oZ e)) w ac:=
 f0 (cv:=[]) (c5:=og ag) (da:=[]) Wu (by simpa using h) rfl rfl rfl (by simpa[oZ,bF]using ah2 e) λa b d f=>k a (by simpa[oZ,bF]using b) d f
def pG{c:Nat}{ag:nY}{ac:S->Prop}(h:aC w c 220 (og ag)):aZ C (a4 220 (aE (E ⟨c,0,I⟩))) w ac↔ac (oZ ag):=gC (l:=og ag) Lh h.cy
def xE:C.built 220 (#[]:Array (Nat×S)).toList=E (og i4).toArray:=K
def ah3{x ap:Int}:C.built 220 #[(0,F H x),(1,F H ap)].toList=E (og ⟨x,ap,U⟩).toArray:=K
def ah4{x ap:Int}:C.built 220 #[(0,F H x),(1,F H ap),(2,aK G)].toList=E (og ⟨x,ap,G⟩).toArray:=K
def ah5{x ap bm:Int}:C.built 426 #[(0,F H x),(1,F H ap),(2,F H bm)].toList=E (oH ⟨x,ap,bm⟩).toArray:=K
def Tg:du C 426 (nX i2):=by unfold du;kernel_rfl
def I4(w a:aN)(g7 ag:Nat)(bJ:List Nat)(ah:gM)(aou:cw)(i j:Int)(ae:S):Prop:=match ah.po aou i j with
 |b5 k=>(∃cz:ex,cz.a5=k/\ae=bQ #[oZ i4,ff (E cz)])/\Q bJ w a
 |bA (jB,ht)=>ae=bQ #[oZ ht,cT]/\∃fy,sb a ((g7,ag),jB) fy/\bX bJ fy w a
def Hg{z:Nat}{ah:gM}{aou:cw}{i j:Int}(an:fu w fI z (k0 (g7,ag)))(a5:sb w ((g7,ag),ah) bJ)(aF:fI∉bJ)(aG:ah.bp dE)(bB:dE<=100000)(a6:aT w dV bc aou.a7)(bC:aou.a7.length<=255):
  a0 C 221 #[aE (E ⟨fI,z,I⟩),jr aou bc,F H i,F H j] w λae a=>I4 w a g7 ag bJ ah aou i j ae:=by
 obtain⟨ab,m,ac,u,ao,rfl⟩:=a5;simp only at ac u ao;have a7:=ac.aL;have eu:=u.bg.aL;have bE:=u.gk.aL;have bG:=aG.dT;have bH:fI<w.heap.size:=by have:=an 0 (by simp[k0]);exact block_lt_of_cell this
 refine a9 NO 4 Tryz.func221 K rfl λa1 bb=>?_;simp+decide only[↓a8,ba,NO,Tryz.f221];subst bb;refine eA λax ap bd bI=>?_;have ap:aC ax w.heap.size 41 (iS aou bc):=by simpa[jr,bF]using ap
 refine wq λo be aI bK=>?_;have aq:=ap.J aI B;have D:=bd.R aI B;have bL:w.heap.size<ax.heap.size:=A;generalize bM:w.heap.size=ar at*;generalize bP:ax.heap.size=k at*;have ad:=cD [] o;have bf:∀{d:aN},Q m w d->d.cell? ⟨fI,z+0,I⟩=E (aP g7):=λh=>(an.J h (λn=>aF (hg _ n))) 0 (by simp[k0]);have au:∀{d:aN},Q m w d->d.cell? ⟨fI,z+1,I⟩=E (aP ag):=λh=>(an.J h (λn=>aF (hg _ n))) 1 (by simp[k0]);have bg:Q m w o.drew:=(D.R ad B).bw B;refine bT (λbh a=>∃c,bh=[aP c,aK (ke ah.jX aou.hH aou.cP).2.1,ff (ke ah.jX aou.hH aou.cP).2.2]/\aC a c 426 (oH (ke ah.jX aou.hH aou.cP).1)/\k<c/\Q [] o a) ?_ ?_
 ·obtain⟨bi,aJ,aL,aM,bj⟩:=c7.oX (bD aq);simp only[M];apply(bl Am (au bg)).2;simp only[aJ,aL];have aQ:∀{d:aN}{aO:Prop}{af:Nat}{aa:S},Q [] o d->(iS aou bc)[af]?=E aa->(gu C (a4 3 (aE (E ⟨ar,af,I⟩))) aa d aO↔aO):=λh e=>dz bZ (((aq.J h B).bh).trans e);have bk:∀{d:aN}{aO:Prop},Q [] o d->(gu C (a4 347 (aE (E ⟨fI,z+1,I⟩))) (aP ag) d aO↔aO):=λh=>dz Am (au ((D.R h B).bw B));refine⟨?_,?_⟩
  ·apply aH L8 (OS (u.V (D.R ad B)));rintro _ d ⟨rfl,v⟩;simp only[na,oB,oC];have p:=ad.R v B;refine gI Tg λf J l aR=>f0 (cv:=[]) (c5:=oH i2) (da:=[]) CW J rfl rfl rfl (Do _) λav L q aS=>?_;have:=p.aI;exact⟨d.heap.size,rfl,by simpa[nX,bF]using L,A,(p.R l B).R q (by simp;omega)⟩
  ·refine gI Tg λd R v bR=>?_;have p:=ad.R v B;refine(aQ p rfl).2 ((aQ p rfl).2 ((bk p).2 (aH L8 (OS (u.V (D.R p B))) ?_)));rintro _ f ⟨rfl,l⟩;simp only[na,oB,oC];refine f0 (cv:=[]) (c5:=oH i2) (da:=[]) CW (R.J l B) rfl rfl rfl (Do _) λav L q aS=>?_;have bU:o.drew.heap.size=o.heap.size:=rfl;exact⟨o.drew.heap.size,rfl,by simpa[nX,bF]using L,A,(p.R l B).R q B⟩
 rintro _ _ d ⟨c,rfl,R,bV,v⟩;have aj:=D.R v B;have aw:=aq.J v B;have ak:=be.J v B;unfold I4 gM.po;rcases bm:ke ah.jX aou.hH aou.cP with⟨x,bn,cz⟩;rw[bm]at R;simp only[M];apply oF.2;cases cz with
 |some cz=>
  refine cG.2 ⟨λ_=>?_,λh=>(by cases h)⟩;exact(bY xE).2 (nn (e:=i4) ak λf J l aR=>(pG J).2 ⟨⟨cz,rfl,rfl⟩,(aj.R l (by simp;omega)).bw B⟩)
 |none=>
  refine cG.2 ⟨λh=>(by cases h),λ_=>?_⟩;cases bn with
  |true=>
   simp only[M];refine(bl (aa:=F H x.cu) bZ (R.bh (af:=1))).2 ((bl (aa:=F H x.bV) bZ (R.bh (af:=2))).2 ((bY ah4).2 (nn (e:=⟨x.cu,x.bV,G⟩) ak λf J l aR=>(pG J).2 ?_)));have r:Q [] w f:=aj.R l (by simp;omega);exact⟨rfl,_,⟨ab,m,ac.V r,u.V r,ao,rfl⟩,.iu r⟩
  |false=>
   obtain⟨bW,cC,rfl,bX,b0⟩:=id a6;obtain⟨bi,aJ,aL,aM,bj⟩:=c7.oX aw;simp only[M,aM];have aU:=cD [] d;have V:=aj.R aU B;apply(bl CS (bf (V.bw B))).2;obtain⟨bo,b1,b2,b3,b7⟩:=c7.oX (bD aw);simp only[bo];apply aH Zr (aa6 (c:=aou.a7.length) (t:=aou.g2) (s:=i) (e:=j) (ac.V V) aG.dw A);rintro _ f ⟨W,rfl,bp,l,al⟩;simp only[cV,cX];have ay:Q m d f:=(aU.bw B).R l (λg b=>Y b);have r:Q m w f:=(aj.bw B).R ay (λg b=>Y b);have az:∀ai,ai∈[ar,k,c]->ai∉m:=by intro ai aA aB;have:=a7 ai aB;simp at aA;omega
   have bq:=aw.J ay (az ar B);have aV:=ak.J ay (az k B);apply oF.2;by_cases y:ah.dw.mf aou.a7.length aou.g2 i j=0
   ·rw[if_pos y];have aD:pi yu (ah.dw.mf aou.a7.length aou.g2 i j)=I:=by unfold pi;rw[if_pos y]
    rw[aD,if_pos y];refine cG.2 ⟨λh=>(by cases h),λ_=>?_⟩;have aW:=cD [] f;have aX:Q m w f.drew:=r.R aW B;simp only[M];apply(bl Am (au aX)).2;obtain⟨b8,br,bs,b9,ca⟩:=c7.oX (bD bq);simp only[br,bs];apply(bY ah5).2;have am:∀ai,ai∈[ag,ab]->ai∉m:=λai aA aB=>ao ai aB aA;have bt:pj f.drew ag ab ah.jX:=u.J aX (am ag B) (am ab B);apply aH Zs (abh (ah:=aou.hH) (s:=⟨aou.cP,ah.dw.cS,aou.a7.length⟩) bt);rintro _ av ⟨bu,q⟩;try simp only[M]
    refine(bY ah3).2 ?_;have cb:=r.aI;refine nn (e:=⟨ah.dw.cS,aou.a7.length,U⟩) ((bD aV).J q (by simp;omega)) λbv bw aY cc=>(pG bw).2 ?_;have aZ:Q [ab,k] f bv:=((aW.bw B).R (q.bw (dE:=[ab,k]) B) (λg b=>Y b)).R aY B;have a2:ab∉W:=λn=>(al ab n).elim (am ab B) (λh=>by have:=V.aI;omega);have bx:ag∉W:=λn=>(al ag n).elim (am ag B) (λh=>by have:=V.aI;omega);have bz:k∉W:=λn=>(al k n).elim (az k B) (λh=>by have:=ak.aL;have:d.drew.heap.size=d.heap.size:=rfl;omega);have a3:ag≠k/\ab≠k:=A;refine⟨rfl,W++[ag,ab],⟨ab,W,bp.J aZ (λg b X=>by simp at X;rcases X with rfl|rfl;exact a2 b;exact bz b),bu.J aY (by simp;exact a3.1) (by simp;exact a3.2),λg b X=>by simp at X;rcases X with rfl|rfl;exact bx b;exact a2 b,rfl⟩,?_⟩;refine⟨(r.bw (λg b=>Y (hg _ b))).R aZ (λg b=>?_),λg b=>?_⟩
    ·simp at b;rcases b with rfl|rfl
     ·exact Y B
     ·exact Z A
    ·rcases b4.1 b with b|b
     ·exact(al g b).elim (λh=>Y (hg _ h)) (λh=>Z (by have:=V.aI;omega))
     ·exact Y (h3 _ b)
   ·rw[if_neg y];have aD:pi yu (ah.dw.mf aou.a7.length aou.g2 i j)=yv yu (ah.dw.mf aou.a7.length aou.g2 i j):=by unfold pi;rw[if_neg y]
    rw[aD,if_neg y];refine cG.2 ⟨λ_=>?_,λh=>(by cases h)⟩;exact(bY xE).2 (nn (e:=i4) aV λav L q aS=>(pG L).2 ⟨⟨_,rfl,rfl⟩,(r.bw (λg b=>Y (hg _ b))).R q (by simp;omega)⟩)
end
section
variable{aX:c3}{t:ByteArray}{n:Int}
structure se(bv w:aN)(aa:S)(l:List lB)(aD h4:List Nat):Prop where
 c4:bP w 349 2 aa l.length (mU l) aD
 jI:hc sb w l h4
 mV:bR aD h4
 kE:∀g∈aD,bv.heap.size<=g
 xF:∀g∈h4,bv.heap.size<=g
def se.J{l:List lB}(h:se bv w aa l aD h4)(d:Q bU w a)(e:∀g∈bU,g<bv.heap.size):se bv a aa l aD h4:=
 ⟨h.c4.J d (λg b c=>by have:=h.kE g b;have:=e g c;omega),h.jI.J oe d (λg b c=>by have:=h.xF g b;have:=e g c;omega),h.mV,h.kE,h.xF⟩
def se.V{l:List lB}(h:se bv w aa l aD h4)(b:Q [] w a):se bv a aa l aD h4:=h.J b B
def Th:C.built 349 #[(0,aP g7),(1,aP ag)].toList=E (k0 (g7,ag)).toArray:=K
def ah6{l:List lB}{e:List Nat}{ah:gM}(h:se bv w aa l aD h4)(f:sb w ((g7,ag),ah) e)(m:∀g∈e,bv.heap.size<=g)(n:bR h4 e)(i:bR aD e)(t:l.length<=1000)(u:bv.heap.size<=w.heap.size)
  (k:∀dd a ez,se bv a dd (l++[((g7,ag),ah)]) ez (h4++e)->bX aD ez w a->ac dd a):
  W C (jR 344 1 #[(0,b6 (k0 (g7,ag)).toArray)]) w λd aA=>W C (dG lp #[344,344] #[aa,d]) aA ac:=by
 have o:=h.jI.aL oe;have p:=oe.aL f;have q:mU l=(l.map (·.1)).flatMap k0:=by unfold mU;rw[List.flatMap_map]
 have j:=h.c4;rw[q,show l.length=(l.map (·.1)).length by simp]at j;refine yR Gb (x:=(g7,ag)) (be:=k0) j ahV (by simp[bF]) (I2 _) (by simp;omega) (by unfold d0;simp;omega) A λdd a ez r c _=>k dd a ez ⟨?_,?_,?_,λg b=>?_,λg b=>?_⟩ c
 ·have s:mU (l++[((g7,ag),ah)])=(l.map (·.1)++[(g7,ag)]).flatMap k0:=by unfold mU;rw[hL,hL,List.flatMap_map];rfl
  rw[s,show(l++[((g7,ag),ah)]).length=(l.map (·.1)++[(g7,ag)]).length by simp];exact r
 ·exact(h.jI.J oe c.J h.mV.nc).uO oe (oe.J f c.J i.nc) n
 ·exact bR.tV (h.mV.de c o) (i.de c p)
 ·exact(c.cq g b).elim (h.kE g) (λv=>A)
 ·rcases b4.1 b with b|b
  ·exact h.xF g b
  ·exact m g b
def c3.ah7{aS:List qr}{e:List Nat}{l:List lB}(h:wn w b ab g ak aS e aX)(j:dv aS t=I)(n:bP w 349 2 aa l.length (mU l) aD)(o:hc sb w l h4)(p:bR aD h4)(i:bR ([b,ab,g,ak]++e) (aD++h4))
  (k:∀a,wn a b ab g ak (aS++[(t,(aa,l))]) (e++(aD++h4)) ⟨hb aX.fs t (l.map (·.2)),aX.kA⟩->Q [ab] w a->ac bS a):W C (wL 201 (eB (E ab)) (bO t) aa) w ac:=by
 refine Hc sc wo h.gk (k:=t) (aa:=(aa,l)) rfl λa f d s=>?_;have q:=h.hj;simp only[ks,ce,iZ,or_false,not_or,List.nodup_nil,and_true,not_false_eq_true]at q;have r:bR e [ab]:=(h.mV.d1 (az:=[ab]) B (λ_ h=>h)).nc;have m:bR (aD++h4) [ab]:=(i.d1 (az:=[ab]) B (λ_ h=>h)).nc;rw[DK j]at f;refine k a ⟨h.bg.J d (by simp;omega),h.s6.J d (by simp;omega) (by simp;omega),f,?_,?_,h.hj,?_⟩ d
 ·refine(h.jI.J pF d r).uO pF ?_ (i.d1 (λx c=>h3 _ c) λ_ h=>h);exact⟨aD,h4,n.J d (λx c f=>m x (hg _ c) f),o.J oe d (m.d1 (λx c=>h3 _ c) λ_ h=>h),p,rfl⟩
 ·show hb aX.fs t (l.map (·.2))=_;have:dv aX.fs t=I:=by rw[h.fs,BI,j];rfl
  rw[DK this,g6,h.fs];rfl
 ·exact h.mV.tV (i.d1 (λx c=>hg _ c) λ_ h=>h)
def ah8:a0 C 261 #[] w λae a=>∃ag ab,ae=aP ag/\pj a ag ab []/\w.heap.size<=ag/\w.heap.size<=ab/\Q [] w a:=gO.abg
def wr(w a:aN)(b:Nat)(am:List Nat)(c:Except Int c3)(ae:S):Prop:=match c with
 |b5 k=>ae=ff (E (.dD k))/\Q [] w a
 |bA d=>ae=cT/\∃az,iJ a b az d/\bX am az w a
def ah9(h:iJ w b am aX)(a3:1<=e.ie)(a4:e.ie<=4)(a5:0<=e.hF)(ah:e.hF<=9223372036854775807):
  a0 C 217 #[aP b,jW e bc] w λae a=>wr w a b am (aX.xe e.cI e.ie e.hF) ae:=by
 have J:=h.aL;obtain⟨ab,g,ak,aS,ai,h,rfl⟩:=h;refine a9 NL 2 Tryz.func217 K rfl λa1 aj=>?_;simp+decide only[↓a8,ba,NL,Tryz.f217];subst aj;refine xD λax r m a6=>?_;have L:=h.J m (bR.D _);have n:=cD [] ax;have o:=L.J n (bR.D _);have a7:∀x∈[b,ab,g,ak]++ai,x≠w.heap.size:=λx c d=>by have:=J x c;omega
 have bb:=m.aI;have bd:w.heap.size<ax.heap.size:=A;generalize be:w.heap.size=bf at*;obtain⟨bg,an,bh,bj,ap,bk,bl,bm,bn⟩:=ik (bD r);have aq:dv aX.fs e.cI=(dv aS e.cI).map λaa=>aa.2.map (·.2):=by rw[h.fs,BI]
 simp only[M,(sd o.bg).1,an];apply(DL sc wo o.gk BJ (k:=e.cI)).2;simp only[cV,cX];unfold wr c3.xe;have ar:(dv aX.fs e.cI).isSome=(dv aS e.cI).isSome:=by rw[aq];cases dv aS e.cI<;>rfl
 have au:aS.length=aX.fs.length:=by rw[h.fs,dU]
 rw[ar];refine cG.2 ⟨λao=>?_,λao=>?_⟩
 ·rw[if_pos ao];exact(hk hY).2 ⟨rfl,m.R n B⟩
 rw[if_neg (by rw[ao];simp)];try simp only[M,(sd o.bg).1]
 apply(DM sc o.gk).2;simp only[M,bi,au];refine⟨λav=>?_,λav=>?_⟩
 ·rw[if_pos A];exact(hk hY).2 ⟨rfl,m.R n B⟩
 rw[if_neg A];have aw:dv aS e.cI=I:=by simpa using ao
 simp only[ap];refine c1 (λs a=>∃(i:Nat)(aa:S)(l:List lB)(aD h4:List Nat),s=[aa,F H i]/\(i:Int)<=e.ie/\l.map (·.2)=cN i (gM.cq e.hF)/\se ax a aa l aD h4/\Q [] ax a) (λs _=>match s with|[_,F _ i]=>e.ie.toNat-i.toNat|_=>0)
  ⟨0,_,[],[],[],rfl,A,rfl,⟨gJ _ _ _,rfl,bR.D _,B,B⟩,n⟩ ?_
 rintro _ _ R ⟨i,aa,l,aD,h4,rfl,al,t,f,j⟩;have bo:l.length=i:=by have:=congrArg jm t;simpa using this
 simp only[M,bi];refine⟨λbp=>?_,λbr=>?_⟩
 ·obtain⟨ay,V,az,aA,aB,W,aC,aF,aG⟩:=ik (r.J j B);simp only[W];apply aH Zn (aa5 A ah);rintro _ aI ⟨p,⟨bs,_⟩|⟨_,g7,u,rfl,X,aJ⟩⟩
  ·omega
  simp only[cV,cX];apply(fp dk).2;simp only[M];apply aH Zo ah8;rintro _ aL ⟨ag,v,rfl,aM,bt,q,ac⟩;apply(bY Th).2;have y:=p.R ac B;have aO:=j.aI;have bu:=p.aI;have bv:=y.aI;have aQ:=X.aL;have aR:sb aL ((g7,ag),gM.cq e.hF) (u++[ag,v]):=⟨v,u,X.V ac,aM,λx c aT=>by have:=aQ x c;simp at aT;omega,rfl⟩;have z:∀x∈u++[ag,v],R.heap.size<=x:=λx c=>by
   rcases b4.1 c with c|c
   ·exact aJ x c
   ·simp at c;omega
  have aU:=f.c4.aL;have aV:=f.jI.aL oe;refine ah6 (f.V y) aR (λx c=>gz aO (z x c)) (λx c d=>by have:=aV x c;have:=z x d;omega) (λx c d=>by have:=aU x c;have:=z x d;omega) A A λdd bw ez aW aY=>?_;try simp only[M]
  rw[bq A A];refine⟨⟨i+1,dd,_,ez,_,rfl,A,?_,aW,(j.R y B).R aY.J (λx c=>Z (f.kE x c))⟩,by simp;omega⟩;rw[g6,t,List.replicate_succ'];rfl
 ·have aZ:i=e.ie.toNat:=A;have q:=cD [] R;have ad:=(L.J j (bR.D _)).J q (bR.D _);obtain⟨ay,V,az,aA,aB,W,aC,aF,aG⟩:=ik (bD (r.J j B));simp only[M,(sd ad.bg).1,V];have D:=f.V q;refine c3.ah7 ad aw D.c4 D.jI D.mV (λx c d=>?_) λaI af p=>?_
  ·have:=J x c;rcases b4.1 d with d|d
   ·have:=f.kE x d;omega
   ·have:=f.xF x d;omega
  ·rw[t,aZ]at af;have a2:=(j.R q B);refine⟨rfl,_,⟨ab,g,ak,_,_,af,rfl⟩,?_⟩;refine⟨((m.R a2 B).bw B).R p B,λx c=>?_⟩;rcases b4.1 c with c|c
   ·exact Y (hg _ c)
   ·rcases b4.1 c with c|c
    ·exact Y (h3 _ c)
    ·rcases b4.1 c with c|c
     ·exact Z (by have:=f.kE x c;omega)
     ·exact Z (by have:=f.xF x c;omega)
end
def aia:ByteArray:=eS #[115,116,97,116,101,46,65,112,112,108,121]
section
variable{aX:c3}{t:ByteArray}{n:Int}
def aib(h:iJ w b am aX):a0 C 218 #[aP b,bO t] w λae a=>wr w a b am (aX.yE t) ae:=by
 have z:=h.aL;obtain⟨ab,g,ak,aS,m,h,rfl⟩:=h;have n:=h.hj;simp only[ks,ce,iZ,or_false,not_or,List.nodup_nil,and_true,not_false_eq_true]at n;have o:dv aX.fs t=(dv aS t).map λaa=>aa.2.map (·.2):=by rw[h.fs,BI]
 have p:(dv aX.fs t).isSome=(dv aS t).isSome:=by rw[o];cases dv aS t<;>rfl
 refine a9 .D 2 Tryz.func218 K rfl λa1 q=>?_;simp+decide only[↓a8,ba,Tryz.f218];subst q;simp only[M,(sd h.bg).1];apply(DL sc wo h.gk BJ (k:=t)).2;simp only[cV,cX];unfold wr c3.yE;rw[p];simp only[M];refine cG.2 ⟨λao=>?_,λao=>?_⟩
 ·rw[lq]at ao;rw[if_neg (by rw[ao];simp)];exact(hk hY).2 ⟨rfl,.b0 _ _⟩
 rw[ux]at ao;rw[if_pos ao];try simp only[M,(sd h.bg).1]
 refine abV sc wo h.gk (k:=t) λaA r d A=>?_;have f:=h.bg.J d (by simp;omega);have s:=h.s6.J d (by simp;omega) (by simp;omega);simp only[M,(sd f).2];apply aH Zp (agu (t:=t) s);rintro _ ax ⟨u,e⟩;have v:bR m [ab,ak]:=(h.mV.d1 (az:=[ab,ak]) B (λ_ h=>h)).nc;have i:Q [ab,ak] w ax:=(d.bw B).R e B;obtain⟨j,y,l⟩:=(h.jI.J pF i v).PF λai=>decide (ai.1≠t);refine⟨rfl,[b,ab,g,ak]++j,⟨ab,g,ak,mh aS t,j,⟨f.J e (by simp;omega),u,r.J e (by simp;omega),y,?_,h.hj,h.mV.d1 (λ_ h=>h) l⟩,rfl⟩,i.bw B,λx c=>?_⟩
 ·show mh aX.fs t=_;rw[ahY,h.fs]
 ·rcases b4.1 c with c|c
  ·exact Y (hg _ c)
  ·exact Y (h3 _ (l x c))
def o0(w a:aN)(b:Nat)(am:List Nat)(c:Except Int (c3×nY))(ae:S):Prop:=match c with
 |b5 k=>(∃cz:ex,cz.a5=k/\ae=bQ #[oZ i4,ff (E cz)])/\Q am w a
 |bA (d,ag)=>ae=bQ #[oZ ag,cT]/\∃az,iJ a b az d/\bX am az w a
def aic{i j:Int}(h:iJ w b am aX)(bb:aX.bp dE)(bd:dE<=100000)(be:e.bt=G)(bf:aT w dV bc e.bk.a7)(bg:e.bk.a7.length<=255):
  a0 C 156 #[aP b,jW e bc,F H i,F H j] w λae a=>o0 w a b am (aX.h9 e i j) ae:=by
 have aM:=h.aL;have an:=eG.rE.1 be;have bV:=an.a5;refine a9 Nk 4 Tryz.func156 K rfl λa1 bh=>?_;simp+decide only[↓a8,ba,Nk,Tryz.f156];subst bh;refine xD λax bj bk bW=>wq λr s aO bZ=>?_;have au:=bj.J aO B;have y:=bk.R aO B;have ao:=h.V y;have b0:w.heap.size<ax.heap.size:=A;have b1:w.heap.size∉am:=λo=>by have:=aM _ o;omega
 have v:ax.heap.size∉am:=λo=>by have:=aM _ o;omega
 generalize b2:w.heap.size=bm at*;generalize b3:ax.heap.size=z at*;obtain⟨aQ,aR,b7,bn,b8,b9,ca,bo,bp⟩:=ik au;simp only[M,aQ];unfold c3.h9;have V:bX am am w r:=.iu y;have aU:∀{ap:Except Int c3}{l u:aN}{ae:S},wr r l b am ap ae->Q [z] l u->∃ag,ag=i4/\o0 w u b am (le ap) (bQ #[oZ ag,ae]):=by
  intro ap l u ae av d;refine⟨i4,rfl,?_⟩;have cb:bm<=z:=A;unfold wr at av;cases ap with
  |error k=>
   obtain⟨rfl,D⟩:=av;exact⟨⟨.dD k,rfl,rfl⟩,((y.R D B).bw B).R d (by simp;omega)⟩
  |ok cc=>
   obtain⟨rfl,az,aa,ac⟩:=av;have ad:z∉az:=λo=>(ac.cq z o).elim v (λh=>by have:=s.aL;omega);refine⟨rfl,az,aa.J d (λx c q=>by simp at q;subst q;exact ad c),?_⟩;refine⟨(V.dP ac).J.R d (by simp;omega),(V.dP ac).cq⟩
 simp only[bi];refine⟨λaw=>?_,λjb=>⟨λaw=>?_,λaoy=>?_⟩⟩
 ·rw[if_pos aw];apply(bY xE).2;simp only[bp];have aq:1<=e.ie/\e.ie<=4/\0<=e.hF/\e.hF<=9223372036854775807:=by have:=an.Pe;omega
  apply aH YP (ah9 ao aq.1 aq.2.1 aq.2.2.1 aq.2.2.2);rintro ae l f;have p:Q am r l:=by
   unfold wr at f;split at f
   ·exact f.2.bw B
   ·exact f.2.choose_spec.2.J
  refine nn (e:=i4) (s.J p v) λu m d R=>(pG m).2 ?_;obtain⟨_,rfl,ay⟩:=aU f d;exact ay
 ·rw[if_neg jb,if_pos aw];apply(bY xE).2;simp only[aR];apply aH YQ (aib ao);rintro ae l f;have p:Q am r l:=by
   unfold wr at f;split at f
   ·exact f.2.bw B
   ·exact f.2.choose_spec.2.J
  refine nn (e:=i4) (s.J p v) λu m d R=>(pG m).2 ?_;obtain⟨_,rfl,ay⟩:=aU f d;exact ay
 rw[if_neg jb,if_neg aoy];simp only[aR,bn];apply aH L2 (Tf (t:=e.cI) (n:=e.d9) ao);rintro ae _ ⟨rfl,f⟩;cases aA:aX.aP e.cI e.d9 with
 |none=>
  rw[aA]at f;subst f;refine(ru CM).2 (cG.2 ⟨λ_=>?_,λh=>(by cases h)⟩);exact(bY xE).2 ((hk hY).2 (nn (e:=i4) s λu m d R=>(pG m).2 ⟨⟨.dD 10,rfl,rfl⟩,(y.bw B).R d (by simp;omega)⟩))
 |some ah=>
  rw[aA]at f;obtain⟨fI,bq,g7,ag,bJ,rfl,aV,aW,br,aY,aZ⟩:=f;have aB:=bb.aP aA;refine(ru CM).2 (cG.2 ⟨λh=>(by cases h),λ_=>?_⟩);simp only[M,aQ,bi];refine⟨λbs=>?_,λlG=>⟨λbt=>?_,λm3=>?_⟩⟩
  ·rw[if_pos bs];have ar:jV e.dg=G/\0<=e.d9/\e.d9<=3/\0<=e.cW:=by
    rcases an.Pe with ai|ai|ai|ai|ai
    ·omega
    ·omega
    ·omega
    ·exact⟨ai.2.1,ai.2.2.1,ai.2.2.2.1,ai.2.2.2.2.2.2.1⟩
    ·omega
   obtain⟨ab,g,ak,aS,aj,J,rfl⟩:=id ao;have W:=cD [] r;have a2:=J.J W (bR.D _);obtain⟨bu,a3,a4,a5,bv,bw,aC,bx,bz⟩:=ik (bD au);apply(bY xE).2;simp only[M,(sd a2.bg).2,a3,a4,a5,aC];apply aH YR (agq (k:=⟨e.dg,e.cI,e.d9⟩) (af:=e.cW) a2.s6 ar.1 an.cI ar.2.1 ar.2.2.1 ar.2.2.2);rintro ae l f;have bB:g∈[b,ab,g,ak]++aj/\ak∈[b,ab,g,ak]++aj:=B;unfold c3.AK;rcases f with⟨aD,rfl,D⟩|⟨aD,rfl,bC,D⟩
   ·rw[if_pos aD];have p:=W.R D B;exact nn (e:=i4) (s.J p B) λu m d R=>(pG m).2 ⟨⟨_,rfl,rfl⟩,((y.R p B).bw B).R d (by simp;omega)⟩
   ·rw[if_neg aD];have p:Q [ak] r l:=(W.bw B).R D B;have bE:z∉[ak]:=λo=>v (by simp at o;rw[o];exact bB.2);refine nn (e:=i4) (s.J p bE) λu m d R=>(pG m).2 ?_;have bG:=J.hj;simp only[ks,ce,iZ,or_false,not_or,List.nodup_nil,and_true,not_false_eq_true]at bG;have bH:iJ l b ([b,ab,g,ak]++aj) ⟨aX.fs,hb aX.kA ⟨e.dg,e.cI,e.d9⟩ e.cW⟩:=
     ⟨ab,g,ak,aS,aj,⟨J.bg.J p (by simp;omega),bC,J.gk.J p (by simp;omega),J.jI.J pF p (λx c q=>J.mV ak B (by simp at q;subst q;exact c)),J.fs,J.hj,J.mV⟩,rfl⟩
    refine⟨rfl,_,bH.J d (λx c q=>by simp at q;subst q;exact v c),((y.bw B).R (p.bw (dE:=[b,ab,g,ak]++aj) B) (λx c=>Y c)).R d (by simp;omega),λx c=>Y c⟩
  ·rw[if_neg lG,if_pos bt];apply(bY xE).2;have W:=cD [] r;obtain⟨bu,a3,a4,a5,bv,bw,aC,bx,bz⟩:=ik (bD au);have bI:r.drew.cell? ⟨fI,bq+0,I⟩=E (aP g7):=aV 0 (by simp[k0]);try simp only[M]
   apply(bl CS bI).2;simp only[aC];obtain⟨aow,aF,bK,aG,aI,rfl⟩:=aW;apply aH YS (abc (af:=e.cW) (bK.V W) aB.dw (show ah.dw.eC.length<=100000 by have:=aB.dT;omega));rintro _ l ⟨aJ,rfl,bL,D,bM⟩;have p:Q aF r l:=(W.bw B).R D (λx c=>Y c);have a6:bX aF aJ r l:=⟨p,bM⟩;have bP:∀x∈aF,x∈am:=λx c=>aY x (hg _ c);have al:Q am r l:=p.bw λx c=>Y (bP x c);by_cases X:ah.dw.ph e.cW=0
   ·rw[if_pos X];have aL:pi AD (ah.dw.ph e.cW)=I:=by unfold pi;rw[if_pos X]
    rw[aL];have bT:∀x∈[ag,aow],x<r.heap.size:=λx c=>by
     simp at c;rcases c with rfl|rfl
     ·exact aG.bg.aL
     ·exact aG.gk.aL
    obtain⟨az,aa,L⟩:=aZ ⟨ah.dw.mM e.cW,ah.jX⟩ (aJ++[ag,aow]) l ⟨aow,aJ,bL,aG.J p (λo=>aI ag o B) (λo=>aI aow o B),aI.de a6 bT,rfl⟩ a6.PE;refine nn (e:=i4) (s.J L.J v) λu m d R=>(pG m).2 ?_;have ad:z∉az:=λo=>(L.cq z o).elim v (λh=>by have:=s.aL;omega);exact⟨rfl,az,aa.J d (λx c q=>by simp at q;subst q;exact ad c),(V.dP L).J.R d (by simp;omega),(V.dP L).cq⟩
   ·rw[if_neg X];have aL:pi AD (ah.dw.ph e.cW)=yv AD (ah.dw.ph e.cW):=by unfold pi;rw[if_neg X]
    rw[aL];exact nn (e:=i4) (s.J al v) λu m d R=>(pG m).2 ⟨⟨_,rfl,rfl⟩,((y.bw B).R al (λx c=>Y c)).R d (by simp;omega)⟩
  ·rw[if_neg lG,if_neg m3];simp only[bo];apply aH YT (Hg aV aW br aB bd (bf.V y) bg);rintro ae l f;unfold I4 at f;cases a7:ah.po e.bk i j with
   |error k=>
    rw[a7]at f;obtain⟨⟨cz,X,rfl⟩,D⟩:=f;simp only[cV,cX];have al:Q am r l:=D.bw λx c=>Y (aY x c);exact nn (e:=i4) (s.J al v) λu m d R=>(pG m).2 ⟨⟨cz,X,rfl⟩,((y.bw B).R al (λx c=>Y c)).R d (by simp;omega)⟩
   |ok ai=>
    obtain⟨jB,ht⟩:=ai;rw[a7]at f;obtain⟨rfl,fy,bU,ac⟩:=f;simp only[cV,cX];obtain⟨az,aa,L⟩:=aZ jB fy l bU ac;refine nn (e:=ht) (s.J L.J v) λu m d R=>(pG m).2 ?_;have ad:z∉az:=λo=>(L.cq z o).elim v (λh=>by have:=s.aL;omega);exact⟨rfl,az,aa.J d (λx c q=>by simp at q;subst q;exact ad c),(V.dP L).J.R d (by simp;omega),(V.dP L).cq⟩
def aid(h:iJ w b am aX)(ak:aX.bp dE)(al:dE<=100000)(v:e.bt=G)(L:aT w dV bc e.bk.a7)(an:e.bk.a7.length<=255):
  a0 C 105 #[aP b,jW e bc,F H i,F H j] w λae a=>o0 w a b am (aX.h9 e i j) ae:=by
 have ao:=h.aL;have a5:=G2 v;have ap:wm e:=⟨A,A,A⟩;refine a9 MT 4 Tryz.func105 K rfl λa1 aq=>?_;simp+decide only[↓a8,ba,MT,Tryz.f105];subst aq;refine xD λax ar au a6=>wq λav R V a7=>?_;have X:=ar.J V B;have ab:=au.R V B;have bb:w.heap.size<ax.heap.size:=A;generalize bd:w.heap.size=be at*;generalize bf:ax.heap.size=d at*;refine bT (λaw a=>aw=[aK U]/\Q [] av a) ?_ ?_
 ·obtain⟨ay,aA,aB,aC,aD,aF,aG,aI,y⟩:=ik X;simp only[y];refine EQ (L.V ab) ap λz g=>?_;rw[v];simp only[M,hq,bi];exact⟨λs=>A,λ_=>⟨by rw[decide_eq_false A],g⟩⟩
 rintro _ _ z ⟨rfl,g⟩;have o:=ab.R g B;have bg:d<z.heap.size:=by have:=R.aL;have:=g.aI;omega
 obtain⟨ay,aA,aB,aC,aD,aF,aG,aI,y⟩:=ik (X.J g B);simp only[M,y];apply aH Yl (aic (i:=i) (j:=j) (h.V o) ak al v (L.V o) an);rintro ae t c;have bz:∃ag aa,ae=bQ #[oZ ag,aa]/\Q am z t:=by
  unfold o0 at c;split at c
  ·obtain⟨⟨cz,_,rfl⟩,p⟩:=c;exact⟨_,_,rfl,p⟩
  ·obtain⟨rfl,az,_,q⟩:=c;exact⟨_,_,rfl,q.J⟩
 obtain⟨ag,aa,rfl,ac⟩:=bz;have ad:d∉am:=λs=>by have:=ao _ s;omega
 have aJ:=(R.J g B).J ac ad;simp only[cV,cX];refine wq λbh aL aM bj=>nn (e:=ag) aL λm af aQ bk=>?_;have u:Q [] t m:=aM.R aQ B;have bl:=ac.aI;apply(pG (bD af)).2;have D:=cD [] m;have aR:∀{cd:aN}{aO:Prop},Q [] m cd->(gu C (a4 220 (aP t.heap.size)) (oZ ag) cd aO↔aO):=λh=>mE (l:=og ag) Lh (af.J h B).cy;have ah:∀{dd:S},(∀cd,Q [d] m cd->o0 w cd b am (aX.h9 e i j) (bQ #[oZ ag,dd]))->gu C (a4 220 (aP t.heap.size)) (oZ ag) m.drew (W C (dC 220 (aP d) (oZ ag)) m.drew λ_ ai=>aZ C (a4 220 (aP d)) ai λaS=>o5 (λae a=>o0 w a b am (aX.h9 e i j) ae) (gd (bQ #[aS,dd])) ai):=by intro dd aU;exact(aR D).2 (nn (e:=ag) (aJ.J (u.R D B) B) λcd aV n bm=>(pG aV).2 (aU cd ((D.bw B).R n B)))
 unfold o0 at c;split at c
 ·rename_i k p;obtain⟨⟨cz,aW,r⟩,aY⟩:=c;simp only[Value.tuple.injEq,Array.mk.injEq,ss,and_true]at r;obtain⟨J,rfl⟩:=r;refine rO (e:=E cz) (ah λcd n=>?_);unfold o0;rw[p];refine⟨⟨.d2 aia 0 cz,aW,by rw[J];rfl⟩,(((o.bw B).R aY (λx f=>Y f)).R u B).R n (by simp;omega)⟩
 ·rename_i bn bo p;obtain⟨r,az,a2,q⟩:=c;simp only[Value.tuple.injEq,Array.mk.injEq,ss,and_true]at r;obtain⟨J,rfl⟩:=r;refine tZ (ah λcd n=>?_);unfold o0;rw[p];have a3:d∉az:=λs=>(q.cq d s).elim ad (λh=>A);refine⟨by rw[J],az,(a2.V u).J n (λx f aj=>by simp at aj;subst aj;exact a3 f),?_,λx f=>(q.cq x f).imp id (λh=>gz o.aI h)⟩;exact(((o.bw B).R q.J (λx f=>Y f)).R u B).R n (by simp;omega)
def ES(h:iJ w b am aX)(c:aX.bp dE)(d:dE<=100000)(f:e.bt=G)(g:aT w dV bc e.bk.a7)(l:e.bk.a7.length<=255)(k:∀ae a,o0 w a b am (aX.h9 e i j) ae->ac ae a):W C (ck 105 #[aP b,jW e bc,F H i,F H j]) w ac:=aH XT (aid h c d f g l) k
def Ti:a0 C 56 #[] w λae a=>∃b am,ae=aP b/\iJ a b am nD/\(∀g∈am,w.heap.size<=g)/\Q [] w a:=by
 refine a9 .D 0 Tryz.func56 K rfl λa1 h=>?_;simp+decide (maxSteps:=9999999)only[↓a8,ba,Tryz.f56];subst h;refine Hb ui qs sc (Y rfl) λaA f i l=>aH XQ agn ?_;rintro _ ax ⟨g,ak,rfl,c,m,n,d⟩;refine(bY (gT:=#[eB (E w.heap.size),aP g]) K).2 (eA λo j e p=>?_);have q:=c.bg.aL;have r:=c.gk.aL;have s:=c.g1;have t:=f.aL;have u:=d.aI;refine⟨ax.heap.size,_,rfl,⟨w.heap.size,g,ak,[],[],⟨j,c.V e,(f.V d).V e,rfl,rfl,?_,bR.D _⟩,rfl⟩,?_,(i.R d B).R e B⟩
 ·simp only[ks,ce,iZ,or_false,not_or,List.nodup_nil,and_true,not_false_eq_true];omega
 ·intro x k;simp at k;omega
end
section
variable{aX:c3}{t:ByteArray}{n:Int}
def Tj{cU aU:Type}[DecidableEq cU]{k:cU}{aa ae:aU}:∀{l:List (cU×aU)},dv l k=I->hb (l++[(k,ae)]) k aa=l++[(k,aa)]
 |[],_=>by simp[hb]
 |ah::l,h=>by
  simp only[dv]at h;split at h
  ·cases h
  ·rename_i a;simp only[jN,hb];rw[if_neg a,Tj h]
def Tk{cU aU:Type}[DecidableEq cU]{k:cU}{ae:aU}:∀{l:List (cU×aU)},dv l k=I->dv (l++[(k,ae)]) k=E ae
 |[],_=>by simp[dv]
 |ah::l,h=>by
  simp only[dv]at h;split at h
  ·cases h
  ·rename_i a;simp only[jN,dv];rw[if_neg a,Tk h]
def vb(b7:List qr)(t:ByteArray)(aa:S)(l:List lB):List qr:=if l.isEmpty then b7 else b7++[(t,(aa,l))]
def Tl{b7:List qr}{l:List lB}(h:dv b7 t=I)(a:l=[]->aa=T I 0 0):((dv (vb b7 t aa l) t).map qs).getD (T I 0 0)=aa:=by
 unfold vb;cases l with
 |nil=>simp[h,a]
 |cons x l=>simp[Tk h,qs]
def aie{b7:List qr}{dd:S}{l:List lB}{x:lB}(h:dv b7 t=I):hb (vb b7 t aa l) t (dd,l++[x])=vb b7 t dd (l++[x]):=by
 unfold vb;cases l with
 |nil=>simp[DK h]
 |cons ap l=>simp[Tj h]
def Tm{c:Nat}{ai:Nat×Nat}(h:aC w c 349 (k0 ai)):(∀ac,aZ C (a4 260 (aE (E ⟨c,0,I⟩))) w ac↔ac (aP ai.1))/\(∀ac,aZ C (a4 347 (aE (E ⟨c,1,I⟩))) w ac↔ac (aP ai.2)):=
 ⟨λ_=>bl CS (h.bh (af:=0)),λ_=>bl Am (h.bh (af:=1))⟩
structure aif(bv w:aN)(dr:Nat)(b7:List qr)(a:List Nat):Prop where
 gk:hx w dr ui qs b7
 jI:hc ER w b7 a
 cq:∀g∈a,bv.heap.size<=g
def aig{l:List lB}{f:List Nat}{d c:Nat}{ah:gM}(h:se bv w aa l aD h4)(m:aC w d 349 (k0 (g7,ag)))(i:sb w ((g7,ag),ah) f)(n:∀g∈f,bv.heap.size<=g)(o:bR h4 f)(j:bR aD f)(v:l.length<=1000)(x:bv.heap.size<=w.heap.size)
  (k:∀dd a ez,se bv a dd (l++[((g7,ag),ah)]) ez (h4++f)->bX aD ez w a->ac dd a):
  W C (dG lp #[344,344] #[aa,T (E ⟨d,0,I⟩) 1 c]) w ac:=by
 have p:=h.jI.aL oe;have q:=oe.aL i;refine m8 Gb h.c4 m.cy rfl (I2 _) A (by unfold d0;omega) A λdd a ez r s t y=>?_;have e:bX aD ez w a:=⟨s,t⟩;refine k dd a ez ⟨?_,?_,?_,λg b=>?_,λg b=>?_⟩ e
 ·have u:mU (l++[((g7,ag),ah)])=mU l++k0 (g7,ag):=by unfold mU;rw[hL];simp
  rw[u,di];exact r
 ·exact(h.jI.J oe e.J h.mV.nc).uO oe (oe.J i e.J j.nc) o
 ·exact bR.tV (h.mV.de e p) (j.de e q)
 ·exact(e.cq g b).elim (h.kE g) (λz=>A)
 ·rcases b4.1 b with b|b
  ·exact h.xF g b
  ·exact n g b
def aih:du C 349 (b6 #[aE I,aE I]):=by unfold du;kernel_rfl
def aii(h:iJ w b am aX)(bf:aX.bp dE)(bX:dE<=100000):a0 C 206 #[aP b] w λae a=>∃q az,ae=aP q/\iJ a q az aX/\(∀g∈az,w.heap.size<=g)/\Q [] w a:=by
 have bZ:=h.aL;obtain⟨ab,g,ak,aS,de,h,rfl⟩:=h;refine a9 NF 1 Tryz.func206 K rfl λa1 b0=>?_;simp+decide only[↓a8,ba,NF,Tryz.f206];subst b0;refine Hb ui qs sc (Y rfl) λaA b1 aG df=>?_;have bg:=h.J aG (bR.D _);simp only[M,(sd bg.bg).2];apply aH Zb (agw bg.s6);rintro _ ax ⟨ac,bh,rfl,aI,dg,dh,aJ⟩;refine(bY (gT:=#[eB (E w.heap.size),aP ac]) K).2 (eA λbj aL aM dj=>?_);have aL:aC bj ax.heap.size 205 [eB (E w.heap.size),aP ac]:=aL;have bk:=(aG.R aJ B).R aM B;have bl:=h.J bk (bR.D _);simp only[M,(sd bl.bg).1];refine Px sc bl.gk λL b2 ad dk=>?_;have aQ:=bk.R ad B;have bm:=((b1.V aJ).V aM).V ad;have an:=(aI.V aM).V ad;have aR:=aL.J ad B;have dl:=bm.aL;have dm:=an.bg.aL;have dn:=an.gk.aL;have dp:=an.g1;have dq:=aR.aL;have ds:=aG.aI;have dt:=aJ.aI;have du:=aI.bg.aL;have dw:=aI.gk.aL;generalize dx:w.heap.size=dr at*;generalize dy:ax.heap.size=q at*;generalize dB:bj.heap.size=gt at*;have b3:∀x∈aS,od x∈aX.fs:=λx d=>by rw[h.fs];exact mz d
 have b8:(aS.map (·.1)).Nodup:=h.gk.Ps;apply c1 (λao a=>∃(aq b7:List qr)(u:List Nat),p7 a gt ab ui qs aS aq/\(∀ai∈aq,ai∈aS)/\aif L a dr b7 u/\(b7.map od++aq.map od).Perm aX.fs/\Q [gt,dr] L a) (λ_ a=>sN a gt ab) ⟨aS,[],[],b2,λ_ h=>h,⟨bm,rfl,B⟩,by simp[h.fs],.b0 _ _⟩;rintro _ _ bn ⟨aq,b7,u,bo,bp,p,ar,R⟩;have dC:=R.aI;have b9:Q [] w bn:=aQ.R R (by simp;omega);refine Py bo ?_ ?_
 ·
  rintro rfl;apply Sq.2;simp only[M];rw[tp,kJ]at ar;obtain⟨ca,br,cb⟩:=Pw (aj:=od) ar.symm rfl;obtain⟨bs,cc,bt⟩:=p.jI.G7 br.symm;refine⟨q,[q,dr,ac,bh]++bs,rfl,⟨dr,ac,bh,ca,bs,⟨aR.J R (by simp;omega),an.J R (by simp;omega) (by simp;omega),p.gk.G7 br.symm,cc,cb.symm,?_,?_⟩,rfl⟩,?_,b9⟩
  ·simp only[ks,ce,iZ,or_false,not_or,List.nodup_nil,and_true,not_false_eq_true];omega
  ·intro x d m;have:=p.cq x ((bt x).1 m);simp at d;omega
  ·intro x d;rcases b4.1 d with d|d
   ·simp at d;omega
   ·have:=p.cq x ((bt x).1 d);have:=aQ.aI;omega
 rintro ah bu au V cf aT dD cg;have dF:gt<L.heap.size:=A;apply na.2;simp only[M];apply(cg _).2;simp only[cV,cX];have av:Q [gt,dr] L au:=R.R (aT.bw (dE:=[gt,dr]) B) (λx d=>Y d);have aU:ah∈aS:=bp ah (V.mem_iff.2 fE);have ch:∀ai∈bu,ai∈aS:=λai v=>bp ai (V.mem_iff.2 (ev _ v));obtain⟨j,ci,cj⟩:=ns aU;have bw:Q [] w au:=aQ.R av (by simp;omega);have ck:=h.J bw (bR.D _);obtain⟨cM,bx,dG,_⟩:=ck.jI.ek pF ci;rw[cj]at bx;obtain⟨dH,dK,cm,dL,dM,rfl⟩:=bx;obtain⟨cn,cC,bz,_⟩:=cm.jD;have cp:qs ah.2=T cn ah.2.2.length cC:=bz;rw[cp];have aV:=bf.kU _ (b3 ah aU);have dN:1<=ah.2.2.length:=by have:=aV.2.1;simpa[od]using this
 have dO:ah.2.2.length<=4:=by have:=aV.2.2.1;simpa[od]using this
 have aW:dv b7 ah.1=I:=by rw[DH];intro m;have cq:(aX.fs.map (·.1)).Nodup:=bf.yF;have:=((ar.map (·.1)).nodup_iff).2 cq;rw[g6,us]at this;refine this.2.2 ah.1 (by rw[ts];exact m) ah.1 ?_ rfl;rw[ts];exact mz (f:=(λx=>x.1)∘od) (V.mem_iff.2 fE)
 have cs:dv aS ah.1=E ah.2:=DI b8 aU;simp only[M];refine c1 (λao a=>∃(i:Nat)(aa:S)(l:List lB)(aD h4:List Nat),ao=[F H i]/\i<=ah.2.2.length/\l.map (·.2)=(ah.2.2.map (·.2)).take i/\(l=[]->aa=T I 0 0)/\hx a dr ui qs (vb b7 ah.1 aa l)/\se au a aa l aD h4/\hc ER a b7 u/\bR u (aD++h4)/\Q [dr] au a) (λao _=>match ao with|[F _ i]=>ah.2.2.length-i.toNat|_=>0)
  ⟨0,_,[],[],[],rfl,A,rfl,λ_=>rfl,p.gk.J aT (by simp;omega),⟨gJ _ _ _,rfl,bR.D _,B,B⟩,p.jI.J pF aT (λx d r=>by have:=p.cq x d;simp at r;omega),bR.D _,.b0 _ _⟩ ?_
 rintro _ _ s ⟨i,aa,l,aD,h4,rfl,al,aY,bB,t,n,aZ,a2,y⟩;have cu:l.length=i:=by have:=congrArg jm aY;simp at this;omega
 have dP:=av.aI;have dQ:=y.aI;have cw:Q [] w s:=bw.R y (by simp;omega);have cx:=h.J cw (bR.D _);have a3:=(aR.J av (by simp;omega)).J y (by simp;omega);have bC:=cf.J y (by have:=h.gk.aL;simp;omega) (by simp;omega);have cy:Q [gt,dr] L s:=av.R (y.bw (dE:=[gt,dr]) B) (λx d=>Y d);simp only[M,bi];refine⟨λbZ=>?_,λdR=>?_⟩
 ·have aw:i<ah.2.2.length:=A;obtain⟨fI,dS,c,bE,cz⟩:=cx.Te cs aw;rw[bz]at bE;cases bE;obtain⟨dT,dV,g7,ag,bJ,cA,cB,cE,dW,dY,_⟩:=cz;cases cA;refine(hP C7 F5 aw).2 ((gC (l:=k0 (g7,ag)) Wz cB).2 (gI aih λdZ cF cG d1=>f0 (cv:=[]) (c5:=[aE I,aE I]) (da:=[]) F5 cF rfl rfl rfl (I2 _) λcd W cH d2=>?_));have W:aC cd s.heap.size 349 (k0 (g7,ag)):=by simpa[bF]using W
  have bG:Q [] s cd:=cG.R cH B;have bH:=cD [] cd;have ay:=bG.R bH B;have cI:=a3.J ay B;have a5:∀{bv:aN}{aO:Prop},hx bv dr ui qs (vb b7 ah.1 aa l)->(gu C (qI 201 (eB (E dr)) (bO ah.1) U) aa bv aO↔aO):=λr=>by have:=abP (ct:=‹Prop›) sc wo r BJ (k:=ah.1);rw[Tl aW bB]at this;exact this
  have z:∀{bv:aN}{aO:Prop},Q [] s bv->(gu C (a4 201 (aE (E ⟨q,0,I⟩))) (eB (E dr)) bv aO↔aO):=λcJ=>dz FX ((a3.J cJ B).bh (af:=0));simp only[M,(sd cI).1];apply(Pv sc wo (t.V ay) BJ (k:=ah.1)).2;rw[Tl aW bB];simp only[M,(Tm (bD W)).1,(Tm (bD W)).2];obtain⟨d3,d4,cK,cL,d5,rfl⟩:=cE;have bI:(ah.2.2[i]).2.bp dE:=aV.2.2.2 _ (by show(ah.2.2[i]).2∈ah.2.2.map (·.2);exact mz (dX aw));apply aH Zc (ahS (cK.V ay) bI.dw (gz bI.dT bX));rintro _ d6 ⟨aB,a6,rfl,bK,cO,bL⟩;have D:=ay.R bL B;refine(dz Am (((W.J bH B).J bL B).bh (af:=1))).2 ((a5 (t.V D)).2 ((z D).2 ((z D).2 (aH Zd (ahU (cL.V D)) ?_))));rintro _ cP ⟨J,a7,rfl,cQ,d7,d8,bb⟩;have aF:=D.R bb B;refine(a5 (t.V aF)).2 ((z aF).2 ((z aF).2 ((bY Th).2 (hw Gb [b6 (k0 (aB,J)).toArray] rfl rfl (by intro ap bM;simp at bM;subst bM;rfl) A A λbP bc bd d9=>?_))));have bc:aC bP cP.heap.size 349 (k0 (aB,J)):=by simpa[bF]using bc
  have o:=aF.R bd B;refine(a5 (t.V o)).2 ((z o).2 ((z o).2 ?_));have eb:=D.aI;have ec:=bb.aI;have ee:cd.drew.heap.size=cd.heap.size:=rfl;have ef:=bG.aI;have cR:=bK.aL;have cS:=n.V o;have cU:sb bP ((aB,J),(ah.2.2[i]).2) (a6++[J,a7]):=⟨a7,a6,(bK.V bb).V bd,cQ.V bd,λx d r=>by have:=cR x d;simp at r;omega,rfl⟩;have v:∀x∈a6++[J,a7],s.heap.size<=x:=λx d=>by
   rcases b4.1 d with d|d
   ·have:=cO x d;omega
   ·simp at d;omega
  have cW:=n.c4.aL;have cY:=n.jI.aL oe;have bT:=aZ.aL pF;refine aig cS bc cU (λx d=>by have:=v x d;omega) (λx d m=>by have:=cY x d;have:=v x m;omega) (λx d m=>by have:=cW x d;have:=v x m;omega) A (by have:=o.aI;omega) λdd eg ez cZ X=>?_;have c0:q∉aD:=λm=>by have:=n.kE q m;omega
  have c2:dr∉aD:=λm=>by have:=n.kE dr m;omega
  have bU:bR u aD:=a2.d1 (λ_ h=>h) (λx d=>hg _ d);have c3:=(a3.J o B).J X.J c0;apply(dz FX (c3.bh (af:=0))).2;have c4:=(t.V o).J X.J c2;refine Hc sc wo c4 (k:=ah.1) (aa:=(dd,l++[((aB,J),(ah.2.2[i]).2)])) rfl λwf bV be eh=>?_;rw[aie aW]at bV;try simp only[M]
  rw[bq A A];have ei:=o.aI;refine⟨⟨i+1,dd,_,ez,_,rfl,A,?_,B,bV,cZ.J be (by simp;omega),?_,?_,?_⟩,by simp;omega⟩
  ·rw[g6,aY,jO (by simpa using aw)];simp
  ·refine((aZ.V pF o).J pF X.J bU).J pF be (λx d r=>?_);have:=p.cq x d;simp at r;omega
  ·refine bR.tV (λx d m=>?_) ?_
   ·rcases X.cq x m with bW|bW
    ·exact bU x d bW
    ·have:=bT x d;omega
   ·refine bR.tV (a2.d1 (λ_ h=>h) (λx d=>h3 _ d)) (λx d m=>?_);have:=bT x d;have:=v x m;omega
  ·refine((y.R o B).R X.J (λx d=>Z ?_)).R be (λx d=>Y d);have:=n.kE x d;omega
 ·have c6:i=ah.2.2.length:=A;have c7:l.map (·.2)=ah.2.2.map (·.2):=by rw[aY,c6,mv B]
  have c8:l≠[]:=by intro e;subst e;simp at cu;omega
  have db:vb b7 ah.1 aa l=b7++[(ah.1,(aa,l))]:=by unfold vb;rw[if_neg (by simpa using c8)]
  rw[db]at t;refine⟨⟨bu,b7++[(ah.1,(aa,l))],u++(aD++h4),bC,ch,⟨t,aZ.uO pF ⟨aD,h4,n.c4,n.jI,n.mV,rfl⟩ a2,?_⟩,?_,cy⟩,?_⟩
  ·intro x d;rcases b4.1 d with d|d
   ·exact p.cq x d
   ·rcases b4.1 d with d|d
    ·have:=n.kE x d;omega
    ·have:=n.xF x d;omega
  ·have dc:od (ah.1,(aa,l))=od ah:=by unfold od;rw[c7]
   rw[g6,ge,tp,dc,gq];refine .trans ?_ ar;exact(List.Perm.append_left _ (by simpa using(V.map od).symm))
  ·show sN s gt ab<sN bn gt ab;rw[bC.AJ,bo.AJ,V.length_eq];simp
end
end
end Go.Proofs.YtepeilglbedgdaaGreatDoor
namespace Go.X
variable{w:aN}{ag:Nat}{ad:ft}{ar:co}{b7:Array S}
section
open Go.RowKit
section
variable{t sw:co}{x ap:S}
def eqII_ne(h:nU ad ar=G)(a:t≠sw):(lF (ag+1) ar (eZ t x) (eZ sw ap)).run ad w=bN U w:=by obtain⟨c,b⟩:=z6 h;simp only[lF,fx,fK b,f7];simp[a]
def eqII_same{b:Bool}{i:TypeInfo}(h:nU ad ar=G)(al:ad.info? t=E i)(a:i.comparable=G)(c:(lF ag t x ap).run ad w=bN b w):(lF (ag+1) ar (eZ t x) (eZ t ap)).run ad w=bN b w:=by obtain⟨e,d⟩:=z6 h;simp only[lF,fx,fK d,f7];simp[typeInfo,al,a,c]
def zn{ac:S->Prop}{c b:Bool}(h:nU ad ar=G)(a:(lF 10000 ar (eZ t x) (eZ sw ap)).run ad w=bN b w):aZ ad (eE .eql ar c (eZ t x) (eZ sw ap)) w ac↔ac (aK b):=j8 (by
 unfold eE;apply gv ad _ w;simp only[fx,eqGuard,binOp,Op.equal,Op.maxDepth,f7,k5];have:(eqGuard .eql ar (bif c then .const bS else .tmp 0) (.tmp 0) (eZ t x) (eZ sw ap)).run ad w=bN () w:=by cases c<;>rfl
 first|(rw[a];rfl)|simp[a])
def zo(ad:ft)(ar:co):Bool:=match ad.info? ar with
 |some i=>i.comparable
 |none=>U
def Tn(h:zo ad ar=G):∃i,ad.info? ar=E i/\i.comparable=G:=by
 unfold zo at h;cases al:ad.info? ar with
 |none=>rw[al]at h;cases h
 |some i=>rw[al]at h;exact⟨i,rfl,h⟩
def eqII_int{d b:Int}{k:iz}(h:nU ad ar=G)(a:zo ad t=G)(c:ad.underlying t=E (.int k)):(lF (ag+2) ar (eZ t (F k d)) (eZ t (F k b))).run ad w=bN (d==b) w:=by obtain⟨i,al,a⟩:=Tn a;exact eqII_same h al a (run_equalIn_int w ag t k k d b c)
def eqII_struct{aS:Array S}{a:List Nat}(h:nU ad ar=G)(b:zo ad t=G)(ao:KA ad t a)(d:∀af,af<aS.size->∃n,aS[af]?=E (F H n))(e:∀af,af<b7.size->∃n,b7[af]?=E (F H n))(f:∀af∈a,af<aS.size/\af<b7.size):
  (lF (ag+3) ar (eZ t (b6 aS)) (eZ t (b6 b7))).run ad w=bN (a.all λaf=>sD aS af==sD b7 af) w:=by
 obtain⟨i,al,b⟩:=Tn b;apply eqII_same h al b;obtain⟨g,j,m,k,c⟩:=ao;rw[run_equalIn_struct w (ag+1) t aS b7 g j,eqFields_ints d e ag _ k (λaj l=>f _ (by rw[<-c];exact mz l)),<-c,List.all_map];rfl
end
end
end Go.X
namespace Go.Proofs.YtepeilglbedgdaaGreatDoor
open Go.X
attribute[local irreducible]Go.X.W
variable{a w:aN}{af ak b j n t:Nat}{aF:List e3}{aa ae bc gR:S}{ac:S -> aN -> Prop}{aj:ca}{ar:co}{b7:Array S}{d fl:dl}{l:List UInt8}{e:eG}{ee:List l9}
section
open Go.Extern Go.RowKit
def BK(d b c:Int):S:=eZ 215 (b6 #[F H d,F H b,F H c])
def aij(aa:S)(w:aN):(sn (eZ 215 aa) 73 275 G).run C w=bN (bQ #[cT,aK U]) w:=run_typeAssert_lacksB Tryz.underlying275 K K aa 73 w
def To(aa:S)(w:aN):(sn (eZ 215 aa) 73 278 G).run C w=bN (bQ #[cT,aK U]) w:=run_typeAssert_lacksB Tryz.underlying278 K K aa 73 w
def Tp(aa:S)(w:aN):(sn (eZ 215 aa) 73 279 G).run C w=bN (bQ #[cT,aK U]) w:=run_typeAssert_lacksB Tryz.underlying279 K K aa 73 w
def aik(aa:S)(w:aN):(sn (eZ 33 aa) 73 282 G).run C w=bN (bQ #[cT,aK U]) w:=run_typeAssert_lacksB Tryz.underlying282 K K aa 73 w
def ail(aa:S)(w:aN):(sn (eZ 224 aa) 73 282 G).run C w=bN (bQ #[cT,aK U]) w:=run_typeAssert_lacksB Tryz.underlying282 K K aa 73 w
def aim(aa:S)(w:aN):(sn (eZ 215 aa) 73 282 G).run C w=bN (bQ #[eZ 215 aa,aK G]) w:=run_typeAssert_hasB Tryz.underlying282 K aa 73 w
def ain(aa:S)(w:aN):(ReflectliteType.typeOf #[eZ 215 aa]).run C w=bN (iF 215) w:=K
def aio(w:aN):(vt "AssignableTo" B6 #[b6 #[eu 215],iF 33]).run C w=bN (aK U) w:=K
def aip(w:aN):(vs (λt=>do Rtype.noPackHeld "Comparable" t;fh (aK (<-typeInfo t).comparable)) #[b6 #[eu 33]]).run C w=bN (aK G) w:=K
def aiq(w:aN):(vs (λt=>do Rtype.noPackHeld "Comparable" t;fh (aK (<-typeInfo t).comparable)) #[b6 #[eu 215]]).run C w=bN (aK G) w:=K
def air(d b c:S)(w:aN):(Go.method (C.types.size+Made.depth) 215 (b6 #[d,b,c]) "Is").run C w=bN (373,b6 #[d,b,c]) w:=K
section
def Tq{d b c:Int}(k:ac (iF 215) w):W C (ck 97 #[BK d b c]) w ac:=GB (c8:=#[BK d b c]) (ain (b6 #[F H d,F H b,F H c]) w) k
def ais{aO:co}(h:(vs (λt=>do Rtype.noPackHeld "Comparable" t;fh (aK (<-typeInfo t).comparable)) #[b6 #[eu aO]]).run C w=bN (aK G) w)(k:ac (aK G) w):W C (o6 "Comparable" #[iF aO]) w ac:=
 CL (t:=271) (aa:=b6 #[eu aO]) (ab:=b6 #[eu aO]) (aj:=379) (aaE (eu aO) w) (aaz (c8:=#[b6 #[eu aO]]) h k)
end
def g0.ws:ex->Option Int
 |.dD k=>E k
 |.lK _ _ _=>I
 |.d2 _ _ e=>g0.ws e
def Tr(e:ex)(t:Nat)(gR:S)(w:aN)(ae:S)(a:aN):Prop:=Q [t] w a/\match g0.ws e with
 |some k=>ae=aK G/\aC a t 33 [F H k]
 |none=>ae=aK U/\aC a t 33 [gR]
def ait{e:ex}{d:es}(n:aC w t 33 [gR])(o:w.cell? d=E (aE (E ⟨t,0,I⟩)))(p:d.block<w.heap.size)(D:d.block≠t):
  a0 C 96 #[hQ e,eZ 128 (aE (E ⟨t,0,I⟩)),ld 128 d 150,iF 33] w λae a=>Tr e t gR w ae a:=by
 refine a9 Dh 4 Tryz.func96 K rfl λa1 q=>?_;simp+decide only[↓a8,ba,Dh,Tryz.f96];subst q;refine eA λaA r s J=>?_;have u:aC aA w.heap.size 190 [eu 128,aE (E d),F hr 150]:=r;apply c1 (λaF a=>∃gh:ex,aF=[hQ gh]/\g0.ws gh=g0.ws e/\Q [] aA a) (λaF _=>yt aF) ⟨e,rfl,rfl,Q.b0 _ _⟩;rintro _ _ ax ⟨gh,rfl,h,j⟩;have f:Q [] w ax:=s.R j B;simp only[M];cases gh with
 |lK d b c=>
  refine Tq (Az (aio ax) ?_);simp only[M];apply(pd (aij _)).2;simp only[cV,cX];apply l7;simp only[M];intro _;apply(pd (To _)).2;simp only[cV,cX,M];apply(pd (Tp _)).2;simp only[cV,cX,M];refine⟨f.bw B,?_⟩;rw[<-h];exact⟨rfl,n.J f B⟩
 |dD k=>
  refine GG (Az (OB ax) ?_);simp only[M];apply(gC (l:=[eu 128,aE (E d),F hr 150]) Ao (u.J j B).cy).2;have v:ax.cell? d=E (aE (E ⟨t,0,I⟩)):=(World.cell?_of_block (f.nR _ p B)).trans o;refine OH v (OG λx y g L=>OI ((n.J f B).J g B) y λR z A V=>⟨((f.R g B).bw B).R A B,?_⟩);rw[<-h];exact⟨rfl,z⟩
 |d2 d5 i m=>
  refine OF (Az (OC ax) ?_);simp only[M];refine(pd (Oz _)).2 ?_;simp only[cV,cX];refine l7 ?_;simp only[M];intro _;refine(pd (GC _)).2 ?_;simp only[cV,cX,M];refine GF (GD m) λx g=>w9.2 ?_;simp only[M];exact⟨⟨m,rfl,h,j.R g B⟩,GH d5 i m⟩
def aiu{e:ex}(j:jf w)(g:aC w t 33 [gR]):
  a0 C 54 #[hQ e,eZ 128 (aE (E ⟨t,0,I⟩))] w λae a=>Tr e t gR w ae a:=by
 refine a9 Mu 2 Tryz.func54 K rfl λa1 k=>?_;simp+decide only[↓a8,ba,Mu,Tryz.f54];subst k;apply w9.2;try simp only[M]
 refine l7 ((z7 aaX).2 ?_);try simp only[M]
 intro _;refine aa1 λaA m n v=>gI WN λax o p x=>f0 (cv:=[]) (c5:=[aE I,aE I,F hr 0]) (da:=[]) Wt o rfl rfl rfl (by intro ae h;simp[ld,eu,bF]at h;rcases h with rfl|rfl|rfl<;>rfl) λb q r y=>?_;have c:aC b aA.heap.size 190 [eu 128,aE (E ⟨w.heap.size,0,I⟩),F hr 150]:=by simpa[bF,ld]using q
 have d:Q [] aA b:=p.dP r B B;have f:Q [] w b:=n.R d B;apply(gC (l:=[eu 128,aE (E ⟨w.heap.size,0,I⟩),F hr 150]) Ao c.cy).2;have i:b.cell? ⟨w.heap.size,0,I⟩=E (aE (E ⟨t,0,I⟩)):=(m.J d B).bh (af:=0);refine aa2 (l7 (l7 (OE (aaO b) ?_)));simp only[M,show decide ((22:Int)≠22)=U from rfl];refine(gC (l:=[eu 128,aE (E ⟨w.heap.size,0,I⟩),F hr 150]) Ao c.cy).2 (aa3 i ?_);intro _;try simp only[M]
 intro _;refine aaZ (aaS b) (l7 (l7 (OE (aaP b) ?_)));simp only[M,show decide ((2:Int)≠20)=G from rfl];refine(bl We (aa:=iF 73) (j.V f)).2 (aa0 (aaT b) ?_);simp only[M,hq];intro _;try simp only[M]
 intro _;apply(gC (l:=[eu 128,aE (E ⟨w.heap.size,0,I⟩),F hr 150]) Ao c.cy).2;have z:=g.aL;apply aH XO (ait (e:=e) (g.J f B) i (by have:=d.aI;show w.heap.size<_;omega) (by show w.heap.size≠t;omega));rintro ae A ⟨s,u⟩;exact⟨(f.bw B).R s B,u⟩
def g0.lO:ex->ex->Bool
 |.dD d,.dD b=>d==b
 |.lK d b c,.lK fl a e=>d==fl&&(b==a&&c==e)
 |_,_=>U
def g0.le:ex->Prop
 |.d2 _ _ _=>False
 |_=>True
def g0.pH:ex->ex->Bool
 |.d2 _ _ e,t=>g0.pH e t
 |.dD k,t=>g0.lO (.dD k) t
 |.lK d b c,t=>g0.lO (.lK d b c) t||g0.lO t (.dD 6)
def aiv:KA C 215 [0,1,2]:=⟨K,K,K,K,K⟩
def aiw:zo C 33=G:=K
def aix:zo C 215=G:=K
def aiy:C.underlying 33=E (.int H):=K
def Ts(d b c:Int):∀af,af<(#[F H d,F H b,F H c]).size->∃n,(#[F H d,F H b,F H c])[af]?=E (F H n):=by
 intro af a;have a:af<3:=a;obtain rfl|rfl|rfl:af=0\/af=1\/af=2:=A
 ·exact⟨d,rfl⟩
 ·exact⟨b,rfl⟩
 ·exact⟨c,rfl⟩
def aiz{aS:Array S}(b:aS.size=3)(c:b7.size=3):∀af∈[0,1,2],af<aS.size/\af<b7.size:=by intro af a;simp at a;omega
def aiA(d b c fl a e:Int):([0,1,2].all λaf=>sD #[F H d,F H b,F H c] af==sD #[F H fl,F H a,F H e] af)=(d==fl&&(b==a&&c==e)):=by simp[sD]
def eqLoss{d b c fl a e:Int}:(lF 10000 73 (BK d b c) (BK fl a e)).run C w=bN (d==fl&&(b==a&&c==e)) w:=by rw[<-aiA];exact eqII_struct (ag:=9997) dk aix aiv (Ts d b c) (Ts fl a e) (aiz rfl rfl)
def Tt{e t:ex}(a:g0.le t){ac:S->Prop}:aZ C (eE .eql 73 U (hQ e) (hQ t)) w ac↔ac (aK (g0.lO e t)):=by
 cases t with
 |d2 _ _ _=>exact a.elim
 |dD b=>
  cases e with
  |dD d=>exact zn dk (eqII_int (ag:=9998) dk aiw aiy)
  |lK x ap bm=>exact zn dk (eqII_ne (ag:=9999) dk (by decide))
  |d2 d5 i e=>exact zn dk (eqII_ne (ag:=9999) dk (by decide))
 |lK d b c=>
  cases e with
  |dD d=>exact zn dk (eqII_ne (ag:=9999) dk (by decide))
  |lK x ap bm=>exact zn dk eqLoss
  |d2 d5 i e=>exact zn dk (eqII_ne (ag:=9999) dk (by decide))
def aiB{d b c:Int}{t:ex}:a0 C 373 #[b6 #[F H d,F H b,F H c],hQ t] w λae a=>ae=aK (g0.lO t (.dD 6))/\Q [] w a:=by refine a9 .D 2 Tryz.func373 K rfl λa1 e=>?_;simp+decide only[↓a8,ba,Tryz.f373];subst e;refine eA λaA g f h=>?_;simp only[hk hY];refine(Tt (t:=.dD 6) trivial).2 ?_;exact⟨rfl,f⟩
def aiC{d b c:Int}{t:ex}(k:∀a,Q [] w a->ac (aK (g0.lO t (.dD 6))) a):W C (o6 "Is" #[BK d b c,hQ t]) w ac:=
 FO (t:=215) (aa:=b6 #[F H d,F H b,F H c]) (ab:=b6 #[F H d,F H b,F H c]) (d:=hQ t) (aj:=373) (air _ _ _ w) (aH ZU aiB (λae a⟨e,f⟩=>by subst e;exact k a f))
def aiD{e t:ex}(ao:g0.lO e t=G):g0.pH e t=G:=by
 cases e with
 |dD k=>exact ao
 |lK d b c=>simp[g0.pH,ao]
 |d2 d5 i e=>cases t<;>cases ao
def aiE{e t:ex}(o:g0.le t):a0 C 98 #[hQ e,hQ t,aK G] w λae a=>ae=aK (g0.pH e t)/\Q [] w a:=by
 refine a9 MO 3 Tryz.func98 K rfl λa1 p=>?_;simp+decide only[↓a8,ba,MO,Tryz.f98];subst p;apply c1 (λaF a=>∃gh:ex,aF=[hQ gh]/\g0.pH gh t=g0.pH e t/\Q [] w a) (λaF _=>yt aF) ⟨e,rfl,rfl,Q.b0 _ _⟩;rintro _ _ ax ⟨gh,rfl,g,h⟩;refine bT (λj a=>j=[aK (g0.lO gh t)]/\ax=a) ?_ ?_
 ·simp only[kt,k9];exact(Tt o).2 ⟨by trivial,by trivial⟩
 rintro _ _ _ ⟨rfl,rfl⟩;simp only[kt];cases ao:g0.lO gh t with
 |true=>
  simp only[k9];exact⟨by rw[<-g,aiD ao],h⟩
 |false=>
  simp only[kN];cases gh with
  |dD k=>
   apply(pd (aik _)).2;simp only[cV,cX];apply l7;simp only[M];intro _;apply(pd (aaG _)).2;simp only[cV,cX,M];apply(pd (aaH _)).2;simp only[cV,cX,M];exact⟨by rw[<-g,g0.pH,ao],h⟩
  |lK d b c=>
   apply(pd (aim _)).2;simp only[cV,cX];refine bT (λj a=>j=[aK (g0.lO t (.dD 6))]/\Q [] w a) ?_ ?_
   ·simp only[k9];exact aiC λm f=>⟨rfl,h.R f B⟩
   rintro _ _ m ⟨rfl,f⟩;simp only[kt];cases n:g0.lO t (.dD 6)with
   |true=>
    simp only[k9];exact⟨by rw[<-g,g0.pH,n,Bool.or_true],f⟩
   |false=>
    simp only[kN];apply(pd (To _)).2;simp only[cV,cX,M];apply(pd (Tp _)).2;simp only[cV,cX,M];exact⟨by rw[<-g,g0.pH,ao,n];rfl,f⟩
  |d2 d5 i l=>
   refine(pd (ail _)).2 ?_;simp only[cV,cX];refine l7 ?_;simp only[M];intro _;refine(pd (GC _)).2 ?_;simp only[cV,cX,M];refine GF (GD l) λm f=>w9.2 ?_;simp only[M];exact⟨⟨l,rfl,g,h.R f B⟩,GH d5 i l⟩
def aiF{e t:ex}(f:g0.le t):a0 C 55 #[hQ e,hQ t] w λae a=>ae=aK (g0.pH e t)/\Q [] w a:=by
 refine a9 (.L .D (.L (.bK [11] .D .D) .D)) 2 Tryz.func55 K rfl λa1 i=>?_;simp+decide only[↓a8,ba,Tryz.f55];subst i;refine bT (λj a=>j=[aK U]/\w=a) ?_ ?_
 ·apply w9.2;simp only[kN];exact w9.2 ⟨by trivial,by trivial⟩
 rintro _ _ _ ⟨rfl,rfl⟩;simp only[kt,kN];have bz:∀{ar:co},(∀ac:S->aN->Prop,ac (iF ar) w->W C (ck 97 #[hQ t]) w ac)->(∀w:aN,(vs (λt=>do Rtype.noPackHeld "Comparable" t;fh (aK (<-typeInfo t).comparable)) #[b6 #[eu ar]]).run C w=bN (aK G) w)->
   W C (ck 97 #[hQ t]) w λaa a=>W C (o6 "Comparable" #[aa]) a λae ax=>W C (ck 98 #[hQ e,hQ t,ae]) ax λab g=>o5 (λae a=>ae=aK (g0.pH e t)/\Q [] w a) (gd ab) g:=by
  intro ar l m;refine l _ (ais (m w) (aH XP (aiE f) ?_));rintro _ g ⟨rfl,n⟩;exact⟨rfl,n⟩
 cases t with
 |d2 _ _ _=>exact f.elim
 |dD k=>exact bz (λ_ h=>GG h) aip
 |lK d b c=>exact bz (λ_ h=>Tq h) aiq
def aiG{e:ex}(i:jf w):a0 C 21 #[hQ e] w λae a=>ae=F H ((g0.ws e).getD (if g0.pH e (.dD 6)then 6 else 0))/\Q [] w a:=by
 refine a9 .D 1 Tryz.func21 K rfl λa1 j=>?_;simp+decide only[↓a8,ba,Tryz.f21];subst j;refine gI WI λaA l d n=>?_;simp only[hk aaY];apply aH Xp (aiu (e:=e) (i.V d) l);rintro ae ax ⟨m,b⟩;have c:Q [] w ax:=d.R m B;cases f:g0.ws e with
 |some k=>
  rw[f]at b;obtain⟨rfl,g⟩:=b;try simp only[M]
  exact(bl Ak (g.bh (af:=0))).2 ⟨rfl,c⟩
 |none=>
  rw[f]at b;obtain⟨rfl,g⟩:=b;simp only[M,hk hY];apply aH Da (aiF (e:=e) (t:=.dD 6) trivial);rintro _ o ⟨rfl,h⟩;cases p:g0.pH e (.dD 6)with
  |true=>try simp only[M];exact⟨rfl,c.R h B⟩
  |false=>try simp only[M];exact⟨rfl,c.R h B⟩
def anK{aS b7:List ByteArray}{d b:S}(c:aT w dV d aS)(e:aT w dV b b7)(f:aS.length<=9223372036854775806):
  a0 C 24 #[d,b] w λae a=>ae=aK (decide (aS=b7))/\Q [] w a:=by
 refine a9 am8 2 Tryz.func24 K rfl λa1 g=>?_;simp+decide only[↓a8,ba,am8,Tryz.f24];subst g;exact anv BG c e f (λx ap a ac=>CA) (λa h=>⟨rfl,h⟩)
end
section
open Go.RowKit
structure qt(d:dl):Prop where
 g2:d.cI.size<=4611686018427387904
 sZ:d.dg.size<=4611686018427387904
 a7:d.bk.a7.length<=4611686018427387904
section
variable{k:Int}
def gc(h:aC w b ar (f1 d bc)):
  (∀ac,aZ C (a4 3 (aE (E ⟨b,0,I⟩))) w ac↔ac (F H d.dF))/\(∀ac,aZ C (a4 3 (aE (E ⟨b,1,I⟩))) w ac↔ac (F H d.a5))/\(∀ac,aZ C (a4 9 (aE (E ⟨b,2,I⟩))) w ac↔ac (bO d.cI))/\(∀ac,aZ C (a4 9 (aE (E ⟨b,3,I⟩))) w ac↔ac (bO d.dg))/\
  (∀ac,aZ C (a4 3 (aE (E ⟨b,4,I⟩))) w ac↔ac (F H d.d9))/\(∀ac,aZ C (a4 3 (aE (E ⟨b,5,I⟩))) w ac↔ac (F H d.ie))/\(∀ac,aZ C (a4 3 (aE (E ⟨b,6,I⟩))) w ac↔ac (F H d.hF))/\(∀ac,aZ C (a4 3 (aE (E ⟨b,7,I⟩))) w ac↔ac (F H d.cW))/\
  (∀ac,aZ C (a4 3 (aE (E ⟨b,8,I⟩))) w ac↔ac (F H d.gK))/\(∀ac,aZ C (a4 3 (aE (E ⟨b,9,I⟩))) w ac↔ac (F H d.mL))/\(∀ac,aZ C (a4 41 (aE (E ⟨b,10,I⟩))) w ac↔ac (jr d.bk bc))/\(∀ac,aZ C (a4 43 (aE (E ⟨b,0,I⟩))) w ac↔ac (ho d bc)):=
 ⟨λ_=>bl bZ (h.bh (af:=0)),λ_=>bl bZ (h.bh (af:=1)),λ_=>bl oD (h.bh (af:=2)),λ_=>bl oD (h.bh (af:=3)),λ_=>bl bZ (h.bh (af:=4)),λ_=>bl bZ (h.bh (af:=5)),λ_=>bl bZ (h.bh (af:=6)),λ_=>bl bZ (h.bh (af:=7)),λ_=>bl bZ (h.bh (af:=8)),λ_=>bl bZ (h.bh (af:=9)),
  λ_=>gC (l:=iS d.bk bc) F1 (h.cy.d1 10 4),λ_=>gC (l:=f1 d bc) CT h.cy⟩
def aiH:du C 43 (ho jF (T I 0 0)):=by unfold du;kernel_rfl
def uj(k:∀a,aC a w.heap.size 43 (f1 jF (T I 0 0))->Q [] w a->a.heap.size=w.heap.size+1->ac (aP w.heap.size) a):W C (hV 43) w ac:=
 gI aiH λa b c d=>k a (by simpa[ho,bF]using b) c d
def sf(k:∀a,aC a w.heap.size 43 (f1 d bc)->Q [] w a->a.heap.size=w.heap.size+1->ac (aP w.heap.size) a):W C (rk 43 (ho d bc)) w ac:=
 eA λa b c e=>k a (by simpa[ho,bF]using b) c e
def qu{l:List S}(h:aC w b ar l)(c:l.length=14)(e:bc.oneCell'=G)(k:∀a,aC a b ar (f1 d bc)->Q [b] w a->a.heap.size=w.heap.size->ac bS a):W C (dC 43 (aE (E ⟨b,0,I⟩)) (ho d bc)) w ac:=
 f0 (cv:=[]) (c5:=l) (da:=[]) Wm (by simpa using h) rfl c (by simp[ho,bF,f1]) (by simpa[ho,bF]using Ph e) λa f g i=>k a (by simpa[ho,bF]using f) g i
def xG{aO:co}(c:ep C aO 1=G)(h:aC w b ar (f1 d bc))(e:af<14)(f:ae.oneCell'=G)(g:(f1 d bc).set af ae=f1 fl bc)(k:∀a,aC a b ar (f1 fl bc)->Q [b] w a->a.heap.size=w.heap.size->ac bS a):W C (dC aO (aE (E ⟨b,af,I⟩)) ae) w ac:=
 eK c h (by simpa[f1]using e) f λa i j l=>k a (by rw[<-g];exact i) j l
def aiI{n:Int}(h:aC w b ar (f1 d bc))(k:∀a,aC a b ar (f1 {d with dF:=n} bc)->Q [b] w a->a.heap.size=w.heap.size->ac bS a):W C (dC 3 (aE (E ⟨b,0,I⟩)) (F H n)) w ac:=xG hl h A rfl rfl k
def I5{s:ByteArray}(h:aC w b ar (f1 d bc))(k:∀a,aC a b ar (f1 {d with cI:=s} bc)->Q [b] w a->a.heap.size=w.heap.size->ac bS a):W C (dC 9 (aE (E ⟨b,2,I⟩)) (bO s)) w ac:=xG vJ h A rfl rfl k
def aiJ{s:ByteArray}(h:aC w b ar (f1 d bc))(k:∀a,aC a b ar (f1 {d with dg:=s} bc)->Q [b] w a->a.heap.size=w.heap.size->ac bS a):W C (dC 9 (aE (E ⟨b,3,I⟩)) (bO s)) w ac:=xG vJ h A rfl rfl k
def I6{n:Int}(h:aC w b ar (f1 d bc))(k:∀a,aC a b ar (f1 {d with d9:=n} bc)->Q [b] w a->a.heap.size=w.heap.size->ac bS a):W C (dC 3 (aE (E ⟨b,4,I⟩)) (F H n)) w ac:=xG hl h A rfl rfl k
def aiK{n:Int}(h:aC w b ar (f1 d bc))(k:∀a,aC a b ar (f1 {d with cW:=n} bc)->Q [b] w a->a.heap.size=w.heap.size->ac bS a):W C (dC 3 (aE (E ⟨b,7,I⟩)) (F H n)) w ac:=xG hl h A rfl rfl k
def aiL{n:Int}(h:aC w b ar (f1 d bc))(k:∀a,aC a b ar (f1 {d with gK:=n} bc)->Q [b] w a->a.heap.size=w.heap.size->ac bS a):W C (dC 3 (aE (E ⟨b,8,I⟩)) (F H n)) w ac:=xG hl h A rfl rfl k
def aiM{n:Int}(h:aC w b ar (f1 d bc))(k:∀a,aC a b ar (f1 {d with mL:=n} bc)->Q [b] w a->a.heap.size=w.heap.size->ac bS a):W C (dC 3 (aE (E ⟨b,9,I⟩)) (F H n)) w ac:=xG hl h A rfl rfl k
def aiN:C.built 43 #[(1,F H k)].toList=E (f1 ⟨0,k,cg,cg,0,0,0,0,0,0,fr⟩ (T I 0 0)).toArray:=K
def I7:C.built 43 (#[]:Array (Nat×S)).toList=E (f1 jF (T I 0 0)).toArray:=K
def Tu{n:Int}:C.built 43 #[(0,F H n)].toList=E (f1 (jF.cy n) (T I 0 0)).toArray:=K
def aiO:a0 C 88 #[F H k] w λae a=>ae=aK (i3 k)/\w=a:=by
 refine a9 MJ 1 Tryz.func88 K rfl λa1 c=>?_;simp+decide only[↓a8,ba,MJ,Tryz.f88];subst c;refine bT (λb a=>i3 k=G/\w=a) ?_ ?_
 ·simp only[M,bi];unfold i3;refine⟨λh=>⟨decide_eq_true A,by trivial⟩,λjb=>⟨λh=>⟨decide_eq_true A,by trivial⟩,λaoy=>?_⟩⟩;refine bT (λb a=>b=[aK (decide (k=3\/k=4\/k=5))]/\w=a) ?_ ?_
  ·refine⟨λh=>⟨by rw[decide_eq_true h,decide_eq_true (show k=3\/k=4\/k=5 from Y h)],by trivial⟩,λmB=>⟨λh=>⟨by rw[decide_eq_true h,decide_eq_true (show k=3\/k=4\/k=5 from Z (Y h))],by trivial⟩,λlG=>⟨by congr 2;rw[decide_eq_decide];omega,by trivial⟩⟩⟩
  rintro _ _ _ ⟨rfl,rfl⟩;simp only[M,bi];exact⟨λh=>⟨decide_eq_true A,by trivial⟩,λh=>⟨by rw[decide_eq_false A],by trivial⟩⟩
 rintro _ _ _ ⟨h,rfl⟩;exact⟨by rw[h],rfl⟩
def ET(c:ac (aK (i3 k)) w):W C (ck 88 #[F H k]) w ac:=aH XJ aiO (by rintro _ _ ⟨rfl,rfl⟩;exact c)
def aiP{d:Option es}{c:Nat}:C.built 82 #[(0,F H e.a5),(1,bO e.cI),(2,bO e.dg),(3,F H e.d9),(4,F H e.ie),(5,F H e.hF),(6,F H e.cW),(7,jr e.bk (T d n c))].toList=E (ha e (T d n c)).toArray:=K
def aiQ(c:aT w dV bc d.bk.a7):a0 C 110 #[ho d bc] w λae a=>ae=jW d.c2 bc/\Q [] w a:=by obtain⟨y,cC,rfl,z,A⟩:=id c;refine a9 .D 1 Tryz.func110 K rfl λa1 f=>?_;simp+decide only[↓a8,ba,Tryz.f110];subst f;refine sf λax g h D=>?_;refine uf λJ i b L=>?_;obtain⟨j,k,l,m,n,o,p,q,r,s,t,R⟩:=gc (g.J b B);simp only[M,j,k,l,m,n,o,p,q,r,s,t];refine(bY (aiP (e:=d.c2))).2 ?_;refine s3 (e:=d.c2) i rfl rfl λV u v W=>?_;obtain⟨X,aa,ab,ac,ad,af,ag,ah,x⟩:=ik u;simp only[x];exact⟨rfl,(h.R b B).R v (by simp;omega)⟩
def I8(b:aT w dV bc d.bk.a7)(k:∀a,Q [] w a->ac (jW d.c2 bc) a):W C (ck 110 #[ho d bc]) w ac:=aH XV (aiQ b) (by rintro _ a ⟨rfl,c⟩;exact k a c)
def aiR(i:aT w dV bc d.bk.a7):a0 C 195 #[ho d bc] w λae a=>ae=aK d.le/\Q [] w a:=by
 obtain⟨j,cC,rfl,L,R⟩:=id i;refine a9 .D 1 Tryz.func195 K rfl λa1 k=>?_;simp+decide only[↓a8,ba,Tryz.f195];subst k;refine sf λax f l V=>?_;obtain⟨W,X,aa,ab,ac,ad,af,ag,ah,ai,m,aj⟩:=gc f;simp only[M,m];refine gI CY λak n o al=>f0 (cv:=[]) (c5:=iS fr (T I 0 0)) (da:=[]) yg n rfl rfl rfl (yy (b:=d.bk) rfl) λg e p am=>?_;have e:aC g ax.heap.size 41 (iS d.bk (T j d.bk.a7.length cC)):=by simpa[jr,bF]using e
 obtain⟨q,r,s,t,an⟩:=c7.oX e;have h:Q [] ax g:=o.R p B;obtain⟨ao,ap,aq,ar,au,u,v,av,aw,ay,az,aA⟩:=gc (f.J h B);have c:=l.R h B;unfold dl.le;simp only[M,u,v,q,r,s,t,bi];refine⟨λx=>⟨λy=>⟨λz=>⟨λD=>⟨λJ=>⟨?_,c⟩,λJ=>⟨?_,c⟩⟩,λD=>⟨?_,c⟩⟩,λz=>⟨?_,c⟩⟩,λy=>⟨?_,c⟩⟩,λx=>⟨?_,c⟩⟩
 ·congr 1;rw[decide_eq_decide];omega
 all_goals rw[decide_eq_false A]
def aiS{s al:Int}:a0 C 163 #[F H s,F H al] w λae a=>ae=gL (iT s 0 al)/\Q [] w a:=by
 refine a9 .D 2 Tryz.func163 K rfl λa1 c=>?_;simp+decide only[↓a8,ba,Tryz.f163];subst c;refine gI zj λaA d e g=>(bY (gT:=(fd (iT s 0 al)).toArray) K).2 (f0 (cv:=[]) (c5:=fd ⟨0,0,0,0,0⟩) (da:=[]) vK (by simpa[gL,bF]using d) rfl rfl rfl (by simpa[gL,bF]using uK (iT s 0 al)) λax b f h=>?_);have b:aC ax w.heap.size 232 (fd (iT s 0 al)):=by simpa[gL,bF]using b
 exact(r9 b).2 ⟨rfl,e.R f B⟩
def EU{s al:Int}(k:∀a,Q [] w a->ac (gL (iT s 0 al)) a):W C (wN (.func (.func 163) #[] #[]) #[F H s,F H al]) w ac:=
 x4 Yo (by simpa using aiS) (by rintro _ a ⟨rfl,b⟩;exact k a b)
def Tv{g:ca}(h:aC w b 232 (fd aj))(k:∀a,aC a b 232 (fd g)->Q [b] w a->a.heap.size=w.heap.size->ac bS a):W C (dC 232 (aE (E ⟨b,0,I⟩)) (gL g)) w ac:=
 f0 (cv:=[]) (c5:=fd aj) (da:=[]) vK (by simpa using h) rfl rfl rfl (by simpa[gL,bF]using uK g) λa c d e=>k a (by simpa[gL,bF]using c) d e
def Tw(k:∀a,aC a w.heap.size 232 (fd ⟨0,0,0,0,0⟩)->Q [] w a->a.heap.size=w.heap.size+1->ac (aP w.heap.size) a):W C (hV 232) w ac:=
 gI zj λa b c d=>k a (by simpa[gL,bF]using b) c d
def I9:a0 C 111 #[F H k] w λae a=>∃l,ae=bQ #[l,aK (rF k)]/\aT a fd l (jG k)/\Q [] w a:=by
 refine a9 MX 1 Tryz.func111 K rfl λa1 u=>?_;simp+decide only[↓a8,ba,MX,Tryz.f111];subst u;refine(bY (gT:=(fd kf).toArray) K).2 (Tw λaA v x ab=>Tv (g:=kf) v λax y z ac=>EU λD m=>?_);have n:=y.J m B;refine Tw λad J o af=>Tv (g:=iT 1 0 3) J λp e q ag=>?_;have r:=(x.R z B).R m B;have f:Q [] w p:=(r.R o B).R q (by simp;exact r.aI);have c:=(n.J o B).J q (by have:=n.aL;simp;omega);generalize w.heap.size=ah at*;generalize D.heap.size=ai at*;simp only[M,bi];have s:=cD [] p;refine⟨λh=>?_,λn6=>⟨λh=>?_,λn7=>⟨λh=>?_,λL=>⟨λh=>?_,λR=>?_⟩⟩⟩⟩
 ·subst h;exact⟨_,rfl,aT.gW _ _,f⟩
 ·subst h;refine(r9 (bD c)).2 ((r9 (bD e)).2 (EU λV i=>?_));have d:=s.R i B;refine(s4 (e.J d B)).2 ((s4 (c.J d B)).2 (EU λaj W=>?_));have j:=d.R W B;exact(s4 (e.J j B)).2 ((s4 (c.J j B)).2 (wk (a2:=jG 7) rfl A A rfl λae t b=>⟨ae,rfl,b.1,(f.R j B).R b.2.2 B⟩))
 ·subst h;refine(r9 (bD c)).2 ((r9 (bD e)).2 (EU λV i=>?_));have d:=s.R i B;exact(s4 (e.J d B)).2 ((s4 (c.J d B)).2 (wk (a2:=jG 8) rfl A A rfl λae t b=>⟨ae,rfl,b.1,(f.R d B).R b.2.2 B⟩))
 ·subst h;exact(r9 c).2 ((r9 c).2 ((r9 e).2 (wk (a2:=jG 9) rfl A A rfl λae t b=>⟨ae,rfl,b.1,f.R b.2.2 B⟩)))
 ·have X:jG k=[]:=by unfold jG;rw[if_neg n7,if_neg L,if_neg R]
  have aa:rF k=U:=decide_eq_false A;rw[X,aa];exact⟨_,rfl,aT.gW _ _,f⟩
def EV(d:dl):∀aa∈jg d,aa.df=[]:=by
 intro aa a;unfold jg at a;repeat' split at a
 all_goals simp only[ce,iZ,or_false]at a
 all_goals first|exact a.elim|skip
 all_goals rcases a with rfl|rfl|rfl|rfl<;>rfl
def Tx(d:dl):∀ap∈jg d,ap.df.length<=9223372036854775806:=λap a=>by rw[EV d ap a];simp
def Ty(k:Int):(jG k).length=if k=7 then 4 else if k=8 then 3 else if k=9 then 3 else 0:=by
 unfold jG;repeat' split
 all_goals rfl
def BL(k:Int):(jG k).length<=4:=by
 rw[Ty];repeat' split
 all_goals omega
def Ja:a0 C 113 #[ho d bc] w λae a=>zm w a ae (jg d):=by
 refine a9 .D 1 Tryz.func113 K rfl λa1 g=>?_;simp+decide only[↓a8,ba,Tryz.f113];subst g;refine sf λax i c s=>?_;obtain⟨t,j,k,m,n,u,v,o,p,q,x,y⟩:=gc i;simp only[M,j,k,m,n,o,p,q,bi];unfold jg;refine⟨λh=>?_,λn7=>⟨λh=>?_,λe=>⟨λh=>?_,λr=>?_⟩⟩⟩
 ·rw[if_pos h];exact(bY ug).2 ((bY nm).2 ((bY nm).2 ((bY nm).2 (wl (l:=[ig d.cI,hZ d.d9,hZ d.cW,hZ d.gK]) rfl A A rfl λae f b=>⟨b.1,c.R b.2 B⟩))))
 ·rw[if_neg n7,if_pos h];exact(bY ug).2 ((bY nm).2 ((bY nm).2 (wl (l:=[ig d.cI,hZ d.d9,hZ d.mL]) rfl A A rfl λae f b=>⟨b.1,c.R b.2 B⟩)))
 ·rw[if_neg n7,if_neg e,if_pos h];exact(bY ug).2 ((bY ug).2 ((bY nm).2 (wl (l:=[ig d.dg,ig d.cI,hZ d.d9]) rfl A A rfl λae f b=>⟨b.1,c.R b.2 B⟩)))
 ·rw[if_neg n7,if_neg e,if_neg r];exact⟨aT.gW _ _,c⟩
def Tz(f:aT w X.fA aa ee)(g:c7.lZ w ee aF)(y:aF.length=(jG k).length):a0 C 182 #[F H k,aa] w λae a=>ae=ho (nC k aF) (T I 0 0)/\Q [] w a:=by
 rw[Ty]at y;refine a9 Nx 2 Tryz.func182 K rfl λa1 al=>?_;simp+decide only[↓a8,ba,Nx,Tryz.f182];subst al;refine uj λax V am ay=>(bY aiN).2 (uj λaz W ab aA=>qu (d:=⟨0,k,cg,cg,0,0,0,0,0,0,fr⟩) W rfl rfl λb z ac aB=>?_);have an:aC b w.heap.size 43 (f1 jF (T I 0 0)):=(V.J ab B).J ac (by simp;omega);have J:Q [] w b:=(am.R ab B).R ac (by simp;omega);have aD:w.heap.size<ax.heap.size:=A;generalize aG:w.heap.size=aH at*;generalize ax.heap.size=j at*;clear V W;refine bT (λaI a=>aC a j 43 (f1 (nC k aF) (T I 0 0))/\Q [j] b a) ?_ ?_
 ·have D:=cD [] b;have c:∀{m:aN},Q [j] b m->Q [] w m:=λh=>J.R h (by simp;omega);have l:Q [] w b.drew:=J.R D B;simp only[M,bi];refine⟨λh=>?_,λn7=>⟨λh=>?_,λao=>⟨λh=>?_,λap=>?_⟩⟩⟩
  ·subst h;rw[if_pos rfl]at y;refine uh (i:=0) f g A l λad af=>s5 (i:=1) f g A l λag u=>s5 (i:=2) f g A l λah o=>s5 (i:=3) f g A l λaJ L=>I5 (bD z) λm q p ai=>?_;have e:Q [j] b m:=(D.bw B).R p B;refine(dz bZ (L _ (c e))).2 ((dz bZ (o _ (c e))).2 ((dz bZ (u _ (c e))).2 (I6 q λt r s R=>?_)));have n:Q [j] b t:=e.R s B;refine(dz bZ (L _ (c n))).2 ((dz bZ (o _ (c n))).2 (aiK r λcd v x aj=>?_));have ak:Q [j] b cd:=n.R x B;exact(dz bZ (L _ (c ak))).2 (aiL v λaL aq ar aM=>⟨aq,ak.R ar B⟩)
  ·subst h;rw[if_neg A,if_pos rfl]at y;refine uh (i:=0) f g A l λad af=>s5 (i:=1) f g A l λag u=>s5 (i:=2) f g A l λah o=>I5 (bD z) λm q p ai=>?_;have e:Q [j] b m:=(D.bw B).R p B;refine(dz bZ (o _ (c e))).2 ((dz bZ (u _ (c e))).2 (I6 q λt r s R=>?_));have n:Q [j] b t:=e.R s B;exact(dz bZ (o _ (c n))).2 (aiM r λcd v x aj=>⟨v,n.R x B⟩)
  ·subst h;rw[if_neg A,if_neg A,if_pos rfl]at y;refine uh (i:=0) f g A l λad af=>uh (i:=1) f g A l λag u=>s5 (i:=2) f g A l λah o=>aiJ (bD z) λm q p ai=>?_;have e:Q [j] b m:=(D.bw B).R p B;refine(dz bZ (o _ (c e))).2 ((dz oD (u _ (c e))).2 (I5 q λt r s R=>?_));have n:Q [j] b t:=e.R s B;exact(dz bZ (o _ (c n))).2 (I6 r λcd v x aj=>⟨v,n.R x B⟩)
  ·have au:nC k aF=⟨0,k,cg,cg,0,0,0,0,0,0,fr⟩:=by unfold nC;rw[if_neg n7,if_neg ao,if_neg ap]
   rw[au];exact⟨z,.b0 _ _⟩
 rintro _ _ m ⟨q,p⟩;obtain⟨aO,aP,aQ,aR,aS,aU,aV,aW,aX,aY,aZ,av⟩:=gc q;simp only[av];refine qu (an.J p (by simp;omega)) rfl rfl λt r s R=>?_;obtain⟨a2,a3,a4,a5,a6,a7,bb,bc,bd,be,bf,aw⟩:=gc r;simp only[aw];exact⟨rfl,(J.R p (by simp;omega)).R s (by simp;omega)⟩
end
section
variable{k:Int}
def aiT(b:aT w dV bc d.bk.a7)(k:∀a,Q [] w a->ac (aK d.le) a):W C (ck 195 #[ho d bc]) w ac:=aH Yz (aiR b) (by rintro _ a ⟨rfl,c⟩;exact k a c)
def TA{s:ByteArray}(ao:s.size<=9223372036854775807)(k:∀a,Q [] w a->ac (aK (jV s)) a):W C (ck 192 #[bO s]) w ac:=aH Ax (Bv ao) (by rintro _ a ⟨rfl,b⟩;exact k a b)
def aiU(aQ:aT w dV bc d.bk.a7)(ao:qt d):a0 C 140 #[ho d bc] w λae a=>ae=aK d.p6/\Q [] w a:=by
 have bK:=ao.g2;have bL:=ao.sZ;refine a9 M9 1 Tryz.func140 K rfl λa1 aR=>?_;simp+decide (maxSteps:=9999999)only[↓a8,ba,M9,Tryz.f140];subst aR;refine sf λax r av bM=>?_;have bP:=r.aL;generalize w.heap.size=b at*;obtain⟨bR,aS,bU,bV,bW,bX,bY,b0,b1,b2,b3,b7⟩:=gc r;simp only[M,aS];refine aH Gl I9 ?_;rintro _ b8 ⟨b9,rfl,aU,aw⟩;simp only[cV,cX];obtain⟨ca,cb,cc,cf,cg,ch,ci,cj,cm,cn,cp,aV⟩:=gc (r.J aw B);simp only[aV];refine aH Gm Ja ?_;rintro cq ay n;have aW:=aw.R n.2 B;have az:=zl (w:=ay) (EV d);refine aH yo (c7.zg (aF:=jg d) (aU.V n.2) (DF _) (by have:=BL d.a5;omega) n.1 az.1 az.2 (by rw[sL];have:=BL d.a5;omega) (Tx d)) ?_;intro ab L s;have aX:∃x ap,ab=bQ #[x,ap]/\(∀ac:S->Prop,aZ C (eE .neq 73 G ap cT) L ac↔ac (aK (!oA (g9 (jG d.a5) (jg d)))))/\Q [] ay L:=by
  unfold c7.li at s;cases aA:g9 (jG d.a5) (jg d)with
  |error ai=>
   obtain⟨i,j⟩:=ai;rw[aA]at s;obtain⟨rfl,o⟩:=s;exact⟨_,_,rfl,λac=>rz dk,o⟩
  |ok l=>
   rw[aA]at s;obtain⟨ae,rfl,aY⟩:=s;exact⟨_,_,rfl,λac=>fp dk,aY.wj⟩
 obtain⟨zK,cs,rfl,a2,a3⟩:=aX;simp only[cV,cX];have R:=aW.R a3 B;have a5:=r.J R B;refine bT (λp a=>p=[aK (!(rF d.a5&&oA (g9 (jG d.a5) (jg d))&&d.le))]/\Q [] L a) ?_ ?_
 ·simp only[M];refine cG.2 ⟨λh=>⟨?_,.b0 _ _⟩,λh=>?_⟩
  ·rw[lq]at h;rw[h];rfl
  rw[ux]at h;refine(a2 _).2 (cG.2 ⟨λe=>⟨?_,.b0 _ _⟩,λe=>?_⟩)
  ·rw[lq]at e;rw[e];simp
  rw[ux]at e;obtain⟨a6,aB,a7,bb,bd,be,bf,bg,bh,bj,bk,V⟩:=gc a5;simp only[V];refine aiT (aQ.V (av.R R B)) λt aa=>?_;simp only[M];refine⟨?_,aa⟩;rw[h,e];simp
 rintro _ _ t ⟨rfl,aa⟩;simp only[M,cG];unfold dl.p6;have aD:=R.R aa B;have aG:=av.R aD B;refine⟨λh=>?_,λh=>?_⟩
 ·rw[lq]at h;rw[h];exact⟨rfl,aG⟩
 rw[ux]at h;rw[h,pV];have y:=r.J aD B;have aI:=cD [] t;have bl:=bD y;obtain⟨a6,aB,a7,bb,bd,be,bf,bg,bh,bj,bk,V⟩:=gc bl;refine bT (λp a=>∃ad,p=[aP ad]/\aC a ad 43 (f1 (nC d.a5 (jg d)) (T I 0 0))/\Q [] t a) ?_ ?_
 ·simp only[aB,V];have bm:∀{c:aN}{aO:Prop},Q [] t c->(gu C (a4 43 (aP b)) (ho d bc) c aO↔aO):=λo=>mE (l:=f1 d bc) CT (y.J o B).cy;have y5:∀{c:aN}{aO:Prop},Q [] t c->(gu C (a4 3 (aE (E ⟨b,1,I⟩))) (F H d.a5) c aO↔aO):=λo=>dz bZ ((y.J o B).bh (af:=1));have dm:∀{c:aN}{ac:S->aN->Prop},(∀ae a,zm c a ae (jg d)->ac ae a)->W C (ck 113 #[ho d bc]) c ac:=λk=>aH Gm Ja k;have mk:∀{ae:S}{c:aN}{ac:S->aN->Prop},aT c X.fA ae ((jg d).map pE)->(∀a,Q [] c a->ac (ho (nC d.a5 (jg d)) (T I 0 0)) a)->W C (ck 182 #[F H d.a5,ae]) c ac:=λ{ae c ac} h k=>
   aH LU (Tz h (zl (EV d)) (sL d)) (by rintro _ a ⟨rfl,o⟩;exact k a o)
  refine⟨?_,?_⟩
  ·refine dm λct c ag=>?_;have g:=aI.R ag.2 B;refine(y5 g).2 ⟨?_,?_⟩
   ·refine mk ag.1 λah q=>?_;have u:=g.R q B;exact uj λcd aj f bn=>qu aj rfl rfl λbo bp z cu=>⟨_,rfl,bp,(u.R f B).R z (by simp;exact u.aI)⟩
   ·refine uj λcd aj f bn=>?_;have aJ:=g.R f B;exact(y5 aJ).2 (mk (ag.1.V f) λbo z=>qu (aj.J z B) rfl rfl λbq ak al br=>⟨_,rfl,ak,(aJ.R z B).R al (by simp;exact g.aI)⟩)
  ·refine uj λc am D cv=>?_;have g:=aI.R D B;refine(bm g).2 ((y5 g).2 (dm λu8 ah an=>?_));have u:=g.R an.2 B;exact(y5 u).2 (mk an.1 λcd f=>qu ((am.J an.2 B).J f B) rfl rfl λbq ak al br=>⟨_,rfl,ak,(u.R f B).R al B⟩)
 rintro _ _ c ⟨ad,rfl,am,D⟩;have aL:=y.J D B;obtain⟨cw,aoT,aoS,bs,bt,cx,cy,bu,bv,bw,cz,cA⟩:=gc am;obtain⟨cB,bx,aM,bz,bB,cC,cE,bC,bE,bG,cF,cH⟩:=gc aL;generalize nC d.a5 (jg d)=x at*;refine bT (λp a=>p=[aK (x.lO d)]/\c=a) ?_ ?_
 ·unfold dl.lO;simp only[M,aoS,bs,bt,bu,bv,bw,aM,bz,bB,bC,bE,bG];refine w2.2 (bi.2 ⟨λm=>?_,λm=>⟨by rw[decide_eq_false (λh=>m h.1)],by trivial⟩⟩);refine w2.2 (bi.2 ⟨λe=>?_,λe=>⟨by rw[decide_eq_false (λh=>e h.2.1)],by trivial⟩⟩);simp only[bi];refine⟨λaq=>⟨λn=>⟨λar=>?_,λar=>⟨by rw[decide_eq_false (λh=>ar h.2.2.2.2.1)],by trivial⟩⟩,λn=>⟨by rw[decide_eq_false (λh=>n h.2.2.2.1)],by trivial⟩⟩,λaq=>⟨by rw[decide_eq_false (λh=>aq h.2.2.1)],by trivial⟩⟩;refine⟨?_,by trivial⟩;congr 2;rw[decide_eq_decide];exact⟨λv=>⟨m,e,aq,n,ar,v⟩,λh=>h.2.2.2.2.2⟩
 rintro _ _ _ ⟨rfl,rfl⟩;refine bT (λp a=>p=[aK (decide (d.a5=6)||jV d.cI)]/\Q [] c a) ?_ ?_
 ·simp only[M,bx,aM,bi];refine⟨λv=>⟨by rw[decide_eq_true v];rfl,.b0 _ _⟩,λv=>?_⟩;exact TA A λah q=>⟨by rw[decide_eq_false v];rfl,q⟩
 rintro _ _ ah ⟨rfl,q⟩;simp only[M,cG];have bH:=D.R q B;have J:=aG.R bH B;obtain⟨a1,bI,cI,bJ,cJ,cK,cL,cM,cO,cP,cQ,cR⟩:=gc (aL.J q B);unfold dl.gj;refine⟨λm=>⟨λe=>?_,λe=>⟨by rw[m,e];rfl,J⟩⟩,λm=>⟨by rw[m];rfl,J⟩⟩;rw[m,e];simp only[M,bI,bJ,bi];refine⟨λau=>⟨by rw[decide_eq_true au];rfl,J⟩,λau=>?_⟩;exact TA A λcd f=>⟨by rw[decide_eq_false au];rfl,J.R f B⟩
def TB(h:qt d):wm d.c2:=⟨h.g2,h.sZ,h.a7⟩
def aiV(g:aT w dV bc d.bk.a7)(ao:qt d):a0 C 86 #[ho d bc] w λae a=>ae=aK d.bt/\Q [] w a:=by
 refine a9 (.L .D (.L (.bK [10] .D .D) .D)) 1 Tryz.func86 K rfl λa1 j=>?_;simp+decide only[↓a8,ba,Tryz.f86];subst j;refine sf λax k b t=>?_;obtain⟨l,m,u,v,x,y,z,D,n,o,J,p⟩:=gc k;refine bT (λq a=>q=[aK (!decide (0<=d.dF/\d.dF<=4294967295))]/\ax=a) ?_ ?_
 ·simp only[M,l,bi];refine⟨λh=>⟨by rw[decide_eq_false A];rfl,by trivial⟩,λh=>⟨?_,by trivial⟩⟩;congr 2;rw[Bool.eq_iff_iff];simp;omega
 rintro _ _ _ ⟨rfl,rfl⟩;unfold dl.bt;simp only[M,cG,m];refine⟨λh=>?_,λh=>?_⟩
 ·rw[lq]at h;rw[h];exact⟨rfl,b⟩
 rw[ux]at h;rw[h,pV];apply ET;simp only[M,cG,n,o,p];refine⟨λi=>?_,λi=>?_⟩
 ·rw[if_pos i];refine⟨λc=>⟨λe=>?_,λe=>⟨by rw[decide_eq_false (λh=>of_decide_eq_false e h.2)];rfl,b⟩⟩,λc=>⟨by rw[decide_eq_false (λh=>of_decide_eq_false c h.1)];rfl,b⟩⟩;have c:=of_decide_eq_true c;have e:=of_decide_eq_true e;exact I8 (g.V b) λr f=>EQ ((g.V b).V f) (TB ao) λL s=>⟨by rw[decide_eq_true (⟨c,e⟩:d.gK=0/\d.mL=0)];rfl,(b.R f B).R s B⟩
 ·rw[if_neg (by rw[i];simp)];apply aH Yb (aiU (g.V b) ao);rintro _ r ⟨rfl,f⟩;exact⟨rfl,b.R f B⟩
def Jb(b:aT w dV bc d.bk.a7)(ao:qt d)(k:∀a,Q [] w a->ac (aK d.bt) a):W C (ck 86 #[ho d bc]) w ac:=aH XH (aiV b ao) (by rintro _ a ⟨rfl,c⟩;exact k a c)
end
def TC:ByteArray:=eS #[97,115,107,46,71,101,116]
def aiW(x:Int):cl.wrap x=((ed (x%256).toNat).toNat:Int):=by
 rw[mx];have:cl.wrap x=x%256:=by simp[IntKind.wrap,IntKind.bits,IntKind.signed]
 rw[this];omega
def BM{ac:S->Prop}{x:Int}:aV C (rl 3 5 (F H x)) ac↔ac (F cl ((ed (x%256).toNat).toNat:Int)):=by rw[<-aiW];exact fv (k:=H) (hC:=cl) (by unfold iq;kernel_rfl) (by unfold iq;kernel_rfl)
def vc{ac:S->Prop}{x:UInt8}:aV C (rl 5 3 (F cl x.toNat)) ac↔ac (F H (x.toNat:Nat)):=by have a:=x.toNat_lt;refine(fv (k:=cl) (hC:=H) (by unfold iq;kernel_rfl) (by unfold iq;kernel_rfl)).trans ?_;rw[bq A A]
def BN{ac:S->Prop}{a:co}{x:UInt8}{ai:iz}(b:ak<2^j)(c:j<=48):(aV C (dS .shl ar (F H (x.toNat:Nat)) (F ai (j:Nat))) λaa=>aV C (dS .or a (F H (ak:Nat)) aa) ac)↔ac (F H ((ak+x.toNat*2^j:Nat):Int)):=by
 have e:=x.toNat_lt;have d:2^j<=2^48:=pU A c;have f:x.toNat*2^j<=255*2^48:=Nat.mul_le_mul A d;rw[w0 A];rw[show(x.toNat:Int)*2^min ((j:Nat):Int).toNat H.bits=((x.toNat*2^j:Nat):Int)by
  rw[hf,show min j H.bits=j from my (by show j<=64;omega),uq,Int.natCast_pow];rfl]
 rw[Ag b A,bq A A]
section
variable{k:Int}{ab:List UInt8}
def aiX(p:aT w dV bc d.bk.a7)(ao:qt d):a0 C 66 #[ho d bc] w λae a=>c7.nl w a ae d.ch:=by
 refine a9 .D 1 Tryz.func66 K rfl λa1 ar=>?_;simp+decide only[↓a8,ba,Tryz.f66];subst ar;refine sf λax J L aP=>?_;obtain⟨aQ,aR,aS,aU,aV,aW,aX,aY,aZ,a2,a3,au⟩:=gc J;simp only[au];refine Jb (p.V L) ao λR V=>?_;have q:=L.R V B;have r:=J.J V B;simp only[M,cG];unfold dl.ch;refine⟨λh=>?_,λh=>?_⟩
 ·rw[lq]at h;rw[if_neg (by rw[h];simp)];exact⟨[],gJ _ _ _,B,q⟩
 rw[ux]at h;rw[if_pos h];obtain⟨n,av,a4,a5,a6,a7,bb,bd,be,bf,bg,bh⟩:=gc r;simp only[n,av,BM];apply(nS A).2;simp only[n,BM];apply(nS A).2;simp only[n,BM];apply(nS A).2;simp only[n,BM];have bi:1<=d.a5/\d.a5<=9:=by
  unfold dl.bt at h;rw[dA]at h;obtain⟨_,h⟩:=h;split at h
  ·rename_i b;unfold i3 at b;rw[decide_eq_true_iff]at b;omega
  ·unfold dl.p6 rF at h;rw[dA,dA,dA,decide_eq_true_iff]at h;omega
 refine hw ky (d.pl.map λx=>F cl x.toNat) ?_ (by simp[dl.pl,eU]) (by intro x aw;obtain⟨ap,_,rfl⟩:=fS.1 aw;rfl) A A λay W s bj=>?_
 ·show _=((([1,ed d.a5.toNat]++eU d.dF 4).map λx=>F cl x.toNat).zipIdx).map λah=>(ah.2,ah.1);rw[show(d.a5%256).toNat=d.a5.toNat by omega,abJ];rfl
 have az:((d.pl.map λx=>F cl x.toNat).flatMap λaa=>aa.cells.toList)=d.pl.flatMap bs:=by rw[List.flatMap_map];rfl
 rw[az]at W;have o:=q.R s B;have bk:=q.aI;have c:d.pl.length=6:=by simp[dl.pl,eU]
 have t:=IZ e2 W A;rw[c]at t;obtain⟨bl,X,bm,bn,bo,bp,bq,br,bt,bu,bv,aA⟩:=gc (r.J s B);simp only[M,X];apply ET;have ac:∀{ae u:S}{f e:aN}{ab:List UInt8}{aD:List Nat},Q [] ay f->bP e 5 1 u (d.pl++ab).length ((d.pl++ab).flatMap bs) aD->(∀g∈aD,g∈[R.heap.size]\/f.heap.size<=g)->Q [R.heap.size] f e->c7.nl w e u (d.pl++ab):=by
  intro ae u f e ab aD ad j k aB;refine⟨aD,j,λg v=>?_,(o.R ad B).R aB (by simp;omega)⟩;have:=(o.R ad B).aI;rcases k g v with af|af
  ·simp at af;omega
  ·omega
 refine cG.2 ⟨λb=>?_,λb=>?_⟩
 ·rw[if_pos b];have ag:=tU h b;simp only[aA];refine I8 (p.V o) λf m=>aH LC (S8 ((p.V o).V m) (TB ao)) ?_;rintro aC e ai;have aj:=m.R ai.wj B;have ak:=ai.eF;obtain⟨al,bw⟩:=eG.qT ag;obtain⟨bx,bz,rfl,bB,bC⟩:=id ak;have aG:1<=d.c2.ch.length:=by rw[al];simp
  have bD:d.c2.ch.length<=601:=by rw[al,gF];have:=DE ag;omega
  apply(rs (i:=1) fP el A A).2;have aI:=aT.Is e2 ak aG;exact zk ky (l:=d.pl) (c5:=d.c2.ch.drop 1) (c▸t.J aj B) fP e2 uZ aI (by rw[c,e8];omega) (by rw[c,e8];unfold d0;omega) λdd aJ aD y k z=>ac (ae:=dd) aj y k z
 ·rw[if_neg (by rw[b];simp)];simp only[M,X];apply aH Gl I9;rintro _ f ⟨bE,rfl,aL,m⟩;simp only[cV,cX];obtain⟨bG,aoT,aoS,bH,bI,bJ,bK,bL,bM,bR,bT,aM⟩:=gc ((r.J s B).J m B);simp only[aM];apply aH Gm Ja;rintro aC e j;have am:=zl (w:=e) (EV d);apply aH yo (c7.zg (aF:=jg d) (aL.V j.2) (DF _) (by have:=BL d.a5;omega) j.1 am.1 am.2 (by rw[sL];have:=BL d.a5;omega) (Tx d));intro ab bU D;have v:oA (g9 (jG d.a5) (jg d))=G:=by unfold dl.bt at h;rw[dA,if_neg (by rw[b];simp)]at h;unfold dl.p6 at h;rw[dA,dA,dA,dA]at h;exact h.2.1.1.2
  have aO:=yz (vU _) (sL d) ((xc (vU _) (sL _)).1 v);have bV:=Pl (Pm h b);unfold c7.li at D;rw[aO]at D⊢;obtain⟨ae,rfl,an⟩:=D;simp only[cV,cX];have aq:=(m.R j.2 B).R an.wj B;exact zk ky (l:=d.pl) (c▸t.J aq B) fP e2 uZ an.eF (by rw[c];omega) (by rw[c];unfold d0;omega) λdd aJ aD y k z=>ac (ae:=dd) aq y k z
end
section
variable{k:Int}{ab:List UInt8}
def aiY{d:Option es}{c:Nat}:C.built 43 #[(1,F H e.a5),(2,bO e.cI),(3,bO e.dg),(4,F H e.d9),(5,F H e.ie),(6,F H e.hF),(7,F H e.cW),(10,jr e.bk (T d n c))].toList=E (f1 (uU e) (T d n c)).toArray:=K
def Jc(w a:aN)(k:UInt8)(ab:List UInt8)(ae:S):Prop:=Q [] w a/\match oK k ab with
 |bA d=>∃bc,ae=bQ #[ho d bc,cT]/\aT a dV bc d.bk.a7/\gx w.heap.size bc
 |b5 cz=>ae=bQ #[ho jF (T I 0 0),ff (E cz)]
def aiZ{k:UInt8}(aw:aT w bs aa ab)(bj:ab.length<=1000000):a0 C 128 #[F H (k.toNat:Nat),aa] w λae a=>Jc w a k ab ae:=by
 have bk:=k.toNat_lt;refine a9 .D 2 Tryz.func128 K rfl λa1 aJ=>?_;simp+decide only[↓a8,ba,Tryz.f128];subst aJ;refine uj λax D J bl=>?_;have bm:=D.aL;apply ET;unfold Jc oK;refine cG.2 ⟨λL=>?_,λL=>?_⟩
 ·rw[if_pos L];apply BM.2;rw[show(ed (((k.toNat:Nat):Int)%256).toNat)=k by rw[show(((k.toNat:Nat):Int)%256).toNat=k.toNat by omega];simp];refine hw ky [F cl k.toNat] rfl rfl (by simp[bF]) A A λay o s bn=>?_;have o:aC ay ax.heap.size 5 ([k].flatMap bs):=by simpa[bF,bs]using o
  have t:=J.R s B;refine zk ky (l:=[k]) (IZ e2 o B) fP e2 uZ (aw.V t) (by simp;omega) (by unfold d0;simp;omega) λdd R aD aL bo p=>?_;have V:Q [] ax R:=s.R p B;have u:=J.R V B;refine I1 (aL.eF e2 A) (by simp;omega) λaM v g=>?_;obtain⟨f,g⟩:=g;have W:aC v w.heap.size 43 (f1 jF (T I 0 0)):=(D.J V B).J f B;have az:=u.R f B;have aO:=az.aI;have bp:=f.aI;have bq:=V.aI;rw[List.singleton_append]at g;have bz:∃e q y r ap,aM=bQ #[jW e (T q y r),ap]/\∀cd,Q [w.heap.size] v cd->(match(match nB (k::ab)with|b5 cz=>b5 cz|bA e=>bA (uU e):Except ex dl)with
    |bA d=>∃bc,bQ #[ho (uU e) (T q y r),ap]=bQ #[ho d bc,cT]/\aT cd dV bc d.bk.a7/\gx w.heap.size bc
    |b5 cz=>bQ #[ho (uU e) (T q y r),ap]=bQ #[ho jF (T I 0 0),ff (E cz)]):=by
   cases h:nB (k::ab)with
   |error cz=>
    rw[h]at g;exact⟨tT,I,0,0,_,g,λcd aA=>rfl⟩
   |ok e=>
    rw[h]at g;obtain⟨br,rfl,aB,bt,aG⟩:=g;obtain⟨q,r,rfl,_,_⟩:=id aB;exact⟨e,q,_,r,_,rfl,λcd aA=>⟨_,rfl,aB.J aA (λb af n c aP aQ=>by have:=aG b af n c aP;simp at aQ;omega),aG.bw u.aI⟩⟩
  obtain⟨e,q,y,r,ap,rfl,aR⟩:=bz;simp only[cV,cX];refine uf λaS X ac aU=>s3 X rfl rfl λaV aW aX bu=>?_;obtain⟨aY,aZ,a2,a3,a4,a5,a6,a7,bv⟩:=ik aW;simp only[M,aY,aZ,a2,a3,a4,a5,a6,a7];apply(bY aiY).2;have ad:Q [] v aV:=ac.R aX B;refine qu (W.J ad B) rfl rfl λbb bd aI bw=>?_;obtain⟨ag,ah,aj,ak,al,am,an,ao,aq,ar,au,m⟩:=gc bd;simp only[m];refine⟨(az.R ad B).R aI B,?_⟩;exact aR bb ((ad.bw B).R aI B)
 ·rw[if_neg (by rw[L];simp)];apply aH Gl I9;rintro _ ay ⟨bx,rfl,be,s⟩;simp only[cV,cX];have t:=J.R s B;have o:=D.J s B;simp only[M];refine cG.2 ⟨λx=>?_,λx=>?_⟩
  ·rw[lq]at x;refine(bY I7).2 ((hk hY).2 (qu (d:=jF) o rfl rfl λR z p bB=>?_));obtain⟨ag,ah,aj,ak,al,am,an,ao,aq,ar,au,m⟩:=gc z;simp only[m];rw[if_neg (by rw[x];simp)];exact⟨t.R p B,rfl⟩
  rw[ux]at x;rw[if_pos x];apply aH Db (c7.EK (b:=ab) be (DF _) (by have:=BL (k.toNat:Int);omega) (aw.V t) A);rintro bC R ⟨p,h⟩;have u:=t.R p B;have z:=o.J p B;cases av:mG (jG k.toNat) ab with
  |error ai=>
   obtain⟨i,j⟩:=ai;rw[av]at h;subst h;simp only[cV,cX];apply(rz dk).2;simp only[M];refine(bY I7).2 (qu (d:=jF) z rfl rfl λv W f aO=>?_);obtain⟨ag,ah,aj,ak,al,am,an,ao,aq,ar,au,m⟩:=gc W;simp only[m];exact⟨u.R f B,rfl⟩
  |ok aF=>
   rw[av]at h;obtain⟨af,ee,rfl,bf,bg,bD,bE,bG⟩:=h;obtain⟨bh,bi⟩:=G1 av;simp only[cV,cX];apply(fp dk).2;simp only[M];apply aH LU (Tz (k:=(k.toNat:Int)) bf bg bh);rintro _ v ⟨rfl,f⟩;refine qu (z.J f B) rfl rfl λaS X ac aU=>?_;obtain⟨ag,ah,aj,ak,al,am,an,ao,aq,ar,au,m⟩:=gc X;simp only[m];refine⟨(u.R f B).R ac B,_,rfl,?_,λb af n c e=>by cases e⟩;rw[(Pj bi).2.2];exact aT.gW _ _
def ai0{k:UInt8}(b:aT w bs aa ab)(d:ab.length<=1000000)(c:∀ae a,Jc w a k ab ae->ac ae a):W C (ck 128 #[F H (k.toNat:Nat),aa]) w ac:=aH X4 (aiZ b d) c
def Jd(w a:aN)(l:List UInt8)(ae:S):Prop:=Q [] w a/\∃bc,ae=bQ #[ho (kS l).1 bc,ff (kS l).2]/\aT a dV bc (kS l).1.bk.a7/\gx w.heap.size bc
def ai1(l:List UInt8):qt (kS l).1:=by have:=abI l;exact⟨A,A,A⟩
def ai2(L:aT w bs aa l)(a6:l.length<=1000000):a0 C 79 #[aa] w λae a=>Jd w a l ae:=by
 obtain⟨cp,cC,rfl,cq,cs⟩:=id L;refine a9 MF 1 Tryz.func79 K rfl λa1 a7=>?_;simp+decide only[↓a8,ba,MF,Tryz.f79];subst a7;refine uj λax aq ag ct=>?_;have cu:=aq.aL;have av:∀{cz:ex}{n:Int}{ar:aN},kS l=(jF.cy n,E (.d2 TC 0 cz))->Q [] w ar->aC ar w.heap.size 43 (f1 jF (T I 0 0))->
   W C (ck 59 #[bO TC,F H 0,ff (E cz)]) ar λpW aj=>W C (dC 43 (aP w.heap.size) (ho (jF.cy n) (T I 0 0))) aj λ_ cd=>aZ C (a4 43 (aP w.heap.size)) cd λbb=>o5 (λae a=>Jd w a l ae) (gd (bQ #[bb,pW])) cd:=by
  intro cz n ar R bd be;refine rO (qu be rfl rfl λcv bf bg cw=>?_);obtain⟨bh,bj,bk,bm,bn,bo,bp,bq,br,bt,bu,aw⟩:=gc bf;simp only[aw];refine⟨bd.R bg B,T I 0 0,by rw[R];rfl,by rw[R];exact aT.gW _ _,λb af n c e=>by cases e⟩
 simp only[M,bi];refine⟨λm=>?_,λm=>?_⟩
 ·refine(bY I7).2 ((hk hY).2 (av (cz:=.dD 3) (n:=0) ?_ ag aq));unfold kS;split
  ·simp at m;omega
  ·rfl
 have aB:=cD [] ax;have ah:=ag.R aB B;obtain⟨x,k,q,r,s,t,ab,rfl⟩:∃x k q r s t ab,l=x::k::q::r::s::t::ab:=by
  rcases l with _|⟨x,_|⟨k,_|⟨q,_|⟨r,_|⟨s,_|⟨t,ab⟩⟩⟩⟩⟩⟩
  ·simp at m
  ·simp at m
  ·simp at m
  ·simp at m
  ·simp at m
  ·simp at m
  ·exact⟨x,k,q,r,s,t,ab,rfl⟩
 have cx:=q.toNat_lt;have cy:=r.toNat_lt;have cA:=s.toNat_lt;have cB:=t.toNat_lt;apply(p4.ek L ah (i:=2) B).2;simp only[List.getElem_cons_zero,List.getElem_cons_succ,vc];apply(p4.ek L ah (i:=3) B).2;simp only[List.getElem_cons_zero,List.getElem_cons_succ,vc];refine(BN (j:=8) A A).2 ((p4.ek L ah (i:=4) B).2 ?_);simp only[List.getElem_cons_zero,List.getElem_cons_succ,vc];refine(BN (j:=16) A A).2 ((p4.ek L ah (i:=5) B).2 ?_);simp only[List.getElem_cons_zero,List.getElem_cons_succ,vc];refine(BN (j:=24) A A).2 ((p4.ek L ah (i:=0) B).2 ?_);simp only[List.getElem_cons_zero];have bv:q.toNat+r.toNat*2^8+s.toNat*2^16+t.toNat*2^24=fe [q,r,s,t]:=by simp only[fe];omega
 rw[bv];generalize aD:fe [q,r,s,t]=n at*;refine zX.2 (bi.2 ⟨λaF=>?_,λaF=>?_⟩)
 ·refine(bY Tu).2 ((hk hY).2 (av (cz:=.dD 14) (n:=n) ?_ ah (bD aq)));have:x≠1:=by rintro rfl;exact aF rfl
  simp only[kS];rw[if_pos this,aD];rfl
 have bw:x=1:=by have:x.toNat=1:=A;exact nN.1 this
 subst bw;have aG:kS (1::k::q::r::s::t::ab)=match oK k ab with
   |b5 e=>(jF.cy n,E (.d2 yC 0 e))
   |bA d=>if(d.cy n).bt then(d.cy n,I)else(jF.cy n,E (.d2 yC 0 (.dD 2))):=by
  simp only[kS];rw[if_neg B,aD];rfl
 have ai:=aB.R (cD [] ax.drew) B;have bx:=ag.R ai B;obtain⟨D,J,cE,aH,bz⟩:=L.sH (i:=1) e2 B;simp only[zI]at aH;obtain⟨rfl,_,rfl⟩:=aH;have bB:ab.length<=1000000:=by simp at a6;omega
 have bC:aT w bs (T (if cC=6 then E ⟨D,J,I⟩else(E (⟨D,J,I⟩:es)).map (·.add (6*1))) ab.length (cC-6)) ab:=by have h:=aT.d1 (i:=6) (j:=(1::k::q::r::s::t::ab).length) e2 L B (fF _);simpa using h
 have aI:∀{a:aN},Q [] w a->a.cell? ⟨D,J+1*1,I⟩=E (F cl k.toNat):=λh=>Ct (bz.J h B);refine bT (λak a=>∃V f bc cz,ak=[aP V,ff cz]/\aC a V 43 (f1 f bc)/\w.heap.size<V/\Q [] ax a/\eo a [V,w.heap.size] dV bc f.bk.a7/\gx w.heap.size bc/\(match oK k ab with
   |bA d=>f=d/\cz=I
   |b5 e=>f=jF/\cz=E e)) ?_ ?_
 ·refine(hP (i:=1) fP el B).2 ((bl mb (aI bx)).2 (vc.2 ((rs (i:=6) fP el A (by simp;omega)).2 ?_)));have body:∀{X:aN}{ac:S->aN->Prop},Q [] ax X->(∀f bc cz o,Q [] X o->aT o dV bc f.bk.a7->gx X.heap.size bc->(match oK k ab with
   |bA d=>f=d/\cz=I
   |b5 e=>f=jF/\cz=E e)->ac (bQ #[ho f bc,ff cz]) o)->W C (ck 128 #[F H (k.toNat:Nat),T (if cC=6 then E ⟨D,J,I⟩else(E (⟨D,J,I⟩:es)).map (·.add (6*1))) ab.length (cC-6)]) X ac:=by
   intro X ac bE c;refine ai0 (bC.V (ag.R bE B)) bB λae o m=>?_;obtain⟨y,m⟩:=m;cases u:oK k ab with
   |error e=>
    rw[u]at m c;subst m;exact c _ _ (E e) o y (aT.gW _ _) (λb af n c e=>by cases e) ⟨rfl,rfl⟩
   |ok d=>
    rw[u]at m c;obtain⟨bc,rfl,bG,bH⟩:=m;exact c d bc I o y bG bH ⟨rfl,rfl⟩
  have bI:(T (if cC=(6:Int).toNat then E ⟨D,J,I⟩else(E (⟨D,J,I⟩:es)).map (·.add ((6:Int).toNat*1))) ((1::k::q::r::s::t::ab).length-(6:Int).toNat) (cC-(6:Int).toNat))=T (if cC=6 then E ⟨D,J,I⟩else(E (⟨D,J,I⟩:es)).map (·.add (6*1))) ab.length (cC-6):=by rw[show(6:Int).toNat=6 from rfl];congr 1
  rw[bI];refine⟨?_,?_⟩
  ·refine body ai λf bc cz o y aJ aL bJ=>?_;simp only[cV,cX];have aM:=ai.R y B;refine uj λau ay p bK=>qu ay rfl aJ.aW λaj al ad aO=>?_;have aQ:Q [] o aj:=p.R ad B;have aR:=aM.aI;refine⟨o.heap.size,f,bc,cz,rfl,al,A,aM.R aQ B,?_,aL.bw (by have:=ai.aI;omega),bJ⟩;refine eo.V ?_ aQ;rcases(eo.cq (am:=[w.heap.size]) aJ (by intro ap;simp[dV]) aL (by simp;have:=ai.aI;omega))with⟨bL,bM⟩;refine⟨bL,bM.imp id ?_⟩;rintro⟨b,af,c,e,aS,bP⟩;refine⟨b,af,c,e,?_,bP⟩;simp at aS⊢;exact⟨A,aS⟩
  ·refine uj λo an y aR=>?_;have m:=ai.R y B;refine(dz mb (aI (ag.R m B))).2 (body m λf bc cz au p aU aV bR=>?_);simp only[cV,cX];refine qu (an.J p B) rfl aU.aW λaj al ad aO=>?_;have cF:ax.drew.drew.heap.size=ax.heap.size:=rfl;have bK:=p.aI;have bU:∀g∈[ax.drew.drew.heap.size,w.heap.size],g<o.heap.size:=by simp;omega
   refine⟨_,f,bc,cz,rfl,al,A,(m.R p B).R ad B,?_,aV.bw A,bR⟩;exact(eo.cq aU (by intro ap;simp[dV]) aV bU).de ⟨ad.bw B,λg ao=>Y ao⟩
 rintro _ _ X ⟨V,f,bc,cz,rfl,ay,cH,aW,bV,bW,v⟩;have bX:aC X w.heap.size 43 (f1 jF (T I 0 0)):=aq.J aW B;have bZ:=ag.R aW B;simp only[M];refine aiI ay λo an y aR=>?_;have aX:eo o [V,w.heap.size] dV bc f.bk.a7:=bV.de ⟨y.bw B,λg ao=>Y ao⟩;have b0:=bX.J y (by simp;omega);have b1:Q [] w o:=bZ.R y (by simp;omega);have b2:({f with dF:=(n:Int)}:dl)=f.cy n:=rfl;rw[b2]at an;have b3:cz=I->qt (f.cy n):=by
  intro R;cases u:oK k ab with
  |error e=>rw[u]at v;rw[v.2]at R;cases R
  |ok d=>
   rw[u]at v;obtain⟨rfl,_⟩:=v;have:=Pk u;exact⟨by show f.cI.size<=_;omega,by show f.dg.size<=_;omega,by show f.bk.a7.length<=_;omega⟩
 refine bT (λak a=>ak=[ff (if cz.isNone&&!(f.cy n).bt then E (.dD 2)else cz)]/\Q [] o a) ?_ ?_
 ·refine bT (λak a=>ak=[aK (cz.isNone&&!(f.cy n).bt)]/\Q [] o a) ?_ ?_
  ·refine AA.2 (cG.2 ⟨λh=>?_,λh=>⟨by rw[h];rfl,.b0 _ _⟩⟩);obtain⟨b7,b8,b9,ca,cb,cc,cf,cg,ch,ci,cj,aA⟩:=gc an;simp only[aA];have R:cz=I:=by simpa using h
   refine Jb aX.1 (b3 R) λau p=>?_;simp only[M];exact⟨by rw[h];rfl,p⟩
  rintro _ _ au ⟨rfl,p⟩;simp only[M];refine cG.2 ⟨λh=>?_,λh=>?_⟩
  ·refine(hk hY).2 ⟨by rw[if_pos h];rfl,p⟩
  ·exact⟨by rw[if_neg (by rw[h];simp)],p⟩
 rintro _ _ au ⟨rfl,p⟩;have aY:=b1.R p B;have a2:=b0.J p B;have cm:=an.J p B;have a3:=aX.V p;simp only[M];apply oF.2;cases z:(if cz.isNone&&!(f.cy n).bt then E (.dD 2)else cz:Option ex)with
 |some e=>
  refine cG.2 ⟨λ_=>?_,λh=>(by cases h)⟩;refine(bY Tu).2 (av (cz:=e) (n:=n) ?_ aY a2);rw[aG];cases u:oK k ab with
  |error gh=>
   rw[u]at v;obtain⟨_,rfl⟩:=v;simp only[Option.isNone_some,Bool.false_and,fc,if_false]at z;cases z;rfl
  |ok d=>
   rw[u]at v;obtain⟨rfl,rfl⟩:=v;simp only[Option.isNone_none,pV]at z;split at z
   ·rename_i h;cases z;rw[lq]at h;simp only[h,fc,if_false];rfl
   ·cases z
 |none=>
  refine cG.2 ⟨λh=>(by cases h),λ_=>?_⟩;obtain⟨b7,b8,b9,ca,cb,cc,cf,cg,ch,ci,cj,aA⟩:=gc cm;simp only[M,aA];refine qu a2 rfl a3.1.aW λaj al ad aO=>?_;obtain⟨bh,bj,bk,bm,bn,bo,bp,bq,br,bt,bu,aw⟩:=gc al;simp only[aw];have cn:=a3.de (az:=[V,w.heap.size]) ⟨ad.bw B,λg ao=>Y ao⟩;have a5:kS (1::k::q::r::s::t::ab)=(f.cy n,I):=by
   rw[aG];cases u:oK k ab with
   |error gh=>
    rw[u]at v;obtain⟨_,rfl⟩:=v;simp at z
   |ok d=>
    rw[u]at v;obtain⟨rfl,rfl⟩:=v;simp only[Option.isNone_none,pV]at z;split at z
    ·cases z
    ·rename_i h;have h:(f.cy n).bt=G:=by simpa using h
     simp only[h,if_true]
  refine⟨aY.R ad B,bc,by rw[a5];rfl,?_,bW⟩;rw[a5];exact cn.1
def ai3(b:aT w bs aa l)(d:l.length<=1000000)(c:∀ae a,Jd w a l ae->ac ae a):W C (ck 79 #[aa]) w ac:=aH XC (ai2 b d) c
end
end
end Go.Proofs.YtepeilglbedgdaaGreatDoor
namespace Go.Proofs.YtepeilglbedgdaaGreatDoor.c7
open Go.X
attribute[local irreducible]Go.X.W
variable{w:aN}{n:Nat}
def vd(ab:dn):Prop:=ab.gj.length<=4611686018427387904/\ab.dY.length<=1000000/\∀ah∈ab.dY,ah.2.size<=1000000000
def Je:qm lc:=by intro aj a;simp[lc]at a;rcases a with rfl|rfl|rfl|rfl|rfl<;>simp
def TD{d:Option es}{c:Nat}:C.built 152 #[(2,T d n c)].toList=E #[F H 0,bO cg,T d n c]:=K
def TE{x:kQ}{ab:dn}(h:ma w x ab)(aJ:vd ab):a0 C 183 #[je x] w λae a=>li w lc ab.h8 ae a:=by
 obtain⟨bp,br,aL⟩:=aJ;refine a9 Ny 1 Tryz.func183 K rfl λa1 aM=>?_;simp+decide only[↓a8,ba,Ny,Tryz.f183];subst aM;refine eA λaA aO ag bs=>?_;have ah:aC aA w.heap.size 37 (eb x):=aO;generalize bt:w.heap.size=an at*;obtain⟨bu,bv,bw,bx,bz,aP,bB⟩:=hJ ah;obtain⟨bC,bE,ai,bG,bH⟩:=h.dY;have aj:aT aA hX x.mH ab.dY:=h.dY.V ag;simp only[M,aP];rw[ai];simp only[M];rw[ai]at aj;refine c1 (λaF a=>∃(i:Nat)(af:S)(am:List Nat),aF=[af,F H i]/\i<=ab.dY.length/\bP a 9 1 af i (((ab.dY.take i).map lL).flatMap dV) am/\(∀g∈am,an+1<=g)/\aC a an 37 (eb x)/\Q [] w a/\Q [] aA a)
  (λaF _=>match aF with|[_,F _ i]=>ab.dY.length-i.toNat|_=>0) ⟨0,T I 0 0,[],rfl,A,gJ _ _ _,B,ah,ag,Q.b0 _ _⟩ ?_
 rintro _ _ ax ⟨i,af,am,rfl,al,y,z,X,q,ac⟩;simp only[M,bi];have bI:=ac.aI;refine⟨λbJ=>?_,λbK=>?_⟩
 ·have D:i<ab.dY.length:=A;refine(SJ.ek aj ac D).2 (gI Aq λao m l bL=>f0 (cv:=[]) (c5:=hX (0,cg)) (da:=[]) yh m rfl rfl rfl (Ae _) λJ n o aq=>?_);have aQ:aC J ax.heap.size 70 (hX ab.dY[i]):=by simpa[bF,qP]using n
  have aR:Q [] ax J:=l.dP o B B;obtain⟨bM,bR,aS⟩:=ue aQ;simp only[aS];have bT:=aL _ (dX D);apply aH Y2 (ag3 A);rintro _ ar ⟨rfl,L⟩;refine hw vM [bO (lL ab.dY[i])] rfl rfl (by simp[bF]) A A λau aU aW bU=>?_;have r:Q [] ax au:=(aR.R L B).R aW B;have bV:=r.aI;have aX:fu au ar.heap.size 0 ([lL ab.dY[i]].flatMap dV):=aU.cy;refine m8 (ak:=1) vM (y.J r B) aX rfl (by simp[dV];rfl) A (by unfold d0;omega) A λaY bW az aZ ad a2 _=>?_;rw[bq A A];refine⟨⟨i+1,aY,az,rfl,D,?_,λg k=>(a2 g k).elim (z g) (λh=>A),(X.J r B).J ad (λa3=>by have:=z _ a3;omega),(q.R r B).R ad (λg k=>Z (by have:=z g k;omega)),(ac.R r B).R ad (λg k=>Z (by have:=z g k;omega))⟩,A⟩;rw[jO D,g6,hL];exact aZ
 ·obtain rfl:i=ab.dY.length:=A;rw[j3]at y;obtain⟨a4,a5,a6,a7,bb,bX,b0⟩:=hJ (bD X);simp only[a4,a5,a6,a7,bb];refine(bY (gT:=#[F H x.dF,bO cg,T I 0 0]) K).2 ((bY (gT:=#[F H x.iE,bO cg,T I 0 0]) K).2 ((bY (gT:=#[F H x.cu,bO cg,T I 0 0]) K).2 ((bY (gT:=#[F H x.cS,bO cg,T I 0 0]) K).2 ((bY (gT:=#[F H 0,bO cg,x.pb]) (by obtain⟨d,c,e,_⟩:=h.gj;rw[e];exact TD)).2 ((bY (gT:=#[F H 0,bO cg,af]) (by obtain⟨_,_,e,_⟩:=y.jD;rw[e];exact TD)).2 ?_)))));have bd:aT ax dV af (ab.dY.map lL):=by have:=y;rw[show ab.dY.length=(ab.dY.map lL).length by simp]at this;exact this.eF KD A
  obtain⟨ee,R⟩:∃ee:List l9,ee=[⟨x.dF,cg,T I 0 0⟩,⟨x.iE,cg,T I 0 0⟩,⟨x.cu,cg,T I 0 0⟩,⟨x.cS,cg,T I 0 0⟩,⟨0,cg,x.pb⟩,⟨0,cg,af⟩]:=⟨_,rfl⟩;have av:Q [] ax ax.drew:=ob;have aw:∀(s bc:S)(a:aN),Q [] ax a->aT a fd s lc->aT a fA bc ee->
    W C (ck 112 #[s,bc]) a λay be=>aV C (gH ay 0) λbf=>aV C (gH ay 1) λbg=>o5 (λae a=>li w lc ab.h8 ae a) (gd (bQ #[bf,bg])) be:=by
   intro s bc a t u bh;refine aH yo (zg u Je (by simp[lc]) bh (aF:=ab.h8) (by rw[R];rfl) ?_ (by simp[dn.h8]) ?_) ?_
   ·intro i d b f j;have bj:aT a dV x.pb ab.gj:=(h.gj.V q).V t;have bk:aT a dV af (ab.dY.map lL):=bd.V t;have V:aT a dV (T I 0 0) ([]:List ByteArray):=⟨I,0,rfl,B,Y rfl⟩;rw[R]at f;unfold dn.h8 at j;rcases i with _|_|_|_|_|_|i
    ·simp at f j;subst f;subst j;exact⟨h.dF,rfl,V⟩
    ·simp at f j;subst f;subst j;exact⟨h.iE,rfl,V⟩
    ·simp at f j;subst f;subst j;exact⟨h.cu,rfl,V⟩
    ·simp at f j;subst f;subst j;exact⟨h.cS,rfl,V⟩
    ·simp at f j;subst f;subst j;exact⟨rfl,rfl,bj⟩
    ·simp at f j;subst f;subst j;exact⟨rfl,rfl,bk⟩
    ·simp at f
   ·intro ap aB;simp[dn.h8]at aB;rcases aB with rfl|rfl|rfl|rfl|rfl|rfl<;>simp<;>omega
   intro aa ao v;unfold li at v;have b1:=(q.R t B).aI;cases k:g9 lc ab.h8 with
   |error e=>
    rw[k]at v;obtain⟨rfl,l⟩:=v;simp only[cV,cX];show li _ _ _ _ _;unfold li;rw[k];exact⟨rfl,(q.R t B).R l B⟩
   |ok fT=>
    rw[k]at v;obtain⟨ae,rfl,bl,bm,bn,l⟩:=v;simp only[cV,cX];show li _ _ _ _ _;unfold li;rw[k];exact⟨ae,rfl,bl,bm,λg k=>by have:=bn g k;omega,(q.R t B).R l B⟩
  have aD:[b6 #[F H x.dF,bO cg,T I 0 0],b6 #[F H x.iE,bO cg,T I 0 0],b6 #[F H x.cu,bO cg,T I 0 0],b6 #[F H x.cS,bO cg,T I 0 0],b6 #[F H 0,bO cg,x.pb],b6 #[F H 0,bO cg,af]]=ee.map ls:=by rw[R];rfl
  have aG:(ee.map ls).flatMap (λaa=>aa.cells.toList)=ee.flatMap fA:=by rw[List.flatMap_map];rfl
  have p:ee.length=6:=by rw[R];rfl
  have aI:∀aa∈ee.map ls,aa.cells.size=3:=by intro aa bo;obtain⟨ap,-,rfl⟩:=fS.1 bo;rfl
  refine⟨?_,?_⟩
  ·apply aH Gs IH;rintro s ao ⟨u,l⟩;have m:=(bD X).J l B;refine(dz mc (m.bh (af:=4))).2 ((dz bZ (m.bh (af:=3))).2 ((dz bZ (m.bh (af:=2))).2 ((dz Ak (m.bh (af:=1))).2 ((dz bZ (m.bh (af:=0))).2 (hw vN (ee.map ls) (by rw[<-aD];rfl) (by simp[p]) aI A A λJ n o aq=>?_)))));rw[aG]at n;exact aw _ _ _ ((av.R l B).R o B) (u.V o) ⟨_,_,by rw[p],by rw[p];exact fF _,Z ⟨_,_,rfl,n.cy⟩⟩
  ·refine hw vN (ee.map ls) (by rw[<-aD];rfl) (by simp[p]) aI A A λJ n o aq=>?_;rw[aG]at n;apply aH Gs IH;rintro s ar ⟨u,L⟩;exact aw _ _ _ ((av.R o B).R L B) u ⟨_,_,by rw[p],by rw[p];exact fF _,Z ⟨_,_,rfl,(n.J L B).cy⟩⟩
def ai4{ah:Int×ByteArray}:a0 C 233 #[qP ah] w λae a=>ae=aK (decide (ah.1<0))/\Q [] w a:=by refine a9 .D 1 Tryz.func233 K rfl λa1 b=>?_;simp+decide only[↓a8,ba,Tryz.f233];subst b;refine eA λaA c d f=>?_;obtain⟨e,g,h⟩:=ue (ah:=ah) c;simp only[M,e];exact⟨rfl,d⟩
def TF{x:kQ}{ab:dn}(h:ma w x ab)(i:vd ab):a0 C 181 #[je x] w λae a=>ae=aK ab.bt/\Q [] w a:=by
 refine a9 .D 1 Tryz.func181 K rfl λa1 b=>?_;simp+decide only[↓a8,ba,Tryz.f181];subst b;refine eA λaA n f r=>?_;have j:aC aA w.heap.size 37 (eb x):=n;obtain⟨s,t,u,v,y,z,o⟩:=hJ j;simp only[o];apply aH LV (TE (h.V f) i);intro ae ax c;unfold li at c;unfold dn.bt dn.dt;cases k:g9 lc ab.h8 with
 |error e=>
  rw[k]at c;obtain⟨rfl,d⟩:=c;simp only[cV,cX];apply(z7 dk).2;simp only[M];exact⟨rfl,f.R d B⟩
 |ok fT=>
  rw[k]at c;obtain⟨ae,rfl,am,A,D,d⟩:=c;have l:=f.R d B;obtain⟨J,L,R,V,W,p,X⟩:=hJ (j.J d B);simp only[cV,cX];apply(ry dk).2;simp only[M,p];refine aH (bu:=λae a=>ae=aK (ab.dY.any λah=>decide (ah.1<0))/\Q [] ax a) Y1 ?_ ?_
  ·refine a9 .D 2 Tryz.func232 K rfl λa1 b=>?_;simp+decide only[↓a8,ba,Tryz.f232];subst b;refine aH (bu:=λae a=>ae=F H (if ab.dY.findIdx (λah=>decide (ah.1<0))<ab.dY.length then(ab.dY.findIdx (λah=>decide (ah.1<0)):Int)else-1)/\Q [] ax a) Zx ?_ ?_
   ·refine a9 (.L .D (.L (.L .D (.aW (.cJ [8] .D))) .D)) 2 Tryz.func274 K rfl λa1 b=>?_;simp+decide only[↓a8,ba,Tryz.f274];subst b;exact CC SJ (ah:=λah=>decide (ah.1<0)) K (h.dY.V l) (by have:=i.2.1;omega) (λah _ a m=>ai4) (λa m=>⟨rfl,m⟩)
   rintro _ q ⟨rfl,g⟩;simp only[M,CD];exact⟨rfl,g⟩
  rintro _ q ⟨rfl,g⟩;simp only[M];exact⟨rfl,l.R g B⟩
def TG{ab:dn}(h:ab.bt=G):∃fT,g9 lc ab.h8=bA fT/\ab.ch=fT:=by
 have a:=h;unfold dn.bt dn.dt at h;unfold dn.ch dn.dt;cases b:g9 lc ab.h8 with
 |error e=>rw[b]at h;cases h
 |ok fT=>exact⟨fT,rfl,by rw[if_pos a];rfl⟩
def ai5{x:kQ}{ab:dn}(h:ma w x ab)(e:vd ab):a0 C 129 #[je x] w λae a=>nl w a ae ab.ch:=by
 refine a9 .D 1 Tryz.func129 K rfl λa1 k=>?_;simp+decide only[↓a8,ba,Tryz.f129];subst k;refine eA λaA l f u=>?_;have i:aC aA w.heap.size 37 (eb x):=l;obtain⟨v,y,z,A,D,J,m⟩:=hJ i;simp only[m];apply aH LT (TF (h.V f) e);rintro _ ax ⟨rfl,j⟩;have b:=f.R j B;obtain⟨L,Q,R,V,W,X,n⟩:=hJ (i.J j B);simp only[M,cG,n];refine⟨λo=>?_,λp=>?_⟩
 ·have:ab.ch=[]:=by unfold dn.ch;rw[if_neg (by simpa using o)]
  rw[this];exact⟨[],gJ _ _ _,B,b⟩
 ·obtain⟨fT,c,q⟩:=TG (ab:=ab) (by simpa using p);apply aH LV (TE (h.V b) e);intro ae ac d;unfold li at d;rw[c]at d;obtain⟨aa,rfl,am,r,s,t⟩:=d;simp only[cV,cX];rw[q];have:=b.aI;exact⟨am,r,λg c=>by have:=s g c;omega,b.R t B⟩
end Go.Proofs.YtepeilglbedgdaaGreatDoor.c7
namespace Go.Proofs.YtepeilglbedgdaaGreatDoor
open Go.X
attribute[local irreducible]Go.X.W
variable{dq ej:List Nat}{a w:aN}{a6 ab ah ai b b8 dB gi:Nat}{aB cp:Nat -> Bool}{aU:Type}{aa ae bc fL:S}{ac:S -> aN -> Prop}{al ay:Nat -> Nat -> Bool}{ap:kQ}{ar:co}{au:eW}{c:dR}{cz:ex}{d:dl}
section
open Go.RowKit fC gO
def lj(ab ah dB b8:Nat)(fL:S)(gi:Nat):List S:=[aP ab,aP ah,cT,aP dB,aP b8,fL,F H gi]
def ve(d:dl)(k:Int):kQ:=⟨max 0 (min d.dF 4294967295),k,0,0,T I 0 0,T I 0 0⟩
def vf:kQ:=⟨0,0,0,0,T I 0 0,T I 0 0⟩
section
variable{k:Int}{x:kQ}
def l0(h:aC w b ar (lj ab ah dB b8 fL gi)):
  (∀ac,aZ C (a4 63 (aE (E ⟨b,0,I⟩))) w ac↔ac (aP ab))/\(∀ac,aZ C (a4 132 (aE (E ⟨b,1,I⟩))) w ac↔ac (aP ah))/\(∀ac,aZ C (a4 73 (aE (E ⟨b,2,I⟩))) w ac↔ac cT)/\
  (∀ac,aZ C (a4 130 (aE (E ⟨b,3,I⟩))) w ac↔ac (aP dB))/\(∀ac,aZ C (a4 133 (aE (E ⟨b,4,I⟩))) w ac↔ac (aP b8))/\(∀ac,aZ C (a4 134 (aE (E ⟨b,5,I⟩))) w ac↔ac fL)/\(∀ac,aZ C (a4 3 (aE (E ⟨b,6,I⟩))) w ac↔ac (F H gi)):=
 ⟨λ_=>bl CP (h.bh (af:=0)),λ_=>bl FU (h.bh (af:=1)),λ_=>bl FT (h.bh (af:=2)),λ_=>bl K6 (h.bh (af:=3)),λ_=>bl Wd (h.bh (af:=4)),λ_=>bl K9 (h.bh (af:=5)),λ_=>bl bZ (h.bh (af:=6))⟩
def EW(d:dl)(k:Int)(w:aN):ma w (ve d k) (ki d k):=⟨rfl,rfl,rfl,rfl,aT.gW _ _,aT.gW _ _⟩
def TH:∀e:ex,(g0.ws e).getD (if g0.pH e (.dD 6)then 6 else 0)=e.a5
 |.dD k=>rfl
 |.lK d b c=>by simp[g0.ws,g0.pH,g0.lO,ex.a5]
 |.d2 d5 i e=>by have:=TH e;exact this
def Jf(b:jf w)(c:∀a,Q [] w a->ac (F H cz.a5) a):W C (ck 21 #[ff (E cz)]) w ac:=
 aH W7 (aiG (e:=cz) b) (by rintro _ a ⟨rfl,d⟩;rw[TH];exact c a d)
def qv(c:∀a,aC a w.heap.size 37 (eb vf)->Q [] w a->a.heap.size=w.heap.size+1->ac (aP w.heap.size) a):W C (hV 37) w ac:=
 gI CX λa b d e=>c a b d e
def mW(h:aC w b ar (eb ap))(i:x.pb.oneCell'=G)(j:x.mH.oneCell'=G)(c:∀a,aC a b ar (eb x)->Q [b] w a->a.heap.size=w.heap.size->ac bS a):W C (dC 37 (aE (E ⟨b,0,I⟩)) (je x)) w ac:=
 f0 (cv:=[]) (c5:=eb ap) (da:=[]) yf (by simpa using h) rfl rfl rfl (by intro ae d;simp[je,bF,eb]at d;rcases d with rfl|rfl|rfl|rfl|rfl|rfl<;>first|rfl|assumption) λa e f g=>c a (by simpa[je,bF]using e) f g
def ai6{i j:Int}:C.built 37 #[(0,F H i),(1,F H j)].toList=E (eb ⟨i,j,0,0,T I 0 0,T I 0 0⟩).toArray:=K
def ai7(h:jf w):a0 C 87 #[ho d bc,ff (E cz)] w λae a=>ae=je (ve d cz.a5)/\Q [] w a:=by refine a9 MI 2 Tryz.func87 K rfl λa1 i=>?_;simp+decide only[↓a8,ba,MI,Tryz.f87];subst i;refine sf λax e j q=>?_;refine qv λk l b r=>?_;have f:=j.R b B;obtain⟨m,_⟩:=gc (bD (e.J b B));simp only[M,m];have g:=cD [] k;refine Jf (h.V (f.R g B)) λs n=>?_;have c:=g.R n B;refine(dz bZ (((e.J b B).J c B).bh (af:=0))).2 ?_;refine(bY ai6).2 ?_;refine mW (x:=ve d cz.a5) (l.J c B) rfl rfl λt o p u=>?_;refine((c7.hJ o).2.2.2.2.2.2 _).2 ?_;exact⟨rfl,(f.R c B).R p (by simp;omega)⟩
def zp(b:jf w)(c:∀a,Q [] w a->ac (je (ve d cz.a5)) a):W C (ck 87 #[ho d bc,ff (E cz)]) w ac:=
 aH XI (ai7 b) (by rintro _ a ⟨rfl,e⟩;exact c a e)
end
def xH(c:dR)(ay al:Nat->Nat->Bool)(cp:Nat->Bool):Prop:=∀t,t<c.bd->(cp t=U->c.aJ<=bV (ia c ay t) c.aR)/\(cp t=G->bV (ia c al t) c.aR<c.aJ)
structure xI(w:aN)(b ab ah dB b8:Nat)(fL:S)(gi:Nat)(ej dq:List Nat)(c:dR)(au:eW)(aB:Nat->Bool)(ay al:Nat->Nat->Bool)(ai:Nat)(av:ji)(aX:c3):Prop where
 bg:aC w b 136 (lj ab ah dB b8 fL gi)
 ij:nJ w ah ej ab c au aB ay al ai av
 k1:iJ w dB dq aX
 kF:jf w
 cL:aX.bp 1024
 DX:ng av aX
 mt:c.aJ<=bV (λag=>!aB ag) c.aR
section
variable{av:ji}{aX:c3}{x:gZ}
def xI.V(h:xI w b ab ah dB b8 fL gi ej dq c au aB ay al ai av aX)(d:Q [] w a):xI a b ab ah dB b8 fL gi ej dq c au aB ay al ai av aX:=
 ⟨h.bg.J d B,h.ij.V d,h.k1.V d,h.kF.V d,h.cL,h.DX,h.mt⟩
def TI{aU:Type}{be:aU->List S}{a6:Nat}(a:∀x,(be x).length=a6):∀(ak:Nat)(l:List aU),(l.take ak).flatMap be=(l.flatMap be).take (ak*a6)
 |0,l=>B
 |ak+1,[]=>B
 |ak+1,ap::l=>by rw[List.take_succ_cons,iA,iA,TI a ak l,List.take_append,a,show(ak+1)*a6-a6=ak*a6 by rw[iM];omega,mv (l:=be ap) (by rw[a,iM];omega)]
def TJ{be:aU->List S}{l:List aU}{av:co}{ac:S->Prop}(k:gV C ar av=G)(ao:ep C av a6=G)(m:∀x,(be x).length=a6)(h:aT w be aa l){j:Int}(o:0<=j)(u:j<=l.length)
  (p:∀ae,aT w be ae (l.take j.toNat)->(∃d c,ae=T d j.toNat c)->(∀b af n c,ae=T (E ⟨b,af,I⟩) n c->∃q a f,aa=T (E ⟨b,q,I⟩) a f)->ac ae):aV C (l5 ar aa I (E (F H j)) I) ac:=by
 obtain⟨d,c,rfl,v,r⟩:=h;refine(z9 k ao o A).2 (p _ ?_ ⟨_,_,rfl⟩ ?_)
 case refine_2=>
  intro b af a f e;split at e
  ·simp only[zI]at e;exact⟨af,l.length,c,by rw[e.1]⟩
  ·simp only[zI,Option.map_eq_some_iff]at e;obtain⟨⟨ap,s,g⟩,_⟩:=e;subst s;rw[Nat.zero_mul,show ap.add 0=ap by simp[Addr.add]]at g;subst g;exact⟨af,l.length,c,rfl⟩
 have i:(l.take j.toNat).length=j.toNat:=by rw[ea];omega
 refine⟨_,c,by rw[i],by rw[i];omega,?_⟩;rcases r with rfl|⟨b,af,rfl,t⟩
 ·exact Y B
 ·right;refine⟨b,af,by split<;>simp[Addr.add],?_⟩;have e:=TI m j.toNat l;rw[e];have:=t.d1 0 (j.toNat*a6);simpa using this
def Jg(h:aC w b 354 (it x)):(∀ac,aZ C (a4 3 (aE (E ⟨b,0,I⟩))) w ac↔ac (F H x.cu))/\(∀ac,aZ C (a4 3 (aE (E ⟨b,3,I⟩))) w ac↔ac (F H x.e4))/\(∀ac,aZ C (a4 3 (aE (E ⟨b,4,I⟩))) w ac↔ac (F H x.yq))/\(∀ac,aZ C (a4 354 (aE (E ⟨b,0,I⟩))) w ac↔ac (lt x)):=
 ⟨λ_=>bl bZ (h.bh (af:=0)),λ_=>bl bZ (h.bh (af:=3)),λ_=>bl bZ (h.bh (af:=4)),λ_=>gC (l:=it x) uL h.cy⟩
def Jh(av:ji)(cp:Nat->Bool)(x:gZ)(a:aN)(ae:S):Prop:=match pp av cp x with
 |none=>∃cz:ex,cz.a5=6/\ae=bQ #[T I 0 0,ff (E cz)]
 |some ag=>∃b,ae=bQ #[b,cT]/\aT a bs b ag
def ai8(h:xI w b ab ah dB b8 fL gi ej dq c au aB ay al ai av aX)(ao:xH c ay al cp)(aa:xl av x):
  a0 C 205 #[aP b,lt x] w λae a=>Q [] w a/\Jh av cp x a ae:=by
 obtain⟨t,i,ap,e,q,r,f,s,u,aW⟩:=aa.gm;obtain⟨l,k,m⟩:∃l,av[t]?=E l/\l[i]?=E ap:=by
  unfold sO at f;cases v:av[t]? with
  |none=>rw[v]at f;cases f
  |some l=>rw[v]at f;exact⟨l,rfl,f⟩
 obtain⟨ac,y⟩:=fi.1 k;obtain⟨ad,af⟩:=fi.1 m;have z:t<c.bd:=by have:=h.ij.BC.dT;omega
 obtain⟨D,aY⟩:=h.ij.cL;have ag:ap.length<=4611686018427387904:=by have aZ:=xk.1 (h.ij.BC.e0 _ (gP k));have:=AP (gP m);have:=D.jY;have:=D.i6;omega
 have aj:pp av cp x=if cp t then I else E e.bk.ch:=by unfold pp;rw[q,r];simp only[hf];rw[gp,k,om,m];simp only[s,if_pos u]
 refine a9 NE 2 Tryz.func205 K rfl λa1 ak=>?_;simp+decide only[↓a8,ba,NE,Tryz.f205];subst ak;refine eA λax n am a2=>?_;have n:aC ax w.heap.size 354 (it x):=by simpa[lt,bF]using n
 have an:=cD [] ax;have J:=am.R an B;have L:=h.V J;obtain⟨a3,aq,ar,a4⟩:=Jg (bD n);simp only[M,(l0 L.bg).2.1,aq,ar];rw[q,r];apply aH Za (ahg L.ij h.mt ac (by rw[y];exact ad));rintro _ aw ⟨az,aA⟩;have R:=J.R az B;unfold Jh;rw[aj];rcases aA with⟨bm,rfl,o,a5⟩|⟨cz,aD,a6,rfl⟩
 ·have p:cp t=U:=by
   cases g:cp t with
   |false=>rfl
   |true=>have:=(ao t z).2 g;omega
  have o:aT aw bs bm ap:=by simpa only[y,af]using o
  simp only[cV,cX,p];apply(fp dk).2;simp only[M];refine I1 o ag λae aF j=>?_;obtain⟨aG,j⟩:=j;rw[s]at j;obtain⟨cm,rfl,V,a7,bb⟩:=j;have aI:cm.oneCell'=G:=by obtain⟨d,c,rfl,_⟩:=id V;rfl
  simp only[cV,cX];refine uf λbc aJ aL bd=>s3 aJ rfl aI λW aM aO be=>?_;have X:Q [] aF W:=aL.R aO B;obtain⟨aor,bf,bg,bh,bi,bj,bk,aQ,bl⟩:=ik aM;refine bT (λaR a=>aR=[aK U]/\W=a) ?_ ?_
  ·apply(fp dk).2;simp only[M,aor,u];exact⟨by trivial,by trivial⟩
  rintro _ _ _ ⟨rfl,rfl⟩;simp only[M,aQ];exact c7.SF (V.V X) A λaS bn aU aV=>⟨((R.R aG B).R X B).R aV B,aS,rfl,aU⟩
 ·have p:cp t=G:=by
   cases g:cp t with
   |true=>rfl
   |false=>have:=(ao t z).1 g;omega
  simp only[cV,cX,p];refine oF.2 (cG.2 ⟨λ_=>?_,λg=>(by cases g)⟩);exact⟨R,cz,aD,rfl⟩
end
end
end Go.Proofs.YtepeilglbedgdaaGreatDoor
