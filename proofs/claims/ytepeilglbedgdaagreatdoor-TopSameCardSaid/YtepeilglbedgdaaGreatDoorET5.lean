import Derived.Sort.KeysCollected
import Derived.Maps.Own
import Derived.Sort.Walk0
import Derived.Below
import Derived.Laws.AppendOwn
import Derived.Shelf.SlIter.Nil
import Derived.Shelf.SortM.Plain
import Derived.Shelf.SortM.SortNone
import Derived.Test.YtepeilglbedgdaaGreatDoorET4
/- A part of the proof of this claim: it states and proves what the walk through the program uses. Its names are short ones that a program gave. The last part proves the card: for every input the call returns true, and each argument reads behind the call as it read before. -/
set_option linter.defProp false
set_option linter.all false
set_option maxRecDepth 100000
set_option maxHeartbeats 2000000
open Array renaming length_toList->tj
open Bool renaming and_eq_true->dA,false->U,false_eq_true->fc,not_false->lE,not_true->hq,or_eq_true->pP,true->G
open ByteArray renaming mk->eS,size->vv
open Except renaming error->b5,ok->bA
open Go renaming Addr->es,IntKind->iz,Next->fD,Program->ft,TypeId->co,Value->S,World->aN,grownCap->jz,maxLen->d0,run_underlying->fK,undef->bS
open Go.Builtin renaming append->lp,append_->pQ,zeroCells->nq
open Go.Ending renaming returned->gd
open Go.IntKind renaming i64->H,u32->hS,u64->hr,u8->cl
open Go.Next renaming value->fw
open Go.Obj renaming cells->amv
open Go.Proofs.Tryz renaming prog->C
open Go.Result renaming ok->bN
open Go.Value renaming agg->b6,bool->aK,cells->bF,int->F,map->eB,nilIface->cT,pointer->aE,slice->T,string->bO,tuple->bQ
open Go.Value.slice renaming injEq->zI
open Int renaming eq_ofNat_of_zero_le->nL,natCast_mul->uq,toNat_natCast->hf
open List renaming all_eq_true->pO,append_assoc->gq,append_nil->kJ,cons_append->jN,drop_drop->oq,drop_eq_getElem_cons->ot,drop_length->aoh,eq_nil_of_length_eq_zero->rc,flatMap_append->hL,flatMap_cons->iA,getD_eq_getElem?_getD->gp,getElem?_append_left->pR,getElem?_append_right->nr,getElem?_drop->oo,getElem?_eq_getElem->cr,getElem?_eq_none->jy,getElem?_eq_some_iff->fi,getElem?_map->e1,getElem?_set->pT,getElem_mem->dX,getElem_of_mem->ns,length->jm,length_append->di,length_cons->gF,length_drop->e8,length_map->dU,length_nil->tl,length_replicate->tt,length_set->i9,length_singleton->nt,length_take->ea,map_append->g6,map_congr_left->amO,map_cons->ge,map_map->ts,map_nil->tp,map_set->qB,mem_append->b4,mem_append_left->hg,mem_append_right->h3,mem_cons->ce,mem_cons_of_mem->ev,mem_cons_self->fE,mem_map->fS,mem_map_of_mem->mz,mem_of_getElem?->gP,mem_of_mem_drop->tr,mem_singleton->ku,nil_append->m2,not_mem_nil->iZ,replicate->cN,set_append_right->sr,set_cons_zero->aoi,take_append_drop->l3,take_left->tk,take_length->j3,take_of_length_le->mv,take_succ_eq_append_getElem->jO
open Nat renaming add_assoc->sp,add_mul->iM,add_zero->qA,le_refl->fF,le_trans->gz,lt_of_lt_of_le->iL,min_eq_left->my,mul_le_mul_right->mw,mul_one->gA,one_mul->sq,sub_self->k6,zero_add->gQ
open Option renaming bind_some->tg,getD_some->om,isSome_none->wH,isSome_some->vu,map_some->m1,none->I,some->E
open Option.some renaming injEq->vq
open Or renaming inl->Y,inr->Z
open Pure renaming pure->fh
open UInt8 renaming ofNat->ed,toNat_ofNat'->mx
open Go
namespace Go.Proofs.YtepeilglbedgdaaGreatDoor
open Go.X
attribute[local irreducible]Go.X.W
variable{gG:Int}{bJ bU dq ej:List Nat}{a aA bv w:aN}{ab ah ai b b8 dB dj g7 gi iO:Nat}{aB cp:Nat -> Bool}{aa ae bc fL:S}{ac:S -> aN -> Prop}{al ay:Nat -> Nat -> Bool}{ap:kQ}{ar:co}{au:eW}{c:dR}{d:dl}
section
open Go.RowKit fC gO
variable{ao:List gZ}{aw:eI}{h:gZ}
section
variable{av:ji}{aX:c3}{x:gZ}
def ai9:eH C 356 354 5 it lt:=eH.rx tO rB pf uL
def TK(h:kz w g7 aw bJ)(k:ac (F H aw.hE) w):W C (ck 203 #[aP g7]) w ac:=aH YE (aa7 h) (by rintro _ _ ⟨rfl,rfl⟩;exact k)
def BO(h:kz w g7 aw bJ)(k:ac (F H aw.cS) w):W C (ck 144 #[aP g7]) w ac:=aH Ye (aa8 h) (by rintro _ _ ⟨rfl,rfl⟩;exact k)
def EX{i j ak:Int}:C.built 37 #[(0,F H i),(2,F H j),(3,F H ak)].toList=E (eb ⟨i,0,j,ak,T I 0 0,T I 0 0⟩).toArray:=K
def aja{i:Int}{s:ByteArray}:C.built 70 #[(0,F H i),(1,bO s)].toList=E (X.hX (i,s)).toArray:=K
def TL{ag:List UInt8}(h:pp av cp x=E ag):ag.length<=1000:=by
 unfold pp at h;split at h
 ·cases h
 ·split at h
  ·cases h
  ·split at h
   ·cases h
   ·split at h
    ·cases h;exact cw.O9 _
    ·cases h
def BP{dM:List (Int×ByteArray)}:rI av cp gG dj dM (h::ao)=match pp av cp h with
 |none=>if dM.isEmpty then I else E dM
 |some ag=>if dM.isEmpty=U/\gG<(dj+ag.length:Nat)then E dM else rI av cp gG (dj+ag.length) (dM++[(h.cu,h7 ag)]) ao:=rfl
def qw(bv a:aN)(ad:dn)(ae:S):Prop:=∃x,ae=je x/\ma a x ad/\gx bv.heap.size x.pb/\gx bv.heap.size x.mH
def s7{an:Nat}:gx an (T I 0 0):=λb af n c e=>by cases e
def qw.J{ad:dn}(h:qw bv w ad ae)(i:Q bU w a)(j:∀g∈bU,g<bv.heap.size):qw bv a ad ae:=by obtain⟨x,rfl,d,k,l⟩:=h;exact⟨x,rfl,⟨d.dF,d.iE,d.cu,d.cS,d.gj.J i (λb af n c e f=>by have:=k b af n c e;have:=j b f;omega),d.dY.J i (λb af n c e f=>by have:=l b af n c e;have:=j b f;omega)⟩,k,l⟩
def qw.bw{ad:dn}(h:qw aA w ad ae)(a:bv.heap.size<=aA.heap.size):qw bv w ad ae:=by obtain⟨x,rfl,b,c,d⟩:=h;exact⟨x,rfl,b,c.bw a,d.bw a⟩
def ajb{e:Int}(h:aC w iO ar (eb ap))(k:∀a,aC a iO ar (eb {ap with iE:=e})->Q [iO] w a->a.heap.size=w.heap.size->ac bS a):W C (dC 33 (aE (E ⟨iO,1,I⟩)) (F H e)) w ac:=
 eK Al h (by simp[eb]) rfl λa b c d=>k a (by simpa[eb]using b) c d
def ajc(h:aC w iO ar (eb ap))(b:aa.oneCell'=G)(k:∀a,aC a iO ar (eb {ap with mH:=aa})->Q [iO] w a->a.heap.size=w.heap.size->ac bS a):W C (dC 35 (aE (E ⟨iO,5,I⟩)) aa) w ac:=
 eK K1 h (by simp[eb]) b λa c d e=>k a (by simpa[eb]using c) d e
def ajd(k:∀a,aC a w.heap.size 354 (it h)->Q [] w a->ac (aP w.heap.size) a):
  W C (hV 354) w λaa aA=>W C (dC 354 aa (lt h)) aA λ_ ax=>ac aa ax:=by
 exact gI C1 λaA b c f=>f0 (cv:=[]) (c5:=it ys) (da:=[]) rB b rfl rfl rfl (yr h) λax d e g=>k ax (by simpa[lt,bF]using d) (c.R e B)
def aje(h:xI w b ab ah dB b8 fL gi ej dq c au aB ay al ai av aX)(ao:xH c ay al cp)(be:kz w g7 aw bJ)(ca:aw.bp)(c3:aw.eC.length<=1024)(cb:∀x∈aw.eC,xl av x):
  a0 C 146 #[aP b,ho d bc,aP g7] w λae a=>qw w a (mO av cp d aw) ae/\Q [] w a:=by
 refine a9 Nb 3 Tryz.func146 K rfl λa1 cc=>?_;simp+decide only[↓a8,ba,Nb,Tryz.f146];subst cc;refine sf λax cf cg c4=>qv λad ch bf c5=>?_;have aV:=cg.R bf B;have aW:=cf.J bf B;have L:=cD [] ad;have c6:w.heap.size<ax.heap.size:=A;generalize c8:w.heap.size=ci at*;generalize da:ax.heap.size=aY at*;refine bT (λo a=>∃iO,o=[aP iO]/\aC a iO 37 (eb ⟨d.dF,0,aw.hE,aw.cS,T I 0 0,T I 0 0⟩)/\aY<iO/\Q [] ad a) ?_ ?_
 ·obtain⟨cj,_⟩:=gc (bD aW);simp only[M,cj];have db:ad.drew.heap.size=ad.heap.size:=rfl;have z:∀{t:aN}{aO:Prop},Q [] ad t->(gu C (a4 3 (aE (E ⟨ci,0,I⟩))) (F H d.dF) t aO↔aO):=λaZ=>dz bZ ((aW.J aZ B).bh (af:=0));have an:∀{t:aN},Q [] ad t->kz t g7 aw bJ:=λaZ=>be.V (aV.R aZ B);refine⟨?_,?_⟩
  ·refine TK (an L) ((z L).2 ⟨?_,?_⟩)
   ·refine BO (an L) ((z L).2 ((bY EX).2 (qv λt D u bg=>?_)));have j:=L.R u B;exact(z j).2 (mW (x:=⟨d.dF,0,aw.hE,aw.cS,T I 0 0,T I 0 0⟩) D rfl rfl λv aq r bh=>⟨_,rfl,aq,A,j.R r B⟩)
   ·refine qv λt D u bg=>?_;have j:=L.R u B;exact(z j).2 (BO (an j) ((z j).2 ((bY EX).2 (mW (x:=⟨d.dF,0,aw.hE,aw.cS,T I 0 0,T I 0 0⟩) D rfl rfl λv aq r bh=>⟨_,rfl,aq,A,j.R r B⟩))))
  ·refine qv λt D u bg=>?_;have j:=L.R u B;exact(z j).2 (TK (an j) ((z j).2 (BO (an j) ((z j).2 ((bY EX).2 (mW (x:=⟨d.dF,0,aw.hE,aw.cS,T I 0 0,T I 0 0⟩) D rfl rfl λv aq r bh=>⟨_,rfl,aq,A,j.R r B⟩))))))
 rintro _ _ t ⟨iO,rfl,D,dc,u⟩;have bj:=aV.R u B;have bk:=aW.J u B;have ck:=ch.J u B;obtain⟨bl,bn,bo,bp,br,bs,bt,a2,a3,bu,bv,a5⟩:=gc bk;simp only[M,a2];apply aH YF (abb (af:=d.cW) (be.V bj) ca A);rintro _ v ⟨de,rfl,bw,r,cm⟩;have ar:=bj.R r B;have bx:=bk.J r B;have aG:=ck.J r B;have aI:=D.J r B;have df:=D.aL;simp only[cV,cX];by_cases aj:aw.mg d.cW=0
 case neg=>
  have p:pi AC (aw.mg d.cW)=E (.d2 AC 0 (.dD (aw.mg d.cW))):=by unfold pi yv;rw[if_neg aj]
  rw[p];refine oF.2 (cG.2 ⟨λ_=>?_,λs=>(by cases s)⟩);refine Jf (h.kF.V ar) λaJ k=>?_;simp only[M,ex.a5];refine ajb (aI.J k B) λbz ak J cn=>((c7.hJ ak).2.2.2.2.2.2 _).2 ?_;have a6:aY∉[iO]:=by simp;omega
  refine mW (x:=⟨d.dF,aw.mg d.cW,aw.hE,aw.cS,T I 0 0,T I 0 0⟩) ((aG.J k B).J J a6) rfl rfl λcd cq aL dg=>((c7.hJ cq).2.2.2.2.2.2 _).2 ⟨⟨_,rfl,?_,s7,s7⟩,((ar.R k B).R J (by simp;omega)).R aL (by simp;omega)⟩;unfold mO;rw[if_neg aj];exact⟨rfl,rfl,rfl,rfl,aT.gW _ _,aT.gW _ _⟩
 case pos=>
  have p:pi AC (aw.mg d.cW)=I:=by unfold pi;rw[if_pos aj]
  rw[p];apply(fp dk).2;obtain⟨dh,dl,rfl,dm,dn⟩:=id bw;refine cG.2 ⟨λs=>(by cases s),λ_=>?_⟩;have cs:∀ap∈(aw.jd d.cW).take 4,xl av ap:=λap ct=>by have:=List.mem_of_mem_take ct;unfold eI.jd at this;rw[if_pos aj]at this;exact cb ap (tr this)
  have cu:((aw.jd d.cW).take 4).length=min (aw.jd d.cW).length 4:=by rw[ea];omega
  refine bT (λo a=>∃(dM:List (Int×ByteArray))(aa:S)(aD:List Nat),o=[]/\rI av cp d.gK 0 [] ((aw.jd d.cW).take 4)=E dM/\aC a iO 37 (eb ⟨d.dF,0,aw.hE,aw.cS,T I 0 0,aa⟩)/\bP a 70 2 aa dM.length (dM.flatMap X.hX) aD/\dM.length<=4/\(∀g∈aD,v.heap.size<=g)/\Q [iO] v a) ?_ ?_
  ·simp only[M];rw[show min ((aw.jd d.cW).length:Int) 4=((min (aw.jd d.cW).length 4:Nat):Int)by omega];refine TJ tO rB pf bw A A λdp aM cv cw=>?_;obtain⟨cx,cy,rfl⟩:=cv;rw[hf]at aM⊢;have cA:(aw.jd d.cW).take (min (aw.jd d.cW).length 4)=(aw.jd d.cW).take 4:=by rw[Nat.min_comm,List.take_eq_take_min (l:=aw.jd d.cW) (i:=4)]
   rw[cA]at aM;generalize cB:(aw.jd d.cW).take 4=m at*;have bB:∀b af n c,T cx (min (aw.jd d.cW).length 4) cy=T (E ⟨b,af,I⟩) n c->b∉[iO]:=by intro bC bE bG bH e az;obtain⟨dr,aoy,ds,cE⟩:=cw _ _ _ _ e;have:=cm _ _ _ _ cE;simp at az;omega
   rw[<-cu]at aM bB⊢;simp only[M];have cF:m.length<=4:=A;refine c1 (λo a=>∃(dj i:Nat)(dM:List (Int×ByteArray))(aa:S)(aD:List Nat),o=[F H dj,F H i]/\i<=m.length/\dj<=i*1000/\dM.length=i/\rI av cp d.gK 0 [] m=rI av cp d.gK dj dM (m.drop i)/\aC a iO 37 (eb ⟨d.dF,0,aw.hE,aw.cS,T I 0 0,aa⟩)/\bP a 70 2 aa dM.length (dM.flatMap X.hX) aD/\(∀g∈aD,v.heap.size<=g)/\Q [iO] v a) (λo _=>match o with|[_,F _ i]=>m.length-i.toNat|_=>0)
    ⟨0,0,[],_,[],rfl,A,A,rfl,rfl,aI,gJ _ _ _,B,.b0 _ _⟩ ?_
   rintro _ _ aJ ⟨dj,i,dM,aa,aD,rfl,al,dt,du,f,aQ,R,y,k⟩;have bI:Q [] w aJ:=ar.R k (by simp;omega);have cH:=h.V bI;simp only[M,bi];refine⟨λdv=>?_,λdw=>?_⟩
   ·have a7:i<m.length:=A;apply(ai9.ek (aM.J k bB) (Q.b0 _ _) a7).2;have cI:xl av m[i]:=cs _ (dX a7);have cJ:m.drop i=m[i]::m.drop (i+1):=ot a7;rw[cJ]at f;generalize m[i]=ap at*;refine ajd (h:=ap) λbz ak J=>?_;obtain⟨bK,_,_,bL⟩:=Jg ak;simp only[bL];apply aH YG (ai8 (cH.V J) ao cI);rintro dx cd ⟨aL,aA⟩;have V:Q [] aJ cd:=J.R aL B;have aR:Q [iO] v cd:=k.R V B;have bM:Q [] w cd:=bI.R V B;have am:=aQ.J V B;have aS:=R.J V B;obtain⟨cK,cC,bR,_⟩:=id aS.jD;unfold Jh at aA;rw[BP]at f;cases bb:pp av cp ap with
    |none=>
     rw[bb]at aA f;obtain⟨cz,cL,rfl⟩:=aA;simp only[cV,cX];simp only[M];refine bT (λo a=>o=[aK (!dM.isEmpty)]/\cd=a) ?_ ?_
     ·obtain⟨a1,bU,bV,bW,bX,aF,b0⟩:=c7.hJ am;simp only[M,aF];rw[bR];simp only[M,bi];refine⟨λW=>?_,λW=>⟨?_,by trivial⟩⟩
      ·refine oF.2 (cG.2 ⟨λ_=>⟨?_,by trivial⟩,λs=>(by cases s)⟩);cases dM with
       |nil=>simp at W
       |cons ap l=>rfl
      ·cases dM with
       |nil=>rfl
       |cons ap l=>simp at W
     rintro _ _ _ ⟨rfl,rfl⟩;simp only[M];refine cG.2 ⟨λp=>?_,λp=>?_⟩
     ·rw[if_neg (by simpa using p)]at f;exact⟨dM,aa,aD,by trivial,f,am,aS,A,y,aR⟩
     ·rw[if_pos (by simpa using p)]at f;refine oF.2 (cG.2 ⟨λ_=>?_,λs=>(by cases s)⟩);obtain⟨bl,bn,bo,bp,br,bs,bt,a2,a3,bu,bv,a5⟩:=gc ((bx.J k (by simp;omega)).J V B);simp only[a5];refine zp (h.kF.V bM) λb1 ac=>mW (x:=ve d cz.a5) (((aG.J k (by simp;omega)).J V B).J ac B) rfl rfl λcM cO aU dy=>((c7.hJ cO).2.2.2.2.2.2 _).2 ⟨⟨_,rfl,?_,s7,s7⟩,(bM.R ac B).R aU (by simp;omega)⟩;unfold mO;rw[if_pos aj,cB,f,cL];exact EW _ _ _
    |some ag=>
     rw[bb]at aA f;obtain⟨dC,rfl,b2⟩:=aA;have eu:=TL bb;simp only[cV,cX];obtain⟨dD,dF,cP,_⟩:=id b2;subst cP;simp only[M];rw[bq A A];refine bT (λo a=>o=[aK (decide (dM.isEmpty=U/\d.gK<(dj+ag.length:Nat)))]/\cd=a) ?_ ?_
     ·obtain⟨a1,bU,bV,bW,bX,aF,b0⟩:=c7.hJ am;simp only[M,aF];rw[bR];simp only[M,bi];refine⟨λW=>?_,λW=>⟨?_,by trivial⟩⟩
      ·apply(fp dk).2;obtain⟨bl,bn,bo,bp,br,bs,bt,a2,a3,bu,bv,a5⟩:=gc ((bx.J k (by simp;omega)).J V B);simp only[M,a3];refine⟨?_,by trivial⟩;congr 2;rw[decide_eq_decide];have:dM.isEmpty=U:=by cases dM with
        |nil=>simp at W
        |cons ap l=>rfl
       constructor
       ·intro cQ;exact⟨this,A⟩
       ·rintro⟨_,cQ⟩;omega
      ·cases dM with
       |nil=>rfl
       |cons ap l=>simp at W
     rintro _ _ _ ⟨rfl,rfl⟩;simp only[M,bi];refine⟨λp=>?_,λp=>?_⟩
     ·simp only[if_pos p]at f;exact⟨dM,aa,aD,by trivial,f,am,aS,A,y,aR⟩
     ·simp only[if_neg p]at f;apply(fp dk).2;obtain⟨a1,bU,bV,bW,bX,aF,b0⟩:=c7.hJ am;obtain⟨bK,_,_,bL⟩:=Jg (ak.J aL B);simp only[M,aF,bK];refine(w3 IW n8 b2).2 ((bY aja).2 (hw C3 [b6 (X.hX (ap.cu,h7 ag)).toArray] rfl rfl (by intro bm b3;simp at b3;subst b3;rfl) A A λb1 bd ac dG=>?_));have bd:aC b1 cd.heap.size 70 (X.hX (ap.cu,h7 ag)):=by simpa[bF]using bd
      refine m8 C3 (aS.J ac B) bd.cy rfl (X.Ae _) A (by unfold d0;omega) A λdd cM ez cR aU cS cU=>?_;have cW:iO∉aD:=λs=>by have:=y _ s;have:=aI.aL;omega
      refine ajc ((am.J ac B).J aU cW) cU λdH cY b7 dK=>?_;try simp only[M]
      rw[bq A A];have dL:=aR.aI;have dN:=ac.aI;have b9:∀g∈ez,v.heap.size<=g:=λg q=>(cS g q).elim (y g) (λs=>A);refine⟨⟨dj+ag.length,i+1,dM++[(ap.cu,h7 ag)],dd,ez,by trivial,A,A,by simp;omega,f,cY,?_,b9,?_⟩,by simp;omega⟩
      ·have cZ:(dM++[(ap.cu,h7 ag)]).flatMap X.hX=dM.flatMap X.hX++X.hX (ap.cu,h7 ag):=by rw[hL];simp
       rw[cZ,di];exact cR.J b7 (λg q az=>by have:=b9 g q;have:=aI.aL;simp at az;omega)
      ·exact((aR.R (ac.bw (dE:=[iO]) B) (λg q=>Y q)).R aU (λg q=>Z (y g q))).R b7 (λg q=>Y q)
   ·have c0:i=m.length:=A;refine⟨dM,aa,aD,by trivial,?_,aQ,R,A,y,k⟩;rw[f,c0,aoh];rfl
  rintro _ _ aJ ⟨dM,aa,aD,rfl,f,aQ,R,cF,y,k⟩;have c2:aa.oneCell'=G:=by obtain⟨cK,cC,rfl,_⟩:=R.jD;rfl
  apply((c7.hJ aQ).2.2.2.2.2.2 _).2;have a6:aY∉[iO]:=by simp;omega
  refine mW (x:=⟨d.dF,0,aw.hE,aw.cS,T I 0 0,aa⟩) (aG.J k a6) rfl c2 λbz ak J cn=>((c7.hJ ak).2.2.2.2.2.2 _).2 ?_;have dO:=ar.aI;have dP:=aV.aI;refine⟨⟨_,rfl,?_,s7,gx.c4 R (λg q=>gz A (y g q))⟩,(ar.R k (by simp;omega)).R J (by simp;omega)⟩;unfold mO;rw[if_pos aj,f];exact⟨rfl,rfl,rfl,rfl,aT.gW _ _,(R.eF X.CK A).J J (λbC bE bG bH e az=>by
   have:=R.rt bC bE bG bH e;have:=y _ this;have:=aG.aL;simp at az;omega)⟩
end
end
end Go.Proofs.YtepeilglbedgdaaGreatDoor
namespace Go.X
variable{w:aN}{a6 ab n:Nat}{aS:List S}{aU:Type}{aa:S}{ad:ft}{av:co}
section
open Go.RowKit
def hx.anL{bI:aU->S}{l:List (ByteArray×aU)}{gS:co}(h:hx w ab (λs=>bO s) bI l)(n:ad.underlying gS=E .string)(ao:∀ah∈l,ah.1.size<=d0)(J:l.length<=d0):
  ∃aq:DataW Unit,w.ownsMap ad gS (λ_=>E (.nil,[])) ab l.length aq/\Maps.size aq=l.length/\(strKeys aq).Perm (l.map λah=>ah.1.data.toList):=by
 obtain⟨bx,c,dK,o,p,q,j,f,r⟩:=h;have t:=(G8 j).trans f.length_eq;have g:bx.toList.map (·.key)=dK.map λah=>bO ah.1:=by have:=congrArg (List.map (·.1)) j;simpa[ts,Function.comp_def,hW,kg]using this
 have u:(dK.map (·.1)).Nodup:=((f.map _).nodup_iff).2 r;have k:∀x∈bx.toList,∃s:ByteArray,x.key=bO s/\s.size<=d0:=by intro x a;have:x.key∈bx.toList.map (·.key):=mz a;rw[g]at this;obtain⟨ah,v,e⟩:=fS.1 this;exact⟨ah.1,e.symm,ao ah (f.mem_iff.1 v)⟩
 have m:∀x∈bx.toList,∀s:ByteArray,x.key=bO s->s.size<=d0->WideElems.rd (H:=Unit) ad gS (λ_=>E (.nil,[])) x=E (.string s.data.toList,.nil):=by intro x a s e ao;simp[WideElems.rd,e,keyOf,n,mapKey,ao]
 refine⟨.map ((bx.toList.map (WideElems.rg ad gS λ_=>E (.nil,[]))).foldr DataW.insert []),⟨bx,c,o,⟨A,⟨p,q,?_⟩,λx a=>?_⟩,A,rfl⟩,?_,?_⟩
 ·rw[g];have:(dK.map λah=>bO ah.1)=(dK.map (·.1)).map bO:=B;rw[this];apply u.map _;intro d b y z;exact y (by injection z)
 ·obtain⟨s,e,i⟩:=k x a;exact⟨_,m x a s e i⟩
 ·simp[Maps.size,length_sorted,t]
 ·show List.Perm (List.map _ _) _;apply((Go.WideShapes.sorted_perm _).map _).trans;rw[ts];have:bx.toList.map ((λah=>strOf ah.1)∘WideElems.rg (H:=Unit) ad gS λ_=>E (.nil,[]))=dK.map λah=>ah.1.data.toList:=by
   have D:(dK.map λah=>ah.1.data.toList)=(bx.toList.map (·.key)).map λaa=>match aa with|bO s=>s.data.toList|_=>[]:=by rw[g,ts];rfl
   rw[D,ts];refine amO λx a=>?_;obtain⟨s,e,i⟩:=k x a;simp[WideElems.rg,m x a s e i,strOf,e]
  rw[this];exact f.map _
def anM{a:Nat}(h:w.ownsRow a av a6 aa n aS):∃am,bP w av a6 aa n aS am/\∀g∈am,a<=g:=by
 obtain⟨b,c⟩:=h;rcases c with⟨rfl,d⟩|⟨g,bL,cf,rfl,e,f,i,j,ao,k⟩
 ·exact⟨[],⟨b,Y ⟨rfl,d,rfl⟩⟩,B⟩
 ·refine⟨[g],⟨b,Z ⟨g,0,bL,cf.toList,rfl,rfl,?_,i,j,?_,?_⟩⟩,by simpa using e⟩
  ·unfold aC;simpa using f
  ·simp[ao]
  ·simpa using k
def anN{a:List (List UInt8)}{l:List ByteArray}(h:a.Perm (l.map λs=>s.data.toList)):
  (a.mergeSort λx ap=>decide (x<=ap)).map (λb=>bO ⟨b.toArray⟩)=(ab3 l).map bO:=by
 have g:(a.mergeSort λx ap=>decide (x<=ap)).Perm a:=List.mergeSort_perm _ _;have ao:(a.mergeSort λx ap=>decide (x<=ap)).Pairwise (λx ap=>decide (x<=ap)=G):=
  List.pairwise_mergeSort (λd b c i j=>by simp only[decide_eq_true_eq]at*;exact List.le_trans i j) (λd b=>by simp only[pP,decide_eq_true_eq];exact List.le_total d b) a
 generalize a.mergeSort (λx ap=>decide (x<=ap))=ak at*;have e:ak.map (λb=>bO ⟨b.toArray⟩)=(ak.map λb=>(⟨b.toArray⟩:ByteArray)).map bO:=by rw[ts];rfl
 rw[e];congr 1;refine anj ?_ ?_
 ·unfold amC;rw[List.pairwise_map];refine ao.imp λ{x ap} f=>?_;rw[decide_eq_true_eq]at f;unfold ab2;rw[Go.Proofs.bytesLess_eq,Lib.toList_data,Lib.toList_data];exact decide_eq_false (List.not_lt.2 f)
 ·have:=(g.trans h).map λb:List UInt8=>(⟨b.toArray⟩:ByteArray);rw[ts]at this;have k:l.map ((λb:List UInt8=>(⟨b.toArray⟩:ByteArray))∘λs:ByteArray=>s.data.toList)=l:=by rw[show((λb:List UInt8=>(⟨b.toArray⟩:ByteArray))∘λs:ByteArray=>s.data.toList)=id from funext λs=>by cases s;simp];exact List.map_id _
  rwa[k]at this
end
end Go.X
namespace Go.Proofs.YtepeilglbedgdaaGreatDoor
open Go.X
attribute[local irreducible]Go.X.W
variable{JV aD aO am bJ bU c0 dq ej fX gf hh:List Nat}{a bv w:aN}{a6 aQ ab ah ai ak b b8 cR dB dE fI g7 gi hU iO k n t:Nat}{aB cp:Nat -> Bool}{aU:Type}{aa ae bc cA fL hN wI:S}{ac:S -> aN -> Prop}{al ay:Nat -> Nat -> Bool}{an dO:cK}{ap:kQ}{ar av:co}{au:eW}{c:dR}{d:dl}
section
open Go.RowKit fC gO
section
open Go.Maps Go.Sort Go.Shelf
def ank:Go.Shelf.Ren:=⟨λ|7=>197|10=>243|n=>n,λ|23=>201|26=>9|3=>344|28=>342|0=>0|27=>341|33=>335|4=>4|n=>n,λ|n=>n⟩
def anl:Go.Proofs.SlLaysZ.n7 C ank:={
 mixed:=K
 f7:=⟨Tryz.f197.name,by decide,Tryz.func197.trans (congrArg E K)⟩
 f10:=⟨Tryz.f243.name,by decide,Tryz.func243.trans (congrArg E K)⟩
 t0:=Tryz.underlying0
 a0:=Tryz.isAgg0
 z0:=Tryz.sizeOf0
 v0:=Tryz.zeroValue0
 t4:=Tryz.underlying4
 a4:=Tryz.isAgg4
 z4:=Tryz.sizeOf4
 v4:=Tryz.zeroValue4
 t23:=Tryz.underlying201
 a23:=Tryz.isAgg201
 z23:=Tryz.sizeOf201
 v23:=Tryz.zeroValue201
 t26:=Tryz.underlying9
 a26:=Tryz.isAgg9
 z26:=Tryz.sizeOf9
 v26:=Tryz.zeroValue9
 t27:=Tryz.underlying341
 a27:=Tryz.isAgg341
 z27:=Tryz.sizeOf341
 v27:=Tryz.zeroValue341
 t28:=Tryz.underlying342
 a28:=Tryz.isAgg342
 z28:=Tryz.sizeOf342
 v28:=Tryz.zeroValue342
 t33:=Tryz.underlying335
 a33:=Tryz.isAgg335
 z33:=Tryz.sizeOf335
 v33:=Tryz.zeroValue335}
def anm:Go.Shelf.Ren:=⟨λ|6=>196|8=>241|9=>242|11=>285|13=>287|12=>286|23=>315|24=>316|14=>306|15=>307|16=>308|17=>309|18=>310|19=>311|20=>312|21=>313|22=>314|25=>331|26=>332|27=>333|28=>334|29=>335|30=>336|31=>344|n=>n,λ|26=>9|28=>342|24=>34|0=>0|3=>3|37=>155|48=>56|50=>173|4=>4|40=>478|39=>477|45=>262|5=>5|9=>9|51=>494|55=>498|57=>509|58=>510|33=>335|n=>n,λ|n=>n⟩
def anO:Go.Proofs.SlLaysZ.n6 C anm:={
 mixed:=K
 f6:=⟨Tryz.f196.name,by decide,Tryz.func196.trans (congrArg E K)⟩
 f8:=⟨Tryz.f241.name,by decide,Tryz.func241.trans (congrArg E K)⟩
 f11:=⟨Tryz.f285.name,by decide,Tryz.func285.trans (congrArg E K)⟩
 t0:=Tryz.underlying0
 a0:=Tryz.isAgg0
 z0:=Tryz.sizeOf0
 v0:=Tryz.zeroValue0
 t24:=Tryz.underlying34
 a24:=Tryz.isAgg34
 z24:=Tryz.sizeOf34
 v24:=Tryz.zeroValue34
 t26:=Tryz.underlying9
 a26:=Tryz.isAgg9
 z26:=Tryz.sizeOf9
 v26:=Tryz.zeroValue9
 t28:=Tryz.underlying342
 a28:=Tryz.isAgg342
 z28:=Tryz.sizeOf342
 v28:=Tryz.zeroValue342
 i26:=K}
def anP:Go.Shelf.Ren:=⟨λ|6=>242|8=>287|9=>286|19=>315|20=>316|21=>306|22=>307|23=>308|24=>309|25=>310|26=>311|27=>312|28=>313|29=>314|36=>331|31=>332|32=>333|37=>334|38=>335|39=>336|41=>344|n=>n,λ|27=>34|29=>9|3=>3|32=>155|26=>34|0=>0|44=>56|46=>173|4=>4|36=>478|35=>477|41=>262|5=>5|9=>9|53=>494|57=>498|63=>509|64=>510|n=>n,λ|n=>n⟩
def ann:Go.Proofs.SlLaysM.n6 C anP:={
 mixed:=K
 f6:=⟨Tryz.f242.name,by decide,Tryz.func242.trans (congrArg E K)⟩
 f8:=Tryz.func287.trans (congrArg E K)
 f9:=⟨Tryz.f286.name,by decide,Tryz.func286.trans (congrArg E K)⟩
 f19:=Tryz.func315.trans (congrArg E K)
 f20:=Tryz.func316.trans (congrArg E K)
 f21:=⟨Tryz.f306.name,by decide,Tryz.func306.trans (congrArg E K)⟩
 f22:=⟨Tryz.f307.name,by decide,Tryz.func307.trans (congrArg E K)⟩
 f23:=⟨Tryz.f308.name,by decide,Tryz.func308.trans (congrArg E K)⟩
 f24:=⟨Tryz.f309.name,by decide,Tryz.func309.trans (congrArg E K)⟩
 f25:=⟨Tryz.f310.name,by decide,Tryz.func310.trans (congrArg E K)⟩
 f26:=⟨Tryz.f311.name,by decide,Tryz.func311.trans (congrArg E K)⟩
 f27:=⟨Tryz.f312.name,by decide,Tryz.func312.trans (congrArg E K)⟩
 f28:=⟨Tryz.f313.name,by decide,Tryz.func313.trans (congrArg E K)⟩
 f29:=⟨Tryz.f314.name,by decide,Tryz.func314.trans (congrArg E K)⟩
 f31:=Tryz.func332.trans (congrArg E K)
 f32:=Tryz.func333.trans (congrArg E K)
 f36:=⟨Tryz.f331.name,by decide,Tryz.func331.trans (congrArg E K)⟩
 f37:=⟨Tryz.f334.name,by decide,Tryz.func334.trans (congrArg E K)⟩
 f38:=⟨Tryz.f335.name,by decide,Tryz.func335.trans (congrArg E K)⟩
 f39:=⟨Tryz.f336.name,by decide,Tryz.func336.trans (congrArg E K)⟩
 f41:=⟨Tryz.f344.name,by decide,Tryz.func344.trans (congrArg E K)⟩
 t0:=Tryz.underlying0
 a0:=Tryz.isAgg0
 z0:=Tryz.sizeOf0
 v0:=Tryz.zeroValue0
 t3:=Tryz.underlying3
 a3:=Tryz.isAgg3
 z3:=Tryz.sizeOf3
 v3:=Tryz.zeroValue3
 t4:=Tryz.underlying4
 a4:=Tryz.isAgg4
 z4:=Tryz.sizeOf4
 v4:=Tryz.zeroValue4
 t5:=Tryz.underlying5
 a5:=Tryz.isAgg5
 z5:=Tryz.sizeOf5
 v5:=Tryz.zeroValue5
 t9:=Tryz.underlying9
 a9:=Tryz.isAgg9
 z9:=Tryz.sizeOf9
 v9:=Tryz.zeroValue9
 t26:=Tryz.underlying34
 a26:=Tryz.isAgg34
 z26:=Tryz.sizeOf34
 v26:=Tryz.zeroValue34
 t27:=Tryz.underlying34
 a27:=Tryz.isAgg34
 z27:=Tryz.sizeOf34
 v27:=Tryz.zeroValue34
 t29:=Tryz.underlying9
 a29:=Tryz.isAgg9
 z29:=Tryz.sizeOf9
 v29:=Tryz.zeroValue9
 t32:=Tryz.underlying155
 a32:=Tryz.isAgg155
 z32:=Tryz.sizeOf155
 v32:=Tryz.zeroValue155
 t35:=Tryz.underlying477
 a35:=Tryz.isAgg477
 z35:=Tryz.sizeOf477
 v35:=Tryz.zeroValue477
 t36:=Tryz.underlying478
 a36:=Tryz.isAgg478
 z36:=Tryz.sizeOf478
 v36:=Tryz.zeroValue478
 t41:=Tryz.underlying262
 a41:=Tryz.isAgg262
 z41:=Tryz.sizeOf262
 v41:=Tryz.zeroValue262
 t44:=Tryz.underlying56
 a44:=Tryz.isAgg56
 z44:=Tryz.sizeOf56
 v44:=Tryz.zeroValue56
 t46:=Tryz.underlying173
 a46:=Tryz.isAgg173
 z46:=Tryz.sizeOf173
 v46:=Tryz.zeroValue173
 t53:=Tryz.underlying494
 a53:=Tryz.isAgg494
 z53:=Tryz.sizeOf494
 v53:=Tryz.zeroValue494
 t57:=Tryz.underlying498
 a57:=Tryz.isAgg498
 z57:=Tryz.sizeOf498
 v57:=Tryz.zeroValue498
 t63:=Tryz.underlying509
 a63:=Tryz.isAgg509
 z63:=Tryz.sizeOf509
 v63:=Tryz.zeroValue509
 t64:=Tryz.underlying510
 a64:=Tryz.isAgg510
 z64:=Tryz.sizeOf510
 v64:=Tryz.zeroValue510}
def anQ(ak:Nat):AnyZ.SortsIn C anm Fence.wide ak:=
 ⟨λa eM bL b bC c d e=>callsIn_wide.2 (AnyM.slices_Sort_string ann a eM bL b bC c d e),
  λah bL bC=>callsIn_wide.2 (AnyM.slices_Sort_string_none ann ah bL bC)⟩
variable{aX:c3}{aS:List qr}
def anR(h:hx w ab ui qs aS)(dI:aS.length<=8)(ao:∀ah∈aS,ah.1.size<=24)
  (k:∀aa a aD,bP a 9 1 aa (ab3 (aS.map (·.1))).length ((ab3 (aS.map (·.1))).flatMap Go.X.dV) aD->Q [] w a->(∀g∈aD,w.heap.size<=g)->ac aa a):
  W C (ck 197 #[eB (E ab)]) w λaa aA=>W C (ck 196 #[aa]) aA ac:=by
 have p:=h.aL;obtain⟨aq,d,N,q⟩:=h.anL (ad:=C) (gS:=9) K (λah f=>by have:=ao ah f;unfold d0;omega) (by unfold d0;omega);refine aH (bu:=λae aA=>ae=.func (.func 243) #[] #[aE (E ⟨w.heap.size,0,I⟩)]/\aA=w.alloc (amv #[eB (E ab)] 201)) anD ?_ ?_
 ·apply Calls.mono (callsIn_wide.1 (AnyZ.keys_in anl Fence.wide 5 trivial rfl (E ab) w));rintro e a ⟨rfl,rfl⟩;exact⟨rfl,rfl⟩
 rintro _ _ ⟨rfl,rfl⟩;have r:SeqGives Fence.wide 2 C 243 #[aE (E ⟨w.heap.size,0,I⟩)] encStr (λb=>b.Perm (strKeys aq)) (Maps.size aq) (w.alloc (amv #[eB (E ab)] 201)):=
  AnyZ.keys_gives (ρ:=ank) {anl with} Fence.wide _ trivial rfl A w.heap.size ab aS.length aq _ B B (by
   obtain⟨bx,t,c,u,ao,d⟩:=d;exact⟨bx,t,(Below.heap_alloc _ _ ab p).trans c,u,ao,d⟩)
 have v:=AnyZ.sorted_in anO Fence.wide 5 trivial trivial trivial trivial rfl A (anQ _) (enters_of Tryz.func242 K rfl) 243 #[aE (E ⟨w.heap.size,0,I⟩)] trivial (enters_of Tryz.func243 K rfl) _ _ (by unfold d0;omega) A _ r;refine aH (bu:=λaa a=>∃b:List (List UInt8),b.Perm (strKeys aq)/\a.ownsRow (w.alloc (amv #[eB (E ab)] 201)).heap.size 9 1 aa b.length ((b.mergeSort (λx ap=>decide (x<=ap))).map encStr)/\Below (w.alloc (amv #[eB (E ab)] 201)).heap.size (w.alloc (amv #[eB (E ab)] 201)) a) anC ?_ ?_
 ·apply Calls.mono (callsIn_wide.1 v);rintro e a ⟨aa,b,rfl,i,j,_,c⟩;exact⟨b,i,j,c⟩
 rintro aa a ⟨b,i,j,c⟩;have f:=i.trans q;have m:b.Perm ((aS.map (·.1)).map λs=>s.data.toList):=by rw[ts];exact f
 have y:b.length=(ab3 (aS.map (·.1))).length:=by rw[m.length_eq,(amK _).length_eq,dU]
 have z:=anN m;obtain⟨aD,n,D⟩:=anM j;rw[y]at n;have o:Q [] w (w.alloc (amv #[eB (E ab)] 201)):=(Q.b0 [] w).Fy _;have O:=o.aI;refine k aa a aD ?_ (o.R (anu c) B) (λg J=>by have:=D g J;omega);have e:∀l:List ByteArray,l.flatMap Go.X.dV=l.map bO:=λl=>by
  induction l with
  |nil=>rfl
  |cons x l L=>rw[iA,L];rfl
 rw[e,<-z];exact n
end
section
variable{aX:c3}{aS:List qr}
def amL(x:ByteArray×Nat):List S:=[bO x.1,F H x.2]
def anS{s:ByteArray}:C.built 259 #[(0,bO s),(1,F H n)].toList=E (amL (s,n)).toArray:=K
def anT(h:iJ w b am aX)(v:aX.bp n):
  a0 C 141 #[aP b] w λae a=>∃l:List (ByteArray×Nat),l.map (·.1)=ab3 (aX.fs.map (·.1))/\hn w a 259 2 amL ae l/\Q [] w a:=by
 obtain⟨ab,g,ak,aS,aF,h,rfl⟩:=h;have o:aS.map (·.1)=aX.fs.map (·.1):=by rw[h.fs,ts];rfl
 have aG:aS.length=aX.fs.length:=by rw[h.fs,dU]
 have W:=v.fs;refine a9 am9 1 Tryz.func141 K rfl λa1 X=>?_;simp+decide only[↓a8,ba,am9,Tryz.f141];subst X;simp only[M,(sd h.bg).1];refine anR h.gk A (λah y=>?_) λaa aA aD z D aH=>?_
 ·have ac:ah.1∈aX.fs.map (·.1):=by rw[<-o];exact mz y
  obtain⟨ai,m,e⟩:=fS.1 ac;rw[<-e];exact(oJ (v.kU ai m).1).2
 rw[o]at z;have ad:∀s∈ab3 (aX.fs.map (·.1)),s∈aS.map (·.1):=λs ao=>by rw[o];exact(amK _).mem_iff.1 ao
 have aI:(ab3 (aX.fs.map (·.1))).length<=8:=by rw[(amK _).length_eq,dU];exact W
 generalize ab3 (aX.fs.map (·.1))=f at*;have ao:=z.eF (λ_=>rfl) A;obtain⟨d,c,rfl,_⟩:=id ao;simp only[M];refine c1 (λp a=>∃(i:Nat)(l:List (ByteArray×Nat))(dd:S),p=[dd,F H i]/\i<=f.length/\l.length=i/\l.map (·.1)=f.take i/\hn aA a 259 2 amL dd l/\Q [] aA a) (λp _=>match p with|[_,F _ i]=>f.length-i.toNat|_=>0)
  ⟨0,[],_,rfl,A,rfl,rfl,hn.D _ _ _ _ _,.b0 _ _⟩ ?_
 rintro _ _ ax ⟨i,l,dd,rfl,al,af,q,J,r⟩;have t:=D.R r B;simp only[M,bi];refine⟨λaJ=>?_,λaL=>?_⟩
 ·have u:i<f.length:=A;apply(c7.Iy.ek (ao.V r) (Q.b0 _ _) u).2;have ag:=jO u;have aj:=ad f[i] (dX u);generalize f[i]=s at*;simp only[M,(sd (h.bg.J t B)).1];apply(Pv sc wo (h.gk.V t) BJ (k:=s)).2;cases m:dv aS s with
  |none=>exact absurd aj (DH.1 m)
  |some aa=>
   simp only[m1,om];obtain⟨j,y,aM,an⟩:=I3 (aa:=aa) m;obtain⟨ap,aq⟩:=fi.1 an;obtain⟨cM,L,aO,aQ⟩:=h.jI.ek pF ap;rw[aq]at L;obtain⟨aR,h4,R,aT,aU,rfl⟩:=L;simp only at R;obtain⟨ar,cC,au,_⟩:=R.jD;rw[show qs aa=T ar aa.2.length cC from au];simp only[M];refine(bY anS).2 (hn.yQ anz J r (x:=(s,aa.2.length)) (λ_=>rfl) rfl (by intro ae V;simp[amL]at V;rcases V with rfl|rfl<;>rfl) A (by unfold d0;omega) A λav aV aw ay=>?_);rw[bq A A];refine⟨⟨i+1,l++[(s,aa.2.length)],av,by trivial,A,by simp[af],?_,aw,ay⟩,by simp;omega⟩;rw[g6,q,ag];rfl
 ·obtain rfl:i=f.length:=A;rw[j3]at q;obtain⟨ez,az,aB⟩:=J;have:=D.aI;exact⟨l,q,⟨ez,az,λg aC=>by have:=aB g aC;omega⟩,t⟩
end
section
variable{av:ji}{aX:c3}{x:gZ}
def ajf{i:Int}:C.built 37 #[(0,F H i)].toList=E (eb ⟨i,0,0,0,T I 0 0,T I 0 0⟩).toArray:=K
def TM{e:Int}(h:aC w iO ar (eb ap))(k:∀a,aC a iO ar (eb {ap with cu:=e})->Q [iO] w a->a.heap.size=w.heap.size->ac bS a):W C (dC 3 (aE (E ⟨iO,2,I⟩)) (F H e)) w ac:=
 eK hl h (by simp[eb]) rfl λa b c d=>k a (by simpa[eb]using b) c d
def TN{e:Int}(h:aC w iO ar (eb ap))(k:∀a,aC a iO ar (eb {ap with cS:=e})->Q [iO] w a->a.heap.size=w.heap.size->ac bS a):W C (dC 3 (aE (E ⟨iO,3,I⟩)) (F H e)) w ac:=
 eK hl h (by simp[eb]) rfl λa b c d=>k a (by simpa[eb]using b) c d
def anU(h:aC w iO ar (eb ap))(b:aa.oneCell'=G)(k:∀a,aC a iO ar (eb {ap with pb:=aa})->Q [iO] w a->a.heap.size=w.heap.size->ac bS a):W C (dC 34 (aE (E ⟨iO,4,I⟩)) aa) w ac:=
 eK K0 h (by simp[eb]) b λa c d e=>k a (by simpa[eb]using c) d e
def amZ(x:ByteArray×Nat):S:=b6 (amL x).toArray
def anV:eH C 256 259 2 amL amZ:=eH.rx WV am4 (λ_=>rfl) anx
def ajg(h:xI w b ab ah dB b8 fL gi ej dq c au aB ay al ai av aX)(ao:xH c ay al cp)(br:rF d.a5=G):
  a0 C 89 #[aP b,ho d bc] w λae a=>qw w a (mi av cp aX d) ae/\Q [] w a:=by
 refine a9 MK 2 Tryz.func89 K rfl λa1 cc=>?_;simp+decide only[↓a8,ba,MK,Tryz.f89];subst cc;refine sf λax cf ch c8=>qv λaU ci bs db=>?_;have cj:=ch.R bs B;have bt:=cf.J bs B;have dc:w.heap.size<ax.heap.size:=A;have de:ax.heap.size<aU.heap.size:=A;generalize df:w.heap.size=bu at*;generalize dg:ax.heap.size=s at*;obtain⟨aw,_⟩:=gc bt;simp only[M,aw];refine(bY ajf).2 (qv λdh cm cn dj=>mW (x:=⟨d.dF,0,0,0,T I 0 0,T I 0 0⟩) cm rfl rfl λbv aV cq dk=>?_);have aW:Q [] aU bv:=cn.R cq B;have ak:=cj.R aW B;generalize dl:aU.heap.size=L at*;have aY:=bt.J aW B;have a2:=ci.J aW B;obtain⟨aw,az,bw,bx,bz,bB,bC,bE,bG,a3,bH,aA⟩:=gc aY;simp only[M,az,bi];refine⟨λa5=>?_,λa5=>?_⟩
 ·have a6:=(h.V ak).bg;simp only[M,(l0 a6).2.2.2.1];apply aH anB (anT (h.V ak).k1 h.cL);rintro _ R ⟨l,bI,V,ag⟩;have dm:l.length<=8:=by have:=congrArg jm bI;rw[dU,(amK _).length_eq,dU]at this;have:=h.cL.fs;omega
  have aF:=aV.J ag B;have y:=a2.J ag B;have bK:=V.eF (λ_=>rfl) A;have cs:=V.AW;obtain⟨dp,dr,rfl,_⟩:=id bK;have eu:=aV.aL;simp only[M];refine c1 (λam a=>∃(i:Nat)(z:List ByteArray)(aa:S)(aD:List Nat),am=[F H i]/\i<=l.length/\z=(l.take i).map (·.1)/\z.length=i/\aC a L 37 (eb ⟨d.dF,0,0,0,aa,T I 0 0⟩)/\bP a 9 1 aa z.length (z.flatMap Go.X.dV) aD/\(∀g∈aD,R.heap.size<=g)/\Q [L] R a) (λam _=>match am with|[F _ i]=>l.length-i.toNat|_=>0)
   ⟨0,[],_,[],rfl,A,rfl,rfl,aF,gJ _ _ _,B,.b0 _ _⟩ ?_
  rintro _ _ j ⟨i,z,aa,aD,rfl,al,a7,ct,q,aG,an,f⟩;have ds:=f.aI;have dt:=ag.aI;simp only[M,bi];refine⟨λdu=>?_,λdw=>?_⟩
  ·have bL:i<l.length:=A;apply(anV.ek (bK.J f (λbb af bd bf e X=>by have:=cs bb af bd bf e;simp at X;omega)) (Q.b0 _ _) bL).2;have cu:=jO bL;generalize l[i]=x at*;refine gI am6 λcd p m ap=>f0 (cv:=[]) (c5:=amL (cg,0)) (da:=[]) am4 p rfl rfl rfl (by intro ae aq;simp[amZ,amL,bF]at aq;rcases aq with rfl|rfl<;>rfl) λaI bg cw dx=>?_;have bg:aC aI j.heap.size 259 (amL x):=by simpa[amZ,bF]using bg
   have aJ:Q [] j aI:=m.R cw B;have bM:=q.J aJ B;obtain⟨a1,dy,dz,dD,cx,dE,dF⟩:=c7.hJ bM;have cy:∀ac,aZ C (a4 9 (aE (E ⟨j.heap.size,0,I⟩))) aI ac↔ac (bO x.1):=λ_=>bl oD (bg.bh (af:=0))
   simp only[M,cx,cy];refine yR (be:=Go.X.dV) (l:=z) (x:=x.1) vM (aG.J aJ B) (λ_=>rfl) rfl (by intro ae aq;simp[Go.X.dV]at aq;subst aq;rfl) A (by unfold d0;omega) A λdd dG ez cA bh cB=>?_;have cC:L∉aD:=λX=>by have:=an _ X;omega
   have bR:∀g∈ez,R.heap.size<=g:=λg u=>(bh.cq g u).elim (an g) (λD=>by have:=aJ.aI;omega);try simp only[M]
   refine anU (bM.J bh.J cC) cB λdH cE bU dK=>?_;try simp only[M]
   rw[bq A A];refine⟨⟨i+1,z++[x.1],dd,ez,by trivial,A,by rw[cu,g6,a7];rfl,by simp[ct],cE,cA.J bU (λg u X=>by have:=bR g u;simp at X;omega),bR,?_⟩,by simp;omega⟩;have r:Q [L] R aI:=f.R aJ B;exact(r.R bh.J (λg u=>Z (an g u))).R bU (λg u=>Y u)
  ·obtain rfl:i=l.length:=A;rw[j3]at a7;have cF:z=ab3 (aX.fs.map (·.1)):=a7.trans bI;refine((c7.hJ q).2.2.2.2.2.2 _).2 ?_;have bV:=aG.eF (λ_=>rfl) A;refine mW (x:=⟨d.dF,0,0,0,aa,T I 0 0⟩) (y.J f (by simp;omega)) bV.aW rfl λcd p m ap=>((c7.hJ p).2.2.2.2.2.2 _).2 ?_;have v:Q [] w R:=ak.R ag B;have bW:=v.aI;have cH:∀g∈aD,w.heap.size<=g:=λg u=>by have:=an g u;omega
   have dL:=a2.aL;refine⟨⟨_,rfl,?_,gx.c4 aG cH,s7⟩,(v.R f (by simp;omega)).R m (by simp;omega)⟩;unfold mi;rw[if_pos a5,<-cF];exact⟨rfl,rfl,rfl,rfl,bV.J m (λbb af bd bf e X=>by have:=aG.rt bb af bd bf e;have:=an _ this;simp at X;omega),aT.gW _ _⟩
 have bX:=cD [] bv;have bZ:=ak.R bX B;have a6:=(h.V bZ).bg;obtain⟨cI,cJ,bj,b0,bk,cK,cL,cM,cO,cP,cQ,cR⟩:=gc (bD aY);simp only[M,(l0 a6).2.2.2.1,bj,bk];apply aH Yc (ah0 (t:=d.cI) (n:=d.d9) (h.V bZ).k1);rintro ae R ⟨ag,aL⟩;have aM:=bX.R ag B;have v:=ak.R aM B;have aO:=aY.J aM B;have y:=a2.J aM B;have aF:=aV.J aM B;have cS:=h.V v;have o:mi av cp aX d=match aX.aP d.cI d.d9 with
   |none=>ki d 10
   |some ah=>if d.a5=9 then(match dv aX.kA ⟨d.dg,d.cI,d.d9⟩with
    |none=>ki d 10
    |some af=>⟨d.dF,0,af,ah.dw.cS,[],[]⟩)
    else if d.a5=8 then⟨d.dF,0,ah.dw.cy d.mL,ah.dw.cS,[],[]⟩else mO av cp d ah.dw:=by
  unfold mi;rw[if_neg a5];cases aX.aP d.cI d.d9 with
  |none=>rfl
  |some ah=>rfl
 have b1:∀{j cd:aN}{x:kQ}{ad:dn}{bm:S->aN->Prop},Q [] w j->(∀a,ma a x ad)->aC j s 37 (eb vf)->x.pb=T I 0 0->x.mH=T I 0 0->(∀a,qw w a ad (je x)->Q [] w a->bm (je x) a)->W C (dC 37 (aP s) (je x)) j λ_ cd=>aZ C (a4 37 (aP s)) cd λab=>bm ab cd:=by intro j cd x ad bm f aj q r J cU;exact mW q (by rw[r];rfl) (by rw[J];rfl) λcd p m ap=>((c7.hJ p).2.2.2.2.2.2 _).2 (cU cd ⟨x,rfl,aj cd,by rw[r];exact s7,by rw[J];exact s7⟩ (f.R m (by simp;omega)))
 have b2:∀{j:aN}{cz:ex},Q [] w j->aC j bu 43 (f1 d bc)->aC j s 37 (eb vf)->mi av cp aX d=ki d cz.a5->aZ C (a4 43 (aP bu)) j λaa=>W C (ck 87 #[aa,ff (E cz)]) j λcW cd=>W C (dC 37 (aP s) cW) cd λ_ bn=>aZ C (a4 37 (aP s)) bn λab=>o5 (λae a=>qw w a (mi av cp aX d) ae/\Q [] w a) (gd ab) bn:=by intro j cz f q bo cY;obtain⟨aw,az,bw,bx,bz,bB,bC,bE,bG,a3,bH,aA⟩:=gc q;simp only[aA];exact zp (h.kF.V f) λcd m=>b1 (cd:=cd) (f.R m B) (λa=>EW d cz.a5 a) (bo.J m B) rfl rfl λa r J=>⟨by rw[cY];exact r,J⟩
 cases aQ:aX.aP d.cI d.d9 with
 |none=>
  rw[aQ]at aL o;subst aL;refine(ru KZ).2 (cG.2 ⟨λ_=>?_,λD=>(by cases D)⟩);simp only[hk hY];exact b2 (cz:=.dD 10) v aO y o
 |some dM=>
  rw[aQ]at aL o;obtain⟨g7,bJ,rfl,V,_⟩:=aL;simp only at o;have b3:=h.cL.aP aQ;have cZ:=b3.dT;refine(ru KZ).2 (cG.2 ⟨λD=>(by cases D),λ_=>?_⟩);obtain⟨aw,az,bw,bx,bz,bB,bC,bE,bG,a3,bH,aA⟩:=gc aO;refine bT (λam a=>∃x,am=[]/\aC a L 37 (eb x)/\(∀a,ma a x (mi av cp aX d))/\x.pb=T I 0 0/\x.mH=T I 0 0/\aC a s 37 (eb vf)/\Q [] w a) ?_ ?_
  ·simp only[M,az,bi];refine⟨λaR=>?_,λaR=>⟨λbp=>?_,λbp=>⟨λc0=>?_,λc0=>?_⟩⟩⟩
   ·have b7:=cD [] R;have aS:=v.R b7 B;have c2:=(h.V aS).bg;obtain⟨cI,cJ,bj,b0,bk,cK,cL,cM,cO,cP,cQ,cR⟩:=gc (bD aO);simp only[M,(l0 c2).2.2.2.1,bj,b0,bk];apply aH Yd (ahZ (k:=⟨d.dg,d.cI,d.d9⟩) (h.V aS).k1);rintro _ _ ⟨rfl,rfl⟩;simp only[cV,cX];rw[if_pos aR]at o;cases b9:dv aX.kA ⟨d.dg,d.cI,d.d9⟩with
    |none=>
     rw[b9]at o;simp only[wH,M,hk hY];refine cG.2 ⟨λ_=>?_,λD=>(by cases D)⟩;exact b2 (cz:=.dD 10) aS (bD aO) (bD y) o
    |some af=>
     rw[b9]at o;simp only[vu,om,M];refine cG.2 ⟨λD=>(by cases D),λ_=>?_⟩;apply BO (V.V b7);try simp only[M]
     refine TM (bD aF) λj q f dN=>?_;try simp only[M]
     refine TN q λcd p m ap=>?_;have ar:s∉[L]:=by simp;omega
     refine⟨_,by trivial,p,λa=>?_,rfl,rfl,((bD y).J f ar).J m ar,(aS.R f (by simp;omega)).R m (by simp;omega)⟩;rw[o];exact⟨rfl,rfl,rfl,rfl,aT.gW _ _,aT.gW _ _⟩
   ·rw[if_neg aR,if_pos bp]at o;simp only[a3];apply aH Yf (abd (t:=d.mL) V A);rintro _ j ⟨rfl,f⟩;apply BO (V.V f);try simp only[M]
    refine TM (aF.J f B) λcd p m ap=>?_;try simp only[M]
    refine TN p λbn c3 ca dO=>?_;have ar:s∉[L]:=by simp;omega
    refine⟨_,by trivial,c3,λa=>?_,rfl,rfl,((y.J f B).J m ar).J ca ar,((v.R f B).R m (by simp;omega)).R ca (by simp;omega)⟩;rw[o];exact⟨rfl,rfl,rfl,rfl,aT.gW _ _,aT.gW _ _⟩
   ·rw[if_neg aR,if_neg bp]at o;simp only[aA];refine aH Yg (aje (bc:=bc) cS ao V b3.dw cZ (h.DX.aP aQ)) ?_;rintro _ j ⟨cb,f⟩;obtain⟨x,rfl,aj,dP,dQ⟩:=id cb;have c4:=v.R f B;refine mW (y.J f B) aj.gj.aW aj.dY.aW λcd p m ap=>((c7.hJ p).2.2.2.2.2.2 _).2 ?_;rw[o];have bW:=v.aI;have c6:=y.aL;exact⟨(cb.J m (by simp;exact c6)).bw bW,c4.R m (by simp;omega)⟩
   ·exfalso;unfold rF at br;rw[decide_eq_true_iff]at br;omega
  rintro _ _ j ⟨x,rfl,q,aj,r,J,bo,f⟩;exact((c7.hJ q).2.2.2.2.2.2 _).2 (b1 (cd:=j) f aj bo r J λa r J=>⟨r,J⟩)
end
abbrev s8:=Nat×dl×S
def k2(x:s8):List S:=F H x.1::f1 x.2.1 x.2.2
def Ji(x:s8):(k2 x).length=15:=rfl
def sg(w:aN)(c0:List Nat)(aa:S)(l:List ByteArray):Prop:=aT w Go.X.dV aa l/\(l=[]\/∃b af c,aa=T (E ⟨b,af,I⟩) l.length c/\b∈c0)
def sg.J{l:List ByteArray}(h:sg w c0 aa l)(i:Q bU w a)(j:bR c0 bU):sg a c0 aa l:=by
 obtain⟨f,k⟩:=h;rcases k with rfl|⟨b,af,c,rfl,g⟩
 ·obtain⟨d,c,rfl,m,_⟩:=f;exact⟨⟨d,c,rfl,m,Y rfl⟩,Y rfl⟩
 ·exact⟨f.J i (by intro n o p q e;cases e;exact j b g),Z ⟨b,af,c,rfl,g⟩⟩
def sg.pI{a:List Nat}{l:List ByteArray}(h:sg w c0 aa l)(d:∀g∈c0,g∈a):sg w a aa l:=
 ⟨h.1,h.2.imp id λ⟨b,af,c,e,f⟩=>⟨b,af,c,e,d b f⟩⟩
structure l1(w:aN)(b ab ah cR b8 dB:Nat)(fL:S)(ej dq aD c0:List Nat)(ef:List s8)(c:dR)(au:eW)(aB:Nat->Bool)(ay al:Nat->Nat->Bool)(ai aQ:Nat)(an:cK):Prop where
 bg:aC w b 136 (lj ab ah dB b8 fL an.cQ)
 ij:qp w ah cR ej ab c au aB ay al ai an.cx
 wt:aC w b8 226 (lz cR aQ)
 k1:iJ w dB dq an.bd
 c4:bP w 179 15 fL ef.length (ef.flatMap k2) aD
 pJ:an.cn=ef.map λx=>(x.1,x.2.1)
 vg:∀x∈ef,sg w c0 x.2.2 x.2.1.bk.a7
 vh:∀g∈c0,g<w.heap.size
 g1:b≠b8
 lk:bR [b,b8] (ej++(dq++(aD++c0)))
 lC:bR ej (dq++(aD++c0))
 o1:bR dq (aD++c0)
 wu:bR aD c0
 kF:jf w
 pK:0∉[b,b8]++(ej++(dq++(aD++c0)))
 cL:an.bp c.bd
 mt:c.aJ<=bV (λag=>!aB ag) c.aR
 fO:aQ<qq c
def h2(w:aN)(b:Nat)(am:List Nat)(ab:Nat)(c:dR)(au:eW)(aB:Nat->Bool)(ay al:Nat->Nat->Bool)(ai aQ:Nat)(an:cK):Prop:=∃ah cR b8 dB fL ej dq aD c0 ef,l1 w b ab ah cR b8 dB fL ej dq aD c0 ef c au aB ay al ai aQ an/\am=[b,b8]++(ej++(dq++(aD++c0)))
section
variable{av:ji}
def qp.aL(h:qp w ah cR am ab c au aB ay al ai av):∀g∈am,g<w.heap.size:=h.ij.aL
variable{ef:List s8}
def l1.aL(h:l1 w b ab ah cR b8 dB fL ej dq aD c0 ef c au aB ay al ai aQ an):∀g∈[b,b8]++(ej++(dq++(aD++c0))),g<w.heap.size:=by
 intro g a;simp only[b4,ce,iZ,or_false]at a;rcases a with(rfl|rfl)|a|a|a|a
 ·exact h.bg.aL
 ·exact h.wt.aL
 ·exact h.ij.aL g a
 ·exact h.k1.aL g a
 ·exact h.c4.aL g a
 ·exact h.vh g a
def h2.aL(h:h2 w b am ab c au aB ay al ai aQ an):∀g∈am,g<w.heap.size:=by obtain⟨ah,cR,b8,dB,fL,ej,dq,aD,c0,ef,h,rfl⟩:=h;exact h.aL
def l1.J(h:l1 w b ab ah cR b8 dB fL ej dq aD c0 ef c au aB ay al ai aQ an)(e:Q bU w a)(f:bR ([b,b8]++(ej++(dq++(aD++c0)))) bU)(i:0∉bU):l1 a b ab ah cR b8 dB fL ej dq aD c0 ef c au aB ay al ai aQ an:=
 ⟨h.bg.J e (f b B),h.ij.J e (λg d=>f g (by simp[d])),h.wt.J e (f b8 B),h.k1.J e (λg d=>f g (by simp[d])),h.c4.J e (λg d=>f g (by simp[d])),h.pJ,
  λx j=>(h.vg x j).J e (λg d=>f g (by simp[d])),λg d=>iL (h.vh g d) e.aI,h.g1,h.lk,h.lC,h.o1,h.wu,h.kF.J e i,h.pK,h.cL,h.mt,h.fO⟩
def l1.V(h:l1 w b ab ah cR b8 dB fL ej dq aD c0 ef c au aB ay al ai aQ an)(d:Q [] w a):l1 a b ab ah cR b8 dB fL ej dq aD c0 ef c au aB ay al ai aQ an:=h.J d (bR.D _) B
def h2.J(h:h2 w b am ab c au aB ay al ai aQ an)(d:Q bU w a)(e:bR am bU)(f:0∉bU):h2 a b am ab c au aB ay al ai aQ an:=by obtain⟨ah,cR,b8,dB,fL,ej,dq,aD,c0,ef,h,rfl⟩:=h;exact⟨ah,cR,b8,dB,fL,ej,dq,aD,c0,ef,h.J d e f,rfl⟩
def h2.V(h:h2 w b am ab c au aB ay al ai aQ an)(d:Q [] w a):h2 a b am ab c au aB ay al ai aQ an:=h.J d (bR.D _) B
def l1.ajh(h:l1 w b ab ah cR b8 dB fL ej dq aD c0 ef c au aB ay al ai aQ an):xI w b ab ah dB b8 fL an.cQ ej dq c au aB ay al ai an.cx an.bd:=by have a:=h.ij.ij.cL.1;exact⟨h.bg,h.ij.ij,h.k1,h.kF,h.cL.bd (by have:=a.jZ;omega),h.cL.DX,h.mt⟩
def qp.TO(h:qp w ah cR am ab c au aB ay al ai av):∃dc,ib w cR dc ab c au aB ay al ai:=by obtain⟨dc,rfl,a,b,d⟩:=h;exact⟨dc,a⟩
def aji(h:l1 w b ab ah cR b8 dB fL ej dq aD c0 ef c au aB ay al ai aQ an):a0 C 90 #[aP b] w λae a=>ae=cT/\Q [] w a:=by
 obtain⟨dc,d⟩:=h.ij.TO;refine a9 ML 1 Tryz.func90 K rfl λa1 j=>?_;simp+decide only[↓a8,ba,ML,Tryz.f90];subst j;obtain⟨f,g,n,o,p,q,r⟩:=l0 h.bg;simp only[M,g];refine(ru FP).2 (cG.2 ⟨λe=>(by cases e),λ_=>?_⟩);try simp only[M,g]
 apply aH Gj (IM h.ij);rintro _ _ ⟨rfl,rfl⟩;refine bT (λk a=>k=[aK U]/\w=a) ?_ ?_
 ·apply aH LI (R6 d);rintro _ _ ⟨rfl,rfl⟩;refine cG.2 ⟨λe=>(by cases e),λ_=>?_⟩;try simp only[M,f]
  apply aH yn (ib.SW d);rintro _ _ ⟨rfl,rfl⟩;exact⟨by trivial,by trivial⟩
 rintro _ _ _ ⟨rfl,rfl⟩;try simp only[M,f]
 obtain⟨bJ,rfl,l,s⟩:=d.gm;refine eY.EM l λt u aA v i=>?_;simp only[M];apply aH tQ (ua (d.V i));rintro _ ax ⟨rfl,m⟩;apply(Cu (aa:=F H c.aJ) V5 rfl).2;simp only[M,bi];have:(kZ c aB).length=bV (λag=>!aB ag) c.aR:=rfl;have x:=h.mt;refine⟨λe=>A,λ_=>?_⟩;exact⟨rfl,i.R m B⟩
def Jj(h:l1 w b ab ah cR b8 dB fL ej dq aD c0 ef c au aB ay al ai aQ an)(k:∀a,Q [] w a->ac cT a):W C (ck 90 #[aP b]) w ac:=
 aH XL (aji h) (by rintro _ a ⟨rfl,d⟩;exact k a d)
def zq(h:h2 w b am ab c au aB ay al ai aQ an):a0 C 39 #[aP b] w λae a=>ae=aP ab/\w=a:=by obtain⟨ah,cR,b8,dB,fL,ej,dq,aD,c0,ef,h,rfl⟩:=h;refine a9 .D 1 Tryz.func39 K rfl λa1 d=>?_;simp+decide only[↓a8,ba,Tryz.f39];subst d;obtain⟨e,f,g,i,j,k,l⟩:=l0 h.bg;simp only[M,e];exact⟨rfl,rfl⟩
end
section
variable{av:ji}
def ajj(h:aC w b ar (lj ab ah dB b8 fL gi))(k:∀a,aC a b ar (lj ab ah dB b8 fL n)->Q [b] w a->a.heap.size=w.heap.size->ac bS a):W C (dC 3 (aE (E ⟨b,6,I⟩)) (F H n)) w ac:=
 eK hl h (by simp[lj]) rfl λa c d e=>k a (by simpa[lj]using c) d e
def Jk(h:aC w b ar (lj ab ah dB b8 fL gi))(c:wI.oneCell'=G)(k:∀a,aC a b ar (lj ab ah dB b8 wI gi)->Q [b] w a->a.heap.size=w.heap.size->ac bS a):W C (dC 134 (aE (E ⟨b,5,I⟩)) wI) w ac:=
 eK La h (by simp[lj]) c λa d e f=>k a (by simpa[lj]using d) e f
def ajk(h:aC w b ar (lj ab ah dB b8 fL gi))(k:∀a,aC a b ar (lj ab ah n b8 fL gi)->Q [b] w a->a.heap.size=w.heap.size->ac bS a):W C (dC 130 (aE (E ⟨b,3,I⟩)) (aP n)) w ac:=
 eK CR h (by simp[lj]) rfl λa c d e=>k a (by simpa[lj]using c) d e
variable{ef:List s8}
def l1.zb(h:l1 w b ab ah cR b8 dB fL ej dq aD c0 ef c au aB ay al ai aQ an)(e:Q [b] w a)(m:aC a b 136 (lj ab ah dB b8 fL dO.cQ))(f:dO.cx=an.cx)(k:dO.bd=an.bd)(j:dO.cn=an.cn):l1 a b ab ah cR b8 dB fL ej dq aD c0 ef c au aB ay al ai aQ dO:=by
 have i:bR (ej++(dq++(aD++c0))) [b]:=(h.lk.d1 (az:=[b]) B (λ_ h=>h)).nc;have p:=h.g1;have q:=h.kF;have n:0∉[b]:=λl=>h.pK (by simp at l;simp[l]);refine⟨m,?_,h.wt.J e (by simp;omega),?_,h.c4.J e (λg d=>i g (by simp[d])),by rw[j];exact h.pJ,λx o=>(h.vg x o).J e (λg d=>i g (by simp[d])),λg d=>iL (h.vh g d) e.aI,h.g1,h.lk,h.lC,h.o1,h.wu,h.kF.J e n,h.pK,?_,h.mt,h.fO⟩
 ·rw[f];exact h.ij.J e (λg d=>i g (by simp[d]))
 ·rw[k];exact h.k1.J e (λg d=>i g (by simp[d]))
 ·have:=h.cL;exact⟨by rw[f,k];exact this.nf,by rw[f];exact this.dT,by rw[f];exact this.n1,by rw[j];exact this.iG,by rw[j];exact this.jU⟩
def ajl:C.built 37 (#[]:Array (Nat×S)).toList=E (eb vf).toArray:=K
def ajm{x:Option es}{l:Nat}:C.built 179 #[(0,F H n),(1,ho d (T x l ak))].toList=E (k2 (n,d,T x l ak)).toArray:=K
def TP{x:s8}(h:x.2.2.oneCell'=G):∀ae∈k2 x,ae.oneCell'=G:=by
 intro ae a;rcases ce.1 a with rfl|a
 ·rfl
 ·exact Ph h ae a
def Jl(w a:aN)(b:Nat)(am az:List Nat)(an:cK)(bb:Option dn)(ae:S):Prop:=bX am az w a/\match bb with
 |some ad=>∃c,ae=bQ #[F H (an.cQ+1:Nat),c,aK G]/\qw w a ad c
 |none=>ae=bQ #[F H (an.cQ+1:Nat),je vf,aK U]
def DW(h:h2 w b am ab c au aB ay al ai aQ an)(ao:xH c ay al cp)(a7:sg w gf bc d.bk.a7)(bb:bR gf (0::am))(bd:∀g∈gf,g<w.heap.size)(cw:qt d)(c8:an.cQ<=1000000):
  a0 C 50 #[aP b,ho d bc] w λae a=>∃az,h2 a b az ab c au aB ay al ai aQ (an.kV cp d).1/\Jl w a b (am++gf) az an (an.kV cp d).2 ae:=by
 have aj:=h.aL;obtain⟨ah,cR,b8,dB,fL,ej,dq,aD,c0,ef,h,rfl⟩:=h;have cx:=a7.1;refine a9 Mr 2 Tryz.func50 K rfl λa1 cy=>?_;simp+decide only[↓a8,ba,Mr,Tryz.f50];subst cy;refine sf λax cA cB da=>qv λcE cF br db=>?_;have aF:=cB.R br B;have cH:=cA.J br B;have dc:w.heap.size<ax.heap.size:=A;have dd:ax.heap.size<cE.heap.size:=A;have be:=h.V aF;have de:=h.bg.aL;generalize df:w.heap.size=dg at*;generalize dh:ax.heap.size=m at*;obtain⟨bs,u,bt,bu,bv,bw,aG⟩:=l0 be.bg;simp only[M,aG];rw[bq A A,show(an.cQ:Int)+1=((an.cQ+1:Nat):Int)by omega];refine ajj be.bg λaI cI ac dj=>?_;have bx:l1 aI b ab ah cR b8 dB fL ej dq aD c0 ef c au aB ay al ai aQ {an with cQ:=an.cQ+1}:=be.zb ac cI rfl rfl rfl;have bz:=cH.J ac (by simp;omega);have bB:=cF.J ac (by simp;omega);have bC:bX ([b,b8]++(ej++(dq++(aD++c0)))) ([b,b8]++(ej++(dq++(aD++c0)))) w aI:=⟨(aF.bw B).R ac (λg e=>Y (by simp at e;simp[e])),λg e=>Y e⟩;generalize aJ:({an with cQ:=an.cQ+1}:cK)=u at bx;have n:u.cx=an.cx/\u.bd=an.bd/\u.cn=an.cn/\u.cQ=an.cQ+1:=by subst aJ;exact⟨rfl,rfl,rfl,rfl⟩
 have cJ:sg aI gf bc d.bk.a7:=(a7.J aF (bR.D _)).J ac (λg e f=>bb g e (by simp at f;simp[f]));have bE:=cJ.1;obtain⟨bG,bf,bH,bI,bJ,bK,bL,bM,bP,bV,bW,aL⟩:=gc bz;simp only[aL];refine Jb bE cw λcL V=>?_;have s:=bx.V V;have aM:=bz.J V B;have bg:=bB.J V B;have bh:=bC.oM V;have bj:∀{k:aN}{ad:dn}{aR:S},bX ([b,b8]++(ej++(dq++(aD++c0)))) ([b,b8]++(ej++(dq++(aD++c0)))) w k->l1 k b ab ah cR b8 dB fL ej dq aD c0 ef c au aB ay al ai aQ u->aC k m 37 (eb vf)->qw aI k ad aR->an.kV cp d=(u,E ad)->
   W C (dC 37 (aP m) aR) k λ_ v=>aZ C (a4 37 (aP m)) v λcM=>o5 (λae a=>∃az,h2 a b az ab c au aB ay al ai aQ (an.kV cp d).1/\Jl w a b ([b,b8]++(ej++(dq++(aD++c0)))++gf) az an (an.kV cp d).2 ae) (gd (bQ #[F H (an.cQ+1:Nat),cM,aK G])) v:=by
  intro k ad aR aS l cO aU cP;obtain⟨x,rfl,y,dm,dp⟩:=id aU;refine mW cO y.gj.aW y.dY.aW λv ak X cS=>((c7.hJ ak).2.2.2.2.2.2 _).2 ?_;rw[cP];have ap:m∉[b,b8]++(ej++(dq++(aD++c0))):=λj=>by have:=aj _ j;omega
  have cU:m≠0:=λj=>by have:=h.kF.aL;omega
  have dr:=bC.J.aI;refine⟨_,⟨ah,cR,b8,dB,fL,ej,dq,aD,c0,ef,l.J X (λg e f=>by simp at f;subst f;exact ap e) (by simp;exact Ne.symm cU),rfl⟩,⟨(aS.J.bw (λg e=>Y (hg _ e))).R X (λg e=>Z (by simp at e;omega)),λg e=>Y (hg _ e)⟩,je x,rfl,?_⟩;exact(aU.J X (by have:=bB.aL;simp;exact this)).bw A
 have aV:=cD [] cL;simp only[M];refine cG.2 ⟨λq=>?_,λq=>?_⟩
 ·have q:d.bt=U:=by simpa using q
  obtain⟨bs,b0,bt,bu,bv,bw,aG⟩:=l0 (bD s.bg);obtain⟨bG,bf,bH,bI,bJ,bK,bL,bM,bP,bV,bW,aL⟩:=gc (bD aM);simp only[M,aG,aL,hk hY,n.2.2.2];refine zp (cz:=.dD 1) (s.kF.V aV) λk r=>?_;have aa:=aV.R r B;have l:=s.V aa;have aq:=l.bg.bh (af:=6);refine(dz bZ (by rw[aq];simp[lj,n.2.2.2])).2 (bj (bh.oM aa) l (bg.J aa B) ⟨ve d 1,rfl,EW _ _ _,s7,s7⟩ ?_);unfold cK.kV;rw[if_neg (by simp[q]),aJ]
 ·have q:d.bt=G:=by simpa using q
  obtain⟨bs,b0,bt,bu,bv,bw,aG⟩:=l0 s.bg;obtain⟨bG,bf,bH,bI,bJ,bK,bL,bM,bP,bV,bW,aL⟩:=gc aM;try simp only[M,b0]
  refine(ru FP).2 (cG.2 ⟨λj=>(by cases j),λ_=>?_⟩);try simp only[M,bf]
  apply ET;try simp only[M]
  refine cG.2 ⟨λt=>?_,λt=>?_⟩
  ·
   have t:i3 d.a5=U:=by simpa using t
   obtain⟨aW,aX,aY,a2,a3,ag,z⟩:=l0 (bD s.bg);obtain⟨b1,b2,b3,b7,b9,ca,cb,cc,cf,cg,ch,ar⟩:=gc (bD aM);try simp only[M,z,ar,n.2.2.2]
   have cV:rF d.a5=G:=by have:=q;unfold dl.bt at this;simp only[t,fc,if_false,dl.p6,dA]at this;exact this.2.1.1.1
   apply aH XK (ajg (s.V aV).ajh ao cV);rintro aR k ⟨aU,r⟩;have aa:=aV.R r B;have l:=s.V aa;have aq:=l.bg.bh (af:=6);refine(dz bZ (by rw[aq];simp[lj,n.2.2.2])).2 (bj (bh.oM aa) l (bg.J aa B) (aU.bw V.aI) ?_);unfold cK.kV;rw[if_pos q,if_neg (by simp[t]),aJ,n.1,n.2.1]
  ·have t:i3 d.a5=G:=by simpa using t
   refine Jj s λk r=>?_;have l:=s.V r;have ci:=aM.J r B;have bk:=bg.J r B;have aS:=bh.oM r;have ds:ef.length=an.cn.length:=by have:=h.pJ;rw[this];simp
   obtain⟨dt,cC,cW,_⟩:=id l.c4.jD;refine bT (λbl a=>bl=[if 16<=an.cn.length then ff (E (.dD 8))else cT]/\k=a) ?_ ?_
   ·refine bT (λbl a=>bl=[aK (decide (16<=an.cn.length))]/\k=a) ?_ ?_
    ·apply(ry dk).2;obtain⟨aW,aX,aY,a2,a3,ag,z⟩:=l0 l.bg;simp only[M,ag];rw[cW];simp only[M];refine⟨?_,by trivial⟩;congr 2;rw[decide_eq_decide];omega
    rintro _ _ _ ⟨rfl,rfl⟩;simp only[M,bi];refine⟨λD=>?_,λD=>?_⟩
    ·simp only[hk hY];rw[if_pos D];exact⟨rfl,by trivial⟩
    ·rw[if_neg D];exact⟨by trivial,by trivial⟩
   rintro _ _ _ ⟨rfl,rfl⟩;have a5:=cD [] k;by_cases D:16<=an.cn.length
   ·rw[if_pos D];simp only[M];refine oF.2 (cG.2 ⟨λ_=>?_,λj=>(by cases j)⟩);obtain⟨aW,aX,aY,a2,a3,ag,z⟩:=l0 (bD l.bg);obtain⟨b1,b2,b3,b7,b9,ca,cb,cc,cf,cg,ch,ar⟩:=gc (bD ci);try simp only[M,z,ar,n.2.2.2]
    refine zp (l.kF.V a5) λv X=>?_;have J:=a5.R X B;have o:=l.V J;have aq:=o.bg.bh (af:=6);refine(dz bZ (by rw[aq];simp[lj,n.2.2.2])).2 (bj (aS.oM J) o (bk.J J B) ⟨ve d 8,rfl,EW _ _ _,s7,s7⟩ ?_);unfold cK.kV;rw[if_pos q,if_pos t,if_pos D,aJ]
   ·rw[if_neg D];simp only[M];refine(fp dk).2 (cG.2 ⟨λj=>(by cases j),λ_=>?_⟩);obtain⟨aW,aX,aY,a2,a3,ag,z⟩:=l0 (bD l.bg);obtain⟨b1,b2,b3,b7,b9,ca,cb,cc,cf,cg,ch,ar⟩:=gc (bD ci);try simp only[M,ag,z,ar,n.2.2.2]
    have du:aT k.drew Go.X.dV bc d.bk.a7:=(bE.V (V.R r B)).V a5;obtain⟨av,aw,cX,_⟩:=id cx;subst cX;refine(bY ajm).2 (hw Ln [b6 (k2 (an.cQ+1,d,T av d.bk.a7.length aw)).toArray] rfl rfl (by intro bm cj;simp at cj;subst cj;rfl) A A λv ak X cS=>?_);have ak:aC v k.heap.size 179 (k2 (an.cQ+1,d,T av d.bk.a7.length aw)):=by simpa[bF]using ak
    have J:=a5.R X B;have o:=l.V J;refine(dz K9 (o.bg.bh (af:=5))).2 (m8 Ln o.c4 ak.cy rfl (TP rfl) A (by unfold d0;omega) A λwI cd ez cY a6 ck cZ=>?_);have cm:b∉aD:=λj=>h.lk b B (by simp[j]);have c1:=o.bg.J a6 cm;refine Jk c1 cZ λdv cq bn dw=>?_;obtain⟨aW,aX,aY,a2,a3,ag,z⟩:=l0 cq;try simp only[M,z,n.2.2.2]
    apply(bY ajl).2;have ap:m∉[b,b8]++(ej++(dq++(aD++c0))):=λj=>by have:=aj _ j;omega
    have cs:m∉aD:=λj=>ap (by simp[j]);have c2:m∉[b]:=by simp;omega
    refine mW (x:=vf) (((bk.J J B).J a6 cs).J bn c2) rfl rfl λc3 c4 bo dx=>((c7.hJ c4).2.2.2.2.2.2 _).2 ?_;have ct:an.kV cp d=({an with cQ:=an.cQ+1,cn:=an.cn++[(an.cQ+1,d)]},I):=by unfold cK.kV;rw[if_pos q,if_pos t,if_neg D]
    rw[ct];have dy:0<w.heap.size:=h.kF.aL;have dD:=a6.aI;have dF:w.heap.size<=k.heap.size:=aS.J.aI;have dG:=J.aI;have L:Q (aD++[b,m]) v c3:=((a6.bw (dE:=aD++[b,m]) (λg e=>Y (by simp[e]))).R bn (λg e=>Y (by simp at e;simp[e]))).R bo (λg e=>Y (by simp at e;simp[e]));have bp:bR (ej++(dq++c0)) (aD++[b,m]):=by
     intro g e f;have c5:g∈[b,b8]++(ej++(dq++(aD++c0))):=by simp at e⊢;rcases e with e|e|e<;>simp[e]
     rcases b4.1 f with f|f
     ·rcases b4.1 e with e|e
      ·exact h.lC g e (by simp[f])
      ·rcases b4.1 e with e|e
       ·exact h.o1 g e (by simp[f])
       ·exact h.wu g f e
     ·simp at f;rcases f with rfl|rfl
      ·exact h.lk g B (by simp at e⊢;rcases e with e|e|e<;>simp[e])
      ·exact ap c5
    have aA:∀g∈gf,g∉[b,b8]++(ej++(dq++(aD++c0))):=λg e f=>bb g e (ev _ f);have R:∀g∈ez,g∈aD\/w.heap.size<=g:=λg e=>(ck g e).imp id (λj=>A);have dH:∀{aO:List Nat},(∀g∈aO,g∉aD)->(∀g∈aO,g<w.heap.size)->bR aO ez:=λi p g e f=>(R g f).elim (i g e) (λj=>by have:=p g e;omega);have cu:Q [b] w v:=(aF.bw B).R ((ac.R (V.R r B) B).R J B) (λg e=>Y e);refine⟨[b,b8]++(ej++(dq++(ez++(c0++gf)))),⟨ah,cR,b8,dB,wI,ej,dq,ez,c0++gf,ef++[(an.cQ+1,d,T av d.bk.a7.length aw)],?_,rfl⟩,?_,rfl⟩
    ·refine⟨by have:=cq.J bo (bU:=[m]) (by simp;omega);rw[n.2.2.2]at this;exact this,?_,?_,?_,?_,?_,?_,?_,h.g1,?_,?_,?_,?_,?_,?_,?_,h.mt,h.fO⟩
     ·rw[<-n.1];exact o.ij.J L (λg e=>bp g (by simp[e]))
     ·apply o.wt.J L;simp;refine⟨λj=>h.lk b8 B (by simp[j]),Ne.symm h.g1,λj=>ap (by simp[j])⟩
     ·rw[show({an with cQ:=an.cQ+1,cn:=an.cn++[(an.cQ+1,d)]}:cK).bd=u.bd from n.2.1.symm];exact o.k1.J L (λg e=>bp g (by simp[e]))
     ·have c6:(ef++[(an.cQ+1,d,T av d.bk.a7.length aw)]).flatMap k2=ef.flatMap k2++k2 (an.cQ+1,d,T av d.bk.a7.length aw):=by rw[hL];simp
      rw[c6,di];refine(cY.J bn (λg e f=>?_)).J bo (λg e f=>?_)
      ·simp at f;subst f;exact(R g e).elim cm (λj=>A)
      ·simp at f;subst f;exact(ck g e).elim cs (λj=>by have:=bk.aL;omega)
     ·show an.cn++[(an.cQ+1,d)]=_;rw[g6,<-h.pJ];rfl
     ·intro x y;rcases b4.1 y with y|y
      ·exact((o.vg x y).J L (λg e=>bp g (by simp[e]))).pI (λg e=>by simp[e])
      ·rw[ku.1 y];refine(a7.J (bU:=b::(aD++[b,m])) ((cu.bw (λg e=>Y (by simp at e;simp[e]))).R L (λg e=>Y (ev _ e))) (λg e f=>?_)).pI (λg e=>by simp[e]);have i:=aA g e;have p:=bd g e;simp only[ce,b4,iZ,or_false]at f i;rcases f with rfl|f|rfl|rfl
       ·exact i (Y (Y rfl))
       ·exact i (Z (Z (Z (Y f))))
       ·exact i (Y (Y rfl))
       ·omega
     ·intro g e;have:=L.aI;rcases b4.1 e with e|e
      ·have:=o.vh g e;omega
      ·have:=bd g e;omega
     ·intro g e f;have i:=h.lk g e;have p:g∈[b,b8]++(ej++(dq++(aD++c0))):=hg _ e;have cv:=aj g p;simp only[b4,not_or]at f i;rcases f with f|f|f|f|f
      ·exact i.1 f
      ·exact i.2.1 f
      ·exact(R g f).elim i.2.2.1 (λj=>A)
      ·exact i.2.2.2 f
      ·exact aA g f p
     ·intro g e f;have i:=h.lC g e;have p:g∈[b,b8]++(ej++(dq++(aD++c0))):=by simp[e]
      have cv:=aj g p;simp only[b4,not_or]at f i;rcases f with f|f|f|f
      ·exact i.1 f
      ·exact(R g f).elim i.2.1 (λj=>A)
      ·exact i.2.2 f
      ·exact aA g f p
     ·intro g e f;have i:=h.o1 g e;have p:g∈[b,b8]++(ej++(dq++(aD++c0))):=by simp[e]
      have cv:=aj g p;simp only[b4,not_or]at f i;rcases f with f|f|f
      ·exact(R g f).elim i.1 (λj=>A)
      ·exact i.2 f
      ·exact aA g f p
     ·intro g e f;rcases R g e with e|e
      ·rcases b4.1 f with f|f
       ·exact h.wu g e f
       ·exact aA g f (by simp[e])
      ·rcases b4.1 f with f|f
       ·have:=h.vh g f;omega
       ·have:=bd g f;omega
     ·exact o.kF.J L (λf=>by
       have i:=h.pK;simp only[ce,b4,iZ,or_false,not_or]at f i;rcases f with f|f|f
       ·exact i.2.2.2.1 f
       ·exact i.1.1 f
       ·omega)
     ·intro f;have i:=h.pK;simp only[b4,not_or]at f i;rcases f with f|f|f|f|f|f
      ·exact i.1 f
      ·exact i.2.1 f
      ·exact i.2.2.1 f
      ·exact(R _ f).elim i.2.2.2.1 (λj=>A)
      ·exact i.2.2.2.2 f
      ·exact bb _ f fE
     ·have:=cK.DW (b:=an) (cp:=cp) (d:=d) h.cL;rw[ct]at this;exact this
    ·refine⟨((cu.bw (λg e=>Y (by simp at e;simp[e]))).R L (λg e=>?_)),λg e=>?_⟩
     ·simp only[b4,ce,iZ,or_false]at e⊢;rcases e with e|e|e
      ·simp[e]
      ·simp[e]
      ·exact Z A
     ·simp only[b4,ce,iZ,or_false]at e⊢;rcases e with e|e|e|e|e|e
      ·exact Y (Y (Y e))
      ·simp[e]
      ·simp[e]
      ·exact(R g e).imp (λj=>by simp[j]) id
      ·simp[e]
      ·simp[e]
end
def hp{aU:Type}(w:aN)(aO:List Nat)(be:aU->List S)(aa:S)(l:List aU):Prop:=aT w be aa l/\(l=[]\/∃b af c,aa=T (E ⟨b,af,I⟩) l.length c/\b∈aO)
section
variable{be:aU->List S}{l:List aU}{ja:List (List UInt8)}
def hp.J(h:hp w aO be aa l)(i:Q bU w a)(j:bR aO bU):hp a aO be aa l:=by
 obtain⟨f,k⟩:=h;rcases k with rfl|⟨b,af,c,rfl,g⟩
 ·obtain⟨d,c,rfl,m,_⟩:=f;exact⟨⟨d,c,rfl,m,Y rfl⟩,Y rfl⟩
 ·exact⟨f.J i (by intro n o p q e;cases e;exact j b g),Z ⟨b,af,c,rfl,g⟩⟩
def hp.pI(h:hp w aO be aa l)(a:∀g∈aO,g∈JV):hp w JV be aa l:=
 ⟨h.1,h.2.imp id λ⟨b,af,c,d,e⟩=>⟨b,af,c,d,a b e⟩⟩
def hp.gW:hp w aO be (T I 0 0) ([]:List aU):=⟨aT.gW _ _,Y rfl⟩
def hp.aW(h:hp w aO be aa l):aa.oneCell'=G:=h.1.aW
def hp.c4(h:bP w av a6 aa l.length (l.flatMap be) am)(b:∀x,(be x).length=a6)(ao:0<a6):hp w am be aa l:=by
 refine⟨h.eF b ao,?_⟩;by_cases a:l=[]
 ·exact Y a
 ·obtain⟨g,af,c,e,d⟩:=h.gm (List.length_pos_iff.2 a);exact Z ⟨g,af,c,e,by rw[d];simp⟩
def s9(w:aN)(aO:List Nat)(aa:S)(l:List (List UInt8)):Prop:=∃cj:List (S×List UInt8),hp w aO kl aa cj/\(∀ab∈cj,hp w aO bs ab.1 ab.2)/\cj.map (·.2)=l
def s9.J(h:s9 w aO aa ja)(b:Q bU w a)(c:bR aO bU):s9 a aO aa ja:=by obtain⟨cj,d,e,f⟩:=h;exact⟨cj,d.J b c,λab g=>(e ab g).J b c,f⟩
def s9.g2(h:s9 w aO aa ja):ju w aa ja:=by obtain⟨cj,a,b,c⟩:=h;exact⟨cj,a.1,λab d=>(b ab d).1,c⟩
def s9.gW:s9 w aO (T I 0 0) []:=⟨[],hp.gW,B,rfl⟩
def TQ(ab:S×List UInt8):(kl ab).length=1:=rfl
def ajn:C.underlying 183=E (.slice 52):=K
def TR:C.underlying 211=E (.slice 294):=K
def ajo(h:s9 w aO aa ja)(D:ja.length<=1000):a0 C 208 #[aa] w λae a=>∃(cj:List (S×List UInt8))(aD:List Nat),bP a 52 1 ae cj.length (cj.flatMap kl) aD/\(∀ab∈cj,hp a aO bs ab.1 ab.2)/\cj.map (·.2)=ja/\(∀g∈aD,w.heap.size<=g)/\Q [] w a:=by
 obtain⟨cj,m,n,f⟩:=h;have J:cj.length=ja.length:=by rw[<-f,dU]
 refine a9 .D 1 Tryz.func208 K rfl λa1 s=>?_;simp+decide only[↓a8,ba,Tryz.f208];subst s;obtain⟨d,c,rfl,L,i⟩:=id m.1;apply(eqSlNone ajn).2;cases d with
 |none=>
  refine cG.2 ⟨λ_=>?_,λj=>(by cases j)⟩;have t:cj=[]:=i.resolve_right (by rintro⟨b,af,h,_⟩;cases h);subst t;exact⟨[],[],gJ _ _ _,B,f,B,Q.b0 _ _⟩
 |some d=>
  refine cG.2 ⟨λj=>(by cases j),λ_=>?_⟩;refine KR mK λaA u o dI=>BF (l:=([]:List (S×List UInt8))) (be:=kl) mK u pe TQ (λx v N p=>?_) (m.1.V o) (by simp;omega) (by unfold d0;simp;omega) λae ax cM y z A=>?_
  ·simp only[kl,ku]at p;subst p;exact(n x v).aW
  ·have q:Q [] w ax:=o.R A (by intro k r;simp at r;subst r;exact Z (fF _));refine⟨cj,cM,y,λab i=>(n ab i).J q (bR.D _),f,λg e=>?_,q⟩;rcases z g e with e|e
   ·simp at e;omega
   ·omega
end
def xJ(ad:dn):kQ:=⟨ad.dF,ad.iE,ad.cu,ad.cS,T I 0 0,T I 0 0⟩
def k3(ai:Nat×dn):List S:=F H ai.1::eb (xJ ai.2)
def EY(ai:Nat×dn):(k3 ai).length=7:=rfl
def Jm(ai:Nat×dn):∀ae∈k3 ai,ae.oneCell'=G:=by intro ae a;simp[k3,eb,xJ]at a;rcases a with rfl|rfl|rfl|rfl|rfl|rfl|rfl<;>rfl
structure pL(bv w:aN)(fI hU:Nat)(hh:List Nat)(cA hN:S)(fX aO:List Nat)(g:fM):Prop where
 bg:aC w fI 267 [aP hU,cA,hN]
 k1:iJ w hU hh g.bd
 c2:s9 w aO cA g.f2
 fW:bP w 121 7 hN g.fW.length (g.fW.flatMap k3) fX
 xK:∀x∈aO,bv.heap.size<=x
 kE:∀x∈fX,bv.heap.size<=x
 uk:bv.heap.size<=fI
 wv:fI∉aO
 ul:fI∉fX
 nm:fI∉hh
 lC:bR aO fX
 o1:bR hh fX
 vi:∀x∈aO,x<w.heap.size
 J:Q [] bv w
section
variable{g:fM}
def pL.V(h:pL bv w fI hU hh cA hN fX aO g)(b:Q [] w a):pL bv a fI hU hh cA hN fX aO g:=
 ⟨h.bg.J b B,h.k1.V b,h.c2.J b (bR.D _),h.fW.J b B,h.xK,h.kE,h.uk,h.wv,h.ul,h.nm,h.lC,h.o1,λx c=>iL (h.vi x c) b.aI,h.J.R b B⟩
def pL.ajp(h:pL bv w fI hU hh cA hN fX aO g)(b:Q bU w a)(d:fI∉bU)(e:bR hh bU)(f:bR aO bU)(i:bR fX bU)(j:∀x∈bU,bv.heap.size<=x):pL bv a fI hU hh cA hN fX aO g:=
 ⟨h.bg.J b d,h.k1.J b e,h.c2.J b f,h.fW.J b i,h.xK,h.kE,h.uk,h.wv,h.ul,h.nm,h.lC,h.o1,λx c=>iL (h.vi x c) b.aI,h.J.R b (λx c=>Z (j x c))⟩
def vj(h:aC w fI ar [aP hU,cA,hN]):(∀ac,aZ C (a4 130 (aE (E ⟨fI,0,I⟩))) w ac↔ac (aP hU))/\(∀ac,aZ C (a4 183 (aE (E ⟨fI,1,I⟩))) w ac↔ac cA)/\(∀ac,aZ C (a4 118 (aE (E ⟨fI,2,I⟩))) w ac↔ac hN):=
 ⟨λ_=>bl K6 (h.bh (af:=0)),λ_=>bl rA (h.bh (af:=1)),λ_=>bl K4 (h.bh (af:=2))⟩
def BQ{x:s8}{a:Nat}(h:aC w a 179 (k2 x)):(∀ac,aZ C (a4 3 (aE (E ⟨a,0,I⟩))) w ac↔ac (F H x.1))/\(∀ac,aZ C (a4 3 (aE (E ⟨a,1,I⟩))) w ac↔ac (F H x.2.1.dF))/\(∀ac,aZ C (a4 43 (aE (E ⟨a,1,I⟩))) w ac↔ac (ho x.2.1 x.2.2)):=
 ⟨λ_=>bl bZ (h.bh (af:=0)),λ_=>bl bZ (h.bh (af:=1)),λ_=>gC (l:=f1 x.2.1 x.2.2) CT (by have:=h.cy.d1 1 14;simpa[k2,f1]using this)⟩
def TS{av:ji}(h:nJ w ah ej ab c au aB ay al ai av)(k:ac (F H av.length) w):W C (ck 207 #[aP ah]) w ac:=aH YI (ahd h) (by rintro _ _ ⟨rfl,rfl⟩;exact k)
def TT(w a:aN)(g b:Nat)(c:Except Int (c3×nY))(d:List S):Prop:=Q [] w a/\w.heap.size<=b/\((∃(k:Int)(cz:ex),c=b5 k/\cz.a5=k/\d=[aP b,ff (E cz)]/\aC a b 220 (og i4))\/∃(e:c3)(ag:nY)(f:List Nat),c=bA (e,ag)/\d=[aP b,cT]/\aC a b 220 (og ag)/\iJ a g f e/\(∀x∈f,w.heap.size<=x))
def ajq{ad:dn}:C.built 121 #[(0,F H t),(1,je (xJ ad))].toList=E (k3 (t,ad)).toArray:=K
def TU(bv a:aN)(fI dB:Nat)(dq:List Nat)(g:fM)(bb:Option fM)(ae:S):Prop:=match bb with
 |none=>ae=aK U/\∃hU hh cA hN fX aO,pL bv a fI hU hh cA hN fX aO g/\((g.f2=[]/\hU=dB/\hh=dq)\/∀x∈hh,bv.heap.size<=x)
 |some b=>ae=aK G/\∃hU hh cA hN fX aO,pL bv a fI hU hh cA hN fX aO b/\((b.f2=[]/\hU=dB/\hh=dq)\/∀x∈hh,bv.heap.size<=x)
variable{ef:List s8}
def ajr(aA:l1 bv b ab ah cR b8 dB fL ej dq aD c0 ef c au aB ay al ai aQ an)(s:pL bv w fI hU hh cA hN fX aO g)(cb:(g.f2=[]/\hU=dB/\hh=dq)\/∀x∈hh,bv.heap.size<=x)(bH:g.bd.bp dE)(gf:dE<=3000)(aF:d.bt=G)(eq:i3 d.a5=G)(er:sg bv c0 bc d.bk.a7)(gg:g.f2.length<=16)(et:g.fW.length<=16)(gh:∀ai∈g.fW,ai.2.gj=[]/\ai.2.dY=[]):
  a0 C 147 #[aP b,aP fI,b6 (k2 (t,d,bc)).toArray] w λae a=>TU bv a fI dB dq g (lS c.aJ an.cx.length g t d) ae:=by
 have gi:=aA.bg.aL;have bI:=tU aF eq;have cc:=G2 bI;have gj:d.bk.a7.length<=8:=cc.2.2;have gk:an.cx.length<=c.bd:=aA.cL.dT;have cU:=aA.ij.ij.cL.1;have gl:=cU.jZ;have h:=aA.V s.J;have bo:aT w Go.X.dV bc d.bk.a7:=(er.J s.J (bR.D _)).1;have gm:=s.uk;obtain⟨bd,cC,rfl,_⟩:=id bo;refine a9 Nc 3 Tryz.func147 K rfl λa1 ew=>?_;simp+decide only[↓a8,ba,Nc,Tryz.f147];subst ew;refine eA λax bK dG gn=>?_;have bK:aC ax w.heap.size 179 (k2 (t,d,T bd d.bk.a7.length cC)):=by simpa[bF]using bK
 obtain⟨bL,bM,be⟩:=BQ bK;simp only[M,be];refine I8 (bo.V dG) λdH dK=>uf λgs ex ey gt=>s3 ex rfl rfl λbU cW ez gv=>?_;have dL:=dK.R (ey.R ez B) B;have bV:Q [] w bU:=dG.R dL B;have dM:=bK.J dL B;have gw:w.heap.size<dH.heap.size:=by have:=dK.aI;omega
 generalize gx:w.heap.size=dN at*;generalize gy:dH.heap.size=dO at*;have cf:=s.V bV;obtain⟨cg,bW,ch⟩:=vj cf.bg;simp only[M,cg];apply aH YH (aii cf.k1 bH A);rintro _ aS ⟨bX,az,rfl,ci,bp,aU⟩;have cm:=bV.R aU B;have dP:=cW.J aU B;have gB:=dM.J aU B;have cY:=cf.V aU;have cn:=h.V cm;have gC:=aU.aI;have gD:=cW.aL;obtain⟨eC,eD,eE⟩:=cY.c2.g2.cY;have aW:=cD [] aS;refine bT (λaG a=>∃D,TT bU a bX D (g.bd.h9 d.c2 an.cx.length g.f2.length) aG) ?_ ?_
 ·obtain⟨aor,eF,eG,eH,eI,eJ,eL,eM,cZ⟩:=ik (bD dP);obtain⟨eN,c1,eO,eP,eQ,eR,eT⟩:=l0 (bD cn.bg);obtain⟨cg,bW,ch⟩:=vj (bD cY.bg);simp only[M,cZ,c1,bW];subst eE;simp only[M];have ao:∀{j:aN}{ad:Prop},Q [] aS j->(gu C (a4 82 (aP dO)) (jW d.c2 (T bd d.bk.a7.length cC)) j ad↔ad):=λaj=>mE (l:=ha d.c2 (T bd d.bk.a7.length cC)) An (dP.J aj B).cy;have c2:∀{j:aN}{ad:Prop},Q [] aS j->(gu C (a4 132 (aE (E ⟨b,1,I⟩))) (aP ah) j ad↔ad):=λaj=>dz FU ((cn.bg.J aj B).bh (af:=1));have cp:∀{j:aN}{ad:Prop},Q [] aS j->(gu C (a4 183 (aE (E ⟨fI,1,I⟩))) (T eC g.f2.length eD) j ad↔ad):=λaj=>dz rA ((cY.bg.J aj B).bh (af:=1));have dQ:=ci.aL;have dR:∀{r cd:aN}{ae:S}{D:Nat},Q [] aS r->o0 r cd bX az (g.bd.h9 d.c2 an.cx.length g.f2.length) ae->bU.heap.size<=D->D∉az->D<r.heap.size->aC cd D 220 (og i4)->
    aV C (gH ae 0) λeU=>aV C (gH ae 1) λeV=>W C (dC 220 (aP D) eU) cd λ_ eW=>∃eX,TT bU eW bX eX (g.bd.h9 d.c2 an.cx.length g.f2.length) [aP D,eV]:=by
   intro r cd ae D J o c4 eY eu aX;unfold o0 at o;cases y:g.bd.h9 d.c2 an.cx.length g.f2.length with
   |error k=>
    rw[y]at o;obtain⟨⟨cz,bf,rfl⟩,a2⟩:=o;simp only[cV,cX];refine nn (e:=i4) aX λz aq ar c5=>⟨D,((((aU.R J B)).R a2 (λx f=>Z (bp x f))).R ar (λx f=>Z (by simp at f;omega))),c4,Y ⟨k,cz,rfl,bf,rfl,aq⟩⟩
   |ok bm=>
    obtain⟨ak,ag⟩:=bm;rw[y]at o;obtain⟨rfl,L,cq,av⟩:=o;simp only[cV,cX];have e0:D∉L:=λm=>(av.cq D m).elim eY (λh=>A);refine nn (e:=ag) aX λz aq ar c5=>?_;have R:=J.aI;refine⟨D,((((aU.R J B)).R av.J (λx f=>Z (bp x f))).R ar (λx f=>Z (by simp at f;omega))),c4,Z ⟨ak,ag,L,rfl,rfl,aq,cq.J ar (λx f i=>by simp at i;subst i;exact e0 f),λx f=>(av.cq x f).elim (bp x) (λh=>A)⟩⟩
  have e3:aS.drew.heap.size=aS.heap.size:=rfl;refine⟨?_,?_⟩
  ·refine TS ((cn.V aW).ij.ij) ((cp aW).2 ((ao aW).2 ⟨?_,?_⟩))
   ·refine ES (ci.V aW) bH A bI ((bo.V cm).V aW) A λae r o=>?_;unfold o0 at o;cases y:g.bd.h9 d.c2 an.cx.length g.f2.length with
    |error k=>
     rw[y]at o;obtain⟨⟨cz,bf,rfl⟩,J⟩:=o;simp only[cV,cX];refine wq λcd aX a2 dS=>nn (e:=i4) aX λz aq ar c5=>?_;have cs:=J.aI;exact⟨_,(((aU.R aW B).R J (λx f=>Z (bp x f))).R a2 B).R ar (λx f=>Z (by simp at f;omega)),A,Y ⟨k,cz,rfl,bf,rfl,aq⟩⟩
    |ok bm=>
     obtain⟨ak,ag⟩:=bm;rw[y]at o;obtain⟨rfl,L,cq,av⟩:=o;simp only[cV,cX];refine wq λcd aX a2 dS=>nn (e:=ag) aX λz aq ar c5=>?_;have cs:=av.J.aI;have e4:=cq.aL;refine⟨_,(((aU.R aW B).R av.J (λx f=>Z (bp x f))).R a2 B).R ar (λx f=>Z (by simp at f;omega)),A,Z ⟨ak,ag,L,rfl,rfl,aq,(cq.V a2).J ar (λx f i=>by have:=e4 x f;simp at i;omega),λx f=>(av.cq x f).elim (bp x) (λh=>A)⟩⟩
   ·refine wq λr b0 J cs=>?_;have R:=aW.R J B;refine(cp R).2 ((ao R).2 (ES (ci.V R) bH A bI ((bo.V cm).V R) A λae cd o=>?_));have b1:aS.heap.size∉az:=λm=>by have:=dQ _ m;omega
    have ap:Q az r cd:=by
     unfold o0 at o;cases y:g.bd.h9 d.c2 an.cx.length g.f2.length with
     |error k=>rw[y]at o;exact o.2
     |ok bm=>rw[y]at o;obtain⟨_,L,_,av⟩:=o;exact av.J
    exact dR R o A b1 A (b0.J ap b1)
  ·refine wq λr b0 J cs=>?_;have R:=aW.R J B;refine(cp R).2 ((c2 R).2 ((ao R).2 (TS ((cn.V R).ij.ij) ((cp R).2 ((ao R).2 (ES (ci.V R) bH A bI ((bo.V cm).V R) A λae cd o=>?_))))));have b1:aS.heap.size∉az:=λm=>by have:=dQ _ m;omega
   have ap:Q az r cd:=by
    unfold o0 at o;cases y:g.bd.h9 d.c2 an.cx.length g.f2.length with
    |error k=>rw[y]at o;exact o.2
    |ok bm=>rw[y]at o;obtain⟨_,L,_,av⟩:=o;exact av.J
   exact dR R o A b1 A (b0.J ap b1)
 rintro aG _ j ⟨D,br,c4,o⟩;have dT:=bV.R br B;have e5:=cf.V br;have dV:=h.V dT;have c6:=dM.J br B;have e6:=cW.J br B;obtain⟨bL,bM,be⟩:=BQ c6;generalize y:g.bd.h9 d.c2 an.cx.length g.f2.length=ct at*;obtain⟨ht,cu,rfl,b2,cv⟩:∃ht cu,aG=[aP D,cu]/\aC j D 220 (og ht)/\((∃k cz,ct=b5 k/\cz.a5=k/\cu=ff (E cz)/\ht=i4)\/∃ak L,ct=bA (ak,ht)/\cu=cT/\iJ j bX L ak/\∀x∈L,bU.heap.size<=x):=by
  rcases o with⟨k,cz,aA,c8,aw,da⟩|⟨ak,ag,L,aA,aw,da,c8,e7⟩
  ·exact⟨_,_,aw,da,Y ⟨k,cz,aA,c8,rfl,rfl⟩⟩
  ·exact⟨_,_,aw,da,Z ⟨ak,L,aA,rfl,c8,e7⟩⟩
 have gE:0<=ht.cu/\0<=ht.bV/\ht.cu+ht.bV<=9223372036854775807:=by
  rcases cv with⟨k,cz,_,_,_,rfl⟩|⟨ak,L,aA,_⟩
  ·simp[i4]
  ·subst aA;exact(c3.DR bH bI y).2
 simp only[M,bM];apply(bl (aa:=F H ht.cu) bZ (b2.bh (af:=0))).2;try simp only[M]
 apply(bl (aa:=F H ht.cu) bZ (b2.bh (af:=0))).2;try simp only[M]
 apply(bl (aa:=F H ht.bV) bZ (b2.bh (af:=1))).2;try simp only[M]
 rw[bq A A];refine(bY EX).2 (qv λr b0 J cs=>mW (x:=⟨d.dF,0,ht.cu,ht.cu+ht.bV,T I 0 0,T I 0 0⟩) b0 rfl rfl λcd aX a2 dS=>?_);have cw:Q [] j cd:=J.R a2 B;have e9:=c6.J cw B;have gG:j.heap.size<cd.heap.size:=A;have gI:=b2.aL;generalize gJ:j.heap.size=db at*;refine bT (λaG a=>aG=[]/\aC a db 37 (eb (xJ (match ct with
  |b5 k=>ki d k
  |bA _=>⟨d.dF,0,ht.cu,ht.cu+ht.bV,[],[]⟩)))/\Q [] j a) ?_ ?_
 ·simp only[M];rcases cv with⟨k,cz,rfl,bf,rfl,rfl⟩|⟨ak,L,rfl,rfl,_⟩
  ·refine oF.2 (cG.2 ⟨λ_=>?_,λm=>(by cases m)⟩);obtain⟨bL,bM,be⟩:=BQ e9;try simp only[M,be]
   refine zp (dV.kF.V cw) λz ar=>mW (x:=ve d cz.a5) (aX.J ar B) rfl rfl λbg cx fa gK=>?_;rw[bf]at cx;exact⟨by trivial,cx,(cw.R ar B).R fa (by simp;omega)⟩
  ·refine(fp dk).2 (cG.2 ⟨λm=>(by cases m),λ_=>?_⟩);exact⟨by trivial,aX,cw⟩
 rintro _ _ z ⟨rfl,aq,a3⟩;have fb:=b2.J a3 B;have dd:=c6.J a3 B;have dW:=e6.J a3 B;have n:=e5.V a3;have b3:=dV.V a3;have gL:fI≠dN:=by have:=s.bg.aL;omega
 have gM:=bK.aL;have dY:=aq.aL;refine bT (λaG a=>∃de a5 ad cy b7 df q,lS c.aJ an.cx.length g t d=E ⟨de,a5,g.fW++[(t,ad)]⟩/\pL bv a fI cy b7 df hN fX q ⟨de,a5,g.fW⟩/\((a5=[]/\cy=dB/\b7=dq)\/∀x∈b7,bv.heap.size<=x)/\aC a db 37 (eb (xJ ad))/\aC a dN 179 (k2 (t,d,T bd d.bk.a7.length cC))/\db<a.heap.size) ?_ ?_
 ·refine bT (λaG a=>aG=[aK (match ct with
   |b5 k=>U
   |bA _=>!ht.vY)]/\z=a) ?_ ?_
  ·simp only[M];rcases cv with⟨k,cz,rfl,bf,rfl,rfl⟩|⟨ak,L,rfl,rfl,_⟩
   ·refine AA.2 (cG.2 ⟨λm=>(by cases m),λ_=>?_⟩);exact⟨by trivial,by trivial⟩
   ·refine(ry dk).2 (cG.2 ⟨λ_=>?_,λm=>(by cases m)⟩);try simp only[M]
    apply(bl (aa:=aK ht.vY) Ai (fb.bh (af:=2))).2;try simp only[M]
    exact⟨by trivial,by trivial⟩
  rintro _ _ _ ⟨rfl,rfl⟩;try simp only[M]
  rcases cv with⟨k,cz,rfl,bf,rfl,rfl⟩|⟨ak,L,rfl,rfl,fd,cB⟩
  ·refine cG.2 ⟨λm=>(by cases m),λ_=>?_⟩;exact⟨g.bd,g.f2,ki d k,hU,hh,cA,aO,by unfold lS;rw[y],⟨n.bg,n.k1,n.c2,n.fW,n.xK,n.kE,n.uk,n.wv,n.ul,n.nm,n.lC,n.o1,n.vi,n.J⟩,cb,aq,dd,dY⟩
  ·cases cE:ht.vY with
   |true=>
    refine cG.2 ⟨λm=>(by cases m),λ_=>?_⟩;exact⟨g.bd,g.f2,⟨d.dF,0,ht.cu,ht.cu+ht.bV,[],[]⟩,hU,hh,cA,aO,by unfold lS;rw[y];simp only[cE,if_true],⟨n.bg,n.k1,n.c2,n.fW,n.xK,n.kE,n.uk,n.wv,n.ul,n.nm,n.lC,n.o1,n.vi,n.J⟩,cb,aq,dd,dY⟩
   |false=>
    refine cG.2 ⟨λ_=>?_,λm=>(by cases m)⟩;have dZ:=fd.V a3;have bt:=cD [] z;have fe:wm d.c2:=⟨by have:=cc.1;omega,by have:=cc.2.1;omega,by have:d.c2.bk.a7.length<=8:=cc.2.2;omega⟩;refine bT (λaG a=>∃dg V q,aG=[aP dg,V]/\aC a dg 25 (en c)/\hp a q bs V d.c2.ch/\(∀x∈q,z.heap.size<=x/\x<a.heap.size)/\Q [] z a) ?_ ?_
    ·obtain⟨aor,eF,eG,eH,eI,eJ,eL,eM,cZ⟩:=ik (bD dW);obtain⟨eN,c1,eO,eP,eQ,eR,eT⟩:=l0 (bD b3.bg);try simp only[M,c1,cZ]
     have ao:∀{j:aN}{ad:Prop},Q [] z j->(gu C (a4 82 (aP dO)) (jW d.c2 (T bd d.bk.a7.length cC)) j ad↔ad):=λaj=>mE (l:=ha d.c2 (T bd d.bk.a7.length cC)) An (dW.J aj B).cy;have c2:∀{j:aN}{ad:Prop},Q [] z j->(gu C (a4 132 (aE (E ⟨b,1,I⟩))) (aP ah) j ad↔ad):=λaj=>dz FU ((b3.bg.J aj B).bh (af:=1));have d1:∀{j:aN}{ac:S->aN->Prop},Q [] z j->ac (aP cR) j->W C (ck 61 #[aP ah]) j ac:=λaj b9=>aH Gj (IM (b3.V aj).ij) (by rintro _ _ ⟨rfl,rfl⟩;exact b9);have dh:∀{j:aN}{ac:S->aN->Prop},Q [] z j->(∀r,Q [] j r->ac (fQ c) r)->W C (ck 101 #[aP cR]) j ac:=λaj b9=>by obtain⟨dc,fg⟩:=(b3.V aj).ij.TO;exact aH tQ (ua fg) (by rintro _ r ⟨rfl,J⟩;exact b9 r J)
     have put:∀{j:aN}{ac:S->aN->Prop},Q [] z j->(∀ae r q,hp r q bs ae d.c2.ch->(∀x∈q,j.heap.size<=x/\x<r.heap.size)->Q [] j r->ac ae r)->W C (ck 109 #[jW d.c2 (T bd d.bk.a7.length cC)]) j ac:=λ{j}{ac} aj b9=>
      aH LC (S8 ((bo.V (dT.R a3 B)).V aj) fe) (by
       rintro ae r ⟨bJ,d2,fk,J⟩;exact b9 ae r bJ (hp.c4 d2 e2 A) (λx f=>⟨fk x f,d2.aL x f⟩) J)
     have e3:z.drew.heap.size=z.heap.size:=rfl;refine⟨?_,?_⟩
     ·refine d1 bt ((ao bt).2 ⟨?_,?_⟩)
      ·refine dh bt λd3 ap=>?_;have u:=bt.R ap B;refine(ao u).2 ⟨?_,?_⟩
       ·refine put u λae cF q f X aI=>?_;have v:=u.R aI B;refine mR λdj aJ aY dl=>ml (g:=c) aJ rfl λcH bh aL dm=>?_;have dn:Q [] cF cH:=aY.R aL B;exact⟨_,ae,q,rfl,bh,f.J dn (bR.D _),λx f=>⟨by have:=(X x f).1;have:=u.aI;omega,by have:=(X x f).2;have:=dn.aI;omega⟩,v.R dn B⟩
       ·refine mR λdj aJ aY dl=>?_;have v:=u.R aY B;exact(ao v).2 (put v λae cF q f X aI=>ml (g:=c) (aJ.J aI B) rfl λcH bh aL dm=>⟨_,ae,q,rfl,bh,f.J aL (λx h i=>by have:=(X x h).1;have:=v.aI;have:=aJ.aL;simp at i;omega),λx h=>⟨by have:=(X x h).1;have:=v.aI;omega,by have:=(X x h).2;omega⟩,(v.R aI B).R aL (λx i=>Z (by have:=u.aI;simp at i;omega))⟩)
      ·refine mR λdj aJ aY dl=>?_;have u:=bt.R aY B;refine(ao u).2 (dh u λd3 ap=>?_);have v:=u.R ap B;exact(ao v).2 (put v λae cF q f X aI=>ml (g:=c) ((aJ.J ap B).J aI B) rfl λcH bh aL dm=>⟨_,ae,q,rfl,bh,f.J aL (λx h i=>by have:=(X x h).1;have:=v.aI;have:=aJ.aL;have:=ap.aI;simp at i;omega),λx h=>⟨by have:=(X x h).1;have:=v.aI;omega,by have:=(X x h).2;omega⟩,(v.R aI B).R aL (λx i=>Z (by have:=u.aI;simp at i;omega))⟩)
     ·refine mR λdj aJ aY dl=>?_;have u:=bt.R aY B;refine(ao u).2 ((c2 u).2 (d1 u ((ao u).2 (dh u λd3 ap=>?_))));have v:=u.R ap B;exact(ao v).2 (put v λae cF q f X aI=>ml (g:=c) ((aJ.J ap B).J aI B) rfl λcH bh aL dm=>⟨_,ae,q,rfl,bh,f.J aL (λx h i=>by have:=(X x h).1;have:=v.aI;have:=aJ.aL;have:=ap.aI;simp at i;omega),λx h=>⟨by have:=(X x h).1;have:=v.aI;omega,by have:=(X x h).2;omega⟩,(v.R aI B).R aL (λx i=>Z (by have:=u.aI;simp at i;omega))⟩)
    rintro _ _ bg ⟨dg,V,q,rfl,d4,bu,X,bi⟩;have bw:=n.V bi;have dp:=dd.J bi B;have fl:=aq.J bi B;obtain⟨cg,bW,ch⟩:=vj bw.bg;try simp only[M,bW]
    apply aH YJ (ajo bw.c2 A);rintro gN cI ⟨cj,fm,fn,fo,d5,dr,bx⟩;have gO:cj.length=g.f2.length:=by rw[<-d5,dU]
    have gR:=bu.J bx (bR.D _);have fq:∀ae∈kl (V,d.c2.ch),ae.oneCell'=G:=by intro ae d6;simp[kl]at d6;subst d6;exact bu.aW
    have cJ:V.cells=#[V]:=tI bu.aW;refine hw mK [V] rfl rfl (by intro bm a6;simp at a6;subst a6;rw[cJ];rfl) A A λd7 ds aM gS=>?_;have ds:aC d7 cI.heap.size 52 (kl (V,d.c2.ch)):=by simpa[cJ,kl]using ds
    refine m8 mK (fn.J aM B) ds.cy rfl fq A (by unfold d0;omega) A λdt bz bB d8 aZ fr fs=>?_;have fu:=bx.aI;have gT:=aM.aI;have fv:=aZ.aI;have fy:∀x∈bB,bg.heap.size<=x:=λx f=>(fr x f).elim (dr x) (λm=>A);have du:Q [] bg bz:=(bx.R aM B).R aZ (λx f=>Z (dr x f));have fz:=d4.J du B;have gU:=bu.J du (bR.D _);refine(fj fz).2 (hw mK [V] rfl rfl (by intro bm a6;simp at a6;subst a6;rw[cJ];rfl) A A λd9 dv cK gV=>?_);have dv:aC d9 bz.heap.size 52 (kl (V,d.c2.ch)):=by simpa[cJ,kl]using dv
    have ec:=du.R cK B;have fA:=bu.J ec (bR.D _);have fB:ju d9 (T (E ⟨bz.heap.size,0,I⟩) 1 1) [d.c2.ch]:=⟨[(V,d.c2.ch)],⟨_,_,rfl,B,Z ⟨_,_,rfl,by simpa using dv.cy⟩⟩,by intro ab aF;simp at aF;subst aF;exact fA.1,rfl⟩;apply aH Gv (IJ cU fB B);rintro fC ee ⟨fG,cL⟩;have a7:=ec.R cL B;obtain⟨bC,gr,cM,rfl,fH⟩:∃bC gr cM,fC=T bC gr cM/\bC.isNone=!lf c.aJ [d.c2.ch]:=by
     rcases fG with⟨aw,rfl⟩|⟨aw,⟨fJ,fM,rfl⟩,_⟩
     ·exact⟨_,_,_,rfl,by rw[aw];rfl⟩
     ·exact⟨_,_,_,rfl,by rw[aw];rfl⟩
    apply(eqSlNone TR).2;rw[fH];have eg:=bw.V a7;have dw:=dp.J a7 B;have dx:=fl.J a7 B;have fN:=b3.V (bi.R a7 B);refine cG.2 ⟨λbb=>?_,λbb=>?_⟩
    ·have bb:lf c.aJ [d.c2.ch]=U:=by simpa using bb
     obtain⟨bL,bM,be⟩:=BQ dw;try simp only[M,be,hk hY]
     refine zp (cz:=.dD 11) fN.kF λeh aR=>mW (x:=ve d 11) (dx.J aR B) rfl rfl λei cO cP fO=>?_;have fP:=s.bg.aL;have cQ:=s.k1.aL;have bE:=s.vi;have cS:=s.fW.aL;have fR:=bV.aI;have fT:=br.aI;have fU:=s.J.aI;have bG:=eg.V aR;have am:pL bv ei fI hU hh cA hN fX aO g:=bG.ajp cP (by simp;omega) (λx f i=>by have:=cQ x f;simp at i;omega) (λx f i=>by have:=bE x f;simp at i;omega) (λx f i=>by have:=cS x f;simp at i;omega) (λx f=>by simp at f;omega);have bj:lS c.aJ an.cx.length g t d=E ⟨g.bd,g.f2,g.fW++[(t,ki d 11)]⟩:=by unfold lS;rw[y];simp only[cE,bb];rfl
     exact⟨g.bd,g.f2,ki d 11,hU,hh,cA,aO,bj,⟨am.bg,am.k1,am.c2,am.fW,am.xK,am.kE,am.uk,am.wv,am.ul,am.nm,am.lC,am.o1,am.vi,am.J⟩,cb,cO,(dw.J aR B).J cP (by simp;omega),cO.aL⟩
    ·have bb:lf c.aJ [d.c2.ch]=G:=by simpa using bb
     apply(fj (d4.J a7 B)).2;have fV:=bu.J a7 (bR.D _);have fW:=d8.J (cK.R cL B) B;have ek:s9 ee (aO++(bB++q)) dt (g.f2++[d.c2.ch]):=by
      have fY:bP ee 52 1 dt (cj++[(V,d.c2.ch)]).length ((cj++[(V,d.c2.ch)]).flatMap kl) bB:=by
       have a5:(cj++[(V,d.c2.ch)]).flatMap kl=cj.flatMap kl++kl (V,d.c2.ch):=by rw[hL];simp
       rw[a5,di];exact fW
      refine⟨cj++[(V,d.c2.ch)],(hp.c4 fY TQ A).pI (λx f=>by simp[f]),λab aF=>?_,by rw[g6,d5];rfl⟩;rcases b4.1 aF with aF|aF
      ·refine((fo ab aF).J (((aM.bw (dE:=fm) B).R aZ (λx f=>Y f)).R (cK.R cL B) B) (λx f i=>?_)).pI (λx f=>by simp[f]);have:=n.vi x f;have:=dr x i;have:=bi.aI;omega
      ·rw[ku.1 aF];exact fV.pI (λx f=>by simp[f])
     apply aH Gv (IJ cU ek.g2 (by simp;omega));rintro fZ eh ⟨f0,aR⟩;obtain⟨gW,gX,gY,rfl,f1⟩:∃bC gr cM,fZ=T bC gr cM/\bC.isNone=!lf c.aJ (g.f2++[d.c2.ch]):=by
      rcases f0 with⟨aw,rfl⟩|⟨aw,⟨fJ,fM,rfl⟩,_⟩
      ·exact⟨_,_,_,rfl,by rw[aw];rfl⟩
      ·exact⟨_,_,_,rfl,by rw[aw];rfl⟩
     apply(eqSlNone TR).2;rw[f1];have bG:=eg.V aR;refine cG.2 ⟨λbk=>?_,λbk=>?_⟩
     ·have bk:lf c.aJ (g.f2++[d.c2.ch])=U:=by simpa using bk
      have bj:lS c.aJ an.cx.length g t d=I:=by unfold lS;rw[y];simp only[cE,bb,bk];rfl
      rw[bj];exact⟨rfl,hU,hh,cA,hN,fX,aO,bG,cb⟩
     ·have bk:lf c.aJ (g.f2++[d.c2.ch])=G:=by simpa using bk
      have bj:lS c.aJ an.cx.length g t d=E ⟨ak,g.f2++[d.c2.ch],g.fW++[(t,⟨d.dF,0,ht.cu,ht.cu+ht.bV,[],[]⟩)]⟩:=by unfold lS;rw[y];simp only[cE,bb,bk];rfl
      try simp only[M]
      refine eK CR bG.bg B rfl λei cO cP fO=>?_;try simp only[M]
      refine eK FW cO B fs λel f2 f3 gZ=>?_;have bn:Q [fI] eh el:=cP.R f3 (λx f=>Y f);have fP:=s.bg.aL;have cQ:=dZ.aL;have bE:=s.vi;have cS:=s.fW.aL;have fR:=bV.aI;have fT:=br.aI;have fU:=s.J.aI;have g0:=a3.aI;have g1:=bi.aI;have g2:=a7.aI;have em:∀x∈q,z.heap.size<=x/\x<bg.heap.size:=X;have f4:=d8.aL;have f5:=dZ.V ((bi.R a7 B).R aR B);have dy:∀x∈aO++(bB++q),x∈aO\/z.heap.size<=x:=λx f=>by
       rcases b4.1 f with f|f
       ·exact Y f
       ·rcases b4.1 f with f|f
        ·exact Z (by have:=fy x f;omega)
        ·exact Z (em x f).1
      have eo:fI∉aO++(bB++q):=λm=>(dy _ m).elim s.wv (λh=>A);have g3:bz.heap.size<=el.heap.size:=by have:=cK.aI;have:=cL.aI;have:=aR.aI;have:=bn.aI;omega
      refine⟨ak,g.f2++[d.c2.ch],⟨d.dF,0,ht.cu,ht.cu+ht.bV,[],[]⟩,bX,L,dt,aO++(bB++q),bj,⟨by simpa using f2,f5.J bn (λx f i=>?_),(ek.J aR (bR.D _)).J bn (λx f i=>by simp at i;subst i;exact eo f),bG.fW.J bn (λx f i=>by simp at i;subst i;exact s.ul f),λx f=>(dy x f).elim (s.xK x) (λh=>A),s.kE,s.uk,eo,s.ul,λm=>?_,λx f i=>?_,λx f i=>?_,λx f=>?_,bG.J.R bn (λx f=>Z (by simp at f;omega))⟩,Z (λx f=>?_),(dx.J aR B).J bn (by simp;omega),(dw.J aR B).J bn (by simp;omega),?_⟩
      ·have:=cB x f;simp at i;omega
      ·have:=cB _ m;omega
      ·have:=cS x i;rcases dy x f with h|h
       ·exact s.lC x h i
       ·omega
      ·have:=cS x i;have:=cB x f;omega
      ·rcases b4.1 f with f|f
       ·have:=bE x f;omega
       ·rcases b4.1 f with f|f
        ·have:=f4 x f;omega
        ·have:=(em x f).2;omega
      ·have:=cB x f;omega
      ·have:=dx.aL;omega
 rintro _ _ bg ⟨de,a5,ad,cy,b7,df,q,bj,bw,f6,cx,dp,g4⟩;have f8:=cD [] bg;obtain⟨cg,bW,ch⟩:=vj (bD bw.bg);obtain⟨bL,bM,be⟩:=BQ (bD dp);simp only[M,ch,bL];refine((c7.hJ (bD cx)).2.2.2.2.2.2 _).2 ((bY ajq).2 (hw F8 [b6 (k3 (t,ad)).toArray] rfl rfl (by intro bm a6;simp at a6;subst a6;rfl) A A λcI dD bx fu=>?_));have dD:aC cI bg.heap.size 121 (k3 (t,ad)):=by simpa[bF]using dD
 have aY:=f8.R bx B;have p:=bw.V aY;apply(dz K4 (p.bg.bh (af:=2))).2;have g5:g.fW.length<=16:=et;refine m8 F8 p.fW dD.cy rfl (Jm _) (by simp only;omega) (by unfold d0;simp only;omega) A λep d7 dF f9 aM ga gb=>?_;try simp only[M]
 refine eK V9 (p.bg.J aM p.ul) B gb λbz gc aZ fv=>?_;rw[bj];have g7:=bx.aI;have g8:=p.J.aI;have bE:=p.vi;have cQ:=p.k1.aL;have g9:=p.bg.aL;have ca:∀x∈dF,x∈fX\/cI.heap.size<=x:=ga;refine⟨rfl,cy,b7,df,ep,dF,q,⟨by simpa using gc,(p.k1.J aM p.o1).J aZ (λx f i=>p.nm (by simp at i;subst i;exact f)),(p.c2.J aM p.lC).J aZ (λx f i=>p.wv (by simp at i;subst i;exact f)),?_,p.xK,λx f=>(ca x f).elim (p.kE x) (λm=>A),p.uk,p.wv,λm=>(ca _ m).elim p.ul (λm=>A),p.nm,λx f i=>(ca x i).elim (p.lC x f) (λm=>by have:=bE x f;omega),λx f i=>(ca x i).elim (p.o1 x f) (λm=>by have:=cQ x f;omega),λx f=>by have:=bE x f;have:=aM.aI;have:=aZ.aI;omega,(p.J.R aM (λx f=>Z (p.kE x f))).R aZ (λx f=>Z (by simp at f;subst f;exact p.uk))⟩,f6⟩;have a5:(g.fW++[(t,ad)]).flatMap k3=g.fW.flatMap k3++k3 (t,ad):=by rw[hL];simp
 show bP bz _ 7 ep (g.fW++[(t,ad)]).length ((g.fW++[(t,ad)]).flatMap k3) dF;rw[a5,di];exact f9.J aZ (λx f i=>by
  simp at i;subst i;exact(ca _ f).elim p.ul (λm=>A))
end
end
end Go.Proofs.YtepeilglbedgdaaGreatDoor
namespace Go.X
variable{am:List Nat}{w:aN}{a6 af ai b j k n:Nat}{aU jA:Type}{ae:S}{ac:S -> aN -> Prop}{ad:ft}{ar av:co}
section
open Go.RowKit
def f9{jA:Type}(ct:List jA)(ah:Nat)(ae:List jA):List jA:=ct.take ah++ae++ct.drop (ah+ae.length)
def aoj(ct an ae:List jA)(ai:Nat):f9 (ct++an) (ct.length+ai) ae=ct++f9 an ai ae:=by unfold f9;rw[List.take_length_add_append,sp,List.drop_length_add_append];simp
def aok(ct an ae:List jA)(h:ai+ae.length<=ct.length):f9 (ct++an) ai ae=f9 ct ai ae++an:=by unfold f9;rw[List.take_append_of_le_length A,List.drop_append_of_le_length h];simp
def aol(ct ae:List jA)(h:ai+ae.length<=ct.length):(f9 ct ai ae).length=ct.length:=by unfold f9;simp only[di,ea,e8];omega
def aon(ct ae:List jA)(h:af+ai+ae.length<=ct.length):(f9 ct (af+ai) ae).drop af=f9 (ct.drop af) ai ae:=by
 have e:ct=ct.take af++ct.drop af:=(l3 af ct).symm;have a:(ct.take af).length=af:=by rw[ea];omega
 have:=aoj (ct.take af) (ct.drop af) ae ai;rw[a,<-e]at this;rw[this];exact List.drop_left' a
def aoo(ct ae:List jA)(h:ai+ae.length<=n)(b:n<=ct.length):(f9 ct ai ae).take n=f9 (ct.take n) ai ae:=by
 have a:(ct.take n).length=n:=by rw[ea];omega
 have:=aok (ct.take n) (ct.drop n) ae (ai:=ai) A;rw[l3]at this;rw[this];exact List.take_left' (by rw[aol _ _ A,a])
def aom{aU:Type}{be:aU->List S}{a6 ai:Nat}{ae:List S}{x:aU}(a:∀x,(be x).length=a6)(b:ai+ae.length<=a6):∀(l:List aU)(j:Nat)(c:j<l.length),be x=f9 (be l[j]) ai ae->f9 (l.flatMap be) (j*a6+ai) ae=(l.set j x).flatMap be
 |ap::l,0,_,h=>by rw[aoi,iA,iA,Nat.zero_mul,gQ,aok _ _ _ (by rw[a];exact b),h];rfl
 |ap::l,j+1,c,h=>by rw[List.set_cons_succ,iA,iA,<-aom a b l j (by simpa using c) h];have:=aoj (be ap) (l.flatMap be) ae (j*a6+ai);rw[a]at this;rw[<-this];congr 1;rw[iM];omega
def aop{c:Nat}{be:aU->List S}{l:List aU}{x:aU}(r:ep ad ar k=G)(h:bP w av a6 (T (E ⟨b,af,I⟩) n c) l.length (l.flatMap be) am)(f:∀x,(be x).length=a6)(m:j<l.length)
  (o:ae.cells.toList.length=k) (dI:ai+k<=a6) (s:be x=f9 (be l[j]) ai ae.cells.toList) (t:∀aa∈ae.cells.toList,aa.oneCell'=G)
  (u:∀a,bP a av a6 (T (E ⟨b,af,I⟩) n c) l.length ((l.set j x).flatMap be) am->Q am w a->ac bS a):W ad (dC ar (aE (E ⟨b,af+j*a6+ai,I⟩)) ae) w ac:=by
 rcases h.2 with⟨d,_,_⟩|⟨g,N,bL,cf,d,p,v,q,y,z,B⟩
 ·cases d
 ·simp only[zI,vq,Addr.mk.injEq,and_true]at d;obtain⟨⟨rfl,rfl⟩,rfl,rfl⟩:=d;have O:l.length*a6<=c*a6:=mw _ q;have D:(j+1)*a6<=l.length*a6:=mw _ m;rw[iM,sq]at D;have J:cf=cf.take (af+j*a6+ai)++(cf.drop (af+j*a6+ai)).take k++cf.drop (af+j*a6+ai+k):=by rw[<-oq (i:=k),gq,l3,l3]
  have K:ai+ae.cells.toList.length<=a6:=A;refine f0 (cv:=cf.take (af+j*a6+ai)) (c5:=(cf.drop (af+j*a6+ai)).take k) (da:=cf.drop (af+j*a6+ai+k)) r (J▸v) (by rw[ea];omega) (by rw[ea,e8];omega) (by rw[<-tj];exact o) t λa e L P=>?_;have e:aC a b av (f9 cf (af+j*a6+ai) ae.cells.toList):=by unfold f9;rw[o];exact e
  refine u a ⟨?_,Z ⟨b,af,c,_,rfl,p,e,q,y,?_,?_⟩⟩ (by rw[p];exact L)
  ·rw[kx f,i9]
  ·rw[aol _ _ A];exact z
  ·rw[sp,aon _ _ A,aoo _ _ A (by rw[e8];omega),B];exact aom f K l j m s
end
end Go.X
namespace Go.Proofs.YtepeilglbedgdaaGreatDoor
open Go.X
attribute[local irreducible]Go.X.W
variable{aD aO am c0 dq ej ez fX hh:List Nat}{a w:aN}{aQ aX ab ah ai b b8 bu cR dB fI gi hU k k7 n t:Nat}{aB cp:Nat -> Bool}{ae bc cA fL hN jn wI:S}{ac:S -> aN -> Prop}{al ay:Nat -> Nat -> Bool}{an:cK}{au:eW}{c:dR}{cz:ex}{d:dl}{dm:List ByteArray}{e:eG}{ef:List s8}{gs:c3}
section
open Go.RowKit fC gO
variable{aw:eI}{h:gZ}
def fM.o2(g:fM):Prop:=∀ai∈g.fW,ai.2.gj=[]/\ai.2.dY=[]
def TV{g c:fM}(h:g.o2)(a:lS k k7 g t d=E c):c.o2:=by
 have bz:∀{ad:dn},ad.gj=[]->ad.dY=[]->∀ai∈g.fW++[(t,ad)],ai.2.gj=[]/\ai.2.dY=[]:=by
  intro ad e f ai b;rcases b4.1 b with b|b
  ·exact h ai b
  ·rw[ku.1 b];exact⟨e,f⟩
 unfold lS at a;split at a
 ·cases a;exact bz rfl rfl
 ·split at a
  ·cases a;exact bz rfl rfl
  ·split at a
   ·cases a;exact bz rfl rfl
   ·split at a
    ·cases a
    ·cases a;exact bz rfl rfl
def TW{g:fM}{w:Nat×dl}{ef:List (Nat×dl)}:mP k k7 g (w::ef)=match lS k k7 g w.1 w.2 with
 |none=>g
 |some a=>mP k k7 a ef:=rfl
def ajs{g b:fM}(h:g.f2=[]\/lf k g.f2=G)(a:lS k k7 g t d=E b):b.f2=[]\/lf k b.f2=G:=by
 unfold lS at a;split at a
 ·cases a;exact h
 ·split at a
  ·cases a;exact h
  ·split at a
   ·cases a;exact h
   ·split at a
    ·cases a
    ·rename_i c;cases a;exact Z (by simpa using c)
section
variable{g:fM}
def ajt:eH C 134 179 15 k2 λx=>b6 (k2 x).toArray:=eH.rx C6 F4 Ji Lg
def aju{x:s8}(d:x.2.2.oneCell'=G)(k:∀a,Q [] w a->ac (b6 (k2 x).toArray) a):
  W C (hV 179) w λaa aA=>W C (dC 179 aa (b6 (k2 x).toArray)) aA λ_ ax=>aZ C (a4 179 aa) ax λab=>ac ab ax:=by
 refine gI (bm:=b6 (k2 (0,jF,T I 0 0)).toArray) (by unfold du;kernel_rfl) λaA b e g=>?_;have b:aC aA w.heap.size 179 (k2 (0,jF,T I 0 0)):=by simpa[bF]using b
 refine f0 (cv:=[]) (c5:=k2 (0,jF,T I 0 0)) (da:=[]) F4 (by simpa using b) rfl rfl rfl (by simpa[bF]using TP d) λax c f h=>?_;have c:aC ax w.heap.size 179 (k2 x):=by simpa[bF]using c
 exact(gC (l:=k2 x) Lg c.cy).2 (k ax (e.R f B))
structure ajv(w a:aN)(b:Nat)(am:List Nat)(ab:Nat)(c:dR)(aB:Nat->Bool)(ay al:Nat->Nat->Bool)(ai aQ:Nat)(an:cK)(ae:S)(az:List Nat)(gg:eW)(dL:Nat)(hN:S)(fX:List Nat):Prop where
 eq:ae=bQ #[hN,F H (mP c.aJ an.cx.length ⟨an.bd,[],[]⟩ an.cn).fW.length]
 hK:h2 a b az ab c gg aB ay al dL aQ {(an.dg c.aJ c.bd).1 with cn:=an.cn}
 de:bX am az w a
 fW:bP a 121 7 hN (an.dg c.aJ c.bd).2.length ((an.dg c.aJ c.bd).2.flatMap k3) fX
 cq:∀x∈fX,w.heap.size<=x
 mV:bR az fX
 TX:dL<=ai+1
def ajw:C.built 267 #[(0,aP n)].toList=E #[aP n,T I 0 0,T I 0 0]:=K
def v1(h:h2 w b am ab c au aB ay ix ai aQ an)(ao:qo c aB ay)(b0:ai+1<=1152921504606846976)(b1:an.cn≠[]):
  a0 C 91 #[aP b] w λae a=>∃az gg dL hN fX,ajv w a b am ab c aB ay ix ai aQ an ae az gg dL hN fX:=by
 have y:=h.aL;obtain⟨ah,cR,b8,dB,fL,ej,dq,aD,c0,ef,h,rfl⟩:=h;have b2:=h.ij.ij.cL.1;have c8:=b2.jZ;have b3:an.bd.bp 1024:=h.cL.bd A;have da:an.cn.length=ef.length:=by rw[h.pJ,dU]
 have db:=h.cL.iG;refine a9 MM 1 Tryz.func91 K rfl λa1 b7=>?_;simp+decide only[↓a8,ba,MM,Tryz.f91];subst b7;refine Jj h λax bf=>(fp dk).2 (cG.2 ⟨λo=>(by cases o),λ_=>?_⟩);have X:=h.V bf;obtain⟨bg,aT,bh,aU,bj,aI,bk⟩:=l0 X.bg;try simp only[M,aU]
 refine(bY ajw).2 (eA λbx aV b9 dc=>?_);have aV:aC bx ax.heap.size 267 [aP dB,T I 0 0,T I 0 0]:=by simpa[bF]using aV
 have bz:=bf.R b9 B;have ac:=h.V bz;have dd:=bf.aI;have de:=aV.aL;generalize df:ax.heap.size=fI at*;have bB:fI∉[b,b8]++(ej++(dq++(aD++c0))):=λo=>by have:=y _ o;omega
 have ca:pL w bx fI dB dq (T I 0 0) (T I 0 0) [] [] ⟨an.bd,[],[]⟩:=
  ⟨aV,ac.k1,s9.gW,gJ _ _ _,B,B,A,B,B,λo=>bB (by simp[o]),bR.D _,bR.D _,B,bz⟩
 obtain⟨dg,dh,cb,_⟩:=id ac.c4.jD;refine bT (λv a=>∃g hU hh cA hN fX aO,mP c.aJ an.cx.length ⟨an.bd,[],[]⟩ an.cn=g/\(g.f2=[]\/lf c.aJ g.f2=G)/\(∃ak,g.bp an.bd an.cx.length ak/\ak<=ef.length)/\g.o2/\pL w a fI hU hh cA hN fX aO g/\((g.f2=[]/\hU=dB/\hh=dq)\/∀x∈hh,w.heap.size<=x)) ?_ ?_
 ·obtain⟨bg,aT,bh,aU,bj,aI,bk⟩:=l0 ac.bg;try simp only[M,aI]
  subst cb;try simp only[M]
  refine c1 (λv a=>∃(i:Nat)(g:fM)(hU:Nat)(hh:List Nat)(cA hN:S)(fX aO:List Nat),v=[F H i]/\i<=ef.length/\mP c.aJ an.cx.length ⟨an.bd,[],[]⟩ an.cn=mP c.aJ an.cx.length g (an.cn.drop i)/\(g.f2=[]\/lf c.aJ g.f2=G)/\g.bp an.bd an.cx.length i/\g.o2/\pL w a fI hU hh cA hN fX aO g/\((g.f2=[]/\hU=dB/\hh=dq)\/∀x∈hh,w.heap.size<=x)) (λv _=>match v with|[F _ i]=>ef.length-i.toNat|_=>0)
   ⟨0,_,dB,dq,_,_,[],[],rfl,A,rfl,Y rfl,⟨rfl,fF _,rfl⟩,by simp[fM.o2],ca,Y ⟨rfl,rfl,rfl⟩⟩ ?_
  rintro _ _ ad ⟨i,g,hU,hh,cA,hN,fX,aO,rfl,al,q,aj,J,aJ,p,aW⟩;have s:=h.V p.J;try simp only[M]
  try simp only[bi]
  refine⟨λbC=>?_,λcc=>?_⟩
  ·have aq:i<ef.length:=A;have cf:=s.c4.eF Ji A;apply(ajt.ek cf (Q.b0 _ _) aq).2;have cg:=s.vg _ (dX aq);have ch:=h.vg _ (dX aq);refine aju cg.1.aW λaA L=>?_;have aX:=h.cL.jU (ef[i].1,ef[i].2.1) (by rw[h.pJ];exact mz (f:=λx:s8=>(x.1,x.2.1)) (dX aq));have ci:an.cn.drop i=(ef[i].1,ef[i].2.1)::an.cn.drop (i+1):=by have:i<an.cn.length:=A;rw[ot this];congr 1;simp[h.pJ]
   rw[ci]at q;have cj:g.bd.bp (1024+g.f2.length):=Hh b3 J.nf;have ck:=J.hm;have cm:=J.dT;have cp:=ajr (t:=ef[i].1) (d:=ef[i].2.1) (bc:=ef[i].2.2) h (p.V L) aW cj A aX.1 aX.2 ch A A aJ;apply aH Yh cp;rintro ae aL z;unfold TU at z;rw[TW]at q;cases aM:lS c.aJ an.cx.length g ef[i].1 ef[i].2.1 with
   |none=>
    rw[aM]at z q;obtain⟨rfl,hU,hh,cA,hN,fX,aO,R,bl⟩:=z;try simp only[M]
    refine cG.2 ⟨λ_=>?_,λo=>(by cases o)⟩;exact⟨g,hU,hh,cA,hN,fX,aO,q,aj,⟨i,J,al⟩,aJ,R,bl⟩
   |some cq=>
    rw[aM]at z q;obtain⟨rfl,hU,hh,cA,hN,fX,aO,R,bl⟩:=z;try simp only[M]
    refine cG.2 ⟨λo=>(by cases o),λ_=>?_⟩;try simp only[M]
    rw[bq A A];exact⟨⟨i+1,cq,hU,hh,cA,hN,fX,aO,by trivial,A,q,ajs aj aM,Hr J (tU aX.1 aX.2) aM,TV aJ aM,R,bl⟩,by simp;omega⟩
  ·have cs:i=an.cn.length:=A;rw[cs,aoh]at q;exact⟨g,hU,hh,cA,hN,fX,aO,q,aj,⟨i,J,al⟩,aJ,p,aW⟩
 rintro _ _ ad ⟨g,hU,hh,cA,hN,fX,aO,q,aj,⟨ak,J,n⟩,aJ,p,aW⟩;have s:=h.V p.J;obtain⟨bE,bG,ct,_⟩:=id p.fW.jD;obtain⟨dj,dl,cu⟩:=p.c2.g2.cY;have ck:=J.hm;have cm:=J.dT;obtain⟨ag,V,u⟩:=vj p.bg;try simp only[M,u]
 subst ct;try simp only[M]
 try simp only[M,V]
 subst cu;have dm:=p.J.aI;try simp only[M,bi]
 refine⟨λbH=>?_,λbH=>?_⟩
 ·have cv:g.f2=[]:=List.length_eq_zero_iff.1 A;obtain⟨ag,V,u⟩:=vj p.bg;try simp only[M,u]
  have W:an.dg c.aJ c.bd=({an with cn:=an.cn.drop g.fW.length},g.fW):=by unfold cK.dg;rw[q];simp[cv]
  refine⟨_,au,ai,_,fX,⟨by rw[q],?_,bX.iu p.J,?_,p.kE,λx m n=>?_,A⟩⟩
  ·rw[W];exact⟨ah,cR,b8,dB,fL,ej,dq,aD,c0,ef,s,rfl⟩
  ·rw[W];exact p.fW
  ·have:=y x m;have:=p.kE x n;omega
 ·have aY:g.f2≠[]:=λe=>bH (by rw[e];rfl);have aj:lf c.aJ g.f2=G:=aj.resolve_left aY;have av:∀x∈hh,w.heap.size<=x:=aW.resolve_left (λo=>aY o.1);have aZ:=cD [] ad;obtain⟨bg,aT,bh,aU,bj,aI,bk⟩:=l0 (bD s.bg);obtain⟨ag,V,u⟩:=vj (bD p.bg);try simp only[M,aT,V]
  apply aH Yi (ahf (s.V aZ).ij ao (p.c2.g2.V aZ) A aj b0);rintro dp aA bI;by_cases bm:an.cx.length<c.bd
  case neg=>
   obtain⟨dr,rfl,L⟩:=bI.resolve_left (λo=>bm o.1);have cw:Q [] ad aA:=aZ.R L B;have aR:=p.V cw;have W:an.dg c.aJ c.bd=({an with cn:=an.cn.drop g.fW.length},(g.fW.zip an.cn).map λai=>(ai.1.1,ki ai.2.2 8)):=by unfold cK.dg;rw[q];simp only[if_neg bm];rw[if_neg (by simpa using aY)]
   have bn:((g.fW.zip an.cn).map λai=>(ai.1.1,ki ai.2.2 8)).length=g.fW.length:=by rw[dU,List.length_zip];omega
   have cy:∀(i:Nat)(r:i<g.fW.length)(X:i<an.cn.length)(ac:i<((g.fW.zip an.cn).map λai=>(ai.1.1,ki ai.2.2 8)).length),((g.fW.zip an.cn).map λai=>(ai.1.1,ki ai.2.2 8))[i]=(g.fW[i].1,ki an.cn[i].2 8):=by intro i r X ac;simp
   generalize((g.fW.zip an.cn).map λai=>(ai.1.1,ki ai.2.2 8))=aF at*;simp only[cV,cX];refine bT (λv a=>v=[]/\bP a 121 7 (T bE g.fW.length bG) aF.length (aF.flatMap k3) fX/\Q fX aA a) ?_ ?_
   ·simp only[hk hY];apply aH Da (aiF (e:=.d2 ahc an.cx.length (.dD 8)) (t:=.dD 5) trivial);rintro _ aL ⟨rfl,D⟩;refine cG.2 ⟨λo=>(by simp[g0.pH,g0.lO]at o),λ_=>?_⟩;refine oF.2 (cG.2 ⟨λ_=>?_,λo=>(by cases o)⟩);have R:=aR.V D;obtain⟨ag,V,u⟩:=vj R.bg;try simp only[M,u]
    apply c1 (λv a=>∃(i:Nat)(ar:List (Nat×dn)),v=[F H i]/\i<=g.fW.length/\ar=aF.take i++g.fW.drop i/\bP a 121 7 (T bE g.fW.length bG) ar.length (ar.flatMap k3) fX/\Q fX aL a) (λv _=>match v with|[F _ i]=>g.fW.length-i.toNat|_=>0) ⟨0,_,rfl,A,rfl,by simpa using R.fW,.b0 _ _⟩;rintro _ _ a2 ⟨i,ar,rfl,al,z,bo,a3⟩;have ds:ar.length=g.fW.length:=by rw[z,di,ea,e8];omega
    try simp only[M,bi]
    refine⟨λbC=>?_,λcc=>?_⟩
    ·have aq:i<g.fW.length:=A;have bp:i<ef.length:=A;have cB:Q fX w a2:=(R.J.bw B).R a3 (λx m=>Y m);have a4:bR ([b,b8]++(ej++(dq++(aD++c0)))) fX:=λx m n=>by have:=y x m;have:=p.kE x n;omega
     have br:=h.J cB a4 (λn=>by have:=p.kE _ n;have:=h.kF.aL;omega);have bs:=cD [] a2;have bJ:=R.bg.J a3 R.ul;obtain⟨ag,V,u⟩:=vj (bD bJ);obtain⟨bg,aT,bh,aU,bj,aI,bk⟩:=l0 (bD br.bg);try simp only[M,u,aI]
     have cC:=(br.V bs).c4.eF Ji A;obtain⟨dt,du,cE,dv,cF⟩:=id cC;obtain⟨e9,cH,rfl,cI⟩:=cF.resolve_left (by intro e;rw[e]at bp;simp at bp);rw[cE];apply(sB C6 F4 A A).2;try simp only[M,hf]
     have cJ:fu a2.drew e9 (cH+i*15+1) (f1 ef[i].2.1 ef[i].2.2):=by
      have ac:=cI.d1 (i*15+1) 14;have e:((ef.flatMap k2).drop (i*15+1)).take 14=f1 ef[i].2.1 ef[i].2.2:=by rw[<-oq,z1 Ji,ot bp,iA];show List.take 14 (f1 ef[i].2.1 ef[i].2.2++_)=_;exact List.take_left' rfl
      rw[e]at ac;exact ac
     refine(gC (l:=f1 ef[i].2.1 ef[i].2.2) CT cJ).2 (zp (cz:=.d2 ahc an.cx.length (.dD 8)) (br.kF.V bs) λcL cM=>?_);have bt:Q [] a2 cL:=bs.R cM B;apply(dz K4 ((bJ.J bt B).bh (af:=2))).2;have bK:=bo.J bt B;obtain⟨jP,dw,dx,bL,dy⟩:=bK.gm A;simp only[zI]at bL;obtain⟨rfl,_,rfl⟩:=bL;apply(sB C5 Le A A).2;try simp only[M,hf]
     have bM:i<aF.length:=A;have cO:=cy i aq A bM;have cP:=jO bM;generalize aF[i]=ap at*;have cQ:an.cn[i]'A=(ef[i].1,ef[i].2.1):=by simp[h.pJ]
     have cS:ar[i]'A=g.fW[i]:=by subst z;rw[List.getElem_append_right (by rw[ea];omega)];simp[ea,bn,my al]
     refine aop (l:=ar) (j:=i) (ai:=1) (k:=6) (x:=ap) (be:=k3) (a6:=7) yf bK EY A rfl A ?_ (by intro aa bU;simp[je,ve,eb,bF]at bU;rcases bU with rfl|rfl|rfl|rfl|rfl|rfl<;>rfl) λcd bu a5=>?_
     ·rw[cO,cQ,cS];simp[k3,f9,je,ve,eb,xJ,ki,bF,ex.a5]
     try simp only[M]
     rw[bq A A];refine⟨⟨i+1,ar.set i ap,by trivial,A,?_,by rw[i9];exact bu,(a3.R bt B).R a5 (λx m=>Y m)⟩,by simp;omega⟩;rw[z,sr _ _ (by rw[ea];omega),ea,my A,k6,ot aq,aoi,cP];simp
    ·obtain rfl:i=g.fW.length:=A;have cU:ar=aF:=by rw[z,<-bn,j3,bn,aoh,kJ]
     rw[cU]at bo;exact⟨by trivial,bo,(D.bw B).R a3 (λx m=>Y m)⟩
   rintro _ _ cd ⟨rfl,bu,a5⟩;obtain⟨ag,V,u⟩:=vj (aR.bg.J a5 aR.ul);try simp only[M,u]
   have bV:Q fX w cd:=(aR.J.bw B).R a5 (λx m=>Y m);have a4:bR ([b,b8]++(ej++(dq++(aD++c0)))) fX:=λx m n=>by have:=y x m;have:=p.kE x n;omega
   have cW:=h.J bV a4 (λn=>by have:=p.kE _ n;have:=h.kF.aL;omega);refine⟨_,au,ai,_,fX,⟨by rw[q],?_,⟨bV.bw (λx m=>Z (p.kE x m)),λx m=>Y m⟩,?_,p.kE,a4,A⟩⟩
   ·rw[W];exact⟨ah,cR,b8,dB,fL,ej,dq,aD,c0,ef,cW,rfl⟩
   ·rw[W];exact bu
  obtain⟨bC,rfl,a7,cY,bW⟩:=bI.resolve_right (λo=>by have:=o.1;omega);have L:Q ej ad aA:=((aZ.bw B).R bW.J (λx m=>Y m));have aS:∀x∈ej,x<w.heap.size:=λx m=>y x (by simp[m]);have dC:=p.uk;have aw:∀x∈a7,x∈ej\/ad.heap.size<=x:=bW.cq;have aR:pL w ad fI hU hh _ _ fX aO g:=p;have bZ:=p.bg.J L (λo=>by have:=aS _ o;omega);have cZ:iJ aA hU hh g.bd:=p.k1.J L (λx m n=>by have:=aS _ n;have:=av x m;omega);have c2:=p.fW.J L (λx m n=>by have:=aS _ n;have:=p.kE x m;omega);have c3:=s.bg.J L (λn=>h.lk b B (by simp[n]));simp only[cV,cX];refine bT (λv a=>v=[]/\aC a b 136 (lj ab ah hU b8 fL an.cQ)/\Q [b] aA a) ?_ ?_
  ·simp only[hk hY];apply aH Da (GI (k:=5));rintro _ _ ⟨rfl,rfl⟩;refine cG.2 ⟨λo=>(by cases o),λ_=>?_⟩;refine(fp dk).2 (cG.2 ⟨λo=>(by cases o),λ_=>?_⟩);obtain⟨ag,V,u⟩:=vj bZ;try simp only[M,ag]
   exact ajk c3 λaL bv D dD=>⟨by trivial,bv,D⟩
  rintro _ _ aL ⟨rfl,bv,D⟩;have c4:fI≠b:=λe=>bB (by simp[e]);obtain⟨ag,V,u⟩:=vj (bZ.J D (by simp;exact c4));try simp only[M,u]
  have W:an.dg c.aJ c.bd=({an with cx:=an.cx++[g.f2],bd:=g.bd,cn:=an.cn.drop g.fW.length},g.fW):=by unfold cK.dg;rw[q];simp only[if_pos bm];rw[if_neg (by simpa using aY)]
  have bb:=cK.v1 (k:=c.aJ) h.cL b1;rw[W]at bb;have aG:Q (b::ej) ad aL:=(L.bw (λx m=>Y (by simp[m]))).R D (λx m=>Y (by simp at m;simp[m]));have c5:∀{aoq:List Nat},(∀x∈aoq,x∉ej)->(∀x∈aoq,x<ad.heap.size)->bR a7 aoq:=λr X x m n=>(aw x m).elim (r x n) (λo=>by have:=X x n;omega);have c6:=p.k1.aL;have c7:=p.fW.aL;have bw:∀x,x∈b::ej->x∉b8::(aD++c0):=by
   intro x m n;rcases ce.1 m with rfl|m
   ·rcases ce.1 n with rfl|n
    ·exact h.g1 rfl
    ·exact h.lk x B (by simp at n⊢;rcases n with n|n<;>simp[n])
   ·rcases ce.1 n with rfl|n
    ·exact h.lk x B (by simp[m])
    ·exact h.lC x m (by simp at n⊢;rcases n with n|n<;>simp[n])
  refine⟨[b,b8]++(a7++(hh++(aD++c0))),au.lY c an.cx.length (qk c.aJ (g5 g.f2)) (ai+1),ai+1,_,fX,⟨by rw[q],?_,?_,?_,p.kE,?_,A⟩⟩
  ·rw[W];refine⟨ah,cR,b8,hU,fL,a7,hh,aD,c0,ef,⟨bv,cY.J D ?_,s.wt.J aG ?_,cZ.J D ?_,s.c4.J aG ?_,h.pJ,λx m=>(s.vg x m).J aG ?_,?_,h.g1,?_,?_,?_,h.wu,?_,?_,⟨bb.1.nf,bb.1.dT,bb.1.n1,h.cL.iG,h.cL.jU⟩,h.mt,h.fO⟩,rfl⟩
   ·intro x m n;simp at n;subst n;exact(aw x m).elim (λo=>h.lk x B (by simp[o])) (λo=>by have:=h.bg.aL;omega)
   ·exactλn=>bw b8 n B
   ·intro x m n;simp at n;have:=av x m;have:=h.bg.aL;omega
   ·exactλx m n=>bw x n (by simp[m])
   ·exactλx m n=>bw x n (by simp[m])
   ·intro x m;have:=s.vh x m;have:=aG.aI;omega
   ·intro x m n;have r:=h.lk x m;have X:=y x (hg _ m);simp only[b4,not_or]at n r;rcases n with n|n|n|n
    ·exact(aw x n).elim r.1 (λo=>A)
    ·have:=av x n;omega
    ·exact r.2.2.1 n
    ·exact r.2.2.2 n
   ·refine(bR.tV (λx m n=>?_) (c5 (λx m n=>h.lC x n (by simp at m⊢;rcases m with m|m<;>simp[m])) (λx m=>by have:=s.aL x (by simp at m⊢;rcases m with m|m<;>simp[m]);omega)));rcases aw x m with o|o
    ·have:=aS x o;have:=av x n;omega
    ·have:=c6 x n;omega
   ·intro x m n;have:=av x m;have:=y x (by simp at n⊢;rcases n with n|n<;>simp[n]);omega
   ·exact s.kF.J aG (λn=>h.pK (by simp at n⊢;rcases n with n|n<;>simp[n]))
   ·intro n;have r:=h.pK;have X:=h.kF.aL;simp only[b4,not_or]at n r;rcases n with n|n|n|n|n
    ·exact r.1 n
    ·exact(aw _ n).elim r.2.1 (λo=>A)
    ·have:=av _ n;omega
    ·exact r.2.2.2.1 n
    ·exact r.2.2.2.2 n
  ·refine⟨(p.J.bw B).R aG (λx m=>Y (by simp at m⊢;rcases m with m|m<;>simp[m])),λx m=>?_⟩;simp only[b4]at m⊢;rcases m with m|m|m|m|m
   ·exact Y (Y m)
   ·exact(aw x m).imp (λo=>Z (Y o)) (λo=>A)
   ·exact Z (av x m)
   ·exact Y (Z (Z (Z (Y m))))
   ·exact Y (Z (Z (Z (Z m))))
  ·rw[W];exact c2.J D (λx m n=>by simp at n;subst n;have:=p.kE _ m;have:=h.bg.aL;omega)
  ·intro x m n;have r:=p.kE x n;have X:=c7 x n;simp only[b4]at m;rcases m with m|m|m|m|m
   ·have:=y x (hg _ m);omega
   ·exact(aw x m).elim (λo=>by have:=aS x o;omega) (λo=>A)
   ·exact p.o1 x m n
   ·have:=y x (by simp[m]);omega
   ·have:=y x (by simp[m]);omega
end
section
variable{g:fM}
def TY{aU:Type}{be:aU->List S}{a6:Nat}(a:∀x,(be x).length=a6):∀(ak:Nat)(l:List aU),(l.drop ak).flatMap be=(l.flatMap be).drop (ak*a6)
 |0,l=>B
 |ak+1,[]=>B
 |ak+1,ap::l=>by rw[List.drop_succ_cons,iA,TY a ak l,List.drop_append,a,show(ak+1)*a6-a6=ak*a6 by rw[iM];omega,List.drop_of_length_le (l:=be ap) (by rw[a,iM];omega)];rfl
def l1.TZ{wK:List s8}(h:l1 w b ab ah cR b8 dB fL ej dq aD c0 ef c au aB ay al ai aQ an)(j:Q [b] w a)(o:aC a b 136 (lj ab ah dB b8 wI an.cQ))(p:bP a 179 15 wI wK.length (wK.flatMap k2) ez)(k:∀g∈ez,g∈aD)(m:∀x∈wK,x∈ef)(u:wK.length<=ef.length):
  l1 a b ab ah cR b8 dB wI ej dq ez c0 wK c au aB ay al ai aQ {an with cn:=wK.map λx=>(x.1,x.2.1)}:=by
 have l:bR (ej++(dq++(aD++c0))) [b]:=(h.lk.d1 (az:=[b]) B (λ_ h=>h)).nc;have v:=h.g1;have q:0∉[b]:=λe=>h.pK (by simp at e;simp[e]);have n:∀x,x∈ej++(dq++(ez++c0))->x∈ej++(dq++(aD++c0)):=λx d=>by
  simp only[b4]at d⊢;rcases d with d|d|d|d
  ·exact Y d
  ·exact Z (Y d)
  ·exact Z (Z (Y (k x d)))
  ·exact Z (Z (Z d))
 have r:∀x,x∈ez++c0->x∈aD++c0:=λx d=>by simp only[b4]at d⊢;exact d.imp (k x) id
 refine⟨o,h.ij.J j (λg i=>l g (by simp[i])),h.wt.J j (by simp;omega),h.k1.J j (λg i=>l g (by simp[i])),p,rfl,λx d=>(h.vg x (m x d)).J j (λg i=>l g (by simp[i])),λg i=>iL (h.vh g i) j.aI,h.g1,h.lk.d1 (λ_ h=>h) n,h.lC.d1 (λ_ h=>h) (λx d=>?_),h.o1.d1 (λ_ h=>h) r,h.wu.d1 k (λ_ h=>h),h.kF.J j q,λe=>h.pK ?_,?_,h.mt,h.fO⟩
 ·simp only[b4]at d⊢;rcases d with d|d|d
  ·exact Y d
  ·exact Z (Y (k x d))
  ·exact Z (Z d)
 ·rcases b4.1 e with e|e
  ·exact hg _ e
  ·exact h3 _ (n _ e)
 ·have:=h.cL;refine⟨this.nf,this.dT,this.n1,?_,λap s=>?_⟩
  ·have t:=this.iG;rw[h.pJ,dU]at t;simp only[dU];omega
  ·obtain⟨x,d,rfl⟩:=fS.1 s;exact this.jU _ (by rw[h.pJ];exact mz (f:=λx:s8=>(x.1,x.2.1)) (m x d))
def ww(w:aN)(b:Nat):Nat:=match w.cell? ⟨b,5,I⟩with
 |some (T _ n _)=>n
 |_=>0
def h2.pM(h:h2 w b am ab c au aB ay al ai aQ an):jf w:=by obtain⟨ah,cR,b8,dB,fL,ej,dq,aD,c0,ef,h,rfl⟩:=h;exact h.kF
def h2.ww(h:h2 w b am ab c au aB ay al ai aQ an):ww w b=an.cn.length:=by obtain⟨ah,cR,b8,dB,fL,ej,dq,aD,c0,ef,h,rfl⟩:=h;obtain⟨a,cC,rfl,_⟩:=id h.c4.jD;have:=h.bg.bh (af:=5);unfold Go.Proofs.YtepeilglbedgdaaGreatDoor.ww;rw[this];simp[lj,h.pJ]
structure ajx(w a:aN)(b:Nat)(am:List Nat)(ab:Nat)(c:dR)(aB:Nat->Bool)(ay al:Nat->Nat->Bool)(ai aQ:Nat)(an:cK)(az:List Nat)(gg:eW)(dL:Nat)(hN:S)(fX:List Nat):Prop where
 hK:h2 a b az ab c gg aB ay al dL aQ (an.j0 c.aJ c.bd).1
 de:bX am az w a
 fW:bP a 121 7 hN (an.j0 c.aJ c.bd).2.length ((an.j0 c.aJ c.bd).2.flatMap k3) fX
 cq:∀x∈fX,w.heap.size<=x
 mV:bR az fX
 TX:dL<=ai+an.cn.length
def zr(k aX n:Nat)(an:cK):ne k aX (n+1) an=if an.cn.isEmpty then(an,[])else((ne k aX n (an.dg k aX).1).1,(an.dg k aX).2++(ne k aX n (an.dg k aX).1).2):=rfl
def T0{k aX:Nat}:∀{n:Nat}{an:cK},an.bp aX->an.cn.length<=n->ne k aX (n+1) an=ne k aX n an
 |0,an,h,a=>by have:an.cn=[]:=List.length_eq_zero_iff.1 A;simp[ne,this]
 |n+1,an,h,a=>by
  rw[zr k aX (n+1) an,zr k aX n an];split
  ·rfl
  ·rename_i b;have:=cK.v1 (k:=k) h (by simpa using b);rw[T0 this.1 A]
def T1{k aX:Nat}{an:cK}(h:an.bp aX):∀ag,ne k aX (an.cn.length+ag) an=an.j0 k aX
 |0=>rfl
 |ag+1=>by rw[<-sp,T0 h A,T1 h ag]
def ajy(h:an.bp aX)(a:an.cn≠[]):an.j0 k aX=(((an.dg k aX).1.j0 k aX).1,(an.dg k aX).2++((an.dg k aX).1.j0 k aX).2):=by have b:=cK.v1 (k:=k) h a;obtain⟨ak,c⟩:∃ak,an.cn.length=ak+1:=⟨an.cn.length-1,A⟩;have e:=T1 (k:=k) b.1 (ak-(an.dg k aX).1.cn.length);rw[show(an.dg k aX).1.cn.length+(ak-(an.dg k aX).1.cn.length)=ak by omega]at e;unfold cK.j0 at e⊢;rw[c,zr,if_neg (by simpa using a),e]
def Ht(h:h2 w b am ab c au aB ay ix ai aQ an)(ao:qo c aB ay)(bw:ai+17<=1152921504606846976):
  a0 C 51 #[aP b] w λae a=>∃az gg dL fX,ajx w a b am ab c aB ay ix ai aQ an az gg dL ae fX:=by
 refine a9 Ms 1 Tryz.func51 K rfl λa1 aS=>?_;simp+decide only[↓a8,ba,Ms,Tryz.f51];subst aS;have bx:an.cn.length<=16:=by obtain⟨ah,cR,b8,dB,fL,ej,dq,aD,c0,ef,h,rfl⟩:=h;exact h.cL.iG
 have bz:=h.aL;refine c1 (λX a=>∃(az:List Nat)(gg:eW)(dL:Nat)(dO:cK)(hN:S)(dM:List (Nat×dn))(fX:List Nat),X=[hN]/\h2 a b az ab c gg aB ay ix dL aQ dO/\bX am az w a/\bP a 121 7 hN dM.length (dM.flatMap k3) fX/\(∀x∈fX,w.heap.size<=x)/\bR az fX/\dL+dO.cn.length<=ai+an.cn.length/\dM.length+dO.cn.length<=an.cn.length/\an.j0 c.aJ c.bd=((dO.j0 c.aJ c.bd).1,dM++(dO.j0 c.aJ c.bd).2)) (λ_ a=>ww a b)
  ⟨am,au,ai,an,_,[],[],rfl,h,.b0 _ _,gJ _ _ _,B,bR.D _,A,B,B⟩ ?_
 rintro _ _ ax ⟨az,gg,dL,dO,hN,dM,fX,rfl,aa,ac,aq,y,p,bB,bC,z⟩;have aT:=aa.ww;have aU:=aa;obtain⟨ah,cR,b8,dB,fL,ej,dq,aD,c0,ef,q,rfl⟩:=aa;obtain⟨bD,bE,aV,_⟩:=id q.c4.jD;have bG:dO.cn.length=ef.length:=by rw[q.pJ,dU]
 obtain⟨aW,aX,aY,aZ,a2,ad,a3⟩:=l0 q.bg;refine bT (λX a=>X=[aK (decide (0<dO.cn.length))]/\Q [] ax a) ?_ ?_
 ·try simp only[M,ad]
  rw[aV];try simp only[M,bi]
  refine⟨λr=>?_,λr=>⟨by rw[decide_eq_false A],.b0 _ _⟩⟩;refine Jj q λa4 j=>?_;simp only[hk hY];apply aH Da (GI (k:=5));rintro _ _ ⟨rfl,rfl⟩;try simp only[M]
  refine⟨?_,j⟩;rw[decide_eq_true A];rfl
 rintro _ _ a4 ⟨rfl,j⟩;have s:=q.V j;have ar:=aq.J j B;try simp only[M,bi]
 refine⟨λr=>?_,λr=>?_⟩
 ·have D:dO.cn≠[]:=λe=>by rw[e]at r;simp at r
  apply aH XM (v1 (aU.V j) ao A D);rintro _ a5 ⟨bH,av,aw,bI,bJ,⟨rfl,t,u,a6,bK,bL,bM⟩⟩;simp only[cV,cX];try simp only[M]
  obtain⟨bU,af,bV,bW⟩:=Hs dO c.aJ c.bd s.cL D;have a7:=cK.v1 (k:=c.aJ) s.cL D;have bb:=ajy (k:=c.aJ) s.cL D;have bY:(dO.dg c.aJ c.bd).2.length<=dO.cn.length:=by
   unfold cK.dg;simp only;have:=af.dT;split
   ·simp only;omega
   ·split
    ·simp only;omega
    ·simp only[dU,List.length_zip];omega
  have aA:(dO.dg c.aJ c.bd).1.cn=dO.cn.drop (mP c.aJ dO.cx.length ⟨dO.bd,[],[]⟩ dO.cn).fW.length:=by
   unfold cK.dg;simp only;split
   ·rfl
   ·split<;>rfl
  have bZ:(dO.dg c.aJ c.bd).1.cx.length<=dO.cx.length+1:=by
   unfold cK.dg;simp only;split
   ·simp only;omega
   ·split
    ·simp only[di,nt];omega
    ·simp only;omega
  have b0:(dO.dg c.aJ c.bd).2.length+(dO.dg c.aJ c.bd).1.cn.length<=dO.cn.length:=by
   rw[aA,e8];have b1:=af.dT;have:(dO.dg c.aJ c.bd).2.length<=(mP c.aJ dO.cx.length ⟨dO.bd,[],[]⟩ dO.cn).fW.length:=by
    unfold cK.dg;simp only;split
    ·simp only;omega
    ·split
     ·simp only;omega
     ·simp only[dU,List.length_zip];omega
   omega
  generalize b2:(mP c.aJ dO.cx.length ⟨dO.bd,[],[]⟩ dO.cn).fW.length=i at*;have b3:i<=dO.cn.length:=by have:=af.dT;omega
  have aC:=aq.aL;have b7:=j.aI;have b9:=ac.J.aI;have bc:∀x∈fX,x∉[b,b8]++(ej++(dq++(aD++c0))):=λx d f=>p x f d;have bd:=ar.J u.J bc;refine BF (l:=dM) (be:=k3) F8 bd C5 EY (λx _=>Jm x) (a6.eF EY A) A (by unfold d0;omega) λbf ag bg bh aj aF=>?_;have bj:=t.J aF (λx d f=>(u.cq x d).elim (λg=>p x g f) (λg=>by have:=aC x f;omega)) (λf=>by have:=y _ f;have:=h.pM.aL;omega);obtain⟨bk,bl,J,bm,ca,L,R,n,V,m,o,rfl⟩:=bj;have aG:dO.cn=m.map λx=>(x.1,x.2.1):=o.pJ;have cb:m.length=dO.cn.length:=by rw[aG,dU]
  obtain⟨aI,aJ,aL,cc,_⟩:=id o.c4.jD;obtain⟨aW,aX,aY,aZ,a2,ad,a3⟩:=l0 o.bg;try simp only[M,ad]
  have bn:=o.c4.jd aL (k:=i) A;rw[aL];apply(rs C6 F4 A A).2;rw[hf];have bo:bP ag 179 15 (T (if aJ=i then aI else aI.map (·.add (i*15))) (m.length-i) (aJ-i)) (m.drop i).length ((m.drop i).flatMap k2) n:=by rw[e8,TY Ji];exact bn
  try simp only[M]
  refine Jk o.bg rfl λak bp W cd=>?_;have bq:b∉n:=λg=>o.lk b B (by simp[g]);have aM:=o.TZ (wK:=m.drop i) (ez:=n) W bp (bo.J W (λx d f=>bq (by simp at f;subst f;exact d))) (λ_ h=>h) (λx d=>tr d) B;have br:({({(dO.dg c.aJ c.bd).1 with cn:=dO.cn}:cK)with cn:=(m.drop i).map λx=>(x.1,x.2.1)}:cK)=(dO.dg c.aJ c.bd).1:=by
   have:(m.drop i).map (λx:s8=>(x.1,x.2.1))=(dO.dg c.aJ c.bd).1.cn:=by rw[aA,List.map_drop,<-aG]
   simp only[this]
  rw[br]at aM;have bs:bX ([b,J]++(L++(R++(n++V)))) ([b,J]++(L++(R++(n++V)))) ag ak:=⟨W.bw (λx d=>Y (by simp at d;simp[d])),λx d=>Y d⟩;have aO:=t.aL;have aR:h2 ak b _ ab c av aB ay ix aw aQ (dO.dg c.aJ c.bd).1:=⟨bk,bl,J,bm,_,L,R,n,V,_,aM,rfl⟩;have bt:bX am ([b,J]++(L++(R++(n++V)))) w ag:=by have v:=(ac.oM j).dP u;exact⟨v.J.R aF (λx d=>Z (y x d)),v.cq⟩
  refine⟨⟨_,av,aw,(dO.dg c.aJ c.bd).1,bf,dM++(dO.dg c.aJ c.bd).2,bg,by trivial,aR,bt.dP bs,bh.J W (λx d f=>?_),λx d=>?_,λx d f=>?_,A,by rw[di];omega,?_⟩,?_⟩
  ·simp at f;subst f;rcases aj x d with g|g
   ·exact p x B g
   ·have:=aO x B;omega
  ·rcases aj x d with g|g
   ·exact y x g
   ·have:=j.aI;have:=u.J.aI;omega
  ·rcases aj x f with g|g
   ·rcases u.cq x d with v|v
    ·exact p x v g
    ·have:=aC x g;omega
   ·have:=aO x d;omega
  ·rw[z,bb,gq]
  ·show ww ak b<ww ax b;rw[aR.ww,aT];exact a7.2
 ·have al:dO.cn=[]:=List.length_eq_zero_iff.1 A;have cf:ef=[]:=List.length_eq_zero_iff.1 A;try simp only[M]
  refine Jk s.bg (wI:=T I 0 0) rfl λa5 bu ap cg=>?_;have bv:dO.j0 c.aJ c.bd=(dO,[]):=by unfold cK.j0;rw[al];rfl
  rw[bv]at z;have t:=s.TZ (ez:=[]) (wK:=[]) ap bu (gJ _ _ _) B B B;refine⟨[b,b8]++(ej++(dq++([]++c0))),gg,dL,fX,?_,?_,?_,y,?_,A⟩
  ·rw[z];have e:({dO with cn:=([]:List s8).map λx=>(x.1,x.2.1)}:cK)=dO:=by obtain⟨ch,gs,a,dK⟩:=dO;simp only at al;subst al;rfl
   rw[e]at t;exact⟨ah,cR,b8,dB,_,ej,dq,[],c0,[],t,rfl⟩
  ·refine(ac.oM j).dP ⟨ap.bw (λx d=>Y (by simp at d;simp[d])),λx d=>Y ?_⟩;simp only[b4]at d⊢;rcases d with d|d|d|d|d
   ·exact Y d
   ·exact Z (Y d)
   ·exact Z (Z (Y d))
   ·simp at d
   ·exact Z (Z (Z (Z d)))
  ·rw[z];simp only[kJ];exact ar.J ap (λx d f=>p b B (by simp at f;subst f;exact d))
  ·refine p.d1 (λx d=>?_) (λ_ h=>h);simp only[b4]at d⊢;rcases d with d|d|d|d|d
   ·exact Y d
   ·exact Z (Y d)
   ·exact Z (Z (Y d))
   ·simp at d
   ·exact Z (Z (Z (Z d)))
end
def kn:Nat->Bool:=λ_=>U
def cK.ll(an:cK)(k aX:Nat)(d:dl):cK×dn:=match an.bd.h9 d.c2 an.cx.length 0 with
 |b5 x=>(an,ki d x)
 |bA (gs,ag)=>if ag.vY then(an,⟨d.dF,0,ag.cu,ag.cu+ag.bV,[],[]⟩)else if lf k [d.c2.ch]=U then(an,ki d 11)
  else if an.cx.length<aX then({an with cx:=an.cx++[[d.c2.ch]],bd:=gs},⟨d.dF,0,ag.cu,ag.cu+ag.bV,[],[]⟩)else(an,ki d 8)
def T2(a:an.cn=[]):({an with cQ:=n,cn:=[(t,d)]}:cK).j0 k aX=({(an.ll k aX d).1 with cQ:=n},[(t,(an.ll k aX d).2)]):=by
 obtain⟨av,s,ef,l⟩:=an;simp only at a;subst a;show ne k aX (0+1) _=_;rw[zr,if_neg B];simp only[ne];have b:((([]:List (List UInt8)).length:Nat):Int)=0:=rfl;unfold cK.dg cK.ll;simp only[mP,lS,b];cases c:s.h9 d.c2 av.length 0 with
 |error x=>simp
 |ok bm=>
  obtain⟨gs,ag⟩:=bm;simp only;cases ag.vY with
  |true=>simp
  |false=>
   simp only[fc,if_false,m2];cases lf k [d.c2.ch]with
   |false=>simp
   |true=>
    simp only[Bool.true_eq_false,if_false,List.isEmpty_cons,fc];by_cases h:av.length<aX
    ·simp[if_pos h]
    ·simp[if_neg h]
def cK.e7(an:cK)(k aX:Nat)(d:dl):cK×dn:=if i3 d.a5 then({(an.ll k aX d).1 with cQ:=an.cQ+1},(an.ll k aX d).2)else({an with cQ:=an.cQ+1},mi an.cx kn an.bd d)
def ajz:(an.ll k aX d).1.cn=an.cn:=by
 unfold cK.ll;split
 ·rfl
 ·split
  ·rfl
  ·split
   ·rfl
   ·split<;>rfl
def ajA:(an.ll k aX d).1.cx.length<=an.cx.length+1:=by
 unfold cK.ll;split
 ·simp only;omega
 ·split
  ·simp only;omega
  ·split
   ·simp only;omega
   ·split
    ·simp
    ·simp only;omega
def ajB:(an.ll k aX d).2.gj=[]/\(an.ll k aX d).2.dY=[]:=by
 unfold cK.ll;split
 ·exact⟨rfl,rfl⟩
 ·split
  ·exact⟨rfl,rfl⟩
  ·split
   ·exact⟨rfl,rfl⟩
   ·split<;>exact⟨rfl,rfl⟩
section
variable{s:c3}{t sw:ByteArray}{n ak first:Int}{ah U6:gM}{ag:nY}{av:ji}{aa:List ByteArray}{b:cw}{i j:Int}
def T3(a:s.aP t n=E U6):(s.dt t n ah).aP t n=E ah:=by obtain⟨l,b,d,c,e⟩:=c3.Hf a;unfold c3.dt c3.aP;rw[b];simp only[DJ,if_pos,tg];rw[if_neg A,List.getElem?_set_self c]
structure sh(av:ji)(h:gZ)(b:cw):Prop where
 gm:∃(t i:Nat)(x:List UInt8)(e:eG),h.e4=t/\h.yq=i/\sO av t i=E x/\nB x=bA e/\e.a5=3/\e.bk=b
def sh.hy(d:sh av h b):pp av cp h=if cp h.e4.toNat then I else E b.ch:=by
 obtain⟨t,i,x,e,f,g,a,j,k,rfl⟩:=d.gm;unfold sO at a;unfold pp;rw[f,g];simp only[hf];cases c:av[t]? with
 |none=>rw[c]at a;cases a
 |some l=>
  rw[c]at a;simp only[tg]at a;rw[gp,c,om,a];simp only[j,if_pos k]
def sh.p8{l:List (List UInt8)}(a:sh av h b):sh (av++[l]) h b:=by obtain⟨t,i,x,e,c,d,f,g⟩:=a.gm;exact⟨t,i,x,e,c,d,acn f,g⟩
def wx(dm:List ByteArray)(first aQ:Int)(n:Nat):List ByteArray:=(dm.drop (aQ-first).toNat).take n
structure ajC(av:ji)(h:gZ)(first:Int)(dm:List ByteArray)(b:cw):Prop where
 y9:b.bt=G
 eX:sh av h b
 aR:h.md=b.a7.length
 zs:first<=h.cu
 a7:b.a7=wx dm first h.cu b.a7.length
structure q5(av:ji)(aw:eI)(first:Int)(dm:List ByteArray):Prop where
 cS:aw.cS=first+dm.length
 zt:∀h∈aw.eC,∃b,ajC av h first dm b
def q5.p8{l:List (List UInt8)}(h:q5 av aw first dm):q5 (av++[l]) aw first dm:=
 ⟨h.cS,λx c=>by obtain⟨b,a⟩:=h.zt x c;exact⟨b,a.y9,a.eX.p8,a.aR,a.zs,a.a7⟩⟩
def ajD{aQ:Int}{n:Nat}(a:first<=aQ)(b:aQ+n<=first+dm.length):wx (dm++aa) first aQ n=wx dm first aQ n:=by unfold wx;rw[List.drop_append_of_le_length A,List.take_append_of_le_length (by rw[e8];omega)]
def q5.kM{c ae x ap:Int}(h:q5 av aw first dm)(e:aw.bp)(f:aw.mf c ae x ap=0)(g:b.bt=G)(i:c=b.a7.length)(j:sh av ⟨aw.cS,c,ae,x,ap⟩ b):q5 av (aw.kM c ae x ap) first (dm++b.a7):=by
 unfold eI.kM;rw[if_pos f];have l:=h.cS;refine⟨by simp only[di];omega,λbm d=>?_⟩;rcases b4.1 d with d|d
 ·obtain⟨k,a⟩:=h.zt bm d;have m:=e.oG.AB d;have n:=a.aR;exact⟨k,a.y9,a.eX,a.aR,a.zs,a.a7.trans (ajD a.zs A).symm⟩
 ·rw[ku.1 d];refine⟨b,g,j,i,by show first<=aw.cS;omega,?_⟩;unfold wx;show b.a7=((dm++b.a7).drop (aw.cS-first).toNat).take b.a7.length;rw[show(aw.cS-first).toNat=dm.length by omega,List.drop_left,j3]
def zu(first:Int)(dm:List ByteArray):Int->List (Int×ByteArray)->Prop
 |_,[]=>True
 |aQ,aj::l=>aj.1=aQ/\first<=aQ/\∃b:cw,b.bt=G/\aj.2=h7 b.ch/\aQ+b.a7.length<=first+dm.length/\b.a7=wx dm first aQ b.a7.length/\zu first dm (aQ+b.a7.length) l
def xL(av:ji):List gZ->List (Int×ByteArray)->Prop
 |_,[]=>True
 |[],_::_=>False
 |h::ao,aj::a2=>aj.1=h.cu/\(∃b:cw,b.bt=G/\sh av h b/\aj.2=h7 b.ch)/\xL av ao a2
def T4{gG:Int}:∀{ao:List gZ}{dj:Nat}{dM:List (Int×ByteArray)},(∀h∈ao,∃b:cw,b.bt=G/\sh av h b)->∃a2,rI av kn gG dj dM ao=E (dM++a2)/\xL av ao a2/\(dM=[]->ao≠[]->a2≠[])
 |[],dj,dM,_=>⟨[],by simp[rI],trivial,λ_ h=>absurd rfl h⟩
 |h::ao,dj,dM,a=>by
  obtain⟨b,e,c⟩:=a h fE;have f:pp av kn h=E b.ch:=by rw[c.hy];rfl
  rw[BP,f];simp only;split
  ·rename_i d;exact⟨[],B,trivial,λg=>by rw[g]at d;simp at d⟩
  ·obtain⟨a2,i,j,l⟩:=T4 (gG:=gG) (ao:=ao) (dj:=dj+b.ch.length) (dM:=dM++[(h.cu,h7 b.ch)]) (λx k=>a x (ev _ k));exact⟨(h.cu,h7 b.ch)::a2,by rw[i,gq];rfl,⟨rfl,⟨b,e,c,rfl⟩,j⟩,λ_ _=>B⟩
def sh.aW{a:cw}(f:sh av h b)(g:sh av h a):b=a:=by obtain⟨t,i,x,e,o,p,j,k,q,rfl⟩:=f.gm;obtain⟨sw,l,dx,gh,r,s,c,d,u,rfl⟩:=g.gm;have m:t=sw:=A;have n:i=l:=A;subst m n;rw[j]at c;cases c;rw[k]at d;cases d;rfl
def T5(c:q5 av aw first dm)(f:aw.bp):∀{ao:List gZ}{a2:List (Int×ByteArray)}{aQ:Int},(∀h∈ao,h∈aw.eC)->lN ao aw.cS->xL av ao a2->aQ=uN ao 0 aw.cS->zu first dm aQ a2
 |_,[],_,_,_,_,_=>trivial
 |[],_::_,_,_,_,h,_=>h.elim
 |h::ao,aj::a2,aQ,d,g,j,e=>by obtain⟨k,⟨b,l,m,n⟩,o⟩:=j;obtain⟨r,a⟩:=c.zt h (d h fE);obtain rfl:=m.aW a.eX;have e:aQ=h.cu:=e;subst e;have s:=f.oG.AB (d h fE);have p:=a.aR;have i:=c.cS;have q:=g.2 0 h rfl;refine⟨k,a.zs,b,l,n,A,a.a7,T5 c f (λx i=>d x (ev _ i)) (g.vF 1) o ?_⟩;rw[<-p,q];rfl
structure xM(ad:dn)(first:Int)(dm:List ByteArray)(af:Int):Prop where
 cS:ad.cS=first+dm.length
 t6:ad.dY=[]->af=ad.cS
 yL:∀aj l,ad.dY=aj::l->aj.1<=af/\zu first dm aj.1 ad.dY/\∃b:cw,b.bt=G/\aj.2=h7 b.ch/\af<aj.1+b.a7.length
def ajE(f:q5 av aw first dm)(i:aw.bp)(e:aw.mg d.cW=0):(mO av kn d aw).iE=0/\(mO av kn d aw).cu=aw.hE/\(mO av kn d aw).dF=d.dF/\(mO av kn d aw).gj=[]/\(mO av kn d aw).dY.length<=4/\xM (mO av kn d aw) first dm d.cW:=by
 have j:∀x∈(aw.jd d.cW).take 4,x∈aw.eC:=λx m=>by have:=List.mem_of_mem_take m;unfold eI.jd at this;rw[if_pos e]at this;exact tr this
 obtain⟨a2,s,a,t⟩:=T4 (av:=av) (gG:=d.gK) (ao:=(aw.jd d.cW).take 4) (dj:=0) (dM:=[]) (λx m=>by obtain⟨b,o⟩:=f.zt x (j x m);exact⟨b,o.y9,o.eX⟩);have u:d.cW>=aw.hE/\d.cW<=aw.cS:=by
  unfold eI.mg at e;split at e
  ·cases e
  ·omega
 have p:aw.jd d.cW=aw.pg d.cW:=by unfold eI.jd;rw[if_pos e]
 unfold mO;rw[if_pos e,s];simp only[m2];have v:∀{ao:List gZ}{a2:List (Int×ByteArray)},xL av ao a2->a2.length<=ao.length:=by
  intro ao;induction ao with
  |nil=>intro a2 h;cases a2 with
   |nil=>simp
   |cons aj a2=>exact h.elim
  |cons x ao n=>intro a2 h;cases a2 with
   |nil=>simp
   |cons aj a2=>have:=n h.2.2;simp only[gF];omega
 refine⟨trivial,trivial,trivial,trivial,?_,f.cS,λc=>?_,λaj l c=>?_⟩
 ·have:=v a;rw[ea]at this;omega
 ·have c:a2=[]:=c;have q:(aw.jd d.cW).take 4=[]:=by
   cases w:(aw.jd d.cW).take 4 with
   |nil=>rfl
   |cons x ap=>exact absurd c (t rfl (by rw[w];simp))
  rw[p]at q;have:aw.pg d.cW=[]:=by
   rcases List.take_eq_nil_iff.1 q with h|h
   ·cases h
   ·exact h
  exact ON i A u.2 this
 ·have c:a2=aj::l:=c;subst c;rw[p]at a j;cases ao:aw.pg d.cW with
  |nil=>rw[ao]at a;exact a.elim
  |cons x ab=>
   have O:=OM i (af:=d.cW) A (x:=x) (by rw[ao];rfl);rw[ao]at a j;have y:=a;obtain⟨z,⟨b,D,J,K⟩,_⟩:=a;obtain⟨P,r⟩:=f.zt x (j x B);obtain rfl:=J.aW r.eX;have Q:=r.aR;refine⟨A,?_,b,D,K,A⟩;have L:lN (x::ab) aw.cS:=by have:=i.oG.vF (aw.eC.findIdx (me d.cW));unfold eI.pg at ao;rwa[ao]at this
   have dI:xL av (x::ab) (aj::l):=by
    have bz:∀{k:Nat}{ao:List gZ}{a2:List (Int×ByteArray)},xL av (ao.take k) a2->xL av ao a2:=by
     intro k;induction k with
     |zero=>intro ao a2 h;rw[List.take_zero]at h;cases a2 with
      |nil=>cases ao<;>trivial
      |cons _ _=>exact h.elim
     |succ k n=>intro ao a2 h;cases ao with
      |nil=>simpa using h
      |cons ap ao=>rw[List.take_succ_cons]at h;cases a2 with
       |nil=>trivial
       |cons g R=>exact⟨h.1,h.2.1,n h.2.2⟩
    exact bz y
   refine T5 f i (ao:=x::ab) (λap N=>?_) L dI z;have:ap∈aw.pg d.cW:=by rw[ao];exact N
   exact tr this
def xM.cQ{ad:dn}{af:Int}(h:xM ad first dm af)(q:af+1=first+dm.length):ad.dY.length=1:=by
 have f:=h.t6;have a:=h.yL;have c:=h.cS;generalize ad.dY=aw at*;cases aw with
 |nil=>have:=f rfl;omega
 |cons aj l=>
  obtain⟨r,⟨_,_,b,i,j,s,_,k⟩,d,m,n,t⟩:=a aj l rfl;have o:b=d:=by
   have a:b.ch=d.ch:=by
    have:=j.symm.trans n;have e:∀l,eO (h7 l)=l:=λl=>by simp[eO,h7]
    rw[<-e b.ch,this,e]
   have c:=xb i;rw[a,xb m]at c;cases c;rfl
  subst o;cases l with
  |nil=>rfl
  |cons g l=>
   obtain⟨_,_,u,p,_,v,_⟩:=k;have:=(cw.uR.1 (cw.vT p)).2.2.2.1;omega
end
def ajF(h:e.bt=G)(ao:e.aI<=105)(b:1<=k):lf k [e.ch]=G:=by
 rw[xk];have c:e.ch.length=1+e.aI:=by rw[(eG.qT h).1,gF,Pg h];omega
 refine⟨B,λx a=>?_,?_⟩
 ·rw[ku.1 a];exact ack h
 ·have d:(g5 [e.ch]).length=2+e.ch.length:=by simp[g5,ga];omega
  omega
structure oh(an:cK)(t:ByteArray)(first:Int)(dm:List ByteArray)(m4:Int)(l4:Option hG):Prop where
 gm:∃ah,an.bd.aP t 0=E ah/\q5 an.cx ah.dw first dm/\ah.dw.hE=m4/\fq ah.jX 1=l4
section
variable{t:ByteArray}{first m4:Int}{l4:Option hG}{x:hG}
def ajG(h:an.bp aX)(a:an.cn=[])(b:d.bt=G)(c:i3 d.a5=G):(an.ll k aX d).1.bp aX:=by have e:({an with cQ:=0,cn:=[(0,d)]}:cK).bp aX:=⟨h.nf,h.dT,h.n1,B,by simp[b,c]⟩;have:=(cK.Ht (k:=k) e).1;rw[T2 a]at this;exact⟨this.nf,this.dT,this.n1,this.iG,this.jU⟩
def EZ(h:an.bp aX)(a:an.cn=[])(b:d.bt=G):(an.e7 k aX d).1.bp aX/\(an.e7 k aX d).1.cn=[]:=by
 unfold cK.e7;split
 ·rename_i c;have:=ajG (k:=k) h a b c;exact⟨⟨this.nf,this.dT,this.n1,this.iG,this.jU⟩,by show(an.ll k aX d).1.cn=[];rw[ajz,a]⟩
 ·exact⟨⟨h.nf,h.dT,h.n1,h.iG,h.jU⟩,a⟩
def zv:(an.e7 k aX d).1.cx.length<=an.cx.length+1:=by
 unfold cK.e7;split
 ·exact ajA
 ·simp only;omega
def zw:(an.e7 k aX d).1.cQ=an.cQ+1:=by unfold cK.e7;split<;>rfl
def Jn{ag:nY}(a:d.c2.bt=G)(ao:d.c2.aI<=105)(b:1<=k)(c:an.cx.length<aX)(e:an.bd.h9 d.c2 an.cx.length 0=bA (gs,ag))(f:ag.vY=U):an.ll k aX d=({an with cx:=an.cx++[[d.c2.ch]],bd:=gs},⟨d.dF,0,ag.cu,ag.cu+ag.bV,[],[]⟩):=by unfold cK.ll;rw[e];simp only[f,ajF a ao b,fc,if_false,Bool.true_eq_false];rw[if_pos c]
def BR(h:i3 d.a5=G):an.e7 k aX d=({(an.ll k aX d).1 with cQ:=an.cQ+1},(an.ll k aX d).2):=by unfold cK.e7;rw[if_pos h]
def Jo(h:i3 d.a5=U):an.e7 k aX d=({an with cQ:=an.cQ+1},mi an.cx kn an.bd d):=by unfold cK.e7;rw[h];rfl
def T6(e:d.bt=G)(a:d.a5=1)(f:dv an.bd.fs d.cI=I)(m:an.bd.fs.length<8)(g:an.cx.length<aX)(i:1<=k)(ao:d.c2.aI<=105):(an.e7 k aX d).2=⟨d.dF,0,0,0,[],[]⟩/\oh (an.e7 k aX d).1 d.cI d.hF [] d.hF I:=by
 have b:i3 d.a5=G:=by rw[a];rfl
 have c:=tU e b;have j:d.c2.a5=1:=a;have n:1<=d.ie:=by
  obtain⟨_,h|h|h|h|h⟩:=eG.rE.1 c
  ·exact h.2.2.2.1
  all_goals omega
 have l:an.bd.h9 d.c2 an.cx.length 0=bA (⟨hb an.bd.fs d.cI (cN d.ie.toNat (gM.cq d.hF)),an.bd.kA⟩,i4):=by unfold c3.h9;rw[if_pos j];unfold c3.xe;show le (if(dv an.bd.fs d.cI).isSome=G then _ else _)=_;rw[f,if_neg B,if_neg A];rfl
 rw[BR b,Jn c ao i g l rfl];refine⟨rfl,gM.cq d.hF,?_,⟨by simp[gM.cq],by simp[gM.cq]⟩,rfl,rfl⟩;unfold c3.aP;simp only[DJ,if_pos,tg];rw[if_neg A,List.getElem?_replicate,if_pos (by show(0:Int).toNat<_;omega)]
def oh.dw(h:oh an t first dm m4 l4)(b:an.bp aX)(c:aX<=64):∃ah,an.bd.aP t 0=E ah/\q5 an.cx ah.dw first dm/\ah.dw.hE=m4/\fq ah.jX 1=l4/\ah.dw.bp:=by obtain⟨ah,a,d,e,f⟩:=h.gm;exact⟨ah,a,d,e,f,((b.bd c).aP a).dw⟩
def E0:Option hG->Int
 |none=>0
 |some x=>x.L+1
def ajH{ak:List (Int×hG)}{s:Int}(h:fq ak 1=l4)(ao:s=E0 l4)(a:0<=s)(b:s<=1000):ke ak 1 s=(i2,U,I):=by
 cases l4 with
 |none=>
  have ao:s=0:=ao;rw[OQ ⟨A,A,a,A⟩ h,if_pos ao]
 |some x=>
  unfold E0 at ao;simp only at ao;rw[GM ⟨A,A,a,A⟩ h,if_neg A,bq A A,if_pos ao]
def Jp(h:oh an d.cI first dm m4 l4)(p:an.bp aX)(q:aX<=64)(r:d.bt=G)(e:d.a5=3)(f:d.d9=0)(g:d.bk.hH=1/\d.bk.cP=E0 l4/\d.bk.cP<=1000\/d.bk.hH=0)(s:an.cx.length<aX)(t:1<=k)(ao:d.c2.aI<=105)(dI:first+dm.length+8<=9223372036854775807):
  (an.e7 k aX d).2=⟨d.dF,0,first+dm.length,first+dm.length+d.bk.a7.length,[],[]⟩/\oh (an.e7 k aX d).1 d.cI first (dm++d.bk.a7) m4 (if d.bk.hH=1 then E ⟨d.bk.cP,first+dm.length,d.bk.a7.length⟩else l4):=by
 have i:i3 d.a5=G:=by rw[e];rfl
 have b:=tU r i;have u:d.c2.a5=3:=e;have j:d.bk.bt=G:=by
  obtain⟨_,h|h|h|h|h⟩:=eG.rE.1 b
  ·omega
  ·omega
  ·exact h.2.2.2.2.2.2.2
  all_goals omega
 obtain⟨ah,l,m,v,n,w⟩:=h.dw p q;have x:=cw.uR.1 (cw.vT j);have o:=m.cS;have c:ah.dw.mf d.bk.a7.length d.bk.g2 an.cx.length 0=0:=by unfold eI.mf;rw[if_neg (by unfold yw;rw[decide_eq_false A];simp),if_neg A]
 have y:ke ah.jX d.bk.hH d.bk.cP=(i2,U,I):=by
  rcases g with⟨a,z,B⟩|a
  ·rw[a];exact ajH n z x.2.2.1.1 B
  ·rw[a];exact OP
 have D:an.bd.h9 d.c2 an.cx.length 0=bA (an.bd.dt d.cI d.d9 ⟨ah.dw.kM d.bk.a7.length d.bk.g2 an.cx.length 0,sK ah.jX d.bk.hH ⟨d.bk.cP,ah.dw.cS,d.bk.a7.length⟩⟩,⟨ah.dw.cS,d.bk.a7.length,U⟩):=by
  unfold c3.h9;rw[if_neg A,if_neg A];have J:an.bd.aP d.c2.cI d.c2.d9=E ah:=by show an.bd.aP d.cI d.d9=_;rw[f];exact l
  rw[J];simp only;rw[if_neg A,if_neg A];have K:ah.po d.c2.bk an.cx.length 0=bA (⟨ah.dw.kM d.bk.a7.length d.bk.g2 an.cx.length 0,sK ah.jX d.bk.hH ⟨d.bk.cP,ah.dw.cS,d.bk.a7.length⟩⟩,⟨ah.dw.cS,d.bk.a7.length,U⟩):=by show ah.po d.bk an.cx.length 0=_;unfold gM.po;rw[y];simp only;rw[if_pos c]
  rw[K];rfl
 rw[BR i,Jn b ao t s D rfl];have L:(an.bd.dt d.cI d.d9 ⟨ah.dw.kM d.bk.a7.length d.bk.g2 an.cx.length 0,sK ah.jX d.bk.hH ⟨d.bk.cP,ah.dw.cS,d.bk.a7.length⟩⟩).aP d.cI 0=E ⟨ah.dw.kM d.bk.a7.length d.bk.g2 an.cx.length 0,sK ah.jX d.bk.hH ⟨d.bk.cP,ah.dw.cS,d.bk.a7.length⟩⟩:=by rw[f];exact T3 l
 refine⟨by rw[o],_,L,?_,?_,?_⟩
 ·refine m.p8.kM w c j rfl ⟨an.cx.length,0,d.c2.ch,d.c2,rfl,rfl,?_,G0 b,u,rfl⟩;unfold sO;rw[nr (fF _),k6];rfl
 ·show(ah.dw.kM d.bk.a7.length d.bk.g2 an.cx.length 0).hE=m4;unfold eI.kM;rw[if_pos c];exact v
 ·show fq (sK ah.jX d.bk.hH ⟨d.bk.cP,ah.dw.cS,d.bk.a7.length⟩) 1=_;unfold sK;rcases g with⟨a,_⟩|a
  ·rw[if_neg A,x8,if_pos a,o,if_pos a]
  ·rw[if_pos a,if_neg A];exact n
def T7(h:oh an d.cI first dm m4 l4)(b:an.bp aX)(c:aX<=64)(e:d.a5=7)(f:d.d9=0)(t:m4<=d.cW)(u:d.cW<=first+dm.length):
  (an.e7 k aX d).1={an with cQ:=an.cQ+1}/\(an.e7 k aX d).2.iE=0/\(an.e7 k aX d).2.cu=m4/\(an.e7 k aX d).2.dF=d.dF/\(an.e7 k aX d).2.gj=[]/\(an.e7 k aX d).2.dY.length<=4/\xM (an.e7 k aX d).2 first dm d.cW:=by
 obtain⟨ah,g,a,i,v,j⟩:=h.dw b c;have w:=a.cS;have l:ah.dw.mg d.cW=0:=by unfold eI.mg;rw[if_neg A]
 have m:mi an.cx kn an.bd d=mO an.cx kn d ah.dw:=by unfold mi;rw[if_neg A,f,g];simp only;rw[if_neg A,if_neg A]
 rw[Jo (by rw[e];rfl),m];obtain⟨n,o,p,q,r,s⟩:=ajE a j l;exact⟨rfl,n,o.trans i,p,q,r,s⟩
end
section
variable{s:c3}{t:ByteArray}{ag:nY}{i j x:Int}{ah:gM}{av:ji}
def ajL{ak:List (Int×hG)}{ai ab:Int}{ae:hG}{b:Bool}(h:ke ak ai ab=(ae,b,E cz)):0<=cz.a5/\cz.a5<=255:=by obtain⟨k,rfl,a,_⟩:=abe h;simp only[ex.a5];omega
def ajM(h:s.h9 e i j=b5 x):0<=x/\x<=255:=by
 unfold c3.h9 at h;split at h
 ·unfold c3.xe le at h;split at h
  ·rename_i ao;cases h;split at ao
   ·cases ao;omega
   ·split at ao
    ·cases ao;omega
    ·cases ao
  ·cases h
 ·split at h
  ·unfold c3.yE le at h;split at h
   ·rename_i ao;cases h;split at ao
    ·cases ao
    ·cases ao;omega
   ·cases h
  ·split at h
   ·cases h;omega
   ·split at h
    ·unfold c3.AK le at h;split at h
     ·rename_i ao;cases h;split at ao
      ·cases ao;omega
      ·cases ao
     ·cases h
    ·split at h
     ·split at h
      ·cases h
      ·cases h;unfold eI.ph;split<;>omega
     ·split at h
      ·rename_i a;cases h;unfold gM.po at a;split at a
       ·rename_i b;cases a;exact ajL b
       ·cases a
       ·split at a
        ·cases a
        ·cases a;unfold eI.mf;split
         ·omega
         ·split<;>omega
      ·cases h
def zx{ad:dn}(h:ad.lv)(a:∀ah∈ad.dY,0<=ah.1):ad.bt=G:=(Ds ad).2 ⟨h,a⟩
def zy(a:0<=x)(b:x<=255):(ki d x).bt=G:=
 zx ⟨by simp only[ki];omega,by simp only[ki];omega,by simp[ki],by simp[ki],by simp[ki],by simp[ki]⟩ (by simp[ki])
def Jq(h:d.bt=G):0<=d.dF/\d.dF<=4294967295:=by unfold dl.bt at h;rw[dA,decide_eq_true_iff]at h;exact h.1
def T8{gG:Int}:∀{ao:List gZ}{dj:Nat}{dM l:List (Int×ByteArray)},(∀h∈ao,0<=h.cu)->(∀ah∈dM,0<=ah.1/\ah.2.size<=600)->rI av cp gG dj dM ao=E l->l.length<=dM.length+ao.length/\∀ah∈l,0<=ah.1/\ah.2.size<=600
 |[],dj,dM,l,_,b,h=>by cases h;exact⟨B,b⟩
 |ap::ao,dj,dM,l,d,b,h=>by
  rw[BP]at h;cases a:pp av cp ap with
  |none=>
   rw[a]at h;simp only at h;split at h
   ·cases h
   ·cases h;exact⟨B,b⟩
  |some ag=>
   rw[a]at h;simp only at h;split at h
   ·cases h;exact⟨B,b⟩
   ·have i:ag.length<=517:=by
     unfold pp at a;split at a
     ·cases a
     ·split at a
      ·cases a
      ·split at a
       ·cases a
       ·split at a
        ·cases a;exact cw.Dy _
        ·cases a
    obtain⟨e,f⟩:=T8 (dM:=dM++[(ap.cu,h7 ag)]) (λbm g=>d bm (ev _ g)) (λah c=>by
     rcases b4.1 c with c|c
     ·exact b ah c
     ·rw[ku.1 c];have:(h7 ag).size=ag.length:=by simp[h7,vv]
      exact⟨d ap fE,by simp only;omega⟩) h
    refine⟨?_,f⟩;rw[di,nt]at e;rw[gF];omega
def ajN(a:aw.bp)(t:Int):0<=aw.cy t/\aw.cy t<=aw.cS:=by
 have d:=a.lu;have e:=a.vQ;unfold eI.cy;split
 ·rename_i h c;have b:=gP c;have f:=a.oG.AB b;have g:=a.oG.1 _ b;omega
 ·omega
def ajO(j:an.bp aX)(k:aX<=64)(m:d.bt=G):(mi an.cx cp an.bd d).bt=G:=by
 have c:=Jq m;have e:=j.bd k;unfold mi;split
 ·refine zx ⟨c,B,B,B,⟨?_,λx n=>?_⟩,B⟩ B
  ·show(ab3 _).length<=_;rw[(amK _).length_eq,dU];exact e.fs
  ·obtain⟨ai,o,rfl⟩:=fS.1 ((amK _).mem_iff.1 n);have:=oJ (e.kU ai o).1;omega
 split
 ·exact zy A A
 ·rename_i ah a;have a:=e.aP a;have g:=a.dw.lu;have s:=a.dw.vQ;have f:=a.dw.vR;split
  ·split
   ·exact zy A A
   ·rename_i af p;have:=e.yG _ (vV p);exact zx ⟨c,B,this,⟨by simp only;omega,f⟩,B,B⟩ B
  ·split
   ·have:=ajN a.dw d.mL;exact zx ⟨c,B,⟨this.1,by simp only;omega⟩,⟨by simp only;omega,f⟩,B,B⟩ B
   ·unfold mO;split
    ·split
     ·exact zy A A
     ·rename_i l q;obtain⟨r,h⟩:=T8 (dM:=[]) (λbm b=>by
       have b:=List.mem_of_mem_take b;have b:bm∈ah.dw.eC:=by
        unfold eI.jd at b;by_cases i:ah.dw.mg d.cW=0
        ·rw[if_pos i]at b;exact tr b
        ·rw[if_neg i]at b;cases b
       exact(a.dw.oG.1 bm b).1) B q
      rw[ea,tl]at r;exact zx ⟨c,B,⟨g,by simp only;omega⟩,⟨by simp only;omega,f⟩,B,⟨by simp only;omega,λah a=>(h ah a).2⟩⟩ (λah a=>(h ah a).1)
    ·have:ah.dw.mg d.cW=0\/ah.dw.mg d.cW=13:=by unfold eI.mg;split<;>simp
     exact zx ⟨c,by simp only;omega,⟨g,by simp only;omega⟩,⟨by simp only;omega,f⟩,B,B⟩ B
def ajP(c:an.bp aX)(e:aX<=64)(a:d.bt=G)(f:i3 d.a5=G):(an.ll k aX d).2.bt=G:=by
 have g:=Jq a;unfold cK.ll;split
 ·rename_i x h;have:=ajM h;exact zy this.1 this.2
 ·rename_i gs ag i;obtain⟨_,j,m,l⟩:=c3.DR (c.bd e) (tU a f) i;have b:(⟨d.dF,0,ag.cu,ag.cu+ag.bV,[],[]⟩:dn).bt=G:=zx ⟨g,B,⟨j,by simp only;omega⟩,⟨by simp only;omega,l⟩,B,B⟩ B;split
  ·exact b
  ·split
   ·exact zy A A
   ·split
    ·exact b
    ·exact zy A A
def ajQ(a:an.bp aX)(b:aX<=64)(c:d.bt=G):(an.e7 k aX d).2.bt=G:=by
 unfold cK.e7;split
 ·rename_i e;exact ajP a b c e
 ·exact ajO a b c
def ajR(c:an.bp aX)(b:d.bt=G):(an.e7 k aX d).2.dF=d.dF:=by
 have e:=Jq b;have a:max 0 (min d.dF 4294967295)=d.dF:=A;unfold cK.e7;split
 ·show(an.ll k aX d).2.dF=d.dF;unfold cK.ll;split
  ·exact a
  ·split
   ·rfl
   ·split
    ·exact a
    ·split
     ·rfl
     ·exact a
 ·show(mi an.cx kn an.bd d).dF=d.dF;unfold mi;split
  ·rfl
  split
  ·exact a
  ·split
   ·split
    ·exact a
    ·rfl
   ·split
    ·rfl
    ·unfold mO;split
     ·split
      ·exact a
      ·rfl
     ·rfl
end
section
variable{g:fM}{av:ji}{aX:c3}
def amm(h:h2 w b am ab c au aB ay ix ai aQ an)(ao:qo c aB ay):
  a0 C 43 #[aP b] w λae a=>(∃n:Nat,ae=bQ #[F H n,cT])/\∃az,h2 a b az ab c au aB (s2 ay aB (xC c aQ)) ix ai ((aQ+1)%qq c) an/\bX am az w a:=by
 have o:=h.aL;obtain⟨ah,cR,b8,dB,fL,ej,dq,aD,c0,ef,h,rfl⟩:=h;refine a9 .D 1 Tryz.func43 K rfl λa1 r=>?_;simp+decide only[↓a8,ba,Tryz.f43];subst r;obtain⟨R,s,V,W,t,X,aa⟩:=l0 h.bg;try simp only[M,s]
 refine(ru FP).2 (cG.2 ⟨λg=>(by cases g),λ_=>?_⟩);try simp only[M,t]
 obtain⟨dc,rfl,u,l,v⟩:=h.ij;have y:b8∉dc:=λg=>h.lk b8 B (by simp[g]);apply aH XD (ahw ⟨h.wt,y⟩ u ao h.fO);rintro _ aA ⟨⟨n,rfl⟩,bJ,z,p,q⟩;simp only[cV,cX];apply tZ;have D:ah≠b8:=λe=>h.lk b8 B (by simp[e]);have k:∀x∈bJ,x∈dc\/w.heap.size<=x:=λx f=>by
  rcases q.cq x (ev _ f)with g|g
  ·rcases ce.1 g with rfl|g
   ·exact absurd f p.2
   ·exact Y g
  ·exact Z g
 have j:=q.J;have m:∀x,x∈b::(dq++(aD++c0))->x∉b8::dc:=by
  intro x f d;rcases ce.1 d with rfl|d
  ·rcases ce.1 f with rfl|f
   ·exact h.g1 rfl
   ·exact h.lk x B (h3 _ f)
  ·rcases ce.1 f with rfl|f
   ·exact h.lk x B (by simp[d])
   ·exact h.lC x (by simp[d]) f
 have J:ah∉b8::dc:=by
  intro d;rcases ce.1 d with e|d
  ·exact D e
  ·exact l.2 d
 have ac:=l.1.aL;refine⟨⟨n,rfl⟩,[b,b8]++(ah::bJ++(dq++(aD++c0))),⟨ah,cR,b8,dB,fL,ah::bJ,dq,aD,c0,ef,⟨h.bg.J j (m b B),⟨bJ,rfl,z,⟨l.1.J j J,λg=>(k ah g).elim l.2 (λh=>A)⟩,v⟩,p.1,h.k1.J j (λx f=>m x (by simp[f])),h.c4.J j (λx f=>m x (by simp[f])),h.pJ,λx f=>(h.vg x f).J j (λap L=>m ap (by simp[L])),λx f=>iL (h.vh x f) j.aI,h.g1,?_,?_,h.o1,h.wu,h.kF.J j (λd=>h.pK ?_),λd=>?_,h.cL,h.mt,Nat.mod_lt _ (by unfold qq;omega)⟩,rfl⟩,?_⟩
 ·intro x f d;have i:=h.lk x f;have Q:=o x (hg _ f);simp only[jN,ce,b4,not_or]at d i;rcases d with d|d|d
  ·exact i.1 d
  ·exact(k x d).elim i.2.1 (λg=>A)
  ·exact d.elim i.2.2.1 (λd=>d.elim i.2.2.2.1 i.2.2.2.2)
 ·intro x f d;rcases ce.1 f with rfl|f
  ·exact h.lC x B d
  ·rcases k x f with g|g
   ·exact h.lC x (by simp[g]) d
   ·have:=o x (h3 _ (h3 _ d));omega
 ·simp only[ce]at d;simp only[jN,ce,b4];rcases d with d|d
  ·exact Z (Y d)
  ·simp[d]
 ·have i:=h.pK;have Q:=h.kF.aL;simp only[jN,m2,ce,b4,not_or]at d i;rcases d with d|d|d|d|d
  ·exact i.1 d
  ·exact i.2.1 d
  ·exact i.2.2.1 d
  ·exact(k _ d).elim i.2.2.2.1 (λg=>A)
  ·exact d.elim i.2.2.2.2.1 (λd=>d.elim i.2.2.2.2.2.1 i.2.2.2.2.2.2)
 ·refine⟨j.bw (λx f=>Y ?_),λx f=>?_⟩
  ·simp only[jN,m2,ce,b4]at f⊢;rcases f with f|f
   ·exact Z (Y f)
   ·exact Z (Z (Z (Y f)))
  ·simp only[jN,m2,ce,b4]at f⊢;rcases f with f|f|f|f|f
   ·exact Y (Y f)
   ·exact Y (Z (Y f))
   ·exact Y (Z (Z (Y f)))
   ·exact(k x f).imp (λg=>Z (Z (Z (Y g)))) id
   ·exact Y (Z (Z (Z (Z f))))
def ajS:eH C 137 183 1 t8 (λaa=>aa):=eH.aW Ga FW rA
def ajT:eH C 183 52 1 kl (λab=>ab.1):=eH.aW pe mJ nb
def ajU(an:SP w jn av)(ao:lQ nD 0 av=E aX)(V:av.length<=64)(W:∀l∈av,l.length<=16/\∀x∈l,x.length<=100000):
  a0 C 58 #[jn] w λae a=>∃dB dq,ae=bQ #[aP dB,cT]/\iJ a dB dq aX/\(∀x∈dq,w.heap.size<=x)/\Q [] w a:=by
 obtain⟨aF,X,aY,ap⟩:=an;refine a9 Mw 1 Tryz.func58 K rfl λa1 aq=>?_;simp+decide only[↓a8,ba,Mw,Tryz.f58];subst aq;apply aH Lt Ti;rintro _ aA ⟨dB,bJ,rfl,ar,au,d⟩;obtain⟨aZ,a2,aw,_⟩:=id X;subst aw;try simp only[M]
 have a3:∀l∈av,l.length<=16:=λl V=>(W l V).1;refine c1 (λc a=>∃(i:Nat)(s:c3)(az:List Nat),c=[F H i]/\i<=av.length/\iJ a dB az s/\s.bp (16*i)/\lQ s i (av.drop i)=E aX/\(∀x∈az,w.heap.size<=x)/\Q [] w a) (λc _=>match c with|[F _ i]=>av.length-i.toNat|_=>0)
  ⟨0,nD,bJ,rfl,A,ar,PG,ao,au,d⟩ ?_
 rintro _ _ ax ⟨i,s,cM,rfl,al,aa,ay,h,ab,q⟩;try simp only[M,bi]
 refine⟨λa4=>?_,λa5=>?_⟩
 ·have r:i<av.length:=A;have ac:i<aF.length:=A;apply(ajS.ek (X.V q) (Q.b0 _ _) ac).2;have t:=ap i ac r;obtain⟨a6,a7,aB⟩:=t.cY;rw[aB]at t⊢;try simp only[M]
  have aC:av.drop i=av[i]::av.drop (i+1):=ot r;have aD:=W _ (dX r);rw[aC]at h;generalize av[i]=l at*;refine c1 (λc a=>∃(k:Nat)(s:c3)(az:List Nat),c=[F H k]/\k<=l.length/\iJ a dB az s/\s.bp (16*i+k)/\(lP s i k (l.drop k)).bind (λgs=>lQ gs (i+1) (av.drop (i+1)))=E aX/\(∀x∈az,w.heap.size<=x)/\Q [] w a) (λc _=>match c with|[F _ k]=>l.length-k.toNat|_=>0)
   ⟨0,s,cM,rfl,A,aa,ay,?_,ab,q⟩ ?_
  ·rw[List.drop_zero,<-h];simp only[lQ];cases lP s i 0 l<;>rfl
  rintro _ _ bb ⟨k,u,ad,rfl,bd,af,v,b,y,m⟩;try simp only[M,bi]
  refine⟨λbe=>?_,λbf=>?_⟩
  ·have d:k<l.length:=A;refine ju.ek ajT (t.V m) (Q.b0 _ _) d λbg ah=>?_;rw[iI d]at ah;have bh:=aD.2 _ (dX d);have aG:l.drop k=l[k]::l.drop (k+1):=ot d;rw[aG]at b;generalize l[k]=x at*;simp only[lP]at b;refine I1 ah A λae aI n=>?_;obtain⟨aJ,n⟩:=n;cases z:nB x with
   |error cz=>rw[z]at b;simp at b
   |ok e=>
    rw[z]at n b;simp only at b;obtain⟨bc,rfl,ai,aL,bj⟩:=n;have aj:=Dz z;have aM:bc.oneCell'=G:=ai.aW;simp only[cV,cX];refine uf λbk aO aQ bl=>s3 aO rfl aM λak aR aS bn=>?_;have am:Q [] aI ak:=aQ.R aS B;have D:=aJ.R am B;refine bT (λc a=>∃f ag g,c=[cT]/\u.h9 e i k=bA (f,ag)/\iJ a dB g f/\bX ad g ak a) ?_ ?_
    ·refine(ry dk).2 (cG.2 ⟨λ_=>?_,λo=>(by cases o)⟩);obtain⟨aor,bo,bp,br,bs,bt,bu,bv,aT⟩:=ik aR;simp only[aT];refine ES (af.V D) v A aj (ai.V am) aL λae aU J=>?_;unfold o0 at J;cases j:u.h9 e i k with
     |error hC=>rw[j]at b;simp at b
     |ok bm=>
      obtain⟨f,ag⟩:=bm;rw[j]at J;obtain⟨rfl,g,L,p⟩:=J;simp only[cV,cX];exact⟨f,ag,g,by trivial,rfl,L,p⟩
    rintro _ _ aU ⟨f,ag,g,rfl,j,L,p⟩;try simp only[M]
    refine(fp dk).2 (cG.2 ⟨λo=>(by cases o),λ_=>?_⟩);try simp only[M]
    rw[bq A A];rw[j]at b;have bw:=D.aI;have bx:=m.aI;refine⟨⟨k+1,f,g,by trivial,A,L,(c3.DR v aj j).1,b,λx R=>(p.cq x R).elim (y x) (λo=>A),(m.R D B).R p.J (λx R=>Z (y x R))⟩,by simp;omega⟩
  ·have aV:k=l.length:=A;rw[aV,aoh]at b;simp only[lP,tg]at b;try simp only[M]
   rw[bq A A];exact⟨⟨i+1,u,ad,by trivial,A,af,v.bw A,b,y,m⟩,by simp;omega⟩
 ·have aW:i=av.length:=A;rw[aW,aoh]at h;simp only[lQ,vq]at h;subst h;exact⟨dB,cM,rfl,aa,ab,q⟩
end
def E1:ByteArray:=eS #[98,114,111,107,101,114,46,79,112,101,110]
structure ajV(w:aN)(b:Nat)(am:List Nat)(ab:Nat)(c:dR)(au:eW)(aB:Nat->Bool)(ay al:Nat->Nat->Bool)(gi:Nat)(cz:ex):Prop where
 gm:∃dc dB,am=b::dc/\eY w ab dc c au aB ay al/\fb w dc b 136 [aP ab,aE I,ff (E cz),aP dB,aE I,T I 0 0,F H gi]
 kF:jf w
 pK:0∉am
 a5:cz.a5=6
section
variable{g8 lr hD tu zK:S}{g:fM}{av:ji}{aX:c3}
def ajW(w a:aN)(b:Nat)(am:List Nat)(ab:Nat)(c:dR)(au:eW)(aB:Nat->Bool)(ay al:Nat->Nat->Bool)(bu:Nat)(av:ji)(aX:c3)(gi:Nat)(ae:S):Prop:=
 (∃az dL,ae=cT/\h2 a b az ab c au aB ay al dL 0 ⟨av,aX,[],gi⟩/\dL<=bu/\bX (b::am) az w a/\∀t,t<c.bd->c.aJ<=bV (ia c al t) c.aR)\/
 ∃az cz,ae=ff (E cz)/\ajV a b az ab c au aB ay al gi cz/\bX (b::am) az w a/\∃t,t<c.bd/\bV (ia c ay t) c.aR<c.aJ
def T9(an:aC w b 136 [aP ab,g8,lr,hD,tu,zK,F H gi])(u:b∉am)(V:eY w ab am c au aB ay al)(ao:zc c au aB ay al)(aM:r5 c au bu)(W:q3 c au av)(X:lQ nD 0 av=E aX)(ap:∀l∈av,l.length<=16)(ac:jf w)(aq:0∉b::am):
  a0 C 22 #[aP b] w λae a=>ajW w a b am ab c au aB ay al bu av aX gi ae:=by
 obtain⟨ad,bs⟩:=V.cL;have bt:=ad.jZ;have bv:=V.aL;have bw:=an.aL;have aO:=W.dT;refine a9 Mj 1 Tryz.func22 K rfl λa1 aQ=>?_;simp+decide only[↓a8,ba,Mj,Tryz.f22];subst aQ;apply aH Lt Ti;rintro _ aA ⟨lu,bJ,rfl,bx,bz,ar⟩;try simp only[M]
 refine eK K7 (an.J ar B) B rfl λax aR aS bB=>?_;try simp only[M]
 refine eK K8 aR B rfl λbC aT aU bD=>?_;try simp only[M]
 refine eK La aT B rfl λbE aV aW bG=>?_;try simp only[M]
 refine eK CR aV B rfl λD v aY bH=>?_;have v:aC D b 136 [aP ab,aE I,lr,aP lu,aE I,T I 0 0,F H gi]:=by simpa using v
 have p:Q [b] w D:=((((ar.bw B).R aS (λx d=>Y d)).R aU (λx d=>Y d)).R aW (λx d=>Y d)).R aY (λx d=>Y d);have aZ:=V.J p (λx d f=>by simp at f;subst f;exact u d);have y:0≠b:=λe=>aq (by simp[e]);have J:0∉am:=λe=>aq (by simp[e]);have aw:=ac.J p (by simpa using y);try simp only[M]
 refine(bl (aa:=aP ab) CP (v.bh (af:=0))).2 (aH Xq (ahi aZ ao aM W) ?_);rintro _ z (⟨ah,j,a2,jn,rfl,az,a3,i,a4,a5⟩|⟨j,cz,a6,i,a7,bb,rfl⟩)
 ·have m:∀x∈j,x∈am\/D.heap.size<=x:=i.cq;have bc:=p.aI;have ag:=v.J i.J u;have ai:=aw.J i.J J;have aD:=az.aL;simp only[na,oB,oC];have bd:∀l∈av,l.length<=16/\∀x∈l,x.length<=100000:=λl aF=>⟨ap l aF,λx d=>by
   have X:=xk.1 (W.e0 _ aF);have:=AP d;have:=ad.jY;have:=ad.i6;omega⟩
  refine bT (λn a=>∃dB dq,n=[cT,aP dB]/\iJ a dB dq aX/\(∀x∈dq,z.heap.size<=x)/\Q [] z a) ?_ ?_
  ·refine(ry dk).2 (cG.2 ⟨λ_=>?_,λg=>(by cases g)⟩);apply aH Xr (ajU a4 X A bd);rintro _ be ⟨dB,dq,rfl,L,k,R⟩;simp only[cV,cX];exact⟨dB,dq,rfl,L,k,R⟩
  rintro _ _ be ⟨dB,dq,rfl,L,k,R⟩;try simp only[M]
  apply tZ;try simp only[M]
  refine eK K3 (ag.J R B) B rfl λq r o bf=>?_;have s:b∉j:=λg=>(m b g).elim u (λh=>A);obtain⟨cR,bg⟩:=az.ahe;have aj:Q [b] z q:=(R.bw B).R o (λx d=>Y d);have aG:=bg.J aj (λx d f=>by simp at f;subst f;exact s d);have bI:=aj.aI;have bK:=i.J.aI;refine bT (λn a=>∃b8,n=[]/\aC a b 136 (lj ab ah dB b8 (T I 0 0) gi)/\aC a b8 226 (lz cR 0)/\q.heap.size<=b8/\Q [b] q a) ?_ ?_
  ·refine(ry dk).2 (cG.2 ⟨λ_=>?_,λg=>(by cases g)⟩);apply aH Gj (IM aG);rintro _ _ ⟨rfl,rfl⟩;apply aH Xs ahu;rintro _ cd ⟨rfl,ak,t,bL⟩;try simp only[M]
   refine eK K7 (r.J t B) B rfl λbM bh bi bP=>?_;try simp only[M]
   refine eK CR bh B rfl λbU bj bk bV=>?_;try simp only[M]
   refine eK K8 bj B rfl λbm bn bo bW=>?_;have aI:Q [b] cd bm:=(bi.R bk (λx d=>Y d)).R bo (λx d=>Y d);exact⟨_,by trivial,by simpa[lj]using bn,ak.J aI (by simp;omega),fF _,(t.bw B).R aI (λx d=>Y d)⟩
  rintro _ _ cd ⟨b8,rfl,aJ,ak,bX,t⟩;obtain⟨bY,bZ,bp,b0,b1,b2,b3⟩:=l0 aJ;try simp only[M,bp]
  have bq:=L.J o (λx d f=>by have:=k x d;simp at f;omega);have br:=L.aL;have b7:=o.aI;have aL:Q [b] z cd:=aj.R t (λx d=>Y d);refine Y ⟨[b,b8]++(j++(dq++([]++[]))),a2,rfl,⟨ah,cR,b8,dB,_,j,dq,[],[],[],⟨aJ,aG.J t (λx d f=>by simp at f;subst f;exact s d),ak,bq.J t (λx d f=>by have:=k x d;simp at f;omega),gJ _ _ _,rfl,B,B,A,?_,?_,by simp;exact bR.D _,bR.D _,ai.J aL (by simpa using y),?_,⟨X,aO,ap,B,B⟩,ao.mt,by unfold qq;omega⟩,rfl⟩,a3,⟨?_,λx d=>?_⟩,a5⟩
  ·intro x d f;simp only[kJ,b4,ce,iZ,or_false]at d f;rcases d with rfl|rfl
   ·rcases f with f|f
    ·exact s f
    ·have:=k x f;omega
   ·rcases f with f|f
    ·have:=aD x f;omega
    ·have:=br x f;omega
  ·intro x d f;simp only[kJ]at f;have:=aD x d;have:=k x f;omega
  ·intro f;have:=ac.aL;simp only[kJ,b4,ce,iZ,or_false]at f;rcases f with(f|f)|f|f
   ·exact y f
   ·omega
   ·exact(m _ f).elim J (λh=>A)
   ·have:=k _ f;omega
  ·exact((p.bw (λx d=>Y (by simp at d;simp[d]))).R i.J (λx d=>Y (by simp[d]))).R aL (λx d=>Y (by simp at d;simp[d]))
  ·simp only[kJ,b4,ce,iZ,or_false]at d⊢;rcases d with(d|d)|d|d
   ·exact Y (Y d)
   ·exact Z A
   ·exact(m x d).imp Z (λh=>A)
   ·exact Z (by have:=k x d;omega)
 ·simp only[na,oB,oC];have m:∀x∈j,x∈am\/D.heap.size<=x:=i.cq;have bc:=p.aI;have ag:=v.J i.J u;have ai:=aw.J i.J J;have s:b∉j:=λg=>(m b g).elim u (λh=>A);refine bT (λn a=>n=[ff (E cz),aE I]/\z=a) ?_ ?_
  ·refine AA.2 (cG.2 ⟨λg=>(by cases g),λ_=>?_⟩);exact⟨by trivial,by trivial⟩
  rintro _ _ _ ⟨rfl,rfl⟩;try simp only[M]
  apply rO (d5:=E1) (e:=E cz);try simp only[M]
  refine eK K3 ag B rfl λq r o bf=>?_;have r:aC q b 136 [aP ab,aE I,ff (E (.d2 E1 0 cz)),aP lu,aE I,T I 0 0,F H gi]:=by simpa using r
  refine bT (λn a=>n=[]/\q=a) ?_ ?_
  ·refine AA.2 (cG.2 ⟨λg=>(by cases g),λ_=>?_⟩);exact⟨by trivial,by trivial⟩
  rintro _ _ _ ⟨rfl,rfl⟩;try simp only[M]
  refine(bl (aa:=ff (E (.d2 E1 0 cz))) FT (r.bh (af:=2))).2 (Z ⟨b::j,.d2 E1 0 cz,rfl,⟨⟨j,lu,rfl,a6.J o (λx d f=>by simp at f;subst f;exact s d),r,s⟩,ai.J o (by simpa using y),λf=>?_,by simpa[ex.a5]using a7⟩,⟨?_,λx d=>?_⟩,bb⟩)
  ·have:=ac.aL;rcases ce.1 f with f|f
   ·exact y f
   ·exact(m _ f).elim J (λh=>A)
  ·exact((p.bw (λx d=>Y (by simp at d;simp[d]))).R i.J (λx d=>Y (by simp[d]))).R o (λx d=>Y (by simp at d;simp[d]))
  ·rcases ce.1 d with rfl|d
   ·exact Y B
   ·exact(m x d).imp (λh=>by simp[h]) (λh=>A)
def ajX:C.built 136 #[(0,aP ab)].toList=E #[aP ab,aE I,cT,aE I,aE I,T I 0 0,F H 0]:=K
def ajY(j:eY w ab am c au aB ay al)(n:zc c au aB ay al)(o:r5 c au bu)(p:q3 c au av)(q:lQ nD 0 av=E aX)(r:∀l∈av,l.length<=16)(k:jf w)(s:0∉am)(u:∀t,t<c.bd->c.aJ<=bV (ia c ay t) c.aR):
  a0 C 49 #[aP ab] w λae a=>∃b az dL,ae=aP b/\w.heap.size<=b/\h2 a b az ab c au aB ay al dL 0 ⟨av,aX,[],0⟩/\dL<=bu/\bX am az w a:=by
 have v:=j.aL;refine a9 .D 1 Tryz.func49 K rfl λa1 y=>?_;simp+decide only[↓a8,ba,Tryz.f49];subst y;refine(bY ajX).2 (eA λaA g h dI=>?_);have g:aC aA w.heap.size 136 [aP ab,aE I,cT,aE I,aE I,T I 0 0,F H (0:Nat)]:=by simpa[bF]using g
 have N:=k.aL;refine aH Lr (T9 g (λd=>by have:=v _ d;omega) (j.V h) n o p q r (k.V h) (λi=>by
  rcases ce.1 i with e|i
  ·omega
  ·exact s i)) ?_
 rintro ae ax (⟨cM,z,rfl,D,J,m,_⟩|⟨cM,cz,_,_,_,t,L,O⟩)
 ·refine⟨w.heap.size,cM,z,rfl,fF _,D,J,⟨(h.bw B).R m.J (λx f=>?_),λx f=>?_⟩⟩
  ·rcases ce.1 f with rfl|f
   ·exact Z (fF _)
   ·exact Y f
  ·rcases m.cq x f with d|d
   ·rcases ce.1 d with rfl|d
    ·exact Z (fF _)
    ·exact Y d
   ·exact Z A
 ·have:=u t L;omega
end
end
end Go.Proofs.YtepeilglbedgdaaGreatDoor
namespace Go.X
variable{am:List Nat}{w:aN}{ak io n:Nat}{aS:List S}{aa bm:S}{ac:S -> aN -> Prop}{ad:ft}{ar av bH:co}
section
open Go.RowKit Go.Great
def Jr(nu:S)(ak:Nat):nq #[nu] ak=(cN ak nu).toArray:=by
 apply Array.ext
 ·simp[nq]
 ·intro i a b;simp[nq,Nat.mod_one]
section
variable{nu:S}
def ajZ{cO:iz}(K:hO ad ar av 1 io bm)(o:bm.cells=#[nu])(af:nu.oneCell'=G)(p:ad.underlying bH=E (.int cO))(h:bP w av 1 aa n aS am)(aF:0<ak)(ag:ak<=10000000)(aG:n<=10000000)(L:io<=1000)
  (k:∀dd a az,bP a av 1 dd (n+ak) (aS++cN ak nu) az->Q am w a->(∀g∈az,g∈am\/w.heap.size<=g)->dd.oneCell'=G->ac dd a):
  W ad (dG lp #[ar,bH] #[aa,F H ak]) w ac:=by
 obtain⟨c,i,al,q,ao,r⟩:=K.wZ;have aH:(n+ak)*io<=20000000*1000:=Nat.mul_le_mul A L;have aI:ak*io<=10000000*1000:=Nat.mul_le_mul ag L;have s:H.wrap (ak:Int)=ak:=bq A A;have t:¬(281474976710656<(ak:Int)*(i.bytes:Int)):=by rw[<-uq,r];omega
 have u:¬((ak:Int)<0):=A;have v:ak≠0:=A;have ah:n+ak<=d0:=by unfold d0;omega
 have x:(cN ak nu).length=ak:=tt;have d:(aS++cN ak nu).length=(n+ak)*1:=by rw[di,h.1,x];omega
 have bz:∃dd a az,(pQ #[ar,bH] 0 #[aa,F H ak]).run ad w=bN dd a/\bP a av 1 dd (n+ak) (aS++cN ak nu) az/\Q am w a/\(∀g∈az,g∈am\/w.heap.size<=g):=by
  have dI:∀(gR:Nat),bP (w.drew.alloc (amv (aS.toArray++(cN ak nu).toArray++nq bm.cells (jz w (n+ak) gR av-(n+ak))) av)) av 1
     (T (E ⟨w.heap.size,0,I⟩) (n+ak) (jz w (n+ak) gR av)) (n+ak) (aS++cN ak nu) [w.heap.size]/\
    Q am w (w.drew.alloc (amv (aS.toArray++(cN ak nu).toArray++nq bm.cells (jz w (n+ak) gR av-(n+ak))) av)):=by
   intro gR;have ai:=grownCap_ge w (n+ak) gR av;have y:jz w (n+ak) gR av<=d0:=grownCap_le_maxLen w (n+ak) gR av ah;have N:=size_zeroCells bm.cells (jz w (n+ak) gR av-(n+ak));rw[K.zZ]at N;refine⟨⟨d,Z ⟨w.heap.size,0,_,aS++cN ak nu++(nq bm.cells (jz w (n+ak) gR av-(n+ak))).toList,rfl,rfl,?_,ai,y,?_,?_⟩⟩,(cD am w).Fy _⟩
   ·have:(aS.toArray++(cN ak nu).toArray++nq bm.cells (jz w (n+ak) gR av-(n+ak)))=(aS++cN ak nu++(nq bm.cells (jz w (n+ak) gR av-(n+ak))).toList).toArray:=B;rw[this];exact sz w.drew av _
   ·rw[di,d,tj,N];omega
   ·rw[List.drop_zero,<-d];exact tk
  rcases h.2 with⟨rfl,rfl,rfl⟩|⟨g,b,bL,cf,rfl,rfl,l,aJ,y,aL,z⟩
  ·have aj:aS=[]:=rc (by simpa using h.1);subst aj;have aM:¬(0+ak<=0):=A;have O:¬((9223372036854775807:Int)<((0+ak:Nat):Int)):=A;have an:Builtin.nextslicecap (0+ak) 0*i.bytes<=281474976710656:=growslice_fits A (by rw[r];omega);have m:¬(281474976710656<Builtin.nextslicecap (0+ak) 0*i.bytes):=A;have e:(pQ #[ar,bH] 0 #[T I 0 0,F H ak]).run ad w=bN (T (E ⟨w.heap.size,0,I⟩) (0+ak) (jz w (0+ak) 0 av)) (w.drew.alloc (amv (([]:List S).toArray++(cN ak nu).toArray++nq bm.cells (jz w (0+ak) 0 av-(0+ak))) av)):=by rw[gQ]at m⊢;simp[pQ,fK c,fK p,asInt,asIntOf,s,t,u,sizeOf,typeInfo,zeroValue,al,q,ao,v,m,Question.forced,newRow,jz,o,Jr,Builtin.firstCells];try omega
   have f:=dI 0;exact⟨_,_,_,e,f.1,f.2,λg l=>Z (by simp at l;omega)⟩
  ·by_cases D:n+ak<=bL
   ·have aO:=h.1;have ap:cf=cf.take (b+n)++(cf.drop (b+n)).take ak++cf.drop (b+(n+ak)):=by rw[<-sp,<-oq (i:=ak),gq,l3,l3]
    have aq:((cf.drop (b+n)).take ak).length=ak:=by rw[ea,e8];omega
    obtain⟨a,au,aw,ax,aP⟩:=x3 (ad:=ad) g (b+n) av (cN ak nu) (cf.take (b+n)) ((cf.drop (b+n)).take ak) (cf.drop (b+(n+ak))) w 0 (ap▸l) (by rw[aq,x]) (by intro ae c;rw[List.eq_of_mem_replicate c];exact af) (by rw[ea];omega);have ay:(pQ #[ar,bH] 0 #[T (E ⟨g,b,I⟩) n bL,F H ak]).run ad w=bN (T (E ⟨g,b,I⟩) (n+ak) bL) a:=by simp[pQ,fK c,fK p,asInt,asIntOf,s,t,u,sizeOf,typeInfo,zeroValue,al,q,ao,v,D,o,Jr,jC,au]
    have aA:(cf.take (b+n)).length=b+n:=by rw[ea];omega
    refine⟨_,_,[g],ay,⟨d,Z ⟨g,b,bL,_,rfl,rfl,aw,D,y,?_,?_⟩⟩,ax,λaB J=>Y J⟩
    ·rw[di,di,aA,x,e8];omega
    ·rw[gA]at z;rw[gq,List.drop_append_of_le_length A,List.drop_take,Nat.add_sub_cancel_left,z,<-gq,<-d];exact tk
   ·have holds:∀j ae,aS[j]?=E ae->w.drew.cell? ((⟨g,b,I⟩:es).add j)=E ae:=by intro j ae R;have V:=l.cy.d1 b (n*1);rw[z,gQ]at V;have:=V j (fi.1 R).1;rw[jC,World.cell?_drew,this,R]
    have X:=run_firstCells_some (P:=ad) w.drew i.size n ⟨g,b,I⟩ n bL aS (by rw[h.1,ao]) holds;rw[ao]at X;have O:¬((9223372036854775807:Int)<(n:Int)+(ak:Int)):=A;have an:Builtin.nextslicecap (n+ak) bL*i.bytes<=281474976710656:=growslice_fits A (by rw[r];omega);have m:¬(281474976710656<Builtin.nextslicecap (n+ak) bL*i.bytes):=A;have e:(pQ #[ar,bH] 0 #[T (E ⟨g,b,I⟩) n bL,F H ak]).run ad w=bN (T (E ⟨w.heap.size,0,I⟩) (n+ak) (jz w (n+ak) bL av)) (w.drew.alloc (amv (aS.toArray++(cN ak nu).toArray++nq bm.cells (jz w (n+ak) bL av-(n+ak))) av)):=by simp[pQ,fK c,fK p,asInt,asIntOf,s,t,u,sizeOf,typeInfo,zeroValue,al,q,ao,v,D,O,m,Question.forced,X,newRow,jz,o,Jr]
    have f:=dI bL;exact⟨_,_,_,e,f.1,f.2,λaB J=>Z (by simp at J;omega)⟩
 obtain⟨dd,a,az,e,ab,aC,aD⟩:=bz;refine(j9 (aa:=dd) (a:=a) ?_).2 (k dd a az ab aC aD ?_)
 ·show(do fh (fw (<-pQ #[ar,bH] 0 #[aa,F H ak])):Sem fD).run ad w=_;exact gv ad _ w e
 ·rcases ab.2 with⟨rfl,_⟩|⟨_,_,_,_,rfl,_⟩<;>rfl
end
end
end Go.X
namespace Go.Proofs.YtepeilglbedgdaaGreatDoor
open Go.X
attribute[local irreducible]Go.X.W
variable{aO am:List Nat}{a w:aN}{i iB j k n s:Nat}{cv da:List S}{aa ae:S}{ac:S -> aN -> Prop}{fz:kQ}{ar av:co}{l:List UInt8}
section
open Go.RowKit
section
variable{kv:List (List UInt8)}
def Ua{ac:S->Prop}{d:Option es}{c:Nat}(h:gV C ar av=G):aV C (dG .cap #[ar] #[T d n c]) ac↔ac (F H c):=by refine hv λw=>?_;have a:=o8 h;unfold dG;simp[builtin,Builtin.cap_,underlying,a,goInt]
def aj0{ad:ft}{av:co}{a6 ak:Nat}{aS:List S}{am:List Nat}{d:Option es}{c:Nat}(h:bP w av a6 (T d ak c) ak aS am):bP w av a6 (T (if c=0 then d else d.map (·.add (0*a6))) 0 c) 0 [] am:=by
 obtain⟨j,a⟩:=h;refine⟨B,?_⟩;rcases a with⟨e,rfl,rfl⟩|⟨g,af,bL,cf,e,rfl,b,k,f,i,l⟩
 ·cases e;exact Y ⟨rfl,rfl,rfl⟩
 ·cases e;refine Z ⟨g,af,c,cf,?_,rfl,b,A,f,i,B⟩;congr 1;split
  ·rfl
  ·simp[Addr.add]
def aj1(m:n<=10000000):a0 C 126 #[T I 0 0,F H n] w λae a=>∃am,bP a 5 1 ae 0 [] am/\(∀g∈am,w.heap.size<=g)/\Q [] w a:=by
 refine a9 (.L .D (.bK [] .D (.bK [0] .D .D))) 2 Tryz.func126 K rfl λa1 b=>?_;simp+decide only[↓a8,ba,Tryz.f126];subst b;refine bT (λc a=>c=[]/\w=a) ?_ ?_
 ·simp only[M,bi];exact⟨λh=>A,λ_=>⟨by trivial,by trivial⟩⟩
 rintro _ _ _ ⟨rfl,rfl⟩;refine bT (λc a=>∃ae am,c=[ae]/\bP a 5 1 ae 0 [] am/\(∀g∈am,w.heap.size<=g)/\Q [] w a) ?_ ?_
 ·try simp only[M]
  apply(Ua fP).2;try simp only[M]
  rw[show H.wrap (((0:Nat):Int)-((0:Nat):Int))=0 from bq A A,show H.wrap ((n:Int)-0)=n from by rw[Int.sub_zero];exact bq A A];try simp only[bi]
  refine⟨λh=>?_,λh=>?_⟩
  ·refine(Ua fP).2 ((z9 fP el A A).2 ?_);have b:(T (if(0:Nat)=0 then(I:Option es)else(I:Option es).map (·.add (0*1))) ((0:Nat):Int).toNat 0)=T I 0 0:=rfl;rw[b];refine ajZ (nu:=F cl 0) ky rfl rfl (cO:=H) K (gJ _ _ _) (ak:=n) A A A A λdd aA am d e f o=>?_;try simp only[M]
   obtain⟨p,cC,rfl,q,_⟩:=id d.jD;refine(z9 fP el A A).2 ⟨_,am,rfl,?_,λg i=>(f g i).elim (λh=>by simp at h) id,e⟩;rw[gQ]at d;exact aj0 (ad:=C) d
  ·exact⟨_,[],rfl,gJ _ _ _,B,.b0 _ _⟩
 rintro _ _ aA ⟨ae,am,rfl,j,k,l⟩;try simp only[M]
 exact⟨am,j,k,l⟩
def Ub:eH C 183 52 1 kl (λab=>ab.1):=eH.aW pe mJ nb
def aj2{dM:List UInt8}(c:bP w 5 1 ae dM.length (dM.flatMap bs) am)(d:aT w bs aa l)(e:dM.length+l.length<=15000000)
  (k:∀b a az,bP a 5 1 b (dM++l).length ((dM++l).flatMap bs) az->(∀g∈az,g∈am\/w.heap.size<=g)->Q am w a->ac b a):W C (dG lp #[52,52] #[ae,aa]) w ac:=
 BF (l:=dM) (be:=bs) ky c fP e2 (λx _=>uZ x) d A (by unfold d0;omega) k
def Uc(y:ju w aa kv)(ai:kv.length<=10)(z:(kv.map jm).sum<=10000000):a0 C 77 #[aa] w λae a=>c7.nl w a ae kv.flatten:=by
 obtain⟨cj,k,r,l⟩:=y;have aj:cj.length=kv.length:=by rw[<-l,dU]
 have m:∀i,((kv.take i).map jm).sum<=10000000:=λi=>by
  refine gz ?_ z;conv=>rhs;rw[<-l3 i kv]
  rw[g6,List.sum_append];omega
 obtain⟨d,c,rfl,ak,an⟩:=id k;apply Z4;unfold MD;try simp only[M]
 apply c1 (λb a=>∃i:Nat,b=[F H (((kv.take i).map jm).sum:Nat),F H i]/\i<=cj.length/\w=a) (λb _=>match b with|[_,F _ i]=>cj.length-i.toNat|_=>0) ⟨0,rfl,A,rfl⟩;rintro _ _ _ ⟨i,rfl,al,rfl⟩;try simp only[M,bi]
 have ao:=m i;refine⟨λB=>?_,λap=>?_⟩
 ·have s:i<cj.length:=A;have D:i<kv.length:=A;have aq:=m (i+1);have f:((kv.take (i+1)).map jm).sum=((kv.take i).map jm).sum+kv[i].length:=by rw[jO D,g6,List.sum_append];simp
  have o:(cj[i]).2=kv[i]:=by simp[<-l]
  refine bT (λb a=>b=[F H (((kv.take (i+1)).map jm).sum:Nat)]/\w=a) ?_ ?_
  ·apply(Ub.ek k (Q.b0 _ _) s).2;obtain⟨ar,au,J,_⟩:=r _ (dX s);rw[J];try simp only[M]
   rw[bq (by rw[o];omega) (by rw[o];omega)];try simp only[bi]
   refine⟨λh=>A,λ_=>?_⟩;exact⟨by rw[f,o];simp,by trivial⟩
  rintro _ _ _ ⟨rfl,rfl⟩;try simp only[M]
  rw[bq A A];exact⟨⟨i+1,by rfl,A,by trivial⟩,by simp;omega⟩
 ·have av:i=kv.length:=A;apply aH X2 (aj1 (n:=((kv.take i).map jm).sum) A);rintro ae aA ⟨bJ,K,L,R⟩;try simp only[M]
  refine c1 (λb a=>∃(j:Nat)(ae:S)(am:List Nat),b=[ae,F H j]/\j<=cj.length/\bP a 5 1 ae (kv.take j).flatten.length ((kv.take j).flatten.flatMap bs) am/\(∀g∈am,w.heap.size<=g)/\Q [] w a) (λb _=>match b with|[_,F _ i]=>cj.length-i.toNat|_=>0)
   ⟨0,ae,bJ,rfl,A,K,L,R⟩ ?_
  rintro _ _ ax ⟨j,aw,cM,rfl,ay,p,q,e⟩;try simp only[M,bi]
  refine⟨λB=>?_,λaz=>?_⟩
  ·have t:j<cj.length:=A;have V:j<kv.length:=A;have u:(cj[j]).2=kv[j]:=by simp[<-l]
   apply(Ub.ek (k.V e) (Q.b0 _ _) t).2;have W:=(r _ (dX t)).V e;have f:(kv.take (j+1)).flatten=(kv.take j).flatten++kv[j]:=by rw[jO V,List.flatten_append];simp
   have aB:(kv.take j).flatten.length+(cj[j]).2.length<=10000000:=by have:=m (j+1);rw[<-List.length_flatten,f,di,<-u]at this;exact this
   refine aj2 p W A λX aC ab v ac ad=>?_;try simp only[M]
   rw[bq A A];rw[u,<-f]at v;have:=e.aI;exact⟨⟨j+1,X,ab,by trivial,A,v,λg af=>(ac g af).elim (q g) (λh=>A),e.R ad (λx ag=>Z (q x ag))⟩,by simp;omega⟩
  ·have ah:j=kv.length:=A;rw[ah,j3]at p;exact⟨cM,p,q,e⟩
def Js(h:aT w bs aa l)(o:l.length<=10000000):a0 C 67 #[aa] w λae a=>c7.nl w a ae l:=by
 refine a9 .D 1 Tryz.func67 K rfl λa1 f=>?_;simp+decide only[↓a8,ba,Tryz.f67];subst f;have g:=h;obtain⟨d,c,rfl,p,i⟩:=h;apply(eqSlNone IY).2;cases d with
 |none=>
  refine cG.2 ⟨λ_=>?_,λe=>(by cases e)⟩;have j:l=[]:=i.resolve_right (by rintro⟨b,af,h,_⟩;cases h);subst j;exact⟨[],gJ _ _ _,B,Q.b0 _ _⟩
 |some d=>
  refine cG.2 ⟨λe=>(by cases e),λ_=>?_⟩;exact Gz ky e2 uZ g A (by unfold d0;omega) λae a am k m n=>⟨am,k,m,n⟩
def aj3:eH C 22 3 1 Go.X.ew (λk:Int=>F H k):=eH.aW vL hl bZ
def aj4{aS:List Int}{x:Int}(h:aT w Go.X.ew aa aS)(o:aS.length<=10000000):a0 C 81 #[aa,F H x] w λae a=>ae=aK (decide (x∈aS))/\Q [] w a:=by
 refine a9 .D 2 Tryz.func81 K rfl λa1 b=>?_;simp+decide only[↓a8,ba,Tryz.f81];subst b;have bz:a0 C 130 #[aa,F H x] w λae a=>(∃k:Int,ae=F H k/\(0<=k↔x∈aS))/\Q [] w a:=by
  refine a9 (.L .D (.L (.L .D (.aW (.cJ [8] .D))) .D)) 2 Tryz.func130 K rfl λa1 b=>?_;simp+decide only[↓a8,ba,Tryz.f130];subst b;obtain⟨d,c,rfl,p,q⟩:=id h;try simp only[M]
  apply c1 (λe a=>∃i:Nat,e=[F H i]/\i<=aS.length/\x∉aS.take i/\w=a) (λe _=>match e with|[F _ i]=>aS.length-i.toNat|_=>0) ⟨0,rfl,A,B,rfl⟩;rintro _ _ _ ⟨i,rfl,al,f,rfl⟩;try simp only[M,bi]
  refine⟨λr=>?_,λs=>?_⟩
  ·have g:i<aS.length:=A;apply(aj3.ek h (Q.b0 _ _) g).2;try simp only[M,bi]
   refine⟨λj=>?_,λj=>?_⟩
   ·exact⟨⟨i,rfl,⟨λ_=>by rw[j];exact dX g,λ_=>A⟩⟩,.b0 _ _⟩
   ·try simp only[M]
    rw[bq A A];refine⟨⟨i+1,by rfl,A,?_,by trivial⟩,by simp;omega⟩;rw[jO g];simp only[b4,ku,not_or];exact⟨f,j⟩
  ·have l:i=aS.length:=A;rw[l,j3]at f;exact⟨⟨-1,rfl,⟨λh=>A,λh=>absurd h f⟩⟩,.b0 _ _⟩
 apply aH LH bz;rintro _ aA ⟨⟨k,rfl,m⟩,n⟩;try simp only[M]
 exact⟨by congr 1;rw[decide_eq_decide];exact m,n⟩
end
structure er where
 bG:List UInt8
 gE:Nat
 eJ:List UInt8
 hB:List Nat
def iy:er:=⟨[],0,[],[]⟩
def er.kG(c:er)(ad:dn):er:={c with eJ:=c.eJ++(ga ad.ch.length++ad.ch)}
def er.d4(c:er):er:={c with bG:=c.bG.drop (min c.gE c.bG.length),gE:=c.gE-min c.gE c.bG.length}
def i7(l:List UInt8):Nat:=(l.getD 0 0).toNat+(l.getD 1 0).toNat*256
def er.vk:Nat->er->er×Option (List UInt8)
 |0,c=>(c.d4,I)
 |n+1,c=>if c.d4.bG.length<2 then(c.d4,I)else if i7 c.d4.bG<=1024 then
   (if c.d4.bG.length-2<i7 c.d4.bG then(c.d4,I)else({c.d4 with bG:=c.d4.bG.drop (2+i7 c.d4.bG)},E ((c.d4.bG.drop 2).take (i7 c.d4.bG))))
  else er.vk n (er.kG {c.d4 with bG:=c.d4.bG.drop 2,gE:=i7 c.d4.bG} ⟨0,11,0,0,[],[]⟩)
def er.il(c:er):er×Option (List UInt8):=er.vk c.bG.length c
structure i8 where
 mX:S
 ta:S
 wy:S
 a3:er
def gn(x:i8):List S:=[x.mX,F H x.a3.gE,x.ta,x.wy]
def Ud(x:i8):(gn x).length=4:=rfl
def np(w:aN)(x:i8)(am:List Nat):Prop:=∃aO aD,hp w aO bs x.mX x.a3.bG/\hp w aO bs x.ta x.a3.eJ/\bP w 3 1 x.wy x.a3.hB.length ((x.a3.hB.map λn:Nat=>(n:Int)).flatMap Go.X.ew) aD/\bR aO aD/\(∀g∈aO,g<w.heap.size)/\am=aO++aD
def l2:vX np where
 J:=by rintro w a x am bU ⟨aO,aD,h,i,d,j,e,rfl⟩ c f;exact⟨aO,aD,h.J c (λg b=>f g (hg _ b)),i.J c (λg b=>f g (hg _ b)),d.J c (λg b k=>f g (h3 _ b) k),j,λg b=>iL (e g b) c.aI,rfl⟩
 aL:=by
  rintro w x am ⟨aO,aD,h,i,d,j,e,rfl⟩ g b;rcases b4.1 b with b|b
  ·exact e g b
  ·exact d.aL g b
section
variable{x:i8}{ad:dn}
def si(h:aC w s ar (cv++gn x++da))(a:cv.length=iB):(∀ac,aZ C (a4 52 (aE (E ⟨s,iB,I⟩))) w ac↔ac x.mX)/\(∀ac,aZ C (a4 3 (aE (E ⟨s,iB+1,I⟩))) w ac↔ac (F H x.a3.gE))/\(∀ac,aZ C (a4 52 (aE (E ⟨s,iB+2,I⟩))) w ac↔ac x.ta)/\(∀ac,aZ C (a4 22 (aE (E ⟨s,iB+3,I⟩))) w ac↔ac x.wy):=by
 subst a;have bz:∀i(al:i<4),w.cell? ⟨s,cv.length+i,I⟩=(gn x)[i]?:=by intro i al;have:=h.bh (af:=cv.length+i);rw[this,gq,nr A,show cv.length+i-cv.length=i by omega,pR (by simpa[gn]using al)]
 exact⟨λ_=>bl nb (bz 0 A),λ_=>bl bZ (bz 1 A),λ_=>bl nb (bz 2 A),λ_=>bl Aj (bz 3 A)⟩
def tb{b:co}{dx:i8}(c:ep C b 1=G)(h:aC w s ar (cv++gn x++da))(d:cv.length=iB)(al:i<4)(f:aa.oneCell'=G)(g:(gn x).set i aa=gn dx)
  (k:∀a,aC a s ar (cv++gn dx++da)->Q [s] w a->a.heap.size=w.heap.size->ac bS a):W C (dC b (aE (E ⟨s,iB+i,I⟩)) aa) w ac:=by
 subst d;refine eK c h (by simp[gn];omega) f λa j l m=>k a ?_ l m;rw[<-g];have e:(cv++gn x++da).set (cv.length+i) aa=cv++(gn x).set i aa++da:=by rw[gq,sr _ _ A,show cv.length+i-cv.length=i by omega,List.set_append_left _ _ (by simpa[gn]using al),gq]
 rwa[e]at j
end
section
variable{x:i8}{ad:dn}
def Ue(w a:aN)(s:Nat)(ar:co)(cv da:List S)(am:List Nat)(b:er):Prop:=∃dx az,aC a s ar (cv++gn dx++da)/\np a dx az/\dx.a3=b/\(∀g∈az,g∈am\/w.heap.size<=g)/\Q [s] w a
def Uf(h:aC w s ar (cv++gn x++da))(z:cv.length=iB)(ak:np w x am)(ao:s∉am)(f:ma w fz ad)(al:c7.vd ad)(aS:ad.ch.length<=10000)(aT:x.a3.eJ.length<=7900000):
  a0 C 80 #[aE (E ⟨s,iB,I⟩),je fz] w λae a=>ae=bQ #[]/\Ue w a s ar cv da am (x.a3.kG ad):=by
 refine a9 .D 2 Tryz.func80 K rfl λa1 an=>?_;simp+decide only[↓a8,ba,Tryz.f80];subst an;refine eA λaA q D aU=>?_;have q:aC aA w.heap.size 37 (eb fz):=q;refine((c7.hJ q).2.2.2.2.2.2 _).2 (aH X5 (c7.ai5 (f.V D) al) ?_);rintro b1 ax ⟨aV,J,aW,ap⟩;have L:x.a3.kG ad={x.a3 with eJ:=x.a3.eJ++(ga ad.ch.length++ad.ch)}:=rfl;rw[L];clear L;generalize ad.ch=hs at*;have j:=D.R ap B;have aq:=l2.J ak j (bR.D _);obtain⟨aX,aY,au,aZ⟩:=si (h.J j B) z;obtain⟨k,l,rfl,a2,_⟩:=id J.jD;simp only[M,au];refine(fv kd oE).2 ((nS A).2 ((fv kd oE).2 ?_));have av:∀n:Nat,((n:Nat):Int)/2^min (8:Int).toNat H.bits=(n:Int)/256:=λ_=>rfl
 rw[av];simp only[X.pa];refine Sc A λm aw R o=>?_;have ay:=(J.eF e2 A).V o;obtain⟨aO,aD,az,V,W,aB,aF,rfl⟩:=l2.J aq o (bR.D _);have aG:=V.aW;have aI:=R.aW;have aa:x.ta.cells=#[x.ta]:=tI aG;have ac:m.cells=#[m]:=tI aI;have aJ:(T k hs.length l).cells=#[T k hs.length l]:=rfl;refine hw mK [x.ta,m,T k hs.length l] rfl rfl (by intro bm r;simp at r;rcases r with rfl|rfl|rfl;rw[aa];rfl;rw[ac];rfl;rfl) A A λaL aM c a4=>?_;have aP:ju aL (T (E ⟨aw.heap.size,0,I⟩) 3 3) [x.a3.eJ,ga hs.length,hs]:=by
  refine⟨[(x.ta,x.a3.eJ),(m,ga hs.length),(T k hs.length l,hs)],⟨_,_,rfl,B,Z ⟨_,_,rfl,?_⟩⟩,?_,rfl⟩
  ·have:=aM.cy;simpa[aa,ac,aJ,kl]using this
  ·intro ab f;simp at f;rcases f with rfl|rfl|rfl
   ·exact V.1.V c
   ·exact R.V c
   ·exact ay.V c
 apply aH Lv (Uc aP B (by simp[ga];omega));rintro ae t ⟨d,af,ag,ah⟩;have u:Q [] w t:=((j.R o B).R c B).R ah B;have ai:hp t d bs ae [x.a3.eJ,ga hs.length,hs].flatten:=hp.c4 af e2 A;try simp only[M]
 refine tb (i:=2) (dx:={x with ta:=ae,a3:={x.a3 with eJ:=x.a3.eJ++(ga hs.length++hs)}}) mJ (h.J u B) z A ai.aW (by simp[gn]) λa5 aQ p a6=>?_;have v:=c.R ah B;have r:=u.aI;have aj:∀g∈d,w.heap.size<=g:=λg b=>by have:=ag g b;have:=j.aI;have:=o.aI;have:=c.aI;omega
 have a7:=h.aL;have y:∀{aoq:List Nat},(∀g∈aoq,g∈aO++aD\/w.heap.size<=g)->bR aoq [s]:=λaR g b e=>by simp at e;subst e;exact(aR g b).elim ao (λh=>A)
 refine⟨rfl,{x with ta:=ae,a3:={x.a3 with eJ:=x.a3.eJ++(ga hs.length++hs)}},(aO++d)++aD,aQ,⟨aO++d,aD,?_,?_,?_,?_,?_,rfl⟩,rfl,?_,(u.bw B).R p (λg b=>Y b)⟩
 ·exact((az.J v (bR.D _)).J p (y λg b=>Y (by simp[b]))).pI (λg b=>by simp[b])
 ·refine hp.pI ((by simpa using ai:hp t d bs ae (x.a3.eJ++(ga hs.length++hs))).J p (y λg b=>Z (aj g b))) (λg b=>by simp[b])
 ·exact(W.J v B).J p (y λg b=>Y (by simp[b]))
 ·intro g b e;rcases b4.1 b with b|b
  ·exact aB g b e
  ·have:=W.aL g e;have:=ag g b;have:=c.aI;omega
 ·intro g b;rcases b4.1 b with b|b
  ·have:=aF g b;have:=v.aI;omega
  ·have:=af.aL g b;omega
 ·intro g b;simp only[b4]at b⊢;rcases b with(b|b)|b
  ·exact Y (Y b)
  ·exact Z (aj g b)
  ·exact Y (Z b)
end
section
variable{x:i8}{ad:dn}
def Ug{d:Option es}{c:Nat}{dK:List UInt8}(h:l=[]\/∃b af ak,T d n c=T (E ⟨b,af,I⟩) l.length ak/\b∈aO)(f:l=[]->dK=[])(e:Option es)(g:e=if c=k then d else d.map (·.add (k*1)))(ak:Nat):dK=[]\/∃b af a,T e dK.length ak=T (E ⟨b,af,I⟩) dK.length a/\b∈aO:=by
 rcases h with h|⟨b,af,a,gh,i⟩
 ·exact Y (f h)
 ·right;simp only[zI]at gh;obtain⟨rfl,_,_⟩:=gh;subst g;refine⟨b,if c=k then af else af+k*1,ak,?_,i⟩;congr 1;split<;>simp[Addr.add]
def BS{ac:S->Prop}(h:hp w aO bs aa l)(b:k<=l.length)(e:∀ae,hp w aO bs ae (l.drop k)->ac ae):aV C (l5 52 aa (E (F H k)) I I) ac:=by obtain⟨ao,f⟩:=h;obtain⟨d,c,rfl,g,i⟩:=id ao;refine(rs fP el A A).2 ?_;rw[hf];have a:=aT.d1 e2 ao b (fF _);rw[mv B]at a;refine e _ ⟨a,?_⟩;have:=Ug (dK:=l.drop k) (k:=k) f (λh=>by simp[h]) _ rfl (c-k);rw[e8]at this;rw[e8];exact this
def Uh{ac:S->Prop}(h:hp w aO bs aa l)(a:i<=j)(b:j<=l.length)(e:∀ae,hp w aO bs ae ((l.drop i).take (j-i))->ac ae):aV C (l5 52 aa (E (F H i)) (E (F H j)) I) ac:=by
 obtain⟨ao,f⟩:=h;obtain⟨d,c,rfl,n,o⟩:=id ao;apply(z8 fP el A A A).2;rw[hf,hf];have g:=aT.d1 e2 ao a b;refine e _ ⟨g,?_⟩;have m:((l.drop i).take (j-i)).length=j-i:=by rw[ea,e8];omega
 have:=Ug (dK:=(l.drop i).take (j-i)) (k:=i) f (λh=>by simp[h]) _ rfl (c-i);rw[m]at this⊢;exact this
def aj5(h:aC w s ar (cv++gn x++da))(d:cv.length=iB)(o:np w x am)(ao:s∉am)(ab:x.a3.gE<=1000000)(ac:x.a3.bG.length<=1000000):
  a0 C 127 #[aE (E ⟨s,iB,I⟩)] w λae a=>ae=bQ #[]/\Ue w a s ar cv da am x.a3.d4:=by
 refine a9 M2 1 Tryz.func127 K rfl λa1 p=>?_;simp+decide only[↓a8,ba,M2,Tryz.f127];subst p;have q:=cD [] w;have e:=q.R (cD [] w.drew) B;have r:=l2.J o e (bR.D _);have j:=h.J e B;obtain⟨t,u,ad,af⟩:=si (bD h) d;obtain⟨aor,v,ag,ah⟩:=si j d;obtain⟨aO,aD,k,y,z,D,J,rfl⟩:=r;obtain⟨ai,aj,l,_⟩:=id k.1;simp only[M,t,u,aor,v];rw[l];simp only[M];rw[show min (x.a3.gE:Int) (x.a3.bG.length:Int)=((min x.a3.gE x.a3.bG.length:Nat):Int)by omega,<-l];refine BS k A λae m=>?_;try simp only[M]
 rw[show H.wrap ((x.a3.gE:Int)-((min x.a3.gE x.a3.bG.length:Nat):Int))=((x.a3.gE-min x.a3.gE x.a3.bG.length:Nat):Int)from by rw[bq A A];omega];refine tb (i:=0) (dx:={x with mX:=ae,a3:={x.a3 with bG:=x.a3.bG.drop (min x.a3.gE x.a3.bG.length)}}) mJ j d A m.aW rfl λak L R al=>?_;try simp only[M]
 refine tb (i:=1) (dx:={x with mX:=ae,a3:=x.a3.d4}) hl L d A rfl rfl λV W X an=>?_;have c:Q [s] w.drew.drew V:=R.R X (λg b=>Y b);have f:∀{aoq:List Nat},(∀g∈aoq,g∈aO++aD)->bR aoq [s]:=λaa g b n=>by simp at n;subst n;exact ao (aa g b)
 refine⟨rfl,_,aO++aD,W,⟨aO,aD,m.J c (f λg b=>by simp[b]),y.J c (f λg b=>by simp[b]),z.J c (f λg b=>by simp[b]),D,λg b=>by have:=J g b;have:=c.aI;omega,rfl⟩,rfl,λg b=>Y b,(e.bw B).R c (λg b=>Y b)⟩
end
def pN:dn:=⟨0,11,0,0,[],[]⟩
def Ui:pN.ch.length<=23:=by
 cases a:pN.bt with
 |false=>rw[GV _ a];simp
 |true=>rw[GU _ a,GW];simp[pN]
def er.Jt(n:Nat)(c:er):er.vk (n+1) c=if c.d4.bG.length<2 then(c.d4,I)else if i7 c.d4.bG<=1024 then
  (if c.d4.bG.length-2<i7 c.d4.bG then(c.d4,I)else({c.d4 with bG:=c.d4.bG.drop (2+i7 c.d4.bG)},E ((c.d4.bG.drop 2).take (i7 c.d4.bG))))
 else er.vk n (er.kG {c.d4 with bG:=c.d4.bG.drop 2,gE:=i7 c.d4.bG} pN):=rfl
def er.Ju(c:er):c.d4.bG.length<=c.bG.length:=by simp[er.d4]
section
variable{x:i8}{ad:dn}
def E2:eH C 52 5 1 bs (λb:UInt8=>F cl b.toNat):=eH.aW fP el mb
def aj6:C.built 37 #[(1,F H 11)].toList=E (eb ⟨0,11,0,0,T I 0 0,T I 0 0⟩).toArray:=K
def E3(a:aN)(az:List Nat)(bb:Option (List UInt8))(ae:S):Prop:=match bb with
 |none=>ae=bQ #[T I 0 0,aK U]
 |some fT=>∃b1,ae=bQ #[b1,aK G]/\hp a az bs b1 fT
def zz(w:aN)(s iB:Nat):Nat:=match w.cell? ⟨s,iB,I⟩with
 |some (T _ n _)=>n
 |_=>0
def E4(h:aC w s ar (cv++gn x++da))(a:cv.length=iB)(b:np w x am):zz w s iB=x.a3.bG.length:=by
 subst a;obtain⟨aO,aD,c,_⟩:=b;obtain⟨e,f,d,_⟩:=id c.1;have:w.cell? ⟨s,cv.length,I⟩=E x.mX:=by have:=h.bh (af:=cv.length);rw[this,gq,nr A,k6];simp[gn]
 unfold zz;rw[this,d]
def aj7(h:aC w s ar (cv++gn x++da))(f:cv.length=iB)(aB:np w x am)(ao:s∉am)(aF:x.a3.gE<=100000)(aG:x.a3.bG.length<=10000)(bs:x.a3.eJ.length+13*x.a3.bG.length<=7890000):
  a0 C 78 #[aE (E ⟨s,iB,I⟩)] w λae a=>∃dx az,aC a s ar (cv++gn dx++da)/\np a dx az/\dx.a3=x.a3.il.1/\(∀g∈az,g∈am\/w.heap.size<=g)/\Q [s] w a/\E3 a az x.a3.il.2 ae:=by
 refine a9 ME 1 Tryz.func78 K rfl λa1 aI=>?_;simp+decide only[↓a8,ba,ME,Tryz.f78];subst aI;have bt:=h.aL;apply c1 (λaJ a=>∃(n:Nat)(dx:i8)(az:List Nat),aJ=[]/\aC a s ar (cv++gn dx++da)/\np a dx az/\dx.a3.bG.length<=n/\dx.a3.bG.length<=10000/\dx.a3.gE<=100000/\dx.a3.eJ.length+13*dx.a3.bG.length<=7890000/\er.vk n dx.a3=x.a3.il/\(∀g∈az,g∈am\/w.heap.size<=g)/\Q [s] w a) (λ_ a=>zz a s iB) ⟨x.a3.bG.length,x,am,rfl,h,aB,fF _,aG,aF,A,rfl,λg b=>Y b,.b0 _ _⟩;rintro _ _ ax ⟨n,lr,cM,rfl,aa,ab,bu,bv,bw,bx,ac,af,ag⟩;have aL:s∉cM:=λD=>(af s D).elim ao (λh=>A);apply aH X3 (aj5 aa f ab aL A A);rintro _ l ⟨rfl,hD,aM,p,J,v,aP,aQ⟩;have bz:=ag.aI;have ah:Q [s] w l:=ag.R aQ (λg b=>Y b);have q:∀g∈aM,g∈am\/w.heap.size<=g:=λg b=>(aP g b).elim (af g) (λh=>Z A);obtain⟨aR,bB,bC,bE⟩:=si p f;have aS:=lr.a3.Ju;have aU:lr.a3.d4.gE<=lr.a3.gE:=by simp[er.d4]
 have L:lr.a3.d4.eJ=lr.a3.eJ:=rfl;rw[<-v]at aS aU L;obtain⟨aO,aD,aj,aV,aW,al,an,rfl⟩:=id J;obtain⟨bH,bI,R,_⟩:=id aj.1;try simp only[M,aR]
 rw[R];try simp only[M,bi]
 refine⟨λbJ=>?_,λbK=>?_⟩
 ·have d:x.a3.il=(lr.a3.d4,I):=by
   rw[<-ac];cases n with
   |zero=>rfl
   |succ ak=>rw[er.Jt,if_pos (by rw[<-v];omega)]
  rw[d];exact⟨hD,aO++aD,p,J,v,q,ah,rfl⟩
 ·obtain⟨ak,rfl⟩:∃ak,n=ak+1:=⟨n-1,A⟩;have r:=cD [] l;obtain⟨aor,bL,bM,bP⟩:=si (bD p) f;have t:=aj.J r (bR.D _);try simp only[M,aor]
  have aX:hD.a3.bG.getD 0 0=hD.a3.bG[0]:=iI A;have et:hD.a3.bG.getD 1 0=hD.a3.bG[1]:=iI A;have aY:i7 hD.a3.bG=(hD.a3.bG[0]).toNat+(hD.a3.bG[1]).toNat*256:=by unfold i7;rw[aX,et]
  refine(E2.ek t.1 (Q.b0 _ _) (i:=0) A).2 (vc.2 ?_);try simp only[M,aor]
  refine(E2.ek t.1 (Q.b0 _ _) (i:=1) A).2 (vc.2 ((BN (j:=8) (ai:=hr) (by have:=(hD.a3.bG[0]).toNat_lt;omega) A).2 ?_));rw[show(hD.a3.bG[0]).toNat+(hD.a3.bG[1]).toNat*2^8=i7 hD.a3.bG from aY.symm];have d:=ac;rw[er.Jt,<-v,if_neg A]at d;have V:Q [s] w l.drew:=ah.R (r.bw B) (λg b=>Y b);have aZ:=l2.J J r (bR.D _);have ap:s∉aO++aD:=λD=>(q s D).elim ao (λh=>A);have m:∀{aoq:List Nat},(∀g∈aoq,g∈aO++aD)->bR aoq [s]:=λa2 g b aq=>by simp at aq;subst aq;exact ap (a2 g b)
  have bT:i7 hD.a3.bG<=65535:=by have:=(hD.a3.bG[0]).toNat_lt;have:=(hD.a3.bG[1]).toNat_lt;omega
  generalize bU:i7 hD.a3.bG=e at*;have au:=aV.J r (bR.D _);have av:=aW.J r B;try simp only[M,bi]
  refine⟨λa4=>?_,λa4=>?_⟩
  ·rw[if_pos A]at d;try simp only[M,aor]
   rw[R];try simp only[M]
   rw[show H.wrap ((hD.a3.bG.length:Int)-2)=(hD.a3.bG.length:Int)-2 from bq A A];try simp only[M,bi]
   refine⟨λa5=>?_,λa5=>?_⟩
   ·rw[if_pos A]at d;rw[<-d];exact⟨hD,aO++aD,bD p,aZ,rfl,q,V,rfl⟩
   ·rw[if_neg A]at d;try simp only[M,aor]
    rw[show H.wrap (2+(e:Int))=((2+e:Nat):Int)from by rw[bq A A];omega,<-R];refine Uh (i:=2) (j:=2+e) t A A λb1 a6=>?_;try simp only[M,aor]
    refine BS (k:=2+e) t A λae u=>?_;try simp only[M]
    refine tb (i:=0) (dx:={hD with mX:=ae,a3:={hD.a3 with bG:=hD.a3.bG.drop (2+e)}}) mJ (bD p) f A u.aW rfl λa7 W o bb=>?_;rw[<-d];refine⟨_,aO++aD,W,⟨aO,aD,u.J o (m λg b=>by simp[b]),au.J o (m λg b=>by simp[b]),av.J o (m λg b=>by simp[b]),al,λg b=>by have:=an g b;have:l.drew.heap.size=l.heap.size:=rfl;omega,rfl⟩,rfl,q,V.R o (λg b=>Y b),b1,rfl,?_⟩;have:=(a6.J o (m λg b=>by simp[b])).pI (JV:=aO++aD) (λg b=>by simp[b]);rw[show 2+e-2=e by omega]at this;exact this
  ·rw[if_neg A]at d;try simp only[M,aor]
   refine BS (k:=2) t A λae u=>?_;try simp only[M]
   refine tb (i:=0) (dx:={hD with mX:=ae,a3:={hD.a3 with bG:=hD.a3.bG.drop 2}}) mJ (bD p) f A u.aW rfl λa7 W o bb=>?_;try simp only[M]
   refine tb (i:=1) (dx:={hD with mX:=ae,a3:={hD.a3 with bG:=hD.a3.bG.drop 2,gE:=e}}) hl W f A rfl rfl λX bc bd bV=>(bY aj6).2 ?_;have y:Q [s] l.drew X:=o.R bd (λg b=>Y b);have be:np X {hD with mX:=ae,a3:={hD.a3 with bG:=hD.a3.bG.drop 2,gE:=e}} (aO++aD):=⟨aO,aD,u.J y (m λg b=>by simp[b]),au.J y (m λg b=>by simp[b]),av.J y (m λg b=>by simp[b]),al,λg b=>by have:=an g b;have:l.drew.heap.size=l.heap.size:=rfl;omega,rfl⟩;have bW:=Ui;refine aH Lw (Uf (ad:=pN) bc f be ap ⟨rfl,rfl,rfl,rfl,aT.gW _ _,aT.gW _ _⟩ ⟨by simp[pN],by simp[pN],by simp[pN]⟩ A (by show hD.a3.eJ.length<=7900000;rw[L];omega)) ?_;rintro _ bf ⟨rfl,c,bg,aw,ay,z,bh,bj⟩;have aA:Q [s] w X:=V.R y (λg b=>Y b);have bX:=aA.aI;have bk:c.a3.bG=hD.a3.bG.drop 2:=by rw[z];rfl
   have bZ:c.a3.gE=e:=by rw[z];rfl
   have bl:c.a3.eJ=hD.a3.eJ++(ga pN.ch.length++pN.ch):=by rw[z];rfl
   have bm:c.a3.eJ.length<=hD.a3.eJ.length+25:=by rw[bl];simp[ga];omega
   have b0:c.a3.bG.length=hD.a3.bG.length-2:=by rw[bk,e8]
   have bn:c.a3.bG.length<=ak:=A;have bo:c.a3.bG.length<=10000:=A;have bp:c.a3.gE<=100000:=A;have br:c.a3.eJ.length+13*c.a3.bG.length<=7890000:=by rw[L]at bm;omega
   refine⟨⟨ak,c,bg,by trivial,aw,ay,bn,bo,bp,br,?_,λg b=>(bh g b).elim (q g) (λh=>Z A),aA.R bj (λg b=>Y b)⟩,?_⟩
   ·rw[z];exact d
   ·show zz bf s iB<zz ax s iB;rw[E4 aw f ay,E4 aa f ab];omega
end
end
end Go.Proofs.YtepeilglbedgdaaGreatDoor
namespace Go.X
variable{am bJ ci:List Nat}{w:aN}{aU:Type}
section
variable{bH:aN->aU->List Nat->Prop}{x:aU}{k8:List Nat}
def hc.Uj:∀{aS:List aU}{am:List Nat}{i:Nat},hc bH w aS am->(al:i<aS.length)->∃k8 bJ ci,hc bH w (aS.take i) k8/\bH w aS[i] bJ/\hc bH w (aS.drop (i+1)) ci/\bR k8 bJ/\bR k8 ci/\bR bJ ci/\∀g,g∈am↔g∈k8\/g∈bJ\/g∈ci
 |[],am,i,_,al=>by simp at al
 |x::aS,am,0,h,al=>by obtain⟨bJ,cM,rfl,a,d,e⟩:=h;refine⟨[],bJ,cM,rfl,d,by simpa using e,bR.PD _,bR.PD _,a,λg=>B⟩
 |x::aS,am,i+1,h,al=>by
  obtain⟨bJ,cM,rfl,a,d,e⟩:=h;obtain⟨k8,f,ci,j,k,l,m,n,o,c⟩:=hc.Uj e (by simpa using al);have p:bR bJ k8:=a.d1 (λ_ h=>h) (λg b=>(c g).2 (Y b));have q:bR bJ f:=a.d1 (λ_ h=>h) (λg b=>(c g).2 (Z (Y b)));have r:bR bJ ci:=a.d1 (λ_ h=>h) (λg b=>(c g).2 (Z (Z b)));refine⟨bJ++k8,f,ci,⟨bJ,k8,rfl,p,d,j⟩,by simpa using k,by simpa using l,bR.p8 q m,bR.p8 r n,o,λg=>?_⟩;simp only[b4,c g];constructor
  ·rintro(h|h|h|h)
   ·exact Y (Y h)
   ·exact Y (Z h)
   ·exact Z (Y h)
   ·exact Z (Z h)
  ·rintro((h|h)|h|h)
   ·exact Y h
   ·exact Z (Y h)
   ·exact Z (Z (Y h))
   ·exact Z (Z (Z h))
def hc.bK:∀{cs an:List aU}{k8:List Nat},hc bH w cs k8->bH w x bJ->hc bH w an ci->bR k8 bJ->bR k8 ci->bR bJ ci->hc bH w (cs++x::an) (k8++(bJ++ci))
 |[],an,k8,b,c,d,e,f,i=>by cases b;exact⟨bJ,ci,rfl,i,c,d⟩
 |ap::cs,an,k8,b,c,d,e,f,i=>by obtain⟨j,k,rfl,l,m,n⟩:=b;refine⟨j,k++(bJ++ci),B,?_,m,hc.bK n c d (e.d1 (λg a=>h3 _ a) λ_ h=>h) (f.d1 (λg a=>h3 _ a) λ_ h=>h) i⟩;exact bR.tV l (bR.tV (e.d1 (λg a=>hg _ a) λ_ h=>h) (f.d1 (λg a=>hg _ a) λ_ h=>h))
end
end Go.X
namespace Go.Proofs.YtepeilglbedgdaaGreatDoor
open Go.X
attribute[local irreducible]Go.X.W
variable{aoy jb lG m3 mB:Int}{aO am bJ bU cM ci d6 eT fy gf mA:List Nat}{a ax w:aN}{aQ aX ab ag ai ak b bu i iB jP k n s t:Nat}{aB cp:Nat -> Bool}{cv da:List S}{aa ae pW uy:S}{ac:S -> aN -> Prop}{al ay bB vy xU:Nat -> Nat -> Bool}{an dO:cK}{ap fz:kQ}{ar:co}{au gg:eW}{bo:List i8}{c:dR}{ct:Prop}{d:dl}{fT l:List UInt8}
section
open Go.RowKit
def j2(cp:Nat->Bool)(an:cK)(c:er)(a:List UInt8):cK×er:=match kS a with
 |(d,E e)=>(an,c.kG ⟨d.dF,e.a5,0,0,[],[]⟩)
 |(d,I)=>match an.kV cp d with
  |(dO,E ad)=>(dO,c.kG ad)
  |(dO,I)=>(dO,{c with hB:=c.hB++[an.cQ+1]})
def k4(cp:Nat->Bool):Nat->cK->er->cK×er
 |0,an,c=>(an,c.il.1)
 |n+1,an,c=>match c.il with
  |(a,I)=>(an,a)
  |(a,E b)=>k4 cp n (j2 cp an a b).1 (j2 cp an a b).2
section
variable{x:i8}
structure ko(w:aN)(s b:Nat)(ar:co)(cv da:List S)(ci:List Nat)(x:i8)(bJ:List Nat)(ab:Nat)(c:dR)(au:eW)(aB:Nat->Bool)(ay al:Nat->Nat->Bool)(ai aQ:Nat)(an:cK):Prop where
 hK:h2 w b ci ab c au aB ay al ai aQ an
 bg:aC w s ar (aP b::cv++gn x++da)
 im:np w x bJ
 eX:bR ci bJ
 dG:s∉ci
 lR:s∉bJ
 xN:0∉bJ
 o3:0≠s
def ko.V(h:ko w s b ar cv da ci x bJ ab c au aB ay al ai aQ an)(d:Q [] w a):ko a s b ar cv da ci x bJ ab c au aB ay al ai aQ an:=
 ⟨h.hK.V d,h.bg.J d B,l2.J h.im d (bR.D _),h.eX,h.dG,h.lR,h.xN,h.o3⟩
def ko.zA(h:ko w s b ar cv da ci x bJ ab c au aB ay al ai aQ an){dx:i8}(j:aC a s ar (aP b::cv++gn dx++da))(k:np a dx fy)(f:∀g∈fy,g∈bJ\/w.heap.size<=g)(l:Q [s] w a):ko a s b ar cv da ci dx fy ab c au aB ay al ai aQ an:=by have m:=h.hK.aL;have n:=h.bg.aL;have o:=h.hK.pM.aL;refine⟨h.hK.J l (λg e d=>by simp at d;subst d;exact h.dG e) (by simpa using h.o3),j,k,λg e d=>(f g d).elim (h.eX g e) (λi=>by have:=m g e;omega),h.dG,λd=>(f s d).elim h.lR (λi=>A),λd=>(f _ d).elim h.xN (λi=>A),h.o3⟩
end
def BT(ab:dn):ab.ch.length<=2671:=by
 cases a:ab.bt with
 |false=>rw[GV ab a];simp
 |true=>
  rw[GU ab a,GW];have h:=((Ds ab).1 a).1;have d:=c7.Bw (ak:=24) ab.gj (λs ao=>h.gj.2 s ao);have b:=c7.Bw (ak:=608) (ab.dY.map lL) (λs ao=>by
   obtain⟨ah,c,rfl⟩:=fS.1 ao;have:=h.dY.2 ah c;rw[AF];omega)
  rw[dU]at b;have e:ab.gj.length*(2+24)<=8*(2+24):=mw _ h.gj.1;have f:ab.dY.length*(2+608)<=4*(2+608):=mw _ h.dY.1;omega
def Uk{ab:dn}(b:ab.gj=[])(c:ab.dY=[]):ab.ch.length<=23:=by
 cases a:ab.bt with
 |false=>rw[GV ab a];simp
 |true=>rw[GU ab a,GW,b,c];simp
def aj8(h:(kS l).2=I):6<=l.length:=by
 refine Nat.le_of_not_lt λa=>?_;unfold kS at h;split at h
 ·rename_i aa k b c d e ab;simp at a;omega
 ·cases h
def kp:Option (List UInt8)->Nat
 |none=>0
 |some a=>2+a.length
structure Jv(c a:er)(bb:Option (List UInt8)):Prop where
 dT:a.bG.length+kp bb<=c.bG.length
 gE:a.gE<=max c.gE 65535
 eJ:a.eJ.length+13*(a.bG.length+kp bb)<=c.eJ.length+13*c.bG.length
 Ul:a.hB=c.hB
 eQ:∀aj,bb=E aj->aj.length<=1024
def aj9(l:List UInt8):i7 l<=65535:=by unfold i7;have:=(l.getD 0 0).toNat_lt;have:=(l.getD 1 0).toNat_lt;omega
def Um:∀(n:Nat)(c:er),Jv c (er.vk n c).1 (er.vk n c).2
 |0,c=>by
  have b:=c.Ju;have f:c.d4.gE<=c.gE:=by simp[er.d4]
  have a:c.d4.eJ=c.eJ:=rfl;show Jv c c.d4 I;exact⟨by simpa[kp]using b,A,by simp only[a,kp];omega,rfl,B⟩
 |n+1,c=>by
  have b:=c.Ju;have f:c.d4.gE<=c.gE:=by simp[er.d4]
  have a:c.d4.eJ=c.eJ:=rfl;have d:c.d4.hB=c.hB:=rfl;have m:=aj9 c.d4.bG;rw[er.Jt];split
  ·exact⟨by simpa[kp]using b,by simp only;omega,by simp only[a,kp];omega,d,B⟩
  ·split
   ·split
    ·exact⟨by simpa[kp]using b,by simp only;omega,by simp only[a,kp];omega,d,B⟩
    ·have e:((c.d4.bG.drop 2).take (i7 c.d4.bG)).length=i7 c.d4.bG:=by rw[ea,e8];omega
     refine⟨?_,by simp only;omega,?_,d,λaj g=>?_⟩
     ·simp only[kp,e,e8];omega
     ·simp only[kp,e,e8,a];omega
     ·cases g;rw[e];omega
   ·have o:=Ui;have h:(er.kG {c.d4 with bG:=c.d4.bG.drop 2,gE:=i7 c.d4.bG} pN).bG.length=c.d4.bG.length-2:=by simp[er.kG]
    have i:(er.kG {c.d4 with bG:=c.d4.bG.drop 2,gE:=i7 c.d4.bG} pN).eJ.length<=c.eJ.length+25:=by simp[er.kG,ga,a];omega
    have p:(er.kG {c.d4 with bG:=c.d4.bG.drop 2,gE:=i7 c.d4.bG} pN).gE=i7 c.d4.bG:=rfl;have j:(er.kG {c.d4 with bG:=c.d4.bG.drop 2,gE:=i7 c.d4.bG} pN).hB=c.hB:=rfl;generalize er.kG {c.d4 with bG:=c.d4.bG.drop 2,gE:=i7 c.d4.bG} pN=cE at*;obtain⟨q,r,s,k,l⟩:=Um n cE;have t:cE.eJ.length<=c.eJ.length+25:=i;have u:cE.bG.length=c.d4.bG.length-2:=h;have v:c.d4.bG.length<=c.bG.length:=b;have w:2<=c.d4.bG.length:=A;exact⟨A,A,A,by rw[k,j],l⟩
def Jw(c:er):Jv c c.il.1 c.il.2:=Um _ _
end
section
open Go.RowKit fC gO
def E5(cp:Nat->Bool)(an:cK)(c:er)(a:List UInt8):(j2 cp an c a).2.bG=c.bG/\(j2 cp an c a).2.gE=c.gE:=by
 unfold j2;split
 ·exact⟨rfl,rfl⟩
 ·split<;>exact⟨rfl,rfl⟩
def Jx(cp:Nat->Bool)(n:Nat)(an:cK)(c:er):k4 cp (n+1) an c=match c.il with
 |(a,I)=>(an,a)
 |(a,E b)=>k4 cp n (j2 cp an a b).1 (j2 cp an a b).2:=rfl
def Un{c:er}(h:c.bG.length<=n):k4 cp n an c=match c.il.2 with
  |none=>(an,c.il.1)
  |some a=>k4 cp (n-1) (j2 cp an c.il.1 a).1 (j2 cp an c.il.1 a).2:=by
 have b:=(Jw c).dT;cases n with
 |zero=>
  have d:c.il.2=I:=by
   cases e:c.il.2 with
   |none=>rfl
   |some a=>rw[e]at b;simp only[kp]at b;omega
  rw[d];rfl
 |succ ak=>
  rw[Jx];rcases f:c.il with⟨g,bb⟩;cases bb with
  |none=>rfl
  |some a=>rfl
section
variable{x:i8}
structure f5(w a:aN)(s:Nat)(ci bJ eT fy:List Nat):Prop where
 J:Q (s::(ci++bJ)) w a
 wz:∀g∈eT,g∈ci\/w.heap.size<=g
 nj:∀g∈fy,g∈bJ\/w.heap.size<=g
def f5.b0:f5 w w s ci bJ ci bJ:=⟨.b0 _ _,λ_ h=>Y h,λ_ h=>Y h⟩
def f5.dP(h:f5 w a s ci bJ eT fy)(d:f5 a ax s eT fy mA cM):f5 w ax s ci bJ mA cM:=by
 have e:=h.J.aI;refine⟨h.J.R d.J (λg b=>?_),λg b=>(d.wz g b).elim (h.wz g) (λc=>Z A),λg b=>(d.nj g b).elim (h.nj g) (λc=>Z A)⟩;simp only[ce,b4]at b⊢;rcases b with b|b|b
 ·exact Y (Y b)
 ·exact(h.wz g b).imp (λc=>Z (Y c)) id
 ·exact(h.nj g b).imp (λc=>Z (Z c)) id
def f5.iu(b:Q [] w a):f5 w a s ci bJ ci bJ:=⟨b.bw B,λ_ h=>Y h,λ_ h=>Y h⟩
def f5.im(c:Q [s] w a)(d:∀g∈fy,g∈bJ\/w.heap.size<=g):f5 w a s ci bJ ci fy:=⟨c.bw (λg b=>Y (by simp at b;simp[b])),λ_ h=>Y h,d⟩
def aka{i j:Int}:C.built 37 #[(0,F H i),(1,F H j)].toList=E (eb ⟨i,j,0,0,T I 0 0,T I 0 0⟩).toArray:=K
def Jz{ad:dn}(h:ko w s b ar cv da ci x bJ ab c au aB ay al ai aQ an)(f:cv.length+1=iB)(g:ma w fz ad)(i:c7.vd ad)(n:x.a3.eJ.length<=7880000)
  (k:∀a dx fy,ko a s b ar cv da ci dx fy ab c au aB ay al ai aQ an->dx.a3=x.a3.kG ad->f5 w a s ci bJ ci fy->ac (bQ #[]) a):W C (ck 80 #[aE (E ⟨s,iB,I⟩),je fz]) w ac:=by
 have o:=BT ad;apply aH Lw (Uf h.bg (by simpa using f) h.im h.lR g i A A);rintro _ aA ⟨rfl,dx,fy,j,l,m,d,e⟩;exact k aA dx fy (h.zA j l d e) m (.im e d)
def Uo(h:ko w s b ar cv da ci x bJ ab c au aB ay al ai aQ an)(f:cv.length+1=iB)(o:x.a3.gE<=65535)(g:x.a3.bG.length<=10000)(i:x.a3.eJ.length+13*x.a3.bG.length<=7890000)
  (k:∀ae a dx fy,ko a s b ar cv da ci dx fy ab c au aB ay al ai aQ an->dx.a3=x.a3.il.1->f5 w a s ci bJ ci fy->E3 a fy x.a3.il.2 ae->ac ae a):W C (ck 78 #[aE (E ⟨s,iB,I⟩)]) w ac:=by
 apply aH XB (aj7 h.bg (by simpa using f) h.im h.lR A g i);rintro ae aA ⟨dx,fy,j,l,m,d,e,n⟩;exact k ae aA dx fy (h.zA j l d e) m (.im e d) n
def Up{av:ji}{gG:Int}:∀{ao:List gZ}{dj:Nat}{dM l:List (Int×ByteArray)},(∀ah∈dM,ah.2.size<=1000)->rI av cp gG dj dM ao=E l->l.length<=dM.length+ao.length/\∀ah∈l,ah.2.size<=1000
 |[],dj,dM,l,a,h=>by cases h;exact⟨B,a⟩
 |x::ao,dj,dM,l,a,h=>by
  rw[BP]at h;cases c:pp av cp x with
  |none=>
   rw[c]at h;simp only at h;split at h
   ·cases h
   ·cases h;exact⟨B,a⟩
  |some ag=>
   rw[c]at h;simp only at h;split at h
   ·cases h;exact⟨B,a⟩
   ·have f:=TL c;obtain⟨d,e⟩:=Up (dM:=dM++[(x.cu,h7 ag)]) (λah b=>by
     rcases b4.1 b with b|b
     ·exact a ah b
     ·rw[ku.1 b];show(h7 ag).size<=1000;have:(h7 ag).size=ag.length:=by simp[h7,vv]
      omega) h
    refine⟨?_,e⟩;rw[di,nt]at d;rw[gF];omega
def h2.anW(h:h2 w b am ab c au aB ay al ai aQ an):an.bd.bp 1024:=by obtain⟨ah,cR,b8,dB,fL,ej,dq,aD,c0,ef,a,_⟩:=h;exact a.ajh.cL
def akb{ad:dn}(f:an.bd.bp 1024)(h:(an.kV cp d).2=E ad):c7.vd ad:=by
 have a:∀{ad:dn},ad.gj=[]->ad.dY=[]->c7.vd ad:=λb c=>⟨by rw[b];simp,by rw[c];simp,by rw[c];simp⟩;unfold cK.kV at h;split at h
 ·split at h
  ·split at h
   ·cases h;exact a rfl rfl
   ·cases h
  ·cases h;unfold mi;split
   ·have i:=f.fs;refine⟨?_,B,B⟩;show(ab3 _).length<=_;rw[(amK _).length_eq,dU];omega
   ·split
    ·exact a rfl rfl
    ·split
     ·split<;>exact a rfl rfl
     ·split
      ·exact a rfl rfl
      ·unfold mO;split
       ·split
        ·exact a rfl rfl
        ·rename_i l g;obtain⟨b,c⟩:=Up (dM:=[]) (λah e=>by simp at e) g;rw[ea]at b;simp only[tl]at b;exact⟨B,by simp only;omega,λah e=>by have:=c ah e;omega⟩
       ·exact a rfl rfl
 ·cases h;exact a rfl rfl
def ko.akc(h:ko w s b ar cv da ci x bJ ab c au aB ay al ai aQ an){dx:i8}(l:aC a s ar (aP b::cv++gn dx++da))(m:np a dx fy)(j:∀g∈fy,g∈bJ\/w.heap.size<=g)(n:Q bU w a)(k:∀g∈bU,g=s\/g∈bJ):ko a s b ar cv da ci dx fy ab c au aB ay al ai aQ an:=by have o:=h.hK.aL;have p:=h.bg.aL;have q:=h.hK.pM.aL;refine⟨h.hK.J n (λg f d=>(k g d).elim (λe=>h.dG (e▸f)) (λi=>h.eX g f i)) (λd=>(k _ d).elim h.o3 h.xN),l,m,λg f d=>(j g d).elim (h.eX g f) (λi=>by have:=o g f;omega),h.dG,λd=>(j s d).elim h.lR (λi=>A),λd=>(j _ d).elim h.xN (λi=>A),h.o3⟩
def ko.E6{j:cK}(h:ko w s b ar cv da ci x bJ ab c au aB ay al ai aQ an)(m:h2 a b mA ab c au aB ay al ai aQ j)(f:bX (ci++gf) mA w a)(k:∀g∈gf,g∉bJ/\g≠s):ko a s b ar cv da mA x bJ ab c au aB ay al ai aQ j:=by have o:=h.bg.aL;have n:=l2.aL h.im;have l:bR bJ (ci++gf):=λg i e=>(b4.1 e).elim (λd=>h.eX g d i) (λd=>(k g d).1 i);have ao:s∉ci++gf:=λe=>(b4.1 e).elim h.dG (λd=>(k s d).2 rfl);exact⟨m,h.bg.J f.J ao,l2.J h.im f.J l,λg i e=>(f.cq g i).elim (λd=>l g e d) (λd=>by have:=n g e;omega),λe=>(f.cq s e).elim ao (λd=>A),h.lR,h.xN,h.o3⟩
def ko.akd(h:ko w s b ar cv da ci x bJ ab c au aB ay al ai aQ an)(e:Q [ak] w a)(i:ak∉ci)(j:ak∉bJ)(k:ak≠s)(l:ak≠0):ko a s b ar cv da ci x bJ ab c au aB ay al ai aQ an:=
 ⟨h.hK.J e (λg f d=>i (by simp at d;subst d;exact f)) (by simp;exact Ne.symm l),h.bg.J e (by simp;exact Ne.symm k),l2.J h.im e (λg f d=>j (by simp at d;subst d;exact f)),h.eX,h.dG,h.lR,h.xN,h.o3⟩
def Uq{a:cK}{bb:Option dn}{cd:aN}{ct:List Nat}(h:Jl w cd b ct mA a bb ae):∃fz,ae=bQ #[F H (a.cQ+1:Nat),je fz,aK bb.isSome]/\fz.pb.oneCell'=G/\fz.mH.oneCell'=G/\∀ad,bb=E ad->qw w cd ad (je fz):=by
 obtain⟨_,h⟩:=h;cases bb with
 |none=>exact⟨vf,h,rfl,rfl,λad e=>by cases e⟩
 |some ad=>
  obtain⟨g,f,c⟩:=h;obtain⟨fz,rfl,d,_⟩:=id c;exact⟨fz,f,d.gj.aW,d.dY.aW,λi e=>by cases e;exact c⟩
def Ur{x:kQ}(h:je x=je ap):x=ap:=by obtain⟨d,b,c,ag,e,aj⟩:=x;obtain⟨fl,a,f,g,gh,i⟩:=ap;simp[je,eb]at h;obtain⟨rfl,rfl,rfl,rfl,rfl,rfl⟩:=h;rfl
def ake(h:ko w s b ar cv da ci x bJ ab c au aB ay al ai aQ an)(t:cv.length+1=iB)(ao:xH c ay al cp)(cS:aT w bs aa fT)(dF:x.a3.gE<=65535)(eW:x.a3.bG.length+fT.length<=2000)(dG:x.a3.eJ.length<=7000000)(eX:an.cQ<=100000)(dH:x.a3.hB.length<=100000):
  a0 C 41 #[aP s,aE (E ⟨s,iB,I⟩),aa] w λae a=>ae=bQ #[]/\∃eT dx fy,ko a s b ar cv da eT dx fy ab c au aB ay al ai aQ (k4 cp (x.a3.bG.length+fT.length) an {x.a3 with bG:=x.a3.bG++fT}).1/\dx.a3=(k4 cp (x.a3.bG.length+fT.length) an {x.a3 with bG:=x.a3.bG++fT}).2/\f5 w a s ci bJ eT fy:=by
 refine a9 Mo 3 Tryz.func41 K rfl λa1 dK=>?_;simp+decide only[↓a8,ba,Mo,Tryz.f41];subst dK;obtain⟨bk,cU,cW,bI⟩:=si h.bg (by simpa using t);obtain⟨aO,aD,aZ,bK,aR,dL,dM,rfl⟩:=id h.im;try simp only[M,bk]
 have dN:=aZ.aW;have dO:=cS.aW;have cY:x.mX.cells=#[x.mX]:=tI dN;have cZ:aa.cells=#[aa]:=tI dO;refine hw mK [x.mX,aa] rfl rfl (by intro bm J;simp at J;rcases J with rfl|rfl;rw[cY];rfl;rw[cZ];rfl) A A λaA dP bn eY=>?_;have dQ:ju aA (T (E ⟨w.heap.size,0,I⟩) 2 2) [x.a3.bG,fT]:=by
  refine⟨[(x.mX,x.a3.bG),(aa,fT)],⟨_,_,rfl,B,Z ⟨_,_,rfl,?_⟩⟩,?_,rfl⟩
  ·have:=dP.cy;simpa[cY,cZ,kl]using this
  ·intro ab V;simp at V;rcases V with rfl|rfl
   ·exact aZ.1.V bn
   ·exact cS.V bn
 apply aH Lv (Uc dQ B (by simp;omega));rintro ae ax ⟨aS,c0,dR,dS⟩;have a2:Q [] w ax:=bn.R dS B;have bL:hp ax aS bs ae [x.a3.bG,fT].flatten:=hp.c4 c0 e2 A;have dT:=h.V a2;have dV:[x.a3.bG,fT].flatten=x.a3.bG++fT:=B;rw[dV]at bL;try simp only[M]
 have e0:=a2.aI;have bM:∀g∈aS,w.heap.size<=g:=λg f=>by have:=dR g f;have:=bn.aI;omega
 have e3:=h.bg.aL;refine tb (i:=0) (dx:={x with mX:=ae,a3:={x.a3 with bG:=x.a3.bG++fT}}) mJ dT.bg (by simpa using t) A bL.aW rfl λbU dW bo e4=>?_;have bV:∀{aoq:List Nat},(∀g∈aoq,g∈aO++aD\/w.heap.size<=g)->bR aoq [s]:=λbW g f j=>by simp at j;subst j;exact(bW g f).elim h.lR (λh=>A)
 have c2:Q [s] w bU:=(a2.bw B).R bo (λg f=>Y f);have dY:np bU {x with mX:=ae,a3:={x.a3 with bG:=x.a3.bG++fT}} ((aO++aS)++aD):=by
  refine⟨aO++aS,aD,(bL.J bo (bV λg f=>Z (bM g f))).pI (λg f=>by simp[f]),(((bK.J a2 (bR.D _)).J bo (bV λg f=>Y (by simp[f]))).pI (λg f=>by simp[f])),(aR.J a2 B).J bo (bV λg f=>Y (by simp[f])),λg f j=>?_,λg f=>?_,rfl⟩
  ·rcases b4.1 f with f|f
   ·exact dL g f j
   ·have:=aR.aL g j;have:=bM g f;omega
  ·rcases b4.1 f with f|f
   ·have:=dM g f;omega
   ·have:=c0.aL g f;omega
 have c3:∀g∈(aO++aS)++aD,g∈aO++aD\/w.heap.size<=g:=λg f=>by
  simp only[b4]at f⊢;rcases f with(f|f)|f
  ·exact Y (Y f)
  ·exact Z (bM g f)
  ·exact Y (Z f)
 have dZ:=h.zA dW dY c3 c2;have d1:f5 w bU s ci (aO++aD) ci ((aO++aS)++aD):=.im c2 c3;generalize e5:x.a3.bG.length+fT.length=dE at*;have e6:({x with mX:=ae,a3:={x.a3 with bG:=x.a3.bG++fT}}:i8).a3={x.a3 with bG:=x.a3.bG++fT}:=rfl;generalize bp:({x.a3 with bG:=x.a3.bG++fT}:er)=p at*;have d2:p.gE<=65535:=by rw[<-bp];exact dF
 have e7:p.bG.length=dE:=by rw[<-bp];simp;omega
 have e9:p.eJ.length<=7000000:=by rw[<-bp];exact dG
 have fa:p.hB.length<=100000:=by rw[<-bp];exact dH
 have a4:=Jw p;refine Uo dZ t d2 (by show p.bG.length<=10000;omega) (by show p.eJ.length+13*p.bG.length<=7890000;omega) λd3 d4 tu c4 d5 ag d6 b0=>?_;have ag:tu.a3=p.il.1:=ag;have b0:E3 d4 c4 p.il.2 d3:=b0;have eh:∀{a:aN}{az:List Nat}{bb:Option (List UInt8)}{ae:S},E3 a az bb ae->∃b1,ae=bQ #[b1,aK bb.isSome]/\∀o,bb=E o->hp a az bs b1 o:=by
  intro a az bb ae c5;cases bb with
  |none=>exact⟨_,c5,B⟩
  |some o=>
   obtain⟨b1,aZ,bK⟩:=c5;exact⟨b1,aZ,λaj bq=>by cases bq;exact bK⟩
 obtain⟨d7,rfl,d8⟩:=eh b0;simp only[cV,cX];refine c1 (λav a=>∃(n:Nat)(bb:Option (List UInt8))(b1:S)(k:cK)(g8:i8)(u q:List Nat),av=[b1,aK bb.isSome]/\(∀o,bb=E o->hp a q bs b1 o/\o.length<=1024)/\ko a s b ar cv da u g8 q ab c au aB ay al ai aQ k/\f5 w a s ci (aO++aD) u q/\(bb=I\/g8.a3.bG.length<=n)/\g8.a3.gE<=65535/\g8.a3.eJ.length+335*(g8.a3.bG.length+kp bb)<=7000000+335*2000/\k.cQ+g8.a3.bG.length+kp bb<=102000/\g8.a3.hB.length+g8.a3.bG.length+kp bb<=102000/\n<=2000/\k4 cp dE an p=(match bb with
   |none=>(k,g8.a3)
   |some o=>k4 cp n (j2 cp k g8.a3 o).1 (j2 cp k g8.a3 o).2))
  (λav a=>zz a s iB+match av with
   |[_,aK G]=>1
   |_=>0) ?_ ?_
 ·have b2:=Un (cp:=cp) (an:=an) (c:=p) (n:=dE) A;have L:=a4.dT;have c6:=a4.gE;have c8:=a4.eJ;refine⟨dE-1,p.il.2,d7,an,tu,ci,c4,rfl,λo br=>⟨d8 o br,a4.eQ o br⟩,d5,d1.dP d6,?_,by rw[ag];omega,by rw[ag];omega,by rw[ag];omega,by rw[ag,a4.Ul];omega,A,?_⟩
  ·rw[ag];cases V:p.il.2 with
   |none=>exact Y rfl
   |some o=>rw[V]at L;simp only[kp]at L;exact Z A
  ·rw[b2,ag]
 rintro _ _ ah ⟨n,bb,b1,k,g8,u,q,rfl,d9,r,db,ec,ee,b3,b7,dc,fb,aw⟩;cases bb with
 |none=>
  try simp only[M]
  refine cG.2 ⟨λm=>(by cases m),λ_=>?_⟩;obtain⟨bk,cU,cW,bI⟩:=si r.bg (by simpa using t);obtain⟨y,z,b8,b9,bt,bu,bv,aU⟩:=id r.im;try simp only[M,bk]
  apply aH w8 (Js b8.1 (by simp only[kp]at b7;omega));rintro a5 aV ⟨a6,dd,ca,aF⟩;have de:hp aV a6 bs a5 g8.a3.bG:=hp.c4 dd e2 A;have cb:=r.V aF;have ef:=r.bg.aL;have aW:=r.lR;rw[aU]at aW;try simp only[M]
  refine tb (i:=0) (dx:={g8 with mX:=a5}) mJ cb.bg (by simpa using t) A de.aW rfl λbw cc aX eg=>?_;have cf:∀{aoq:List Nat},(∀g∈aoq,g∈y++z\/ah.heap.size<=g)->bR aoq [s]:=λbW g f j=>by simp at j;subst j;exact(bW g f).elim aW (λh=>A)
  have cg:Q [s] ah bw:=(aF.bw B).R aX (λg f=>Y f);have ei:np bw {g8 with mX:=a5} ((y++a6)++z):=by
   refine⟨y++a6,z,(de.J aX (cf λg f=>Z (ca g f))).pI (λg f=>by simp[f]),(((b9.J aF (bR.D _)).J aX (cf λg f=>Y (by simp[f]))).pI (λg f=>by simp[f])),(bt.J aF B).J aX (cf λg f=>Y (by simp[f])),λg f j=>?_,λg f=>?_,rfl⟩
   ·rcases b4.1 f with f|f
    ·exact bu g f j
    ·have:=bt.aL g j;have:=ca g f;omega
   ·have:=cg.aI;rcases b4.1 f with f|f
    ·have:=bv g f;omega
    ·have:=dd.aL g f;omega
  have df:∀g∈(y++a6)++z,g∈q\/ah.heap.size<=g:=λg f=>by
   rw[aU];simp only[b4]at f⊢;rcases f with(f|f)|f
   ·exact Y (Y f)
   ·exact Z (ca g f)
   ·exact Y (Z f)
  refine⟨rfl,u,{g8 with mX:=a5},(y++a6)++z,?_,?_,db.dP (.im cg df)⟩
  ·rw[aw];exact r.zA cc ei df cg
  ·rw[aw]
 |some o=>
  try simp only[M]
  refine cG.2 ⟨λ_=>?_,λm=>(by cases m)⟩;obtain⟨br,fd⟩:=d9 o rfl;have ej:=ee;have ek:g8.a3.bG.length<=n:=ec.resolve_left B;refine bT (λav a=>∃(W:cK)(lr:i8)(mA ch:List Nat),av=[]/\ko a s b ar cv da mA lr ch ab c au aB ay al ai aQ W/\f5 ah a s u q mA ch/\j2 cp k g8.a3 o=(W,lr.a3)/\lr.a3.eJ.length<=g8.a3.eJ.length+335*kp (E o)/\W.cQ<=k.cQ+1/\lr.a3.hB.length<=g8.a3.hB.length+1) ?_ ?_
  ·try simp only[M]
   refine ai3 br.1 A λa5 aV el=>?_;obtain⟨aF,bc,rfl,aG,em⟩:=el;have bx:=ai1 o;have cj:=aj8 (l:=o);unfold j2;rcases en:kS o with⟨d,cz⟩;rw[en]at aG bx cj;simp only at aG bx cj;simp only[cV,cX];have bz:=aG.aW;refine uj λbw cc aX eg=>qu cc rfl bz λD bB eo fe=>?_;have bC:Q [] aV D:=aX.R eo B;have a7:=aF.R bC B;have ak:=r.V a7;have R:=cD [] D;have ep:jf D:=ak.hK.pM;cases cz with
   |some e=>
    refine oF.2 (cG.2 ⟨λ_=>?_,λm=>(by cases m)⟩);obtain⟨dg,_⟩:=gc (bD bB);try simp only[M,dg]
    refine Jf (ep.V R) λcd ck=>?_;have v:=R.R ck B;refine(dz bZ ((bB.J v B).bh (af:=0))).2 ((bY aka).2 ?_);have ff:=Uk (ab:=⟨d.dF,e.a5,0,0,[],[]⟩) rfl rfl;refine Jz (ad:=⟨d.dF,e.a5,0,0,[],[]⟩) (fz:=⟨d.dF,e.a5,0,0,T I 0 0,T I 0 0⟩) (ak.V v) t ⟨rfl,rfl,rfl,rfl,aT.gW _ _,aT.gW _ _⟩ ⟨B,B,B⟩ (by simp only[kp]at b3;omega) λbd cm k8 be aI cn=>⟨k,cm,u,k8,by trivial,be,(f5.iu (a7.R v B)).dP cn,by rw[aI],?_,A,by rw[aI];exact Nat.le_succ _⟩;rw[aI];simp only[er.kG,di,ga,gF,tl,kp];omega
   |none=>
    have fg:=cj rfl;refine(fp dk).2 (cG.2 ⟨λm=>(by cases m),λ_=>?_⟩);have fj:=a7.aI;have fk:=aF.aI;obtain⟨gf,eq,aJ⟩:∃gf,sg aV gf bc d.bk.a7/\∀g∈gf,ah.heap.size<=g/\g<aV.heap.size:=by
     by_cases cq:d.bk.a7=[]
     ·exact⟨[],⟨aG,Y cq⟩,B⟩
     ·obtain⟨fl,cC,cs,_,et⟩:=id aG;obtain⟨ap,af,rfl,fm⟩:=et.resolve_left cq;refine⟨[ap],⟨aG,Z ⟨ap,af,cC,cs,B⟩⟩,λg f=>?_⟩;simp at f;subst f;refine⟨em g af _ _ cs,aG.Ei ?_ g af _ _ cs⟩;obtain⟨bm,fn,J⟩:=List.exists_cons_of_ne_nil cq;rw[J,iA,di];simp[Go.X.dV];omega
    have dh:=r.hK.aL;have dj:=l2.aL r.im;have fo:=r.hK.pM.aL;have ef:=r.bg.aL;refine bT (λav a=>∃(ct:Nat)(fz:kQ)(mA:List Nat),av=[F H (k.cQ+1:Nat),aP ct,aK (k.kV cp d).2.isSome]/\aC a ct 37 (eb fz)/\(∀ad,(k.kV cp d).2=E ad->ma a fz ad)/\ko a s b ar cv da mA g8 q ab c au aB ay al ai aQ (k.kV cp d).1/\f5 ah a s u q mA q) ?_ ?_
    ·obtain⟨dg,fq,fr,fs,fu,fv,fA,fB,fC,fG,fH,eu⟩:=gc (bD bB);have dl:∀{a:aN},Q [] D a->a.cell? ⟨s,0,I⟩=E (aP b):=λbf=>by have:=(ak.bg.J bf B).bh (af:=0);rw[this];simp
     try simp only[M]
     apply(bl (aa:=aP b) CQ (dl R)).2;try simp only[M,eu]
     have bE:∀{a:aN},Q [] D a->bR gf (0::u)/\∀g∈gf,g<a.heap.size:=λbf=>⟨λg f j=>by
      have aZ:=aJ g f;rcases ce.1 j with rfl|j
      ·omega
      ·have:=dh g j;omega,λg f=>by have:=(aJ g f).2;have:=bC.aI;have:=bf.aI;omega⟩
     have dm:∀{a:aN},Q [] D a->sg a gf bc d.bk.a7:=λbf=>(eq.J bC (bR.D _)).J bf (bR.D _);have dn:∀g∈gf,g∉q/\g≠s:=λg f=>⟨λj=>by have:=dj g j;have:=(aJ g f).1;omega,λe=>by have:=(aJ g f).1;omega⟩;have dp:∀{cu cw:aN}{az:List Nat},Q [] ah cu->bX (u++gf) az cu cw->f5 ah cw s u q az q:=λ{cu cw az} dq dr=>⟨(dq.bw B).R dr.J (λg f=>by
       rcases b4.1 f with f|f
       ·exact Y (by simp[f])
       ·exact Z (aJ g f).1),λg f=>by
      rcases dr.cq g f with m|m
      ·rcases b4.1 m with m|m
       ·exact Y m
       ·exact Z (aJ g m).1
      ·exact Z (by have:=dq.aI;omega),λg f=>Y f⟩
     have ds:k.cQ<=1000000:=by simp only[kp]at b7;omega
     refine⟨?_,?_⟩
     ·apply aH Ls (DW (cp:=cp) (ak.V R).hK ao (dm R) (bE R).1 (bE R).2 bx ds);rintro _ cd ⟨mA,cx,X⟩;obtain⟨fz,rfl,cy,cA,cB⟩:=Uq X;simp only[na,oB,oC];refine qv λbd bg aY ew=>mW (x:=fz) bg cy cA λcE cF am ex=>?_;have cH:Q [] cd cE:=aY.R am B;have bh:=dp (a7.R R B) X.1;refine⟨_,fz,mA,rfl,cF,λad cI=>?_,((ak.V R).E6 cx X.1 dn).V cH,bh.dP (.iu cH)⟩;obtain⟨ey,cJ,aR,_⟩:=cB ad cI;rw[Ur cJ];exact aR.V cH
     ·refine qv λcd ez ck fI=>?_;have v:=R.R ck B;refine(mE (l:=f1 d bc) CT (bB.J v B).cy).2 ((dz (aa:=aP b) CQ (dl v)).2 (aH Ls (DW (cp:=cp) (ak.V v).hK ao (dm v) (bE v).1 (bE v).2 bx ds) ?_));rintro _ bd ⟨mA,cx,X⟩;obtain⟨fz,rfl,cy,cA,cB⟩:=Uq X;simp only[na,oB,oC];have fJ:=bC.aI;have fL:D.drew.heap.size=D.heap.size:=rfl;have eA:∀g,g∈u++gf->g<D.heap.size:=λg f=>by
       rcases b4.1 f with f|f
       ·have:=dh g f;omega
       ·have:=(aJ g f).2;omega
      have dt:D.drew.heap.size∉u++gf:=λj=>by have:=eA _ j;omega
      refine mW (x:=fz) (ez.J X.1.J dt) cy cA λcE cF am ex=>?_;have bh:=dp (a7.R v B) X.1;have be:=(ak.V v).E6 cx X.1 dn;have eC:D.drew.heap.size∉mA:=λj=>(X.1.cq _ j).elim dt (λh=>A);refine⟨_,fz,mA,rfl,cF,λad cI=>?_,be.akd am eC (λj=>by have:=dj _ j;omega) A A,⟨bh.J.R am (λg f=>Z (by simp at f;omega)),bh.wz,bh.nj⟩⟩;obtain⟨ey,cJ,aR,_⟩:=(cB ad cI).J am (λg f=>by simp at f;omega);rw[Ur cJ];exact aR
    rintro _ _ cd ⟨ct,fz,mA,rfl,eD,cL,ac,du⟩;have dv:(k.kV cp d).1.cQ=k.cQ+1:=by
     unfold cK.kV;split
     ·split
      ·split<;>rfl
      ·rfl
     ·rfl
    rcases cM:k.kV cp d with⟨W,eE⟩;have cO:∀ad,(k.kV cp d).2=E ad->c7.vd ad:=λad=>akb ak.hK.anW;rw[cM]at cL ac cO dv;simp only at cL ac cO dv;cases eE with
    |some ad=>
     try simp only[M]
     refine cG.2 ⟨λ_=>?_,λm=>(by cases m)⟩;try simp only[M]
     apply((c7.hJ eD).2.2.2.2.2.2 _).2;have fM:=BT ad;refine Jz (ac) t (cL ad rfl) (cO ad rfl) (by simp only[kp]at b3;omega) λbd cm k8 be aI cn=>⟨W,cm,mA,k8,by trivial,be,du.dP cn,by rw[aI];simp only[cM],?_,A,by rw[aI];exact Nat.le_succ _⟩;rw[aI];simp only[er.kG,di,ga,gF,tl,kp];omega
    |none=>
     try simp only[M]
     refine cG.2 ⟨λm=>(by cases m),λ_=>?_⟩;obtain⟨bk,cU,cW,bI⟩:=si ac.bg (by simpa using t);obtain⟨y,z,b8,b9,bt,bu,bv,aU⟩:=id ac.im;have aW:=ac.lR;rw[aU]at aW;have fN:=ac.bg.aL;have fO:g8.a3.hB.length<=1000000:=by simp only[kp]at dc;omega
     try simp only[M,bI]
     refine hw uM [F H (k.cQ+1:Nat)] rfl rfl (by intro bm J;simp at J;subst J;rfl) A A λbd bg aY ew=>?_;have bg:aC bd cd.heap.size 3 [F H (k.cQ+1:Nat)]:=by simpa[bF]using bg
     refine m8 uM (bt.J aY B) bg.cy rfl (by intro bm J;simp at J;subst J;rfl) A (by unfold d0;omega) A λbH cE aL eF am eG eH=>?_;try simp only[M]
     have dw:s∉z:=λj=>aW (by simp[j]);have eI:=ac.V aY;refine tb (i:=3) (dx:={g8 with wy:=bH,a3:={g8.a3 with hB:=g8.a3.hB++[k.cQ+1]}}) CN (eI.bg.J am dw) (by simpa using t) A eH rfl λcP eJ dy fP=>?_;have fQ:=aY.aI;have cQ:∀g∈aL,g∈z\/cd.heap.size<=g:=λg f=>(eG g f).imp id (λm=>A);have eK:s∉aL:=λj=>(cQ s j).elim dw (λm=>A);have dB:bR y (s::z):=λg f j=>by
      rcases ce.1 j with rfl|j
      ·exact aW (by simp[f])
      ·exact bu g f j
     have bi:Q (s::z) cd cP:=((aY.bw B).R am (λg f=>Y (ev _ f))).R dy (λg f=>Y (by simp at f;simp[f]));have eL:np cP {g8 with wy:=bH,a3:={g8.a3 with hB:=g8.a3.hB++[k.cQ+1]}} (y++aL):=by
      refine⟨y,aL,b8.J bi dB,b9.J bi dB,?_,λg f j=>?_,λg f=>iL (bv g f) bi.aI,rfl⟩
      ·have e:((g8.a3.hB++[k.cQ+1]).map λn:Nat=>(n:Int)).flatMap Go.X.ew=(g8.a3.hB.map λn:Nat=>(n:Int)).flatMap Go.X.ew++[F H (k.cQ+1:Nat)]:=by rw[g6,hL];simp[Go.X.ew]
       show bP cP _ 1 bH (g8.a3.hB++[k.cQ+1]).length (((g8.a3.hB++[k.cQ+1]).map λn:Nat=>(n:Int)).flatMap Go.X.ew) aL;rw[e,di];exact eF.J dy (λg f j=>eK (by simp at j;subst j;exact f))
      ·rcases cQ g j with m|m
       ·exact bu g f m
       ·have:=bv g f;omega
     have dC:∀g∈y++aL,g∈q\/cd.heap.size<=g:=λg f=>by
      rw[aU];rcases b4.1 f with f|f
      ·exact Y (hg _ f)
      ·exact(cQ g f).imp (λm=>h3 _ m) id
     have dD:∀g∈s::z,g=s\/g∈q:=λg f=>by
      rw[aU];rcases ce.1 f with f|f
      ·exact Y f
      ·exact Z (h3 _ f)
     refine⟨W,{g8 with wy:=bH,a3:={g8.a3 with hB:=g8.a3.hB++[k.cQ+1]}},mA,y++aL,by trivial,ac.akc eJ eL dC bi dD,du.dP ⟨bi.bw (λg f=>Y ?_),λ_ h=>Y h,dC⟩,by simp only[cM],by simp only;omega,A,B⟩;rcases dD g f with m|m
     ·simp[m]
     ·simp[m]
  rintro _ _ aV ⟨W,lr,mA,ch,rfl,cb,eM,bz,eN,fR,fU⟩;have aq:=E5 cp k g8.a3 o;rw[bz]at aq;simp only at aq;have aw:k4 cp dE an p=k4 cp n (j2 cp k g8.a3 o).1 (j2 cp k g8.a3 o).2:=aw;rw[bz]at aw;simp only at aw;have bj:=Jw lr.a3;have L:=bj.dT;have c6:=bj.gE;have c8:=bj.eJ;simp only[kp]at b3 b7 dc eN;refine Uo cb t (by rw[aq.2];exact ej) (by rw[aq.1];omega) (by rw[aq.1];omega) λfV bw eO eP cR aM eQ eR=>?_;obtain⟨eU,rfl,eV⟩:=eh eR;simp only[cV,cX];have b2:=Un (cp:=cp) (an:=W) (c:=lr.a3) (n:=n) (by rw[aq.1];exact ek);rw[aq.1]at L c8;rw[aq.2]at c6;refine⟨⟨n-1,lr.a3.il.2,eU,W,eO,mA,eP,rfl,λaj bq=>⟨eV aj bq,bj.eQ aj bq⟩,cR,(db.dP eM).dP eQ,?_,by rw[aM];omega,by rw[aM];omega,by rw[aM];omega,by rw[aM,bj.Ul];omega,A,?_⟩,?_⟩
  ·rw[aM];cases V:lr.a3.il.2 with
   |none=>exact Y rfl
   |some aj=>rw[V]at L;simp only[kp]at L;exact Z A
  ·rw[aw,b2,aM]
  ·rw[E4 cR.bg (by simpa using t) cR.im,E4 r.bg (by simpa using t) r.im,aM];cases V:lr.a3.il.2 with
   |none=>rw[V]at L;simp only[kp]at L;simp only[Option.isSome];omega
   |some aj=>rw[V]at L;simp only[kp]at L;simp only[Option.isSome];omega
end
structure fR(w:aN)(s b:Nat)(ci d6:List Nat)(bo:List i8)(ab:Nat)(c:dR)(au:eW)(aB:Nat->Bool)(ay al:Nat->Nat->Bool)(ai aQ:Nat)(an:cK):Prop where
 hK:h2 w b ci ab c au aB ay al ai aQ an
 bg:aC w s 106 (aP b::bo.flatMap gn)
 oi:bo.length=4
 im:hc np w bo d6
 eX:bR ci d6
 dG:s∉ci
 vm:s∉d6
 xO:0∉d6
 o3:0≠s
section
variable{x:i8}
def Us(al:i<bo.length):aP b::bo.flatMap gn=aP b::(bo.take i).flatMap gn++gn bo[i]++(bo.drop (i+1)).flatMap gn:=by
 have e:bo=bo.take i++bo[i]::bo.drop (i+1):=by rw[<-ot al,l3]
 conv=>lhs;rw[e]
 rw[hL,iA];simp
def BU(al:i<bo.length):((bo.take i).flatMap gn).length+1=1+4*i:=by
 have:∀l:List i8,(l.flatMap gn).length=4*l.length:=by
  intro l;induction l with
  |nil=>rfl
  |cons ap l a=>rw[iA,di,a,Ud,gF];omega
 rw[this,ea];omega
def fR.wA(h:fR w s b ci d6 bo ab c au aB ay al ai aQ an)(o:i<bo.length):∃bJ,ko w s b 106 ((bo.take i).flatMap gn) ((bo.drop (i+1)).flatMap gn) ci bo[i] bJ ab c au aB ay al ai aQ an/\(∀g∈bJ,g∈d6)/\
  ∀(dx:i8)(eT fy:List Nat)(a:aN)(dO:cK),ko a s b 106 ((bo.take i).flatMap gn) ((bo.drop (i+1)).flatMap gn) eT dx fy ab c au aB ay al ai aQ dO->f5 w a s ci bJ eT fy->∃r,fR a s b eT r (bo.set i dx) ab c au aB ay al ai aQ dO/\f5 w a s ci d6 eT r:=by
 obtain⟨k8,bJ,p,t,B,u,v,D,x,q⟩:=h.im.Uj o;have l:∀g∈bJ,g∈d6:=λg e=>(q g).2 (Z (Y e));have m:∀g∈k8,g∈d6:=λg e=>(q g).2 (Y e);have n:∀g∈p,g∈d6:=λg e=>(q g).2 (Z (Z e));refine⟨bJ,⟨h.hK,by rw[<-Us o];exact h.bg,B,h.eX.d1 (λ_ h=>h) l,h.dG,λd=>h.vm (l _ d),λd=>h.xO (l _ d),h.o3⟩,l,?_⟩;intro dx eT fy a dO k f;have y:=t.aL l2;have z:=u.aL l2;have X:=h.bg.aL;have aa:=h.hK.pM.aL;have J:bR k8 (s::(ci++bJ)):=λg e d=>by
  rcases ce.1 d with rfl|d
  ·exact h.vm (m g e)
  ·rcases b4.1 d with d|d
   ·exact h.eX g d (m g e)
   ·exact v g e d
 have K:bR p (s::(ci++bJ)):=λg e d=>by
  rcases ce.1 d with rfl|d
  ·exact h.vm (n g e)
  ·rcases b4.1 d with d|d
   ·exact h.eX g d (n g e)
   ·exact x g d e
 have L:=t.J l2 f.J J;have dI:=u.J l2 f.J K;have N:bR k8 fy:=λg e d=>(f.nj g d).elim (v g e) (λj=>by have:=y g e;omega);have O:bR fy p:=λg e d=>(f.nj g e).elim (λj=>x g j d) (λj=>by have:=z g d;omega);have P:bo.set i dx=bo.take i++dx::bo.drop (i+1):=List.set_eq_take_append_cons_drop▸by rw[if_pos o]
 have ac:s∉eT:=k.dG;refine⟨k8++(fy++p),⟨k.hK,?_,by rw[i9];exact h.oi,by rw[P];exact L.bK k.im dI N D O,?_,k.dG,?_,?_,h.o3⟩,⟨f.J.bw (λg e=>Y ?_),f.wz,λg e=>?_⟩⟩
 ·have:=k.bg;have Q:i<(bo.set i dx).length:=by rw[i9];exact o
  rw[Us Q];have R:(bo.set i dx).take i=bo.take i:=by rw[List.take_set_of_le (fF _)]
  have V:(bo.set i dx).drop (i+1)=bo.drop (i+1):=by rw[List.drop_set_of_lt A]
  have W:(bo.set i dx)[i]=dx:=List.getElem_set_self _;rw[R,V,W];exact this
 ·intro g e d;simp only[b4]at d;rcases d with d|d|d
  ·exact(f.wz g e).elim (λj=>h.eX g j (m g d)) (λj=>by have:=y g d;omega)
  ·exact k.eX g e d
  ·exact(f.wz g e).elim (λj=>h.eX g j (n g d)) (λj=>by have:=z g d;omega)
 ·intro d;simp only[b4]at d;rcases d with d|d|d
  ·exact h.vm (m _ d)
  ·exact k.lR d
  ·exact h.vm (n _ d)
 ·intro d;simp only[b4]at d;rcases d with d|d|d
  ·exact h.xO (m _ d)
  ·exact k.xN d
  ·exact h.xO (n _ d)
 ·rcases ce.1 e with e|e
  ·simp[e]
  ·rcases b4.1 e with e|e
   ·simp[e]
   ·simp[l g e]
 ·simp only[b4]at e;rcases e with e|e|e
  ·exact Y (m g e)
  ·exact(f.nj g e).imp (l g) id
  ·exact Y (n g e)
def JA{n:Int}:a0 C 40 #[F H n] w λae a=>ae=aK (decide (0<=n/\n<4))/\w=a:=by
 refine a9 .D 1 Tryz.func40 K rfl λa1 b=>?_;simp+decide only[↓a8,ba,Tryz.f40];subst b;simp only[M,bi];refine⟨λh=>⟨?_,rfl⟩,λh=>⟨?_,rfl⟩⟩
 ·congr 1;rw[decide_eq_decide];omega
 ·rw[decide_eq_false A]
end
def er.kL(c:er):er:={c with hB:=[]}
section
variable{x:i8}
def BV:mI C 104 103 4:=by unfold mI;kernel_rfl
def BW:ep C 103 4=G:=K
def akf(h:fR w s b ci d6 bo ab c au aB ay al ai aQ an):a0 C 44 #[aP s] w λae a=>ae=bQ #[]/\∃f j,fR a s b ci f j ab c au aB ay al ai aQ an/\j.map (·.a3)=bo.map (λx=>x.a3.kL)/\f5 w a s ci d6 ci f:=by
 have ap:=h.oi;refine a9 (.L .D (.aW (.cJ [3] .D))) 1 Tryz.func44 K rfl λa1 Q=>?_;simp+decide only[↓a8,ba,Tryz.f44];subst Q;apply c1 (λo a=>∃(i:Nat)(j:List i8)(f:List Nat),o=[F H i]/\i<=4/\fR a s b ci f j ab c au aB ay al ai aQ an/\j.map (·.a3)=(bo.take i).map (λx=>x.a3.kL)++(bo.drop i).map (·.a3)/\f5 w a s ci d6 ci f) (λo _=>match o with|[F _ i]=>4-i.toNat|_=>0) ⟨0,bo,d6,rfl,A,h,B,.b0⟩;rintro _ _ ax ⟨i,d,R,rfl,al,p,q,u⟩;have aq:=p.oi;try simp only[M,bi]
 refine⟨λv=>?_,λar=>?_⟩
 ·have r:i<d.length:=A;obtain⟨bJ,k,av,V⟩:=p.wA r;apply(kc BV BW A).2;try simp only[M]
  obtain⟨m,aw,W,X,az,aA,aa,y⟩:=id k.im;have z:=k.lR;rw[y]at z;have aC:=BU (bo:=d) r;refine tb (iB:=1+i*4) (i:=3) (dx:={d[i]with wy:=T I 0 0,a3:=d[i].a3.kL}) CN k.bg (by simp only[gF];omega) A rfl rfl λac ad n aD=>?_;have D:bR m [s]:=λg e J=>by simp at J;subst J;exact z (by simp[e])
  have af:np ac {d[i]with wy:=T I 0 0,a3:=d[i].a3.kL} (m++[]):=⟨m,[],W.J n D,X.J n D,gJ _ _ _,bR.D _,λg e=>by have:=aa g e;omega,rfl⟩;have L:∀g∈m++[],g∈bJ\/ax.heap.size<=g:=λg e=>by rw[y];simp at e;exact Y (by simp[e])
  have ag:=k.zA ad af L n;obtain⟨ah,aj,ak⟩:=V _ _ _ _ _ ag (.im n L);try simp only[M]
  rw[bq A A];refine⟨⟨i+1,_,ah,by trivial,A,aj,?_,u.dP ak⟩,by simp;omega⟩;have t:i<bo.length:=A;have am:d[i].a3=bo[i].a3:=by have:=congrArg (λl=>l[i]?) q;simp only[e1]at this;rw[nr (by simp;omega)]at this;simp only[dU,ea,e1,oo]at this;rw[show i+(i-min i bo.length)=i by omega,cr r,cr t]at this;simpa using this
  rw[qB,q];simp only[am];have v:((bo.take i).map λx=>x.a3.kL).length=i:=by rw[dU,ea];omega
  rw[jO t,g6,sr _ _ A,v,k6,ot t,ge,aoi,gq];rfl
 ·have ao:i=4:=A;subst ao;refine⟨rfl,R,d,p,?_,u⟩;rw[q,mv A,List.drop_of_length_le A];simp
end
def o2(l:List (Nat×dn)):Prop:=∀ai∈l,ai.2.gj=[]/\ai.2.dY=[]
def Ut{k k7:Nat}:∀{ef:List (Nat×dl)}{g:fM},g.o2->(mP k k7 g ef).o2
 |[],g,h=>h
 |w::ef,g,h=>by
  rw[TW];split
  ·exact h
  ·rename_i b a;exact Ut (TV h a)
def akg(an:cK)(k aX:Nat):o2 (an.dg k aX).2:=by
 have a:=Ut (k:=k) (k7:=an.cx.length) (ef:=an.cn) (g:=⟨an.bd,[],[]⟩) (by simp[fM.o2]);unfold cK.dg;simp only;split
 ·exact a
 ·split
  ·exact a
  ·intro ai b;obtain⟨ap,_,rfl⟩:=fS.1 b;exact⟨rfl,rfl⟩
def Uu{k aX:Nat}:∀(n:Nat)(an:cK),o2 (ne k aX n an).2
 |0,an=>by simp[ne,o2]
 |n+1,an=>by
  rw[zr];split
  ·simp[o2]
  ·intro ai a;rcases b4.1 a with a|a
   ·exact akg an k aX ai a
   ·exact Uu n _ ai a
def kH(t:Nat×dn)(c:er):er:=if t.1∈c.hB then c.kG t.2 else c
def akh(h:an.bp aX)(a:an.cn≠[]):(an.dg k aX).2.length+(an.dg k aX).1.cn.length<=an.cn.length:=by
 obtain⟨c,b,d,e⟩:=Hs an k aX h a;have f:=b.dT;unfold cK.dg;simp only;split
 ·simp only[e8];omega
 ·split
  ·simp only[e8];omega
  ·simp only[dU,List.length_zip,e8];omega
def Uv{k aX:Nat}:∀(n:Nat){an:cK},an.bp aX->(ne k aX n an).2.length<=an.cn.length
 |0,an,_=>by simp[ne]
 |n+1,an,h=>by
  rw[zr];split
  ·simp
  ·rename_i b;have a:an.cn≠[]:=by simpa using b
   have c:=akh (k:=k) h a;have d:=Uv (k:=k) n (cK.v1 (k:=k) h a).1;simp only[di];omega
def Uw:∀{l:List (Nat×dn)}{c:er},o2 l->(l.foldl (λc t=>kH t c) c).eJ.length<=c.eJ.length+25*l.length/\(l.foldl (λc t=>kH t c) c).hB=c.hB
 |[],c,_=>⟨B,rfl⟩
 |t::l,c,h=>by
  have a:=h t fE;have f:=Uk a.1 a.2;obtain⟨g,b⟩:=Uw (l:=l) (c:=kH t c) (λai d=>h ai (ev _ d));have e:(kH t c).eJ.length<=c.eJ.length+25/\(kH t c).hB=c.hB:=by
   unfold kH;split
   ·exact⟨by simp[er.kG,ga];omega,rfl⟩
   ·exact⟨A,rfl⟩
  simp only[List.foldl_cons,gF];exact⟨A,b.trans e.2⟩
section
variable{x:i8}{t:Nat×dn}
def fR.E6{dL ds:Nat}(h:fR w s b ci d6 bo ab c au aB ay al ai aQ an)(i:h2 a b eT ab c gg aB vy al dL ds dO)(d:bX ci eT w a):fR a s b eT d6 bo ab c gg aB vy al dL ds dO:=by have l:=h.bg.aL;have j:=h.im.aL l2;exact⟨i,h.bg.J d.J h.dG,h.oi,h.im.J l2 d.J h.eX.nc,λg k e=>(d.cq g k).elim (λf=>h.eX g f e) (λf=>by have:=j g e;omega),λe=>(d.cq s e).elim h.dG (λf=>A),h.vm,h.xO,h.o3⟩
def fR.V(h:fR w s b ci d6 bo ab c au aB ay al ai aQ an)(d:Q [] w a):fR a s b ci d6 bo ab c au aB ay al ai aQ an:=
 ⟨h.hK.V d,h.bg.J d B,h.oi,h.im.J l2 d (bR.D _),h.eX,h.dG,h.vm,h.xO,h.o3⟩
def aki:eH C 118 121 7 k3 λx=>b6 (k3 x).toArray:=eH.rx C5 Le EY Ws
def Ux{l:List Nat}:((n:Int)∈l.map λn:Nat=>(n:Int))↔n∈l:=by
 constructor
 ·intro h;obtain⟨ak,a,e⟩:=fS.1 h;have:ak=n:=A;exact this▸a
 ·exactλh=>mz (f:=λn:Nat=>(n:Int)) h
def fR.pM(h:fR w s b ci d6 bo ab c au aB ay al ai aQ an):jf w:=h.hK.pM
end
section
variable{x:i8}{t:Nat×dn}
def Uy(h:aC w jP ar (k3 t)):(∀ac,aZ C (a4 3 (aE (E ⟨jP,0,I⟩))) w ac↔ac (F H t.1))/\(∀ac,aZ C (a4 37 (aE (E ⟨jP,1,I⟩))) w ac↔ac (je (xJ t.2))):=
 ⟨λ_=>bl bZ (h.bh (af:=0)),λ_=>gC (l:=eb (xJ t.2)) F0 (by have:=h.cy.d1 1 6;simpa[k3,eb]using this)⟩
def akj(k:∀a,aC a w.heap.size 121 (k3 t)->Q [] w a->ac (aP w.heap.size) a):
  W C (hV 121) w λaa aA=>W C (dC 121 aa (b6 (k3 t).toArray)) aA λ_ ax=>ac aa ax:=by
 refine gI (bm:=b6 (k3 (0,⟨0,0,0,0,[],[]⟩)).toArray) (by unfold du;kernel_rfl) λaA b c f=>?_;have b:aC aA w.heap.size 121 (k3 (0,⟨0,0,0,0,[],[]⟩)):=by simpa[bF]using b
 exact f0 (cv:=[]) (c5:=k3 (0,⟨0,0,0,0,[],[]⟩)) (da:=[]) Le (by simpa using b) rfl rfl rfl (by simpa[bF]using Jm t) λax d e g=>k ax (by simpa[bF]using d) (c.R e B)
def akk(h:fR w s b ci d6 bo ab c au aB ay ix ai aQ an)(ao:qo c aB ay)(ak:ai+17<=1152921504606846976)(bd:an.cn.length<=16)(bf:∀x∈bo,x.a3.eJ.length<=7500000)(bg:∀x∈bo,x.a3.hB.length<=100000):
  a0 C 42 #[aP s] w λae a=>ae=bQ #[]/\∃eT y z gg dL,fR a s b eT y z ab c gg aB ay ix dL aQ (an.j0 c.aJ c.bd).1/\z.map (·.a3)=bo.map (λx=>((an.j0 c.aJ c.bd).2.foldl (λc t=>kH t c) x.a3).kL)/\f5 w a s ci d6 eT y/\dL<=ai+an.cn.length:=by
 have ch:=h.oi;refine a9 Mp 1 Tryz.func42 K rfl λa1 bh=>?_;simp+decide only[↓a8,ba,Mp,Tryz.f42];subst bh;have bj:=h.bg.bh (af:=0);try simp only[M]
 refine(bl (aa:=aP b) CQ (by rw[bj];rfl)).2 (aH Xn (Ht h.hK ao ak) ?_);rintro hN aA ⟨o,L,R,fX,r⟩;have bk:=h.E6 r.hK r.de;have V:=Uu (k:=c.aJ) (aX:=c.bd) an.cn.length an;have V:o2 (an.j0 c.aJ c.bd).2:=V;have bm:=h.im.aL l2;have aR:=r.fW;have bn:=r.cq;have bp:=r.mV;have br:f5 w aA s ci d6 o d6:=⟨r.de.J.bw (λg W=>Y (by simp[W])),r.de.cq,λ_ h=>Y h⟩;have bs:=r.TX;have aS:=h.bg.aL;have bt:an.bp c.bd:=by obtain⟨ah,cR,b8,dB,fL,ej,dq,aD,c0,ef,bu,_⟩:=h.hK;exact bu.cL
 have cj:(an.j0 c.aJ c.bd).2.length<=16:=gz (Uv _ bt) bd;generalize(an.j0 c.aJ c.bd).1=am at*;generalize(an.j0 c.aJ c.bd).2=p at*;obtain⟨ck,cm,bv,_⟩:=id aR.jD;subst bv;try simp only[M]
 have bw:bR fX (s::(o++d6)):=λg W m=>by
  have aU:=bn g W;rcases ce.1 m with rfl|m
  ·omega
  ·rcases b4.1 m with m|m
   ·exact bp g m W
   ·have:=bm g m;omega
 apply c1 (λq a=>∃(i:Nat)(z:List i8)(y:List Nat),q=[F H i]/\i<=p.length/\fR a s b o y z ab c L aB ay ix R aQ am/\z.map (·.a3)=bo.map (λx=>(p.take i).foldl (λc t=>kH t c) x.a3)/\f5 aA a s o d6 o y) (λq _=>match q with|[F _ i]=>p.length-i.toNat|_=>0) ⟨0,bo,d6,rfl,A,bk,B,.b0⟩;rintro _ _ ax ⟨i,d,aV,rfl,al,u,ap,aq⟩;have bx:=aq.J;have bz:=aR.J bx bw;try simp only[M,bi]
 refine⟨λaW=>?_,λcn=>?_⟩
 ·have ar:i<p.length:=A;apply(aki.ek (bz.eF EY A) (Q.b0 _ _) ar).2;have D:=V _ (dX ar);have bB:p.take (i+1)=p.take i++[p[i]]:=jO ar;generalize p[i]=t at*;refine akj λav aY aZ=>?_;have aw:=u.V aZ;have bC:=aY.aL;have cp:=u.bg.aL;have bE:=u.hK.aL;have bG:=u.im.aL l2;have cq:=u.oi;have bH:∀j(az:j<d.length),d[j].a3.eJ.length<=7600000/\d[j].a3.hB.length<=100000:=λj az=>by
   have aF:j<bo.length:=A;have e:d[j].a3=(p.take i).foldl (λc t=>kH t c) bo[j].a3:=by have:=congrArg (λl=>l[j]?) ap;simp only[e1,cr az,cr aF]at this;simpa using this
   have bI:o2 (p.take i):=λai ak=>V ai (List.mem_of_mem_take ak);obtain⟨aU,bK⟩:=Uw (c:=bo[j].a3) bI;have cs:=bf _ (dX aF);have bL:=bg _ (dX aF);rw[ea]at aU;rw[e,bK];exact⟨A,bL⟩
  apply c1 (λq a=>∃(j:Nat)(f:List i8)(v:List Nat),q=[F H j]/\j<=4/\fR a s b o v f ab c L aB ay ix R aQ am/\f.map (·.a3)=(d.take j).map (λx=>kH t x.a3)++(d.drop j).map (·.a3)/\aC a ax.heap.size 121 (k3 t)/\f5 av a s o aV o v) (λq _=>match q with|[F _ i]=>4-i.toNat|_=>0) ⟨0,d,aV,rfl,A,aw,B,aY,.b0⟩;rintro _ _ a2 ⟨j,f,v,rfl,az,aG,aI,aJ,aL⟩;have ct:=aG.oi;try simp only[M,bi]
  refine⟨λcu=>?_,λcv=>?_⟩
  ·have aM:j<f.length:=A;have X:j<d.length:=A;have a3:f[j].a3=d[j].a3:=by have:=congrArg (λl=>l[j]?) aI;simp only[e1]at this;rw[nr (by simp;omega)]at this;simp only[dU,ea,e1,oo]at this;rw[show j+(j-min j d.length)=j by omega,cr aM,cr X]at this;simpa using this
   obtain⟨bJ,ac,cw,bM⟩:=aG.wA aM;have cx:=BU (bo:=f) aM;have a4:(aP b::(f.take j).flatMap gn).length=1+j*4:=by simp only[gF];omega
   have a5:=cD [] a2;have a7:=bH j X;rw[<-a3]at a7;have bU:∀(dx:i8),dx.a3=kH t f[j].a3->(f.set j dx).map (·.a3)=(d.take (j+1)).map (λx=>kH t x.a3)++(d.drop (j+1)).map (·.a3):=by
    intro dx bV;have aW:((d.take j).map λx=>kH t x.a3).length=j:=by rw[dU,ea];omega
    rw[qB,aI,bV,a3,jO X,g6,sr _ _ A,aW,k6,ot X,ge,aoi,gq];rfl
   refine bT (λq a=>∃dx fy,q=[]/\ko a s b 106 ((f.take j).flatMap gn) ((f.drop (j+1)).flatMap gn) o dx fy ab c L aB ay ix R aQ am/\dx.a3=kH t f[j].a3/\f5 a2 a s o bJ o fy) ?_ ?_
   ·try simp only[M]
    apply(kc BV BW A).2;obtain⟨cy,cz,cA,bW⟩:=si (iB:=1+j*4) (bD ac.bg) a4;obtain⟨bb,bc⟩:=Uy (bD aJ);try simp only[M,bW,bb]
    obtain⟨cB,cC,cE,cF,bX,cG,cH,cI⟩:=id ac.im;have bY:=(bX.J a5 B);have aS:=bP.eF (be:=Go.X.ew) (a6:=1) (l:=f[j].a3.hB.map λn:Nat=>(n:Int)) (by rw[dU];exact bY) (λ_=>rfl) A;apply aH Lx (aj4 (x:=(t.1:Int)) aS (by rw[dU];exact gz a7.2 A));rintro _ bZ ⟨rfl,b0⟩;have J:=a5.R b0 B;try simp only[bi]
    refine⟨λaO=>?_,λaO=>?_⟩
    ·obtain⟨bb,bc⟩:=Uy (aJ.J J B);try simp only[M,bc]
     refine Jz (ad:=t.2) (ac.V J) (by simp only[gF]at a4;omega) ⟨rfl,rfl,rfl,rfl,by rw[D.1];exact aT.gW _ _,by rw[D.2];exact aT.gW _ _⟩ ⟨by rw[D.1];simp,by rw[D.2];simp,by rw[D.2];simp⟩ A λcJ dx fy b1 b2 ag=>⟨dx,fy,by trivial,b1,?_,(f5.iu J).dP ag⟩;rw[b2];unfold kH;rw[if_pos (Ux.1 aO)]
    ·refine⟨f[j],bJ,by trivial,ac.V J,?_,.iu J⟩;unfold kH;rw[if_neg (λaj=>aO (Ux.2 aj))]
   rintro _ _ bZ ⟨dx,fy,rfl,b3,b7,b9⟩;obtain⟨ca,cb,ag⟩:=bM _ _ _ _ _ b3 b9;try simp only[M]
   rw[bq A A];have cK:ax.heap.size<av.heap.size:=bC;refine⟨⟨j+1,_,ca,by trivial,A,cb,bU dx b7,aJ.J ag.J (λm=>?_),aL.dP ag⟩,by simp;omega⟩;rcases ce.1 m with m|m
   ·omega
   ·rcases b4.1 m with m|m
    ·have:=bE _ m;omega
    ·exact(aL.nj _ m).elim (λaj=>by have:=bG _ aj;omega) (λaj=>A)
  ·have cc:j=4:=A;try simp only[M]
   rw[bq A A];refine⟨⟨i+1,f,v,by trivial,A,aG,?_,(aq.dP (.iu aZ)).dP aL⟩,by simp;omega⟩;rw[aI,cc,mv A,List.drop_of_length_le A,tp,kJ];have e:d.map (λx=>kH t x.a3)=(d.map (·.a3)).map (kH t):=by rw[ts];rfl
   rw[e,ap,ts,bB];refine amO λx _=>?_;simp
 ·have cd:i=p.length:=A;apply aH Xi (akf u);rintro _ av ⟨rfl,v,f,aw,cf,cg⟩;refine⟨rfl,o,v,f,L,R,aw,?_,(br.dP aq).dP cg,bs⟩;rw[cf];have e:d.map (λx=>x.a3.kL)=(d.map (·.a3)).map er.kL:=by rw[ts];rfl
  rw[e,ap,cd,j3,ts];rfl
end
section
variable{x:i8}
def akl(h:fR w s b ci d6 bo ab c au aB ay al ai aQ an)(d:i<bo.length):a0 C 76 #[aP s,F H i] w λae a=>ae=F H bo[i].a3.eJ.length/\w=a:=by
 have n:=h.oi;obtain⟨bJ,e,o,p⟩:=h.wA d;have q:=BU (bo:=bo) d;have f:(aP b::(bo.take i).flatMap gn).length=1+i*4:=by simp only[gF];omega
 obtain⟨r,t,g,u⟩:=si (iB:=1+i*4) e.bg f;obtain⟨v,x,y,j,z,B,D,J⟩:=id e.im;obtain⟨L,Q,k,_⟩:=id j.1;refine a9 .D 2 Tryz.func76 K rfl λa1 l=>?_;simp+decide only[↓a8,ba,Tryz.f76];subst l;apply aH Gi JA;rintro _ _ ⟨rfl,rfl⟩;rw[decide_eq_true A];try simp only[M]
 refine cG.2 ⟨λm=>(by cases m),λ_=>?_⟩;try simp only[M]
 apply(kc BV BW A).2;try simp only[M,g]
 rw[k];try simp only[M]
 exact⟨rfl,rfl⟩
def akm{n:Int}(h:fR w s b ci d6 bo ab c au aB ay al ai aQ an)(D:i<bo.length)(f:(ak:Int)=max 0 (min n bo[i].a3.eJ.length))(aZ:bo[i].a3.eJ.length<=7900000):
  a0 C 31 #[aP s,F H i,F H n] w λae a=>∃dx J,fR a s b ci J (bo.set i dx) ab c au aB ay al ai aQ an/\dx.a3={bo[i].a3 with eJ:=bo[i].a3.eJ.drop ak}/\f5 w a s ci d6 ci J/\aT a bs ae (bo[i].a3.eJ.take ak)/\gx w.heap.size ae:=by
 have a2:=h.oi;obtain⟨bJ,j,a4,aj⟩:=h.wA D;have a5:=BU (bo:=bo) D;have r:(aP b::(bo.take i).flatMap gn).length=1+i*4:=by simp only[gF];omega
 obtain⟨a6,a7,am,bb⟩:=si (iB:=1+i*4) j.bg r;obtain⟨m,o,ao,t,L,ap,aq,R⟩:=id j.im;obtain⟨bc,bd,V,_⟩:=id t.1;have ar:ak<=bo[i].a3.eJ.length:=A;refine a9 .D 3 Tryz.func31 K rfl λa1 av=>?_;simp+decide only[↓a8,ba,Tryz.f31];subst av;apply aH Gi JA;rintro _ _ ⟨rfl,rfl⟩;rw[decide_eq_true A];try simp only[M]
 refine cG.2 ⟨λaw=>(by cases aw),λ_=>?_⟩;try simp only[M]
 apply(kc BV BW A).2;try simp only[M,am]
 rw[V];try simp only[M]
 rw[<-f,<-V];refine TJ fP el e2 t.1 A A λhN W _ _=>?_;rw[hf]at W;apply aH w8 (Js W (by rw[ea];omega));rintro ae aA ⟨be,u,X,p⟩;have az:=j.V p;obtain⟨aor,bf,aC,bg⟩:=si (iB:=1+i*4) az.bg r;try simp only[M,aC]
 have aD:=t.J p (bR.D _);refine BS (k:=ak) aD ar λbh aF=>aH w8 (Js aF.1 (by rw[e8];omega)) ?_;rintro ag ax ⟨l,aa,v,x⟩;have ac:=p.R x B;have aG:=j.V ac;have ad:hp ax l bs ag (bo[i].a3.eJ.drop ak):=hp.c4 aa e2 A;have y:=j.lR;rw[R]at y;have bi:=h.bg.aL;have bj:=p.aI;have bk:=x.aI;try simp only[M]
 refine tb (iB:=1+i*4) (i:=2) (dx:={bo[i]with ta:=ag,a3:={bo[i].a3 with eJ:=bo[i].a3.eJ.drop ak}}) mJ aG.bg r A ad.aW rfl λaf aI z bl=>?_;have q:Q [s] w af:=(ac.bw B).R z (λg d=>Y d);have aJ:bR m [s]:=λg d f=>by simp at f;subst f;exact y (by simp[d])
 have aL:bR o [s]:=λg d f=>by simp at f;subst f;exact y (by simp[d])
 have aM:bR l [s]:=λg d f=>by have:=v g d;simp at f;omega
 have aO:np af {bo[i]with ta:=ag,a3:={bo[i].a3 with eJ:=bo[i].a3.eJ.drop ak}} ((m++l)++o):=by
  refine⟨m++l,o,(ao.J q aJ).pI (λg d=>by simp[d]),(ad.J z aM).pI (λg d=>by simp[d]),L.J q aL,λg d f=>?_,λg d=>?_,rfl⟩
  ·rcases b4.1 d with d|d
   ·exact ap g d f
   ·have:=L.aL g f;have:=v g d;omega
  ·rcases b4.1 d with d|d
   ·have:=aq g d;omega
   ·have:=aa.aL g d;omega
 have ah:∀g∈(m++l)++o,g∈bJ\/w.heap.size<=g:=λg d=>by
  rw[R];simp only[b4]at d⊢;rcases d with(d|d)|d
  ·exact Y (Y d)
  ·exact Z (by have:=v g d;omega)
  ·exact Y (Z d)
 obtain⟨aR,aS,aU⟩:=aj _ _ _ _ _ (j.zA aI aO ah q) (.im q ah);refine⟨_,aR,aS,rfl,aU,?_,gx.c4 u X⟩;exact((u.eF e2 A).V x).J z (λaV aW aX aY e f=>by
  have:=X _ (u.rt aV aW aX aY e);simp at f;omega)
end
section
variable{av:ji}{aX:c3}
def gy:i8:=⟨T I 0 0,T I 0 0,T I 0 0,iy⟩
def akn:C.built 106 #[(0,aP b)].toList=E (aP b::([gy,gy,gy,gy].flatMap gn)).toArray:=K
def wB(w:aN):np w gy []:=⟨[],[],hp.gW,hp.gW,gJ _ _ _,bR.D _,B,rfl⟩
def ako(h:eY w ab am c au aB ay al)(i:zc c au aB ay al)(j:r5 c au bu)(k:q3 c au av)(m:lQ nD 0 av=E aX)(n:∀l∈av,l.length<=16)(o:jf w)(p:0∉am)(q:∀t,t<c.bd->c.aJ<=bV (ia c ay t) c.aR):
  a0 C 36 #[aP ab] w λae a=>∃s b ci dL,ae=aP s/\w.heap.size<=s/\fR a s b ci [] [gy,gy,gy,gy] ab c au aB ay al dL 0 ⟨av,aX,[],0⟩/\dL<=bu/\bX am ci w a:=by
 refine a9 .D 1 Tryz.func36 K rfl λa1 r=>?_;simp+decide only[↓a8,ba,Tryz.f36];subst r;apply aH Xm (ajY h i j k m n o p q);rintro _ aA ⟨b,ci,u,rfl,z,d,v,f⟩;refine(bY akn).2 (eA λax e g D=>?_);have e:aC ax aA.heap.size 106 (aP b::([gy,gy,gy,gy].flatMap gn)):=by simpa[bF]using e
 have x:=d.aL;have J:=d.pM.aL;refine⟨aA.heap.size,b,ci,u,rfl,f.J.aI,⟨d.V g,e,rfl,⟨[],[],rfl,bR.D _,wB _,[],[],rfl,bR.D _,wB _,[],[],rfl,bR.D _,wB _,[],[],rfl,bR.D _,wB _,rfl⟩,bR.D _,λy=>by have:=x _ y;omega,B,B,A⟩,v,f.oM g⟩
end
end
section
open Go.RowKit ey
variable{aG:List b3}{aq gX:b3}
def E7(x:List UInt8)(d:Nat)(c:Int)(a:x.length=128):∀n,d+n<=128->∀i,i<128->(mQ x d c n).getD i 0=if d<=i/\i<d+n then x.getD i 0^^^ey.sQ c (i-d)else x.getD i 0
 |0,_,i,_=>by rw[if_neg A];rfl
 |n+1,b,i,al=>by
  have f:=yK x d c n;have e:(mQ x d c (n+1)).getD i 0=if d+n=i then(mQ x d c n).getD (d+n) 0^^^ey.sQ c n else(mQ x d c n).getD i 0:=by
   rw[mQ,gp,pT];split
   ·rw[if_pos A];rfl
   ·rw[gp]
  rw[e];split
  ·subst_vars
   rw[E7 x d c a n A (d+n) A,if_neg A,if_pos A,show d+n-d=n by omega]
  ·rw[E7 x d c a n A i al];by_cases h:d<=i/\i<d+n
   ·rw[if_pos h,if_pos A]
   ·rw[if_neg h,if_neg A]
def akp{aO:Nat}(e:1<=aO)(f:aO<=1000):¬(ey.sQ aO 0=0/\ey.sQ aO 1=0):=by rintro⟨d,b⟩;have a:=congrArg UInt8.toNat d;have c:=congrArg UInt8.toNat b;simp[ey.sQ]at a c;omega
def akq{aO:Nat}(c:aO<=1000):ey.sQ aO 1≠84:=by intro b;have a:=congrArg UInt8.toNat b;simp[ey.sQ]at a;omega
def Uz{d b:UInt8}(h:d^^^b=d):b=0:=by
 have:d^^^(d^^^b)=d^^^d:=by rw[h]
 rwa[<-UInt8.xor_assoc,UInt8.xor_self,UInt8.zero_xor]at this
def JB(h:i<l.length):l[i]?=E (l.getD i 0):=by rw[gp,cr h];rfl
def akr{aj:dQ}{d aO:Nat}(e:aj.bp)(l:d<=100)(f:1<=aO)(g:aO<=1000):xi (mQ aj.e5 d aO 4):=by
 have j:=e.xh;have m:=yK aj.e5 d aO 4;have a:=E7 aj.e5 d aO j 4 A;refine acc e (aQ:=d) A A (λi al=>?_) λk=>?_
 ·rcases Nat.lt_or_ge i 128 with h|h
  ·rw[JB A,JB A,a i h,if_neg A]
  ·rw[jy A,jy A]
 ·have b:=a d A;have c:=a (d+1) A;rw[k,if_pos A]at b c;refine akp f g ⟨?_,?_⟩
  ·rw[k6]at b;exact Uz b.symm
  ·rw[show d+1-d=1 by omega]at c;exact Uz c.symm
def aks{d aO:Nat}(j:d<=100)(c:aO<=1000):xi (mQ jH d aO 4):=by
 have k:=yK jH d aO 4;have e:jH.length=128:=Hu;have f:∀i,jH.getD i 0=0:=by intro i;unfold jH;rw[gp,List.getElem?_replicate];split<;>rfl
 have g:=E7 jH d aO e 4 A;refine PT λ⟨a,b⟩=>?_;rw[JB A,g _ A,f,vq]at a b;by_cases h:d=0
 ·subst h;rw[if_pos A,UInt8.zero_xor]at b;exact akq c b
 ·rw[if_neg A]at a;exact absurd a (by decide)
def o4(g:Nat->Nat->Bool)(i ag s:Nat):Bool:=g ag s&&!decide (ag=i)
def sj(g:Nat->Nat->Bool)(i t ag s:Nat):Bool:=g ag s&&!(decide (ag=i)&&decide (s=t))
section
variable{aO:Nat}{tv:Nat->Bool}
def hA.JC(h:hA c au aG bB aB)(f:aG[ag]?=E aq)(g:gX.d3.length=aq.d3.length)(i:Ep c au ag gX (xU ag) (tv ag))(j:∀e,e≠ag->xU e=bB e)(k:∀e,e≠ag->tv e=aB e):hA c au (aG.set ag gX) xU tv:=by
 refine⟨⟨h.ei.cL,by rw[i9];exact h.ei.aR,λav a=>?_⟩,h.cL,λe av a=>?_⟩
 ·obtain⟨e,b⟩:=List.getElem?_of_mem a;rw[pT]at b;split at b
  ·split at b
   ·cases b;rw[g];exact h.ei.cP aq (gP f)
   ·cases b
  ·exact h.ei.cP av (gP b)
 ·rw[pT]at a;by_cases d:ag=e
  ·subst d;rw[if_pos rfl]at a;split at a
   ·cases a;exact i
   ·cases a
  ·rw[if_neg d]at a;rw[j e (Ne.symm d),k e (Ne.symm d)];exact h.ih e av a
def UA(h:hA c au aG bB aB)(a:aG[ag]?=E aq)(b:Bool):Ep c au ag (aq.sP b) (λ_=>U) b:=by have d:=h.ei.cP aq (gP a);refine⟨rfl,rfl,λ_ _=>rfl,λs ao=>?_⟩;unfold y3;simp only[fc,if_false];refine⟨jH,?_,Hu,RV,Z rfl⟩;show(cN aq.d3.length jH)[s]?=_;rw[List.getElem?_replicate,if_pos A]
def UB:o4 bB ag ag=λ_=>U:=by funext s;simp[o4]
def UC{e:Nat}(h:e≠ag):o4 bB ag e=bB e:=by funext s;simp[o4,h]
def eY.akt(h:eY w ab am c au aB ay al)(l:i<c.aR):a0 C 47 #[aP ab,F H i] w λae a=>ae=aK G/\∃az,eY a ab az c au (λag=>aB ag||decide (ag=i)) (o4 ay i) al/\bX am az w a:=by
 obtain⟨bB,⟨aG,m,d⟩,j⟩:=h;have f:=cr (show i<aG.length by rw[d.ei.aR];exact l);apply(adf m f).bw;rintro ae a ⟨rfl,az,n,o⟩;refine⟨rfl,az,⟨o4 bB i,⟨_,n,d.JC f (by simp[b3.sP]) ?_ (λe g=>UC g) (λe g=>by simp[g])⟩,λag s k=>⟨λb=>?_,λb=>?_⟩⟩,o⟩
 ·have:=UA d f G;simp only[decide_true,Bool.or_true];rw[UB];exact this
 ·simp only[o4,dA]at b⊢;exact⟨(j ag s k).1 b.1,b.2⟩
 ·simp only[o4,dA]at b;exact(j ag s k).2 b.1
def eY.aku(h:eY w ab am c au aB ay al)(l:i<c.aR):a0 C 48 #[aP ab,F H i] w λae a=>ae=aK G/\∃az,eY a ab az c au (λag=>aB ag&&!decide (ag=i)) (o4 ay i) al/\bX am az w a:=by
 obtain⟨bB,⟨aG,m,d⟩,j⟩:=h;have f:=cr (show i<aG.length by rw[d.ei.aR];exact l);apply(adg m f).bw;rintro ae a ⟨rfl,az,n,o⟩;refine⟨rfl,az,⟨o4 bB i,⟨_,n,d.JC f (by simp[b3.sP]) ?_ (λe g=>UC g) (λe g=>by simp[g])⟩,λag s k=>⟨λb=>?_,λb=>?_⟩⟩,o⟩
 ·have:=UA d f U;simp only[decide_true,hq,Bool.and_false];rw[UB];exact this
 ·simp only[o4,dA]at b⊢;exact⟨(j ag s k).1 b.1,b.2⟩
 ·simp only[o4,dA]at b;exact(j ag s k).2 b.1
def akv(h:hA c au aG bB aB)(f:aG[ag]?=E aq)(ao:s<c.e6)(k:aQ<=100)(o:1<=aO)(l:aO<=1000)(p:aq.lg s=U):Ep c au ag (aq.yJ s aQ aO) (λt=>bB ag t&&!decide (t=s)) (aB ag):=by
 have r:=h.ei.cP aq (gP f);have m:ag<c.aR:=by rw[<-h.ei.aR];exact(fi.1 f).1
 have d:=h.ih ag aq f;refine⟨d.dp,d.dW,λq t=>by rw[d.t6 q t];rfl,λt g=>?_⟩;have a:=d.d3 t g;unfold y3 at a⊢;show if(bB ag t&&!decide (t=s))=G then(aq.d3.set s _)[t]?=_/\(if t=s then G else aq.lg t)=U else∃x,(aq.d3.set s _)[t]?=E x/\_/\_/\((if t=s then G else aq.lg t)=G\/_);by_cases i:t=s
 ·subst i;simp only[decide_true,hq,Bool.and_false,fc,if_false,if_true];refine⟨_,by rw[List.getElem?_set_self A],?_,?_,Y B⟩
  ·rw[yK];cases b:bB ag t with
   |true=>
    rw[b,if_pos rfl]at a;rw[gp,a.1];exact(wb h.cL h.ei.cL m g).xh
   |false=>
    rw[b]at a;obtain⟨x,j,n,_⟩:=a;rw[gp,j];exact n
  ·cases b:bB ag t with
   |true=>
    rw[b,if_pos rfl]at a;rw[gp,a.1];exact akr (wb h.cL h.ei.cL m g) k o l
   |false=>
    rw[b]at a;obtain⟨x,j,n,_,e⟩:=a;rcases e with e|rfl
    ·rw[p]at e;cases e
    ·rw[gp,j];exact aks k l
 ·simp only[i,decide_false,lE,Bool.and_true,if_false];rw[List.getElem?_set_ne (Ne.symm i)];exact a
def eY.lg(h:eY w ab am c au aB ay al)(m:i<c.aR)(ao:s<c.e6)(v:aQ<=100)(x:1<=aO)(y:aO<=1000):a0 C 20 #[aP ab,F H i,F H s,F H aQ,F hS aO] w λae a=>(∃b,ae=aK b/\(aB i=U->ay i s=G->b=G))/\∃az,eY a ab az c au aB (sj ay i s) (sj al i s)/\bX am az w a:=by
 obtain⟨bB,⟨aG,z,f⟩,n⟩:=h;have g:=cr (show i<aG.length by rw[f.ei.aR];exact m);have A:=f.ei.cP _ (gP g);generalize aG[i]'(by rw[f.ei.aR];exact m)=aq at g A;have k:=f.ih i aq g;have l:=k.d3 s ao;have q:aq.n2 s aQ aO=(aq.dW||aq.lg s):=by unfold b3.n2 b3.kj;rw[decide_eq_false (show¬((aQ:Int)<0\/124<(aQ:Int)\/(aO:Int)=0)by omega)];cases aq.dW<;>simp<;>omega
 have o:aq.n2 s aQ aO=G->bB i s=U:=by
  intro d;rw[q,pP]at d;rcases d with d|d
  ·exact k.t6 (by rw[<-k.dW];exact d) s
  ·cases D:bB i s with
   |false=>rfl
   |true=>rw[D]at l;unfold y3 at l;rw[if_pos rfl,d]at l;cases l.2
 apply(adh z g).bw;rintro ae a ⟨rfl,az,r,J⟩;rw[hf,hf]at r;refine⟨⟨_,rfl,λp K=>?_⟩,az,⟨sj bB i s,⟨_,r,?_⟩,λag t p=>⟨λd=>?_,λd=>?_⟩⟩,J⟩
 ·cases j:aq.n2 s aQ aO with
  |false=>rfl
  |true=>rw[(n i s m).1 K]at o;exact absurd (o j) B
 ·refine f.JC g (by split<;>simp[b3.yJ]) ?_ (λe L=>by funext t;simp[sj,L]) (λ_ _=>rfl);cases j:aq.n2 s aQ aO with
  |true=>
   rw[if_pos rfl];have:sj bB i s i=bB i:=by
    funext t;unfold sj;by_cases u:t=s
    ·subst u;rw[o j];rfl
    ·simp[u]
   rw[this];exact k
  |false=>
   rw[if_neg B];have dI:aq.lg s=U:=by rw[q,Bool.or_eq_false_iff]at j;exact j.2
   have:=akv f g ao v x y dI;have e:sj bB i s i=λt=>bB i t&&!decide (t=s):=by funext t;simp[sj]
   rw[e];exact this
 ·simp only[sj,dA]at d⊢;exact⟨(n ag t p).1 d.1,d.2⟩
 ·simp only[sj,dA]at d⊢;exact⟨(n ag t p).2 d.1,d.2⟩
def eY.akw(h:eY w ab am c au aB ay al):eY w ab am c au aB ay ix:=by obtain⟨bB,a,b⟩:=h;exact⟨bB,a,λag s d=>⟨(b ag s d).1,λ_=>rfl⟩⟩
def akx(h:aq.dp=λ_=>I):yS aq=aq:=by obtain⟨a,b,c,aB⟩:=aq;simp only at h;subst h;unfold yS b3.rJ b3.AQ;simp
def eY.aky(h:eY w ab am c au aB ay al):a0 C 46 #[aP ab,T I 0 0] w λ_ a=>∃az,eY a ab az c au aB ay al/\bX am az w a:=by
 obtain⟨bB,⟨aG,f,b⟩,g⟩:=h;apply(adn f).bw;rintro ae a ⟨az,d,i⟩;have e:aG.map yS=aG:=by
  conv=>rhs;rw[<-List.map_id aG]
  exact amO λaq j=>akx (b.dp aq j)
 rw[e]at d;exact⟨az,⟨bB,⟨aG,d,b⟩,g⟩,i⟩
end
end
section
open Go.RowKit fC gO
section
variable{x:i8}
def h2.E8(h:h2 w b am ab c au aB ay al ai aQ an):∃dc,eY w ab dc c au aB ay al/\(∀g∈dc,g∈am)/\∀(a:aN)(bJ:List Nat)(tv:Nat->Bool)(vy p:Nat->Nat->Bool),eY a ab bJ c au tv vy p->bX dc bJ w a->c.aJ<=bV (λag=>!tv ag) c.aR->∃az,h2 a b az ab c au tv vy p ai aQ an/\bX am az w a:=by
 have q:=h.aL;obtain⟨ah,cR,b8,dB,fL,ej,dq,aD,c0,ef,h,rfl⟩:=h;obtain⟨N,rfl,t,m,u⟩:=h.ij;obtain⟨⟨dc,rfl,v,r⟩,y⟩:=t;refine⟨dc,v,λg z=>by simp[z],λa bJ tv vy p D n J=>?_⟩;have j:=n.J;have o:=n.cq;have l:∀x,x∈b::b8::(dq++(aD++c0))->x∉dc:=by
  intro x f d;rcases ce.1 f with rfl|f
  ·exact h.lk x B (by simp[d])
  ·rcases ce.1 f with rfl|f
   ·exact h.lk x B (by simp[d])
   ·exact h.lC x (by simp[d]) f
 have s:ah∉dc:=λd=>m.2 (by simp[d]);have K:ah≠cR:=λe=>m.2 (by simp[e]);have O:=m.1.aL;have P:=r.1.aL;refine⟨[b,b8]++(ah::cR::bJ++(dq++(aD++c0))),⟨ah,cR,b8,dB,fL,ah::cR::bJ,dq,aD,c0,ef,⟨h.bg.J j (l b B),⟨cR::bJ,rfl,⟨⟨bJ,rfl,D,r.de n⟩,y⟩,⟨m.1.J j s,λk=>?_⟩,u⟩,h.wt.J j (l b8 B),h.k1.J j (λx f=>l x (by simp[f])),h.c4.J j (λx f=>l x (by simp[f])),h.pJ,λx f=>(h.vg x f).J j (λap L=>l ap (by simp[L])),λx f=>iL (h.vh x f) j.aI,h.g1,?_,?_,h.o1,h.wu,h.kF.J j (λd=>h.pK (by simp[d])),λd=>?_,h.cL,J,h.fO⟩,rfl⟩,?_⟩
 ·rcases ce.1 k with e|k
  ·exact K e
  ·exact(o ah k).elim s (λh=>A)
 ·intro x f d;have i:=h.lk x f;have dI:=q x (hg _ f);simp only[jN,ce,b4,not_or]at d i;rcases d with d|d|d|d
  ·exact i.1 d
  ·exact i.2.1 d
  ·exact(o x d).elim i.2.2.1 (λk=>A)
  ·exact d.elim i.2.2.2.1 (λd=>d.elim i.2.2.2.2.1 i.2.2.2.2.2)
 ·intro x f d;rcases ce.1 f with rfl|f
  ·exact h.lC x B d
  ·rcases ce.1 f with rfl|f
   ·exact h.lC x B d
   ·rcases o x f with k|k
    ·exact h.lC x (by simp[k]) d
    ·have:=q x (h3 _ (h3 _ d));omega
 ·have i:=h.pK;have dI:=h.kF.aL;simp only[jN,m2,ce,b4,not_or]at d i;rcases d with d|d|d|d|d|d
  ·exact i.1 d
  ·exact i.2.1 d
  ·exact i.2.2.1 d
  ·exact i.2.2.2.1 d
  ·exact(o _ d).elim i.2.2.2.2.1 (λk=>A)
  ·exact d.elim i.2.2.2.2.2.1 (λd=>d.elim i.2.2.2.2.2.2.1 i.2.2.2.2.2.2.2)
 ·refine n.qj (λx f=>by simp[f]) λx f=>?_;simp only[jN,m2,ce,b4]at f⊢;rcases f with f|f|f|f|f|f
  ·exact Z (Y f)
  ·exact Z (Z (Y f))
  ·exact Z (Z (Z (Y f)))
  ·exact Z (Z (Z (Z (Y f))))
  ·exact Y f
  ·exact Z (Z (Z (Z (Z (Z f)))))
def h2.akz(h:h2 w b am ab c au aB ay al ai aQ an):∃dc g8 lr hD tu zK,aC w b 136 [aP ab,g8,lr,hD,tu,zK,F H an.cQ]/\b∉dc/\eY w ab dc c au aB ay al/\r5 c au ai/\q3 c au an.cx/\an.bp c.bd/\jf w/\0∉b::dc/\(∀g∈b::dc,g∈am):=by obtain⟨ah,cR,b8,dB,fL,ej,dq,aD,c0,ef,h,rfl⟩:=h;obtain⟨k,rfl,e,l,f⟩:=h.ij;obtain⟨⟨dc,rfl,i,m⟩,j⟩:=e;exact⟨dc,_,_,_,_,_,h.bg,λa=>h.lk b B (by simp[a]),i,j,f,h.cL,h.kF,λa=>h.pK (by simp at a⊢;rcases a with a|a<;>simp[a]),λg d=>by simp at d⊢;rcases d with d|d<;>simp[d]⟩
def akA(h:h2 w b am ab c au aB ay ix ai aQ an)(ao:qo c aB ay):a0 C 22 #[aP b] w λae a=>ae=cT/\∃az dL,h2 a b az ab c au aB ay ix dL 0 ⟨an.cx,an.bd,[],an.cQ⟩/\dL<=ai/\bX am az w a:=by
 obtain⟨dc,g8,lr,hD,tu,zK,e,f,i,j,k,d,l,m,n⟩:=h.akz;apply(T9 e f i ao.SO j k d.nf d.n1 l m).bw;rintro ae a (⟨az,dL,rfl,o,p,q,_⟩|⟨az,cz,_,_,_,t,r,u⟩)
 ·exact⟨rfl,az,dL,o,p,q.qj n (λg s=>Y s)⟩
 ·have:=ao.BB t r;omega
def fR.BX{tv:Nat->Bool}{i:Nat->Nat->Bool}{dL ds:Nat}(h:fR w s b ci d6 bo ab c au aB ay al ai aQ an)(j:h2 a b eT ab c gg tv vy i dL ds dO)(d:bX ci eT w a):fR a s b eT d6 bo ab c gg tv vy i dL ds dO:=by have m:=h.bg.aL;have k:=h.im.aL l2;exact⟨j,h.bg.J d.J h.dG,h.oi,h.im.J l2 d.J h.eX.nc,λg l e=>(d.cq g l).elim (λf=>h.eX g f e) (λf=>by have:=k g e;omega),λe=>(d.cq s e).elim h.dG (λf=>A),h.vm,h.xO,h.o3⟩
def fR.jh(h:fR w s b ci d6 bo ab c au aB ay al ai aQ an)(e:aC a s 106 (aP b::[gy,gy,gy,gy].flatMap gn))(f:Q [s] w a):fR a s b ci [] [gy,gy,gy,gy] ab c au aB ay al ai aQ an:=
 ⟨h.hK.J f (λg i d=>h.dG (by simp only[ku]at d;exact d▸i)) (by simpa using h.o3),e,rfl,⟨[],[],rfl,bR.D _,wB _,[],[],rfl,bR.D _,wB _,[],[],rfl,bR.D _,wB _,[],[],rfl,bR.D _,wB _,rfl⟩,(by intro _ _ d;cases d),h.dG,B,B,h.o3⟩
end
structure vn where
 a5:Int
 wA:Int
 aR:Int
 cP:Int
 fO:Int
 c6:Int
 sM:S
 ch:S
def mY(x:vn):List S:=[F H x.a5,F H x.wA,F H x.aR,F H x.cP,F H x.fO,F hS x.c6,x.sM,x.ch]
def lm(x:vn):S:=b6 (mY x).toArray
section
variable{x:vn}
def vo(h:aC w jP ar (mY x)):(∀ac,aZ C (a4 3 (aE (E ⟨jP,0,I⟩))) w ac↔ac (F H x.a5))/\(∀ac,aZ C (a4 3 (aE (E ⟨jP,1,I⟩))) w ac↔ac (F H x.wA))/\(∀ac,aZ C (a4 3 (aE (E ⟨jP,2,I⟩))) w ac↔ac (F H x.aR))/\(∀ac,aZ C (a4 3 (aE (E ⟨jP,3,I⟩))) w ac↔ac (F H x.cP))/\(∀ac,aZ C (a4 3 (aE (E ⟨jP,4,I⟩))) w ac↔ac (F H x.fO))/\(∀ac,aZ C (a4 56 (aE (E ⟨jP,5,I⟩))) w ac↔ac (F hS x.c6))/\(∀ac,aZ C (a4 57 (aE (E ⟨jP,6,I⟩))) w ac↔ac x.sM)/\(∀ac,aZ C (a4 52 (aE (E ⟨jP,7,I⟩))) w ac↔ac x.ch):=
 ⟨λ_=>bl bZ (h.bh (af:=0)),λ_=>bl bZ (h.bh (af:=1)),λ_=>bl bZ (h.bh (af:=2)),λ_=>bl bZ (h.bh (af:=3)),λ_=>bl bZ (h.bh (af:=4)),λ_=>bl K2 (h.bh (af:=5)),λ_=>bl V8 (h.bh (af:=6)),λ_=>bl nb (h.bh (af:=7))⟩
def xP(h:fR w s b ci d6 bo ab c au aB ay al ai aQ an):∀ac,aZ C (a4 64 (aE (E ⟨s,0,I⟩))) w ac↔ac (aP b):=
 λ_=>bl (aa:=aP b) CQ (by rw[h.bg.bh (af:=0)];rfl)
def q6{b:Bool}{an:Prop}(h:b=G)(k:ct):eV (aK b) ct an:=cG.2 ⟨λ_=>k,λa=>by rw[h]at a;cases a⟩
def iY{b:Bool}{an:Prop}(h:b=U)(k:an):eV (aK b) ct an:=cG.2 ⟨λa=>absurd (h.symm.trans a) (by decide),λ_=>k⟩
def akB(h:fR w s b ci d6 bo ab c au aB ay al ai aQ an)(n:i<bo.length)(ao:xH c ay al cp)(r:aT w bs aa fT)(t:bo[i].a3.gE<=65535)(u:bo[i].a3.bG.length+fT.length<=2000)(v:bo[i].a3.eJ.length<=7000000)(x:an.cQ<=100000)(y:bo[i].a3.hB.length<=100000):
  a0 C 15 #[aP s,lm ⟨1,i,aoy,mB,lG,m3,uy,aa⟩] w λae a=>ae=aK G/\∃eT d dx,fR a s b eT d (bo.set i dx) ab c au aB ay al ai aQ (k4 cp (bo[i].a3.bG.length+fT.length) an {bo[i].a3 with bG:=bo[i].a3.bG++fT}).1/\dx.a3=(k4 cp (bo[i].a3.bG.length+fT.length) an {bo[i].a3 with bG:=bo[i].a3.bG++fT}).2/\f5 w a s ci d6 eT d:=by
 have aj:=h.oi;refine a9 rD 2 Tryz.func15 K rfl λa1 z=>?_;simp+decide only[↓a8,ba,rD,Tryz.f15];subst z;refine eA λax e o ak=>?_;have e:aC ax w.heap.size 59 (mY ⟨1,i,aoy,mB,lG,m3,uy,aa⟩):=by simpa[lm,bF]using e
 have p:=h.V o;try simp only[M,xP p]
 apply aH yl (zq p.hK);rintro _ _ ⟨rfl,rfl⟩;refine bT (λD a=>D=[]/\∃eT d dx,fR a s b eT d (bo.set i dx) ab c au aB ay al ai aQ (k4 cp (bo[i].a3.bG.length+fT.length) an {bo[i].a3 with bG:=bo[i].a3.bG++fT}).1/\dx.a3=(k4 cp (bo[i].a3.bG.length+fT.length) an {bo[i].a3 with bG:=bo[i].a3.bG++fT}).2/\f5 w a s ci d6 eT d) ?_ ?_
 ·obtain⟨q,f,J,L,Q,R,V,g⟩:=vo e;try simp only[M,q,f]
  refine q6 (by decide) (aH Gi JA ?_);rintro _ _ ⟨rfl,rfl⟩;rw[decide_eq_true A];try simp only[M]
  refine cG.2 ⟨λW=>(by cases W),λ_=>?_⟩;obtain⟨q,f,J,L,Q,R,V,g⟩:=vo (bD e);try simp only[M,f,g]
  apply(kc BV BW A).2;try simp only[M,g]
  have j:=o.R (cD [] ax) B;have X:=h.V j;obtain⟨bJ,ac,am,ad⟩:=X.wA n;have ap:=BU (bo:=bo) n;apply aH Xg (ake (iB:=1+i*4) ac A ao (r.V j) t u v x y);rintro _ af ⟨rfl,eT,dx,fy,ag,k,l⟩;obtain⟨d,m,ah⟩:=ad _ _ _ _ _ ag l;exact⟨by trivial,eT,d,dx,m,k,(f5.iu j).dP ah⟩
 rintro _ _ af ⟨rfl,eT,d,dx,m,k,l⟩;exact⟨rfl,eT,d,dx,m,k,l⟩
def akC(h:fR w s b ci d6 bo ab c au aB ay ix ai aQ an)(ao:qo c aB ay)(j:ai+17<=1152921504606846976)(k:an.cn.length<=16)(l:∀x∈bo,x.a3.eJ.length<=7500000)(m:∀x∈bo,x.a3.hB.length<=100000):
  a0 C 15 #[aP s,lm ⟨2,jb,aoy,mB,lG,m3,uy,pW⟩] w λae a=>ae=aK G/\∃eT d e gg dL,fR a s b eT d e ab c gg aB ay ix dL aQ (an.j0 c.aJ c.bd).1/\e.map (·.a3)=bo.map (λx=>((an.j0 c.aJ c.bd).2.foldl (λc t=>kH t c) x.a3).kL)/\f5 w a s ci d6 eT d/\dL<=ai+an.cn.length:=by
 refine a9 rD 2 Tryz.func15 K rfl λa1 n=>?_;simp+decide only[↓a8,ba,rD,Tryz.f15];subst n;refine eA λax f i A=>?_;have f:aC ax w.heap.size 59 (mY ⟨2,jb,aoy,mB,lG,m3,uy,pW⟩):=by simpa[lm,bF]using f
 have g:=h.V i;try simp only[M,xP g]
 apply aH yl (zq g.hK);rintro _ _ ⟨rfl,rfl⟩;refine bT (λo a=>o=[]/\∃eT d e gg dL,fR a s b eT d e ab c gg aB ay ix dL aQ (an.j0 c.aJ c.bd).1/\e.map (·.a3)=bo.map (λx=>((an.j0 c.aJ c.bd).2.foldl (λc t=>kH t c) x.a3).kL)/\f5 w a s ci d6 eT d/\dL<=ai+an.cn.length) ?_ ?_
 ·obtain⟨p,B,D,J,L,Q,R,V⟩:=vo f;try simp only[M,p]
  refine iY (by decide) (q6 (by decide) (aH Xh (akk g ao j k l m) ?_));rintro _ q ⟨rfl,eT,d,e,gg,dL,r,u,v,y⟩;exact⟨by trivial,eT,d,e,gg,dL,r,u,(f5.iu i).dP v,y⟩
 rintro _ _ q ⟨rfl,z⟩;exact⟨rfl,z⟩
def f5.de(h:bX ci eT w a):f5 w a s ci d6 eT d6:=⟨h.J.bw (λg b=>Y (by simp[b])),h.cq,λ_ h=>Y h⟩
def apQ(h:fR w s b ci d6 bo ab c au aB ay ix ai aQ an)(ao:qo c aB ay):
  a0 C 15 #[aP s,lm ⟨3,jb,aoy,mB,lG,m3,uy,pW⟩] w λae a=>ae=aK G/\∃eT,fR a s b eT d6 bo ab c au aB (s2 ay aB (xC c aQ)) ix ai ((aQ+1)%qq c) an/\f5 w a s ci d6 eT d6:=by
 refine a9 rD 2 Tryz.func15 K rfl λa1 i=>?_;simp+decide only[↓a8,ba,rD,Tryz.f15];subst i;refine eA λax e f p=>?_;have e:aC ax w.heap.size 59 (mY ⟨3,jb,aoy,mB,lG,m3,uy,pW⟩):=by simpa[lm,bF]using e
 have d:=h.V f;try simp only[M,xP d]
 apply aH yl (zq d.hK);rintro _ _ ⟨rfl,rfl⟩;refine bT (λj a=>j=[]/\∃eT,fR a s b eT d6 bo ab c au aB (s2 ay aB (xC c aQ)) ix ai ((aQ+1)%qq c) an/\f5 w a s ci d6 eT d6) ?_ ?_
 ·obtain⟨k,q,r,t,u,v,x,y⟩:=vo e;try simp only[M,k]
  refine iY (by decide) (iY (by decide) (q6 (by decide) ?_));try simp only[M,xP d]
  apply aH apL (amm d.hK ao);rintro _ l ⟨⟨n,rfl⟩,eT,m,g⟩;simp only[cV,cX];exact⟨by trivial,eT,d.BX m g,(f5.iu f).dP (.de g)⟩
 rintro _ _ l ⟨rfl,o⟩;exact⟨rfl,o⟩
def akD:C.built 104 (#[]:Array (Nat×S)).toList=E ([gy,gy,gy,gy].flatMap gn).toArray:=K
def akE(h:bo.length=4):(bo.flatMap gn).length=(b6 ([gy,gy,gy,gy].flatMap gn).toArray).cells.size:=by
 have:∀l:List i8,(l.flatMap gn).length=4*l.length:=by
  intro l;induction l with
  |nil=>rfl
  |cons ap l a=>rw[iA,di,a,Ud,gF];omega
 rw[this,h];rfl
def akF:∀ae∈([gy,gy,gy,gy].flatMap gn).toArray.toList,ae.oneCell'=G:=by have:(([gy,gy,gy,gy].flatMap gn).toArray.toList).all (λae=>ae.oneCell')=G:=rfl;exact pO.1 this
def akG(h:fR w s b ci d6 bo ab c au aB ay ix ai aQ an)(ao:qo c aB ay):
  a0 C 15 #[aP s,lm ⟨6,jb,aoy,mB,lG,m3,T I 0 0,pW⟩] w λae a=>ae=aK G/\∃eT dL,fR a s b eT [] [gy,gy,gy,gy] ab c au aB ay ix dL 0 ⟨an.cx,an.bd,[],an.cQ⟩/\dL<=ai/\f5 w a s ci d6 eT []:=by
 refine a9 rD 2 Tryz.func15 K rfl λa1 o=>?_;simp+decide only[↓a8,ba,rD,Tryz.f15];subst o;refine eA λax e i Q=>?_;have e:aC ax w.heap.size 59 (mY ⟨6,jb,aoy,mB,lG,m3,T I 0 0,pW⟩):=by simpa[lm,bF]using e
 have d:=h.V i;try simp only[M,xP d]
 apply aH yl (zq d.hK);rintro _ _ ⟨rfl,rfl⟩;refine bT (λp a=>p=[]/\∃eT dL,fR a s b eT [] [gy,gy,gy,gy] ab c au aB ay ix dL 0 ⟨an.cx,an.bd,[],an.cQ⟩/\dL<=ai/\f5 w a s ci d6 eT []) ?_ ?_
 ·obtain⟨q,R,V,W,X,aa,j,ac⟩:=vo e;try simp only[M,q,j]
  refine iY (by decide) (iY (by decide) (iY (by decide) (iY (by decide) (iY (by decide) (q6 (by decide) ?_)))));try simp only[M,j]
  obtain⟨dc,r,ad,t⟩:=d.hK.E8;apply aH Xj (r.aky);rintro _ k ⟨bJ,u,v⟩;obtain⟨x,y,l⟩:=t k bJ aB ay ix u v ao.mt;have f:=d.BX y l;apply(bY akD).2;try simp only[M]
  refine f0 (cv:=[aP b]) (c5:=bo.flatMap gn) (da:=[]) Wr (by simpa using f.bg) rfl (akE f.oi) rfl (by simp only[bF];exact akF) λz A m af=>?_;have g:fR z s b x [] [gy,gy,gy,gy] ab c au aB ay ix ai aQ an:=f.jh (by simpa[bF]using A) m;try simp only[M,xP g]
  apply aH Lr (akA g.hK ao);rintro _ ag ⟨rfl,eT,dL,D,J,n⟩;exact⟨by trivial,eT,dL,g.BX D n,J,(((f5.iu i).dP (.de l)).dP (.im m B)).dP (.de n)⟩
 rintro _ _ k ⟨rfl,L⟩;exact⟨rfl,L⟩
def akH(h:fR w s b ci d6 bo ab c au aB ay al ai aQ an)(o:i<c.aR)(p:c.aJ<=bV (λag=>!(aB ag||decide (ag=i))) c.aR):
  a0 C 15 #[aP s,lm ⟨7,jb,i,mB,lG,m3,uy,pW⟩] w λae a=>ae=aK G/\∃eT,fR a s b eT d6 bo ab c au (λag=>aB ag||decide (ag=i)) (o4 ay i) al ai aQ an/\f5 w a s ci d6 eT d6:=by
 refine a9 rD 2 Tryz.func15 K rfl λa1 q=>?_;simp+decide only[↓a8,ba,rD,Tryz.f15];subst q;refine eA λax e f B=>?_;have e:aC ax w.heap.size 59 (mY ⟨7,jb,i,mB,lG,m3,uy,pW⟩):=by simpa[lm,bF]using e
 have d:=h.V f;try simp only[M,xP d]
 apply aH yl (zq d.hK);rintro _ _ ⟨rfl,rfl⟩;refine bT (λD a=>False) ?_ ?_
 ·obtain⟨r,J,g,j,k,l,L,Q⟩:=vo e;try simp only[M,r,g,j,k,l]
  refine iY (by decide) (iY (by decide) (iY (by decide) (iY (by decide) (iY (by decide) (iY (by decide) (q6 (by decide) ?_))))));try simp only[M,g,j,k,l]
  obtain⟨dc,t,R,u⟩:=d.hK.E8;apply aH Xk (t.akt o);rintro _ m ⟨rfl,bJ,v,x⟩;obtain⟨y,z,n⟩:=u m bJ _ _ _ v x p;exact⟨rfl,y,d.BX z n,(f5.iu f).dP (.de n)⟩
 rintro _ _ m A;exact A.elim
def akI(h:fR w s b ci d6 bo ab c au aB ay al ai aQ an)(o:i<c.aR)(p:c.aJ<=bV (λag=>!(aB ag&&!decide (ag=i))) c.aR):
  a0 C 15 #[aP s,lm ⟨8,jb,i,mB,lG,m3,uy,pW⟩] w λae a=>ae=aK G/\∃eT,fR a s b eT d6 bo ab c au (λag=>aB ag&&!decide (ag=i)) (o4 ay i) al ai aQ an/\f5 w a s ci d6 eT d6:=by
 refine a9 rD 2 Tryz.func15 K rfl λa1 q=>?_;simp+decide only[↓a8,ba,rD,Tryz.f15];subst q;refine eA λax e f B=>?_;have e:aC ax w.heap.size 59 (mY ⟨8,jb,i,mB,lG,m3,uy,pW⟩):=by simpa[lm,bF]using e
 have d:=h.V f;try simp only[M,xP d]
 apply aH yl (zq d.hK);rintro _ _ ⟨rfl,rfl⟩;refine bT (λD a=>False) ?_ ?_
 ·obtain⟨r,J,g,j,k,l,L,Q⟩:=vo e;try simp only[M,r,g,j,k,l]
  refine iY (by decide) (iY (by decide) (iY (by decide) (iY (by decide) (iY (by decide) (iY (by decide) (iY (by decide) (q6 (by decide) ?_)))))));try simp only[M,g,j,k,l]
  obtain⟨dc,t,R,u⟩:=d.hK.E8;apply aH Xl (t.aku o);rintro _ m ⟨rfl,bJ,v,x⟩;obtain⟨y,z,n⟩:=u m bJ _ _ _ v x p;exact⟨rfl,y,d.BX z n,(f5.iu f).dP (.de n)⟩
 rintro _ _ m A;exact A.elim
def akJ{d aO:Nat}(h:fR w s b ci d6 bo ab c au aB ay ix ai aQ an)(p:i<c.aR)(q:t<c.e6)(r:d<=100)(u:1<=aO)(v:aO<=1000)(x:c.aJ<=bV (λag=>!aB ag) c.aR):
  a0 C 15 #[aP s,lm ⟨9,jb,i,t,d,aO,uy,pW⟩] w λae a=>(∃b,ae=aK b)/\∃eT,fR a s b eT d6 bo ab c au aB (sj ay i t) ix ai aQ an/\f5 w a s ci d6 eT d6:=by
 refine a9 rD 2 Tryz.func15 K rfl λa1 y=>?_;simp+decide only[↓a8,ba,rD,Tryz.f15];subst y;refine eA λax f g W=>?_;have f:aC ax w.heap.size 59 (mY ⟨9,jb,i,t,d,aO,uy,pW⟩):=by simpa[lm,bF]using f
 have e:=h.V g;try simp only[M,xP e]
 apply aH yl (zq e.hK);rintro _ _ ⟨rfl,rfl⟩;refine bT (λX a=>False) ?_ ?_
 ·obtain⟨z,aa,j,k,l,m,ac,ad⟩:=vo f;try simp only[M,z,j,k,l,m]
  refine iY (by decide) (iY (by decide) (iY (by decide) (iY (by decide) (iY (by decide) (iY (by decide) (iY (by decide) (iY (by decide) (q6 (by decide) ?_))))))));try simp only[M,j,k,l,m]
  obtain⟨dc,A,af,B⟩:=e.hK.E8;apply aH W6 (A.lg p q r u v);rintro _ n ⟨⟨D,rfl,_⟩,bJ,J,L⟩;obtain⟨Q,R,o⟩:=B n bJ _ _ _ J.akw L x;exact⟨⟨D,rfl⟩,Q,e.BX R o,(f5.iu g).dP (.de o)⟩
 rintro _ _ n V;exact V.elim
end
def mZ(d:dl):List UInt8:=ga d.ch.length++d.ch
def oj(l:List UInt8):er:=⟨l,0,[],[]⟩
def akK(l:List UInt8):(oj l).d4=oj l:=by simp[er.d4,oj]
def zB(n:Nat):(ga n).length=2:=rfl
def akL(h:n<65536):i7 (ga n++l)=n:=by simp[i7,ga];omega
def akM(n:Nat)(c:er):er.vk (n+1) c=if c.d4.bG.length<2 then(c.d4,I)else if i7 c.d4.bG<=1024 then
  (if c.d4.bG.length-2<i7 c.d4.bG then(c.d4,I)else({c.d4 with bG:=c.d4.bG.drop (2+i7 c.d4.bG)},E ((c.d4.bG.drop 2).take (i7 c.d4.bG))))
 else er.vk n (er.kG {c.d4 with bG:=c.d4.bG.drop 2,gE:=i7 c.d4.bG} ⟨0,11,0,0,[],[]⟩):=rfl
def UD(h:l.length<=1024):(oj (ga l.length++l)).il=(iy,E l):=by
 have a:(ga l.length++l).length=l.length+1+1:=by rw[di,zB];omega
 unfold er.il;rw[show(oj (ga l.length++l)).bG=ga l.length++l from rfl,a,akM,akK];rw[show(oj (ga l.length++l)).bG=ga l.length++l from rfl,akL A,if_neg A,if_pos h,if_neg A];have b:(ga l.length++l).drop (2+l.length)=[]:=List.drop_of_length_le A;have c:(ga l.length++l).drop 2=l:=by rw[<-zB l.length,List.drop_left]
 rw[b,c,j3];rfl
def akN{c:er}(al:c.bG=[])(a:c.gE=0):k4 cp n an c=(an,c):=by
 have b:c.il=(c,I):=by obtain⟨i,ah,af,d⟩:=c;simp only at al a;subst al a;rfl
 cases n with
 |zero=>show(an,c.il.1)=_;rw[b]
 |succ n=>rw[Jx,b]
def akO(a:d.bt=G)(b:d.ch.length<=1024)(e:1<=n):k4 cp n an (oj (mZ d))=match an.kV cp d with
  |(dO,E ad)=>(dO,iy.kG ad)
  |(dO,I)=>(dO,{iy with hB:=[an.cQ+1]}):=by
 obtain⟨n,rfl⟩:∃ak,n=ak+1:=⟨n-1,A⟩;have c:j2 cp an iy d.ch=match an.kV cp d with
  |(dO,E ad)=>(dO,iy.kG ad)
  |(dO,I)=>(dO,{iy with hB:=[an.cQ+1]}):=by
  unfold j2;rw[Pi a];rfl
 rw[Jx];unfold mZ;rw[UD b];simp only;rw[akN (by rw[(E5 _ _ _ _).1];rfl) (by rw[(E5 _ _ _ _).2];rfl),c]
def akQ(a:an.cn=[])(e:d.bt=G)(g:d.ch.length<=1024)(h:1<=n):
  ∃b,(k4 kn n an (oj (mZ d))).1.j0 k aX=((an.e7 k aX d).1,b)/\(b.foldl (λc t=>kH t c) (k4 kn n an (oj (mZ d))).2).kL=iy.kG (an.e7 k aX d).2/\(b.foldl (λc t=>kH t c) iy).kL=iy/\(k4 kn n an (oj (mZ d))).1.cn.length<=1/\(k4 kn n an (oj (mZ d))).1.cx=an.cx/\(k4 kn n an (oj (mZ d))).2.hB.length<=1/\(k4 kn n an (oj (mZ d))).2.eJ.length<=2673:=by
 rw[akO e g h];unfold cK.kV;rw[if_pos e];cases f:i3 d.a5 with
 |true=>
  rw[BR f];simp only[if_true];rw[if_neg (by rw[a];simp)];simp only[a,m2];rw[show({cx:=an.cx,bd:=an.bd,cn:=[(an.cQ+1,d)],cQ:=an.cQ+1}:cK)={an with cQ:=an.cQ+1,cn:=[(an.cQ+1,d)]}from rfl,T2 a];refine⟨_,rfl,?_,?_,B,by trivial,B,by simp[iy]⟩
  ·simp only[List.foldl_cons,List.foldl_nil];unfold kH;rw[if_pos B];rfl
  ·simp only[List.foldl_cons,List.foldl_nil];unfold kH;rw[if_neg (by simp[iy])];rfl
 |false=>
  rw[Jo f];simp only[fc,if_false];refine⟨[],?_,rfl,rfl,by simp[a],by trivial,by simp[er.kG,iy],by have:=BT (mi an.cx kn an.bd d);simp[er.kG,iy,ga];omega⟩;unfold cK.j0;rw[show({an with cQ:=an.cQ+1}:cK).cn=[]from a];rfl
end
end Go.Proofs.YtepeilglbedgdaaGreatDoor
namespace Go.Proofs.YtepeilglbedgdaaGreatDoor.c7
open Go.X
attribute[local irreducible]Go.X.W
variable{w:aN}{ak n:Nat}{ae:S}{ee:List l9}
def q7:kQ:=⟨0,0,0,0,T I 0 0,T I 0 0⟩
def UE(w:aN)(b:List UInt8)(ab:S)(a:aN):Prop:=Q [] w a/\match vH b with
 |bA ap=>∃x,ab=bQ #[je x,cT]/\ma a x ap/\nI w.heap.size x.pb/\nI w.heap.size x.mH
 |b5 e=>ab=bQ #[je q7,hQ e]
def JD:C.built 37 (#[]:Array (Nat×S)).toList=E (eb q7).toArray:=K
def akR{d b c ag:Int}{ah:Option es}:C.built 37 #[(0,F H d),(1,F H b),(2,F H c),(3,F H ag),(4,T ah n ak)].toList=E (eb ⟨d,b,c,ag,T ah n ak,T I 0 0⟩).toArray:=K
def akS{d b c ag e aj:e3}(h:lZ w ee [d,b,c,ag,e,aj]):∃f e9 g i j k,ee=[f,e9,g,i,j,k]/\jE w f d/\jE w e9 b/\jE w g c/\jE w i ag/\jE w j e/\jE w k aj:=by obtain⟨l,a⟩:=h;rcases ee with _|⟨f,_|⟨e9,_|⟨g,_|⟨i,_|⟨j,_|⟨k,_|⟨ap,bm⟩⟩⟩⟩⟩⟩⟩<;>simp at l;exact⟨f,e9,g,i,j,k,rfl,a 0 _ _ rfl rfl,a 1 _ _ rfl rfl,a 2 _ _ rfl rfl,a 3 _ _ rfl rfl,a 4 _ _ rfl rfl,a 5 _ _ rfl rfl⟩
def akT{b:List UInt8}(bH:aT w bs ae b)(bI:b.length<=4611686018427387904):a0 C 125 #[ae] w λab a=>UE w b ab a:=by
 refine a9 M1 1 Tryz.func125 K rfl λa1 bJ=>?_;simp+decide only[↓a8,ba,M1,Tryz.f125];subst bJ;refine gI CX λaA bK bL cY=>?_;have bM:aC aA w.heap.size 37 (eb q7):=bK;generalize cZ:w.heap.size=an at*;apply aH Gs IH;rintro c0 ax ⟨bR,aL⟩;have aM:Q [] w ax:=bL.R aL B;apply aH Db (EK bR Je (by simp[lc]) (bH.V aM) bI);rintro c2 f ⟨bc,l⟩;have ay:Q [] w f:=aM.R bc B;have aO:aC f an 37 (eb q7):=(bM.J aL B).J bc B;have dN:∀(e:ex)(a:aN),Q [] w a->aC a an 37 (eb q7)->vH b=b5 (.d2 w5 0 e)->
   W C (ck 59 #[(bO (eS #[114,101,112,108,121,46,71,101,116])),(F H 0),hQ e]) a λbT bU=>
   W C (dC 37 (aE (E ⟨an,0,I⟩)) (b6 (eb q7).toArray)) bU λ_ bd=>
   aZ C (a4 37 (aE (E ⟨an,0,I⟩))) bd λbV=>o5 (λab a=>UE w b ab a) (gd (bQ #[bV,bT])) bd:=by
  intro e a bW bX o;apply aH nz Dm;rintro _ _ ⟨rfl,rfl⟩;refine f0 (cv:=[]) (c5:=eb q7) (da:=[]) yf bX rfl rfl rfl (by intro ae u;simp[eb,q7,bF]at u;rcases u with rfl|rfl<;>rfl) λp aP aQ be=>?_;obtain⟨c3,c4,c6,c7,c8,db,b0⟩:=hJ (x:=q7) (by simpa[bF]using aP);simp only[b0];refine⟨bW.R aQ (by simp;omega),?_⟩;rw[o];rfl
 cases y:mG lc b with
 |error ai=>
  obtain⟨i,k⟩:=ai;rw[y]at l;subst l;simp only[cV,cX];apply(rz dk).2;simp only[M];exact(bY JD).2 (dN (.d2 vG i (.dD k)) f ay aO (by unfold vH;rw[y]))
 |ok aF=>
  rw[y]at l;obtain⟨af,ee,rfl,v,b1,dc,bf,dd⟩:=l;obtain⟨d,bg,c,ag,e,aj,rfl⟩:∃d b c ag e aj,aF=[d,b,c,ag,e,aj]:=by have b2:=KM y;rcases aF with _|⟨aR,_|⟨e9,_|⟨aS,_|⟨aU,_|⟨R,_|⟨aV,_|⟨ap,bm⟩⟩⟩⟩⟩⟩⟩<;>simp[lc]at b2;exact⟨_,_,_,_,_,_,rfl⟩
  have bh:=FL (Ah y).1;have b3:=KP (Ah y).1;obtain⟨aR,e9,aS,aU,R,aV,rfl,b7,cR,cC,b8,aW,aX⟩:=akS b1;simp only[cV,cX];apply(fp dk).2;simp only[M];obtain⟨de,df,rfl,dg,b9⟩:=v;obtain⟨q,ca,rfl,cb⟩:=b9.resolve_left B;have cell:∀{a:aN},Q [] f a->fu a q ca ([aR,e9,aS,aU,R,aV].flatMap fA):=λm=>cb.J m B;have V:Q [] f f.drew:=ob;apply(sB rC tM A B).2;simp only[M,Int.reduceToNat,Nat.reduceMul,Nat.zero_mul];refine(bl bZ (la (cell V) (j:=0) rfl)).2 ((sB rC tM A B).2 ?_);simp only[M,Int.reduceToNat,Nat.reduceMul];refine(bl bZ (la (cell V) (j:=3) rfl)).2 ((sB rC tM A B).2 ?_);simp only[M,Int.reduceToNat,Nat.reduceMul];refine(bl bZ (la (cell V) (j:=6) rfl)).2 ((sB rC tM A B).2 ?_);simp only[M,Int.reduceToNat,Nat.reduceMul];refine(bl bZ (la (cell V) (j:=9) rfl)).2 ((sB rC tM A B).2 ?_);simp only[M,Int.reduceToNat,Nat.reduceMul];apply(bl mc (la (cell V) (j:=14) rfl)).2;obtain⟨dh,dj,bj,dl,dm⟩:=aW.2.2;obtain⟨a1,X⟩:∃a1:kQ,a1=⟨aR.aR,e9.aR,aS.aR,aU.aR,R.jq,T I 0 0⟩:=⟨_,rfl⟩;refine(bY (gT:=(eb a1).toArray) (by rw[X,bj];exact akR)).2 (gI CX λcc cf cg ch=>?_);have ac:Q [] f cc:=V.R cg B;refine(dz mc (la (cell ac) (j:=14) rfl)).2 ((dz bZ (la (cell ac) (j:=9) rfl)).2 ((dz bZ (la (cell ac) (j:=6) rfl)).2 ((dz bZ (la (cell ac) (j:=3) rfl)).2 ((dz bZ (la (cell ac) (j:=0) rfl)).2 ?_))));have ci:∀ae∈eb a1,ae.oneCell'=G:=by rw[X];intro ae u;simp[eb]at u;rcases u with rfl|rfl|rfl|rfl|rfl|rfl<;>first|rfl|(rw[bj];rfl)
  refine f0 (cv:=[]) (c5:=eb q7) (da:=[]) yf cf rfl rfl rfl ci λp aP aQ be=>?_;have bk:aC p f.heap.size 37 (eb a1):=by simpa[bF]using aP
  have au:Q [] f p:=(ac.R aQ (by intro k m;simp at m;subst m;exact Z (fF _)));have bn:Q [] w p:=ay.R au B;have dp:an<f.heap.size:=aO.aL;have cj:aC p an 37 (eb q7):=aO.J au B;have dq:p.heap.size=f.heap.size+1:=by rw[be,ch];rfl
  rw[show f.drew.heap.size=f.heap.size from rfl];generalize dr:f.heap.size=cE at*;apply(sB rC tM A B).2;simp only[M,Int.reduceToNat,Nat.reduceMul];apply(bl mc (la (cell au) (j:=17) rfl)).2;obtain⟨bo,bp,br,ds,dt⟩:=aX.2.2;have bt:aT p dV aV.jq aj.df:=aX.2.2.V au;have du:=bh aj B;have bu:=b3 aj B;have dv:=bh e B;rw[br]at bt⊢;simp only[M];have aY:vH b=if aj.df.any (λs=>decide (s.size<8))then b5 (.d2 w5 0 (.dD 2))else(let ab:dn:=⟨d.aR,bg.aR,c.aR,ag.aR,e.df,aj.df.map pc⟩;if ab.bt then bA ab else b5 (.d2 w5 0 (.dD 2))):=by unfold vH;rw[y]
  refine c1 (λa2 a=>∃(i:Nat)(cB:S)(am:List Nat),a2=[F H i]/\i<=aj.df.length/\(∀s∈aj.df.take i,8<=s.size)/\bP a 70 2 cB i (((aj.df.take i).map pc).flatMap hX) am/\(∀g∈am,cE+1<=g)/\cB.oneCell'=G/\aC a cE 37 (eb {a1 with mH:=cB})/\
    aC a an 37 (eb q7)/\Q [cE] p a/\Q [] w a/\cE+1<=a.heap.size)
   (λa2 _=>match a2 with|[F _ i]=>aj.df.length-i.toNat|_=>0) ⟨0,T I 0 0,[],rfl,A,B,gJ _ _ _,B,rfl,by rw[X]at bk⊢;exact bk,cj,Q.b0 _ _,bn,A⟩ ?_
  rintro _ _ r ⟨i,cB,am,rfl,al,a3,v,z,dw,ad,aB,a5,a6,dx⟩;simp only[M,bi];have cm:aT f dV (T bo aj.df.length bp) aj.df:=by rw[<-br];exact aX.2.2
  have cn:aT r dV (T bo aj.df.length bp) aj.df:=ID.s1 cm bt a5 (by simp;omega);refine⟨λdy=>?_,λdB=>?_⟩
  ·have aq:i<aj.df.length:=A;apply(Iy.ek cn (Q.b0 _ _) aq).2;have dD:=bu _ (dX aq);simp only[rv s0,M,bi];refine⟨λdE=>?_,λdF=>?_⟩
   ·apply(bY JD).2;simp only[hk hY];apply dN (.dD 2) r a6 aB;rw[aY,if_pos];exact List.any_eq_true.2 ⟨_,dX aq,decide_eq_true (show(aj.df[i]).size<8 by omega)⟩
   ·have bv:8<=(aj.df[i]).size:=A;have bw:Q [] r r.drew:=ob;obtain⟨cp,cq,cs,ct,cu,bx,bz⟩:=hJ (ad.J bw B);simp only[bx];apply aH Yw (ag4 bv A);rintro _ aD ⟨rfl,D⟩;have bB:Q [] r aD:=bw.R D B;refine(dz FQ (aa:=cB) ((ad.J bB B).bh (af:=5))).2 (hw C3 [qP (pc aj.df[i])] rfl rfl (by simp[qP,hX,bF]) A A λaG a7 av cw=>?_);have J:Q [] r aG:=bB.R av B;have dG:=J.aI;apply(dz FQ (aa:=cB) ((ad.J J B).bh (af:=5))).2;have cx:fu aG aD.heap.size 0 ([pc aj.df[i]].flatMap hX):=by have:=a7.cy;simpa[qP,bF]using this
    refine m8 (ak:=1) C3 (v.J J B) cx rfl (by intro ae u;simp at u;exact Ae _ ae u) A (by unfold d0;omega) A λtw cd az cy aw cz bC=>?_;have dH:=aw.aI;have bD:∀g∈az,cE+1<=g:=λg l=>(cz g l).elim (z g) (λh=>A);have cA:aC cd cE 37 (eb {a1 with mH:=cB}):=(ad.J J B).J aw (λt=>by have:=z _ t;omega);refine eK K1 cA (by simp[eb]) bC λdK cD aI dL=>?_;rw[bq A A];have cF:∀g∈am,g∈[cE]\/p.heap.size<=g:=λg l=>Z (by have:=z g l;omega);refine⟨⟨i+1,tw,az,rfl,aq,?_,?_,bD,bC,by simpa[eb]using cD,((aB.J J B).J aw (λt=>by have:=z _ t;omega)).J aI (by simp;omega),((a5.R J B).R aw cF).R aI B,((a6.R J B).R aw (λg l=>Z (by have:=z g l;have:=bn.aI;omega))).R aI (by intro k m;simp at m;subst m;exact Z (by have:=ay.aI;omega)),A⟩,A⟩
    ·intro s ao;rw[jO aq]at ao;rcases b4.1 ao with ao|ao
     ·exact a3 s ao
     ·simp at ao;subst ao;exact bv
    ·rw[jO aq,g6,hL];exact cy.J aI (λg l t=>by have:=bD g l;simp at t;omega)
  ·obtain rfl:i=aj.df.length:=A;rw[j3]at v a3;have cH:(aj.df.any λs=>decide (s.size<8))=U:=by rw[List.any_eq_false];intro s ao;have:=a3 s ao;simp;omega
   rw[cH,if_neg B]at aY;obtain⟨ap,aJ⟩:∃ap:dn,ap=⟨d.aR,bg.aR,c.aR,ag.aR,e.df,aj.df.map pc⟩:=⟨_,rfl⟩;have bE:vH b=if ap.bt then bA ap else b5 (.d2 w5 0 (.dD 2)):=by rw[aY,aJ]
   have cI:aT r hX cB (aj.df.map pc):=by rw[show aj.df.length=(aj.df.map pc).length by simp]at v;exact v.eF CK A
   have cJ:aT r dV R.jq e.df:=ID.s1 aW.2.2 (aW.2.2.V au) a5 (by simp;omega);have bb:ma r {a1 with mH:=cB} ap:=by subst aJ;subst X;exact⟨b7.1,cR.1,cC.1,b8.1,cJ,cI⟩
   have cK:vd ap:=by subst aJ;refine⟨by show e.df.length<=_;omega,by show(aj.df.map pc).length<=_;rw[dU];omega,λah cL=>?_⟩;obtain⟨s,ao,rfl⟩:=fS.1 cL;have:=bu s ao;show(s.extract 8 s.size).size<=_;rw[ByteArray.size_extract];omega
   obtain⟨cp,cq,cs,ct,cu,bx,bz⟩:=hJ ad;simp only[bz];apply aH LT (TF bb cK);rintro _ aD ⟨rfl,D⟩;have bG:=a6.R D B;simp only[M,cG];refine⟨λcM=>?_,λcO=>?_⟩
   ·apply(bY JD).2;simp only[hk hY];apply dN (.dD 2) aD bG (aB.J D B);rw[bE,if_neg (by simpa using cM)]
   ·obtain⟨dM,dO,dP,dQ,dR,dS,cP⟩:=hJ (ad.J D B);simp only[cP];refine f0 (cv:=[]) (c5:=eb q7) (da:=[]) yf (aB.J D B) rfl rfl rfl bb.aW λaG a7 av cw=>?_;have cQ:aC aG an 37 (eb {a1 with mH:=cB}):=by simpa[je,bF]using a7
    obtain⟨dT,dW,dY,dZ,d1,d2,cS⟩:=hJ cQ;simp only[cS];refine⟨bG.R av (by intro k m;simp at m;subst m;exact Z A),?_⟩;rw[bE,if_pos (by simpa using cO)];have ar:=bb.V D;refine⟨_,rfl,⟨ar.dF,ar.iE,ar.cu,ar.cS,?_,?_⟩,?_,?_⟩
    ·subst X;subst aJ;refine ar.gj.J av (λq af n L o t=>?_);simp at t;have cU:=bf R B q af n L o;have cW:=aL.aI;omega
    ·exact ar.dY.J av (λq af n L o t=>by
      simp at t;have:=z _ (v.rt q af n L o);omega)
    ·subst X;intro q af n L o;have cU:=bf R B q af n L o;have cW:=aM.aI;omega
    ·intro q af n L o;have:=z _ (v.rt q af n L o);have:=ay.aI;omega
end Go.Proofs.YtepeilglbedgdaaGreatDoor.c7
namespace Go.Proofs.YtepeilglbedgdaaGreatDoor
open Go.X
attribute[local irreducible]Go.X.W
variable{am bU ci d6 eT fy:List Nat}{a ax bv w:aN}{aQ aX ab ai ak b bu i k n s:Nat}{aB cp dN:Nat -> Bool}{aa bc:S}{ac:S -> aN -> Prop}{al ay:Nat -> Nat -> Bool}{an:cK}{au:eW}{bo:List i8}{c:dR}{d:dl}{l:List UInt8}{ri:List er}
section
open Go.RowKit fC gO
def akU{ah:Int×ByteArray}(b:0<=ah.1)(c:ah.1<=9223372036854775807):pc (lL ah)=ah:=by
 obtain⟨d,s⟩:=ah;obtain⟨n,rfl⟩:=nL b;have a:eO (lL ((n:Int),s))=eU n 8++eO s:=by unfold lL h7 eO;rw[ByteArray.data_append,Array.toList_append]
 unfold pc;rw[a,List.take_left' (jp _ _),uP 8 n (by simp at c;omega),bq A A];congr 1;apply ByteArray.ext;apply Array.toList_inj.1;have e:(lL ((n:Int),s)).size=8+s.size:=AF _;have f:(lL ((n:Int),s)).data.toList=eU n 8++eO s:=a;simp only[ByteArray.data_extract,Array.toList_extract];rw[List.extract_eq_take_drop,f,List.drop_left' (jp _ _),e,mv (by rw[oy];omega)];rfl
def zC(ab:dn):Prop:=∀ah∈ab.dY,ah.1<=9223372036854775807
def akV{ab:dn}(h:ab.bt=G)(b:zC ab):vH ab.ch=bA ab:=by
 obtain⟨fT,c,d⟩:=c7.TG h;have e:=Dq c7.Je c;have f:=((Ds ab).1 h);unfold vH;rw[d,e];have g:(List.any (ab.dY.map lL) λs=>decide (s.size<8))=U:=by rw[List.any_eq_false];intro s ao;obtain⟨ah,a,rfl⟩:=fS.1 ao;rw[AF];simp
 have i:(ab.dY.map lL).map pc=ab.dY:=by rw[ts];refine(amO (λah a=>?_)).trans (List.map_id _);exact akU (f.2 ah a) (b ah a)
 simp only[dn.h8];rw[g,i];simp only[fc,if_false];exact if_pos h
section
variable{ad:dn}
def akW(c:Q [] bv w)(d:n<65536)(k:∀ae a,ql bv a ae (ga n)->Q [] w a->ac ae a):W C (jR 52 2 #[(0,F cl ((n:Int)%256)),(1,F cl ((n:Int)/256%256))]) w ac:=
 hw ky [F cl ((n:Int)%256),F cl ((n:Int)/256%256)] rfl rfl (by intro aa b;simp at b;rcases b with rfl|rfl<;>rfl) A A λa e f _=>k _ _ ⟨[w.heap.size],by
  rw[Sb d];exact x5 (n:=2) (by simpa[bF]using e) rfl (by decide),by simpa using c.aI⟩ f
def akX(h:aT w Go.X.dV bc d.bk.a7)(ao:qt d)(u:d.ch.length<=60000):a0 C 29 #[ho d bc] w λae a=>aT a bs ae (mZ d)/\Q [] w a/\gx w.heap.size ae:=by
 refine a9 .D 1 Tryz.func29 K rfl λa1 i=>?_;simp+decide only[↓a8,ba,Tryz.f29];subst i;refine sf λaA j b v=>?_;obtain⟨x,y,z,D,J,L,R,V,W,aa,ab,k⟩:=gc j;try simp only[M,k]
 apply aH Xt (aiX (h.V b) ao);rintro b1 ax ⟨ac,l,ad,m⟩;have c:Q [] w ax:=b.R m B;unfold mZ;generalize d.ch=hs at*;have e:=(l.eF e2 A);obtain⟨af,ag,o,ah,_⟩:=id e;subst o;try simp only[M]
 refine(fv kd oE).2 ((nS A).2 ((fv kd oE).2 ?_));have p:∀n:Nat,((n:Nat):Int)/2^min (8:Int).toNat H.bits=(n:Int)/256:=λ_=>rfl
 rw[p];simp only[X.pa];refine akW c A λai aj q f=>Bt q (c.R f B) (e.V f) (by simp[ga];omega) λdd ak r s=>?_;obtain⟨aD,g,t⟩:=r;exact⟨g.eF e2 A,s,gx.c4 g t⟩
def akY(h:aT w bs aa l):∃aO,hp w aO bs aa l:=by
 obtain⟨d,c,rfl,e,a⟩:=id h;rcases a with rfl|⟨b,af,rfl,_⟩
 ·exact⟨[],h,Y rfl⟩
 ·exact⟨[b],h,Z ⟨b,af,c,rfl,B⟩⟩
def JE(n:Nat)(a:aN)(ad:dn)(ae:S):Prop:=∃fz bM af c,ae=T (E ⟨bM,af,I⟩) 1 c/\fu a bM af (eb fz)/\ma a fz ad/\gx n fz.pb/\gx n fz.mH
def akZ(ac:aT w bs aa (ga ad.ch.length++ad.ch))(ag:ad.bt=G)(ah:zC ad):a0 C 75 #[aa] w λae a=>Q [] w a/\∃cB,ae=bQ #[cB,aK G]/\JE w.heap.size a ad cB:=by
 have aj:=akV ag ah;have aL:=BT ad;have aM:(ga ad.ch.length++ad.ch).length=ad.ch.length+2:=by rw[di,zB];omega
 have s:(ga ad.ch.length++ad.ch).getD 0 0=ed ad.ch.length:=by simp[ga]
 have t:(ga ad.ch.length++ad.ch).getD 1 0=ed (ad.ch.length/256):=by simp[ga]
 have ak:(ga ad.ch.length++ad.ch).drop 2=ad.ch:=by rw[<-zB ad.ch.length,List.drop_left]
 generalize ga ad.ch.length++ad.ch=e at*;generalize ad.ch=hs at*;refine a9 MC 1 Tryz.func75 K rfl λa1 al=>?_;simp+decide only[↓a8,ba,MC,Tryz.f75];subst al;apply c1 (λf a=>Q [] w a/\((f=[aa,T I 0 0])\/∃d c cB,f=[T d 0 c,cB]/\JE w.heap.size a ad cB)) (λf _=>match f with|[T _ n _,_]=>n|_=>0) ⟨.b0 _ _,Y rfl⟩;rintro f _ ax ⟨h,(rfl|⟨d,c,cB,rfl,am⟩)⟩
 ·obtain⟨aO,m⟩:=akY (ac.V h);obtain⟨aP,aQ,an,aR,_⟩:=id m.1;subst an;try simp only[M,bi]
  refine⟨λu=>?_,λv=>A⟩;try simp only[M,bi]
  refine⟨λu=>A,λv=>?_⟩;have o:=m.J (cD [] ax) (bR.D _);refine(E2.ek o.1 (Q.b0 _ _) (i:=0) A).2 (vc.2 ((E2.ek o.1 (Q.b0 _ _) (i:=1) A).2 (vc.2 ((BN (j:=8) (ai:=hr) (by have:=(e[0]).toNat_lt;omega) A).2 ?_))));have ao:(e[0]'A).toNat+(e[1]'A).toNat*2^8=hs.length:=by rw[iI A]at s t;rw[s,t,mx,mx];omega
  rw[ao];try simp only[M]
  rw[show H.wrap ((e.length:Int)-2)=(e.length:Int)-2 from bq A A];try simp only[M,bi]
  refine⟨λu=>A,λv=>?_⟩;rw[show H.wrap (2+(hs.length:Int))=((2+hs.length:Nat):Int)from by rw[bq A A];omega];refine Uh (i:=2) (j:=2+hs.length) o A A λb1 y=>?_;rw[ak,show 2+hs.length-2=hs.length by omega,j3]at y;apply aH X1 (c7.akT y.1 A);rintro ab ap ⟨aq,z⟩;rw[aj]at z;obtain⟨fz,rfl,l,p,q⟩:=z;have p:gx ax.heap.size fz.pb:=p;have q:gx ax.heap.size fz.mH:=q;simp only[cV,cX];refine qv λaS ar au aU=>mW (x:=fz) ar l.gj.aW l.dY.aW λb av aw aV=>?_;have D:Q [] ap b:=au.R aw B;refine(fp dk).2 (cG.2 ⟨λr=>(by cases r),λ_=>?_⟩);apply((c7.hJ (bD av)).2.2.2.2.2.2 _).2;try simp only[M]
  have J:Q [] ax b.drew:=(((cD [] ax).R aq B).R D B).R (cD [] b) B;refine BS (k:=2+hs.length) (m.J J (bR.D _)) A λae L=>?_;rw[List.drop_of_length_le A]at L;obtain⟨ay,az,rfl,_⟩:=L.1;have aA:=(l.V D).V (cD [] b);refine hw Ll [je fz] rfl rfl (by intro bm R;simp at R;subst R;rfl) A A λaB aC aD aW=>?_;have aF:fu aB b.drew.heap.size 0 (eb fz):=by have:=aC.cy;simpa[je,bF]using this
  refine m8 Ll (gJ _ _ _) aF rfl l.aW A (by unfold d0;omega) A λuy V aX W aG aY aZ=>?_;have X:Q [] b.drew V:=aD.R aG B;have aI:Q [] w V:=(h.R J B).R X B;obtain⟨g,af,aJ,rfl,a2⟩:=W.gm A;refine⟨⟨aI,Z ⟨ay,az,_,rfl,fz,g,af,aJ,rfl,by simpa using W.fO.2,aA.V X,p.bw h.aI,q.bw h.aI⟩⟩,by simp;omega⟩
 ·try simp only[M,bi]
  exact⟨λr=>by simp at r,λ_=>⟨h,cB,rfl,am⟩⟩
end
section
variable{s:c3}{t:ByteArray}{av:ji}
def UF{gG:Int}:∀{ao:List gZ}{dj:Nat}{dM l:List (Int×ByteArray)},rI av cp gG dj dM ao=E l->∀ah∈l,ah∈dM\/∃h∈ao,ah.1=h.cu
 |[],dj,dM,l,h=>by cases h;exactλah a=>Y a
 |ap::ao,dj,dM,l,h=>by
  rw[BP]at h;cases c:pp av cp ap with
  |none=>
   rw[c]at h;simp only at h;split at h
   ·cases h
   ·cases h;exactλah a=>Y a
  |some ag=>
   rw[c]at h;simp only at h;split at h
   ·cases h;exactλah a=>Y a
   ·intro ah a;rcases UF h ah a with b|⟨bm,d,e⟩
    ·rcases b4.1 b with b|b
     ·exact Y b
     ·exact Z ⟨ap,B,by rw[ku.1 b]⟩
    ·exact Z ⟨bm,by simp[d],e⟩
def ak0(f:an.bp aX)(g:aX<=64):zC (an.e7 k aX d).2:=by
 have c:∀{ad:dn},ad.dY=[]->zC ad:=λh ah a=>by rw[h]at a;cases a
 unfold cK.e7;split
 ·exact c ajB.2
 ·show zC (mi an.cx kn an.bd d);unfold mi;split
  ·exact c rfl
  ·split
   ·exact c rfl
   ·rename_i ah a;have a:=((f.bd g).aP a).dw;split
    ·split<;>exact c rfl
    ·split
     ·exact c rfl
     ·unfold mO;split
      ·split
       ·exact c rfl
       ·rename_i i _ l j;intro ai m;rcases UF j ai m with n|⟨bm,b,e⟩
        ·cases n
        ·have b:=List.mem_of_mem_take b;unfold eI.jd at b;rw[if_pos i]at b;have b:=tr b;have o:=a.oG.AB b;have p:=a.oG.1 bm b;have q:=a.vR;omega
      ·exact c rfl
end
def ak1(b:d.bt=G):d.ch.length<=610:=by
 unfold dl.ch;rw[if_pos b];have f:d.pl.length=6:=by simp[dl.pl,jp]
 rw[di,f];cases c:i3 d.a5 with
 |true=>
  have e:=tU b c;have g:=DE e;have h:=(eG.qT e).1;simp only[if_true,e8];rw[h,gF];have j:d.c2.a5=d.a5:=rfl;omega
 |false=>
  have a:=Pm b c;have g:=Pl a;unfold dl.p6 at a;rw[dA,dA,dA]at a;have i:=yz (vU _) (sL d) ((xc (vU _) (sL _)).1 a.1.1.2);simp only[fc,if_false];rw[i];simp only[Af];omega
structure kq(w:aN)(s:Nat)(am:List Nat)(c:dR)(dN:Nat->Bool)(bu:Nat)(an:cK)(ri:List er):Prop where
 gm:∃b ci d6 bo ab au aB ay ai aQ,fR w s b ci d6 bo ab c au aB ay ix ai aQ an/\bo.map (·.a3)=ri/\am=s::(ci++d6)/\(∀ag,ag<c.aR->dN ag=U->aB ag=U/\∀t,ay ag t=G)/\ai<=bu
 n1:c.aJ<=bV (λag=>!dN ag) c.aR
def q8:List er:=[iy,iy,iy,iy]
section
variable{ad:dn}
def JF(e:c.bp)(f:c.aJ<=bV (λag=>!dN ag) c.aR)(d:∀ag,ag<c.aR->dN ag=U->aB ag=U/\∀t,ay ag t=G):qo c aB ay:=by have bz:∀(g:Nat->Bool),(∀ag,ag<c.aR->dN ag=U->g ag=G)->c.aJ<=bV g c.aR:=λg h=>gz f (r4 λag a b=>h ag a (by simpa using b));have k:=e.kh;exact⟨bz _ λag a b=>(d ag a b).2 0,λj i _ _=>iL A (bz _ λag a b=>(d ag a b).2 _),λt _=>bz _ λag a b=>(d ag a b).2 _,bz _ λag a b=>by simp[(d ag a b).1]⟩
def fR.aL(h:fR w s b ci d6 bo ab c au aB ay al ai aQ an):∀g∈s::(ci++d6),g<w.heap.size:=by
 intro g a;rcases ce.1 a with rfl|a
 ·exact h.bg.aL
 ·rcases b4.1 a with a|a
  ·exact h.hK.aL g a
  ·exact h.im.aL l2 g a
def fR.J(h:fR w s b ci d6 bo ab c au aB ay al ai aQ an)(d:Q bU w a)(e:bR (s::(ci++d6)) bU)(i:0∉bU):fR a s b ci d6 bo ab c au aB ay al ai aQ an:=
 ⟨h.hK.J d (λg f=>e g (by simp[f])) i,h.bg.J d (e s B),h.oi,h.im.J l2 d (λg f=>e g (by simp[f])),h.eX,h.dG,h.vm,h.xO,h.o3⟩
def kq.aL(h:kq w s am c dN bu an ri):∀g∈am,g<w.heap.size:=by obtain⟨⟨b,ci,d6,bo,ab,au,aB,ay,ai,aQ,a,_,rfl,_⟩,_⟩:=h;exact a.aL
def kq.J(h:kq w s am c dN bu an ri)(d:Q bU w a)(e:bR am bU)(f:0∉bU):kq a s am c dN bu an ri:=by obtain⟨⟨b,ci,d6,bo,ab,au,aB,ay,ai,aQ,g,i,rfl,j⟩,k⟩:=h;exact⟨⟨b,ci,d6,bo,ab,au,aB,ay,ai,aQ,g.J d e f,i,rfl,j⟩,k⟩
def kq.V(h:kq w s am c dN bu an ri)(b:Q [] w a):kq a s am c dN bu an ri:=h.J b (bR.D _) B
def kq.pM(h:kq w s am c dN bu an ri):jf w:=by obtain⟨⟨b,ci,d6,bo,ab,au,aB,ay,ai,aQ,a,d,rfl,e⟩,f⟩:=h;exact a.pM
def fR.ak2(h:fR w s b ci d6 bo ab c au aB ay al ai aQ an):an.bp c.bd/\c.bp:=by obtain⟨ah,cR,b8,dB,fL,ej,dq,aD,c0,ef,a,_⟩:=h.hK;exact⟨a.cL,a.ij.ij.cL.1⟩
def kq.cL(h:kq w s am c dN bu an ri):an.bp c.bd/\c.bp:=by obtain⟨⟨b,ci,d6,bo,ab,au,aB,ay,ai,aQ,a,d,rfl,e⟩,f⟩:=h;exact a.ak2
def f5.xQ(h:f5 w a s ci d6 eT fy):bX (s::(ci++d6)) (s::(eT++fy)) w a:=
 ⟨h.J,λg b=>by
  rcases ce.1 b with rfl|b
  ·exact Y B
  ·rcases b4.1 b with b|b
   ·exact(h.wz g b).imp (λc=>by simp[c]) id
   ·exact(h.nj g b).imp (λc=>by simp[c]) id⟩
def ak3(h:fR w s b ci d6 bo ab c au aB ay al ai aQ an)(e:i<bo.length)(f:bo[i].a3.eJ=ga ad.ch.length++ad.ch)(o:ad.bt=G)(p:zC ad):
  a0 C 37 #[aP s,F H i] w λae a=>∃dE dx d,w.heap.size<=dE/\JE dE a ad ae/\fR a s b ci d (bo.set i dx) ab c au aB ay al ai aQ an/\dx.a3={bo[i].a3 with eJ:=[]}/\f5 w a s ci d6 ci d/\∀g∈s::(ci++d),g<dE:=by
 have z:=BT ad;have B:bo[i].a3.eJ.length=ad.ch.length+2:=by rw[f,di,zB];omega
 refine a9 .D 2 Tryz.func37 K rfl λa1 q=>?_;simp+decide only[↓a8,ba,Tryz.f37];subst q;apply aH XA (akl h e);rintro _ _ ⟨rfl,rfl⟩;apply aH Xb (akm (ak:=bo[i].a3.eJ.length) h e A A);rintro ae aA ⟨dx,d,j,k,l,m,D⟩;rw[j3,f]at m;rw[aoh]at k;apply aH Xz (akZ m o p);rintro _ ax ⟨n,cB,rfl,r⟩;simp only[cV,cX];obtain⟨fz,bM,af,bL,t,u,v,x,y⟩:=r;exact⟨aA.heap.size,dx,d,l.J.aI,⟨fz,bM,af,bL,t,u,v,x,y⟩,j.V n,k,l.dP (.iu n),j.aL⟩
def ak4{x:Option es}{l:Nat}:C.built 59 #[(0,F H 1),(7,T x l ak)].toList=E (mY ⟨1,0,0,0,0,0,T I 0 0,T x l ak⟩).toArray:=K
def UG{k:Int}:C.built 59 #[(0,F H k)].toList=E (mY ⟨k,0,0,0,0,0,T I 0 0,T I 0 0⟩).toArray:=K
def ak5(ao:qo c aB ay):xH c ay al kn:=λt a=>⟨λ_=>ao.BB t a,λh=>by cases h⟩
def ak6(bv w:aN)(ad:dn)(ae:S):Prop:=qw bv w ad ae
def ak7(h:kq w s am c dN bu an q8)(be:an.cn=[])(bf:an.cQ<=100000)(bg:aT w Go.X.dV bc d.bk.a7)(bh:qt d)(z:d.bt=G)(ca:bu<=1000000):
  a0 C 11 #[aP s,ho d bc] w λae a=>∃aa az,ae=bQ #[aa,aK G]/\ak6 w a (an.e7 c.aJ c.bd d).2 aa/\kq a s az c dN (bu+1) (an.e7 c.aJ c.bd d).1 q8/\bX am az w a/\∃dE fz,w.heap.size<=dE/\(∀g∈az,g<dE)/\aa=je fz/\gx dE fz.pb/\gx dE fz.mH:=by
 obtain⟨ac,aD⟩:=h.cL;have cb:=aD.jZ;obtain⟨⟨b,ci,d6,bo,ab,au,aB,ay,ai,aQ,D,aF,rfl,aG,cc⟩,aI⟩:=h;have ao:=JF aD aI aG;have cd:=D.oi;have cf:=ak1 z;refine a9 Mf 2 Tryz.func11 K rfl λa1 bi=>?_;simp+decide only[↓a8,ba,Mf,Tryz.f11];subst bi;refine sf λaA bj bk bm=>qv λax bn aJ bp=>?_;have aL:Q [] w ax:=bk.R aJ B;have aM:=bj.J aJ B;obtain⟨cg,ch,cj,ck,cm,cn,cp,cq,cs,ct,cu,bq⟩:=gc aM;try simp only[M,bq]
 apply aH Xa (akX (bg.V aL) bh A);rintro cv aO ⟨aR,J,_⟩;have ag:=aL.R J B;obtain⟨cw,cx,br,_⟩:=id aR;subst br;apply(bY ak4).2;have bs:=D.V ag;have ah:0<bo.length:=A;have aS:∀j(L:j<bo.length),bo[j].a3=iy:=λj L=>by have:=congrArg (λl=>l[j]?) aF;simp only[e1,cr L,m1]at this;have bt:j=0\/j=1\/j=2\/j=3:=A;rcases bt with rfl|rfl|rfl|rfl<;>simpa[q8]using this
 have u:=aS 0 ah;have cy:(mZ d).length=d.ch.length+2:=by unfold mZ;rw[di,zB];omega
 have bv:k4 kn (bo[0].a3.bG.length+(mZ d).length) an {bo[0].a3 with bG:=bo[0].a3.bG++mZ d}=k4 kn (mZ d).length an (oj (mZ d)):=by rw[u];simp[iy,oj]
 obtain⟨aU,bw,bx,bz,cz,cA,cB,cC⟩:=akQ (an:=an) (k:=c.aJ) (aX:=c.bd) (n:=(mZ d).length) be z A A;apply aH C9 (akB (i:=0) bs ah (ak5 ao) aR (by rw[u];simp[iy]) (by rw[u];simp[iy];omega) (by rw[u];simp[iy]) bf (by rw[u];simp[iy]));rintro _ cE ⟨rfl,cF,cH,tu,aj,ak,al⟩;rw[bv]at aj ak;apply(bY UG).2;have cI:=aj.oi;have aV:∀x∈bo.set 0 tu,x.a3.eJ.length<=7500000/\x.a3.hB.length<=100000:=by
  intro x m;rcases List.mem_or_eq_of_mem_set m with m|rfl
  ·obtain⟨j,L,rfl⟩:=ns m;rw[aS j L];simp[iy]
  ·rw[ak];omega
 apply aH C9 (akC aj ao A A (λx m=>(aV x m).1) (λx m=>(aV x m).2));rintro _ cJ ⟨rfl,o,cK,p,bB,bC,aq,aW,ar,cL⟩;rw[bw]at aq aW;have bE:bo.set 0 tu=tu::bo.drop 1:=by
  cases bo with
  |nil=>simp at ah
  |cons ap b7=>rfl
 have bH:bo.map (·.a3)=q8:=aF;have aY:p.map (·.a3)=[iy.kG (an.e7 c.aJ c.bd d).2,iy,iy,iy]:=by
  rw[aW,bE,ge,ak,bx];have e:(bo.drop 1).map (λx=>(aU.foldl (λc t=>kH t c) x.a3).kL)=((bo.drop 1).map (·.a3)).map (λc=>(aU.foldl (λc t=>kH t c) c).kL):=by rw[ts];rfl
  rw[e,List.map_drop,bH];simp[q8,bz]
 have cM:=aq.oi;have av:0<p.length:=A;have aZ:p[0].a3=iy.kG (an.e7 c.aJ c.bd d).2:=by have:=congrArg (λl=>l[0]?) aY;simp only[e1,cr av,m1]at this;simpa using this
 have bI:=ajQ (k:=c.aJ) ac A z;apply aH Xf (ak3 (i:=0) (ad:=(an.e7 c.aJ c.bd d).2) aq av (by rw[aZ];rfl) bI (ak0 ac A));rintro ae v ⟨dE,a2,q,a3,⟨fz,bM,af,bL,rfl,a4,R,a5,a6⟩,bJ,bK,bP,bR⟩;have a7:=a5.bw a3;have bb:=a6.bw a3;have bU:=ajR (k:=c.aJ) ac z;have V:f5 aO v s ci d6 o q:=(al.dP ar).dP bP;have bd:f5 w v s ci d6 o q:=(f5.iu ag).dP V;have aw:=D.aL;have cO:aA.heap.size=w.heap.size+1:=bm;have bV:=(aM.J J B).J V.J (λf=>by have:=aw _ f;omega);have bW:=(bn.J J B).J V.J (λf=>by have:=aw _ f;omega);have b0:kq v s (s::(o++q)) c dN (bu+1) (an.e7 c.aJ c.bd d).1 q8:=by
  refine⟨⟨b,o,q,_,ab,bB,aB,ay,bC,aQ,bJ,?_,rfl,aG,A⟩,aI⟩;have b1:p.set 0 a2=a2::p.drop 1:=by
   cases p with
   |nil=>simp at av
   |cons ap b7=>rfl
  rw[b1,ge,bK,aZ,List.map_drop,aY];rfl
 have y:=cD [] v;refine bT (λb2 a=>b2=[aK U]/\v.drew=a) ?_ ?_
 ·try simp only[M]
  refine cG.2 ⟨λW=>(by simp at W),λ_=>?_⟩;apply(sB C4 yf A B).2;try simp only[M,Int.reduceToNat,Nat.zero_mul,qA]
  refine(bl bZ (la (a4.J y B) (j:=0) rfl)).2 ((bl bZ ((bD bV).bh (af:=0))).2 ?_);try simp only[M]
  rw[R.dF,bU];exact⟨B,by trivial⟩
 rintro _ _ _ ⟨rfl,rfl⟩;try simp only[M]
 apply(sB C4 yf A B).2;try simp only[M,Int.reduceToNat,Nat.zero_mul,qA]
 refine(gC (l:=eb fz) F0 (a4.J y B)).2 (mW (x:=fz) (bD bW) R.gj.aW R.dY.aW λcP b3 X cQ=>((c7.hJ b3).2.2.2.2.2.2 _).2 ?_);have cR:ax.heap.size<=aO.heap.size:=J.aI;have cS:=(al.dP ar).J.aI;have cU:ax.heap.size=aA.heap.size+1:=bp;have r:=R.V y;have cV:=D.pM.aL;have b8:∀g∈s::(o++q),g∉[aA.heap.size]:=λg aC f=>by
  simp only[ku]at f;subst f;have b9:=V.xQ.cq _ aC;rcases b9 with W|W
  ·have:=aw _ W;omega
  ·omega
 refine⟨je fz,s::(o++q),rfl,⟨fz,rfl,⟨r.dF,r.iE,r.cu,r.cS,r.gj.J X (λb af n c e f=>?_),r.dY.J X (λb af n c e f=>?_)⟩,a7.bw A,bb.bw A⟩,(b0.V y).J X b8 (by simp;omega),?_,dE,fz,by have:=(al.dP ar).J.aI;have:=ag.aI;omega,bR,rfl,a5,a6⟩
 ·have:=a7 b af n c e;simp at f;omega
 ·have:=bb b af n c e;simp at f;omega
 ·exact⟨(bd.xQ.oM y).J.R X (λg aC=>Z (by simp at aC;omega)),bd.xQ.cq⟩
end
def kr(n:Int)(ay al:Nat):Nat:=(yp n ay al).toNat
def q9{n:Int}{ay al:Nat}(h:ay<=al):yp n ay al=(kr n ay al:Int)/\ay<=kr n ay al/\kr n ay al<=al:=by have:=aac (n:=n) (ay:=(ay:Int)) (al:=(al:Int)) A;unfold kr;omega
section
variable{n k wJ:Int}{ay al qE:Nat}
def tc(a:ay<=al)(c:al<=4611686018427387904)(b:ac (F H (kr n ay al:Nat)) w):W C (ck 13 #[F H n,F H ay,F H al]) w ac:=
 aH W2 (aad (n:=n) A A A) (by rintro _ _ ⟨rfl,rfl⟩;rw[(q9 a).1];exact b)
def qx(k n:Int)(aX qE:Nat):dR:=⟨7,kr k 1 4,kr n (kr k 1 4) 6,aX,qE⟩
def ak8(a:1<=aX)(c:aX<=64)(e:1<=qE)(f:qE<=4):(qx k n aX qE).bp:=by have d:=(q9 (n:=k) (ay:=1) (al:=4) A).2;have b:=(q9 (n:=n) (ay:=kr k 1 4) (al:=6) A).2;exact⟨by simp[qx],by simp[qx],by simp only[qx];omega,by simp only[qx];omega,by simp only[qx];omega,by simp only[qx];omega,a,c,e,f⟩
def ak9{d b c:Int}:C.built 25 #[(0,F H 7),(1,F H d),(3,F H b),(4,F H c)].toList=E #[F H 7,F H d,F H 0,F H b,F H c]:=K
def ala:a0 C 9 #[F H k,F H n,F H aX,F H qE] w λae a=>ae=fQ (qx k n aX qE)/\Q [] w a:=by
 have s:=(q9 (n:=k) (ay:=1) (al:=4) A).2;refine a9 .D 4 Tryz.func9 K rfl λa1 f=>?_;simp+decide only[↓a8,ba,Tryz.f9];subst f;refine mR λaA h i t=>tc (ay:=1) (al:=4) A A ((bY ak9).2 (mR λax j l u=>ml (g:=⟨7,kr k 1 4,0,aX,qE⟩) j rfl λv c m x=>?_));obtain⟨y,o,z,D,J⟩:=iV c;try simp only[M,o]
 apply tc (ay:=kr k 1 4) (al:=6) A A;try simp only[M]
 refine eK hl c (by simp[en]) rfl λd b p L=>?_;have b:aC d aA.heap.size 25 (en (qx k n aX qE)):=by simpa[en,qx]using b
 apply(fj b).2;have e:Q [] aA d:=(l.R m B).R p B;exact ml (g:=qx k n aX qE) (h.J e B) rfl λR q r V=>(fj q).2 ⟨rfl,(i.R e B).R r B⟩
def JG(b:c.bp):a0 C 34 #[fQ c] w λae a=>ae=F H (c.e6:Nat)/\Q [] w a:=by
 have e:=b.lh;have k:=b.jY;have l:=b.i6;have m:=b.jZ;have n:c.cY*c.aJ<=4*8:=Nat.mul_le_mul e A;refine a9 .D 1 Tryz.func34 K rfl λa1 f=>?_;simp+decide only[↓a8,ba,Tryz.f34];subst f;refine eA λaA d g o=>?_;have d:aC aA w.heap.size 25 (en c):=by simpa[fQ,bF]using d
 obtain⟨p,h,q,i,j⟩:=iV d;try simp only[M,h,i,j]
 refine⟨?_,g⟩;rw[show(c.cY:Int)*(c.aJ:Int)=((c.cY*c.aJ:Nat):Int)from(uq _ _).symm];unfold dR.e6;generalize c.cY*c.aJ=ak at*;rw[X.bq (x:=(ak:Int)) A A,X.bq (x:=1+(ak:Int)) A A,bq A A];congr 1
def amu(n:Int):ByteArray:=h7 [ed (97+kr n 0 2)]
def am0:a0 C 23 #[F H n] w λae a=>ae=bO (amu n)/\Q [] w a:=by
 have i:=(q9 (n:=n) (ay:=0) (al:=2) A).2;refine a9 .D 1 Tryz.func23 K rfl λa1 c=>?_;simp+decide only[↓a8,ba,Tryz.f23];subst c;apply tc (ay:=0) (al:=2) A A;try simp only[M]
 rw[bq A A];apply(fv kd oE).2;simp only[X.pa];have e:(97+((kr n 0 2:Nat):Int))%256=((97+kr n 0 2:Nat):Int):=A;have d:(ed (97+kr n 0 2)).toNat=97+kr n 0 2:=by rw[mx];omega
 rw[e];refine hw ky [F cl ((97+kr n 0 2:Nat):Int)] rfl rfl (by intro aa b;simp at b;subst b;rfl) A A λaA f g j=>?_;have ao:aT aA bs (T (E ⟨w.heap.size,0,I⟩) 1 1) [ed (97+kr n 0 2)]:=p3 (l:=[ed (97+kr n 0 2)]) (by
  have h:[ed (97+kr n 0 2)].flatMap bs=[F cl ((97+kr n 0 2:Nat):Int)]:=by simp only[iA,List.flatMap_nil,bs,kJ];rw[d]
  rw[h];simpa[bF]using f)
 exact(w3 IW n8 ao).2 ⟨rfl,g⟩
def JH(bm:Int):∃b:UInt8,bm%256=(b.toNat:Int):=⟨ed (bm%256).toNat,by rw[mx];omega⟩
structure alb(bv w:aN)(aa:S)(l:List ByteArray)(ak:Nat):Prop where
 cP:aT w Go.X.dV aa l
 aR:l.length=ak
 E9:∀x∈l,x.size<=7
 zs:gx bv.heap.size aa
def alc(ai:ak<=8):a0 C 12 #[F H ak,F H wJ] w λae a=>(∃l,alb w a ae l ak)/\Q [] w a:=by
 have aj:=(q9 (n:=wJ) (ay:=0) (al:=9) A).2;have am:=(q9 (n:=wJ) (ay:=0) (al:=5) A).2;refine a9 Mg 2 Tryz.func12 K rfl λa1 h=>?_;simp+decide only[↓a8,ba,Mg,Tryz.f12];subst h;apply c1 (λb a=>∃(i:Nat)(aa:S)(l:List ByteArray)(aD:List Nat),b=[aa,F H i]/\i<=ak/\bP a 9 1 aa l.length (l.flatMap Go.X.dV) aD/\l.length=i/\(∀x∈l,x.size<=7)/\(∀g∈aD,w.heap.size<=g)/\Q [] w a) (λb _=>match b with|[_,F _ i]=>ak-i.toNat|_=>0) ⟨0,_,[],[],rfl,A,gJ _ _ _,rfl,B,B,.b0 _ _⟩;rintro _ _ ax ⟨i,aa,l,aD,rfl,al,k,an,q,m,o⟩;try simp only[M,bi]
 refine⟨λao=>?_,λap=>?_⟩
 ·apply tc (ay:=0) (al:=9) A A;try simp only[M]
  apply(fv kd oE).2;try simp only[M]
  apply(fv kd oE).2;simp only[show∀bm:Int,cl.wrap bm=bm%256 fromλ_=>rfl];obtain⟨r,h⟩:=JH (H.wrap (48+((kr wJ 0 9:Nat):Int)));obtain⟨s,D⟩:=JH (H.wrap (65+(i:Int)));rw[h,D];refine hw ky [F cl (r.toNat:Nat),F cl (s.toNat:Nat)] rfl rfl (by intro aa d;simp at d;rcases d with rfl|rfl<;>rfl) A A λJ L R aq=>?_;have V:ql ax J (T (E ⟨ax.heap.size,0,I⟩) 2 2) [r,s]:=⟨[ax.heap.size],x5 (n:=2) (by simpa[bF,bs]using L) rfl (by decide),B⟩;apply c1 (λb a=>∃(j:Nat)(ae:S)(fT:List UInt8),b=[ae,F H j]/\j<=kr wJ 0 5/\ql ax a ae fT/\fT.length=2+j/\Q [] ax a) (λb _=>match b with|[_,F _ j]=>kr wJ 0 5-j.toNat|_=>0) ⟨0,_,_,rfl,A,V,rfl,R⟩;rintro _ _ ar ⟨j,ae,fT,rfl,au,t,av,f⟩;apply tc (ay:=0) (al:=5) A A;try simp only[M,bi]
  refine⟨λaw=>?_,λaz=>?_⟩
  ·refine(nS A).2 ((fv kd oE).2 ?_);rw[show∀bm:Int,cl.wrap bm=bm%256 fromλ_=>rfl];obtain⟨u,W⟩:=JH (wJ/2^min (j:Int).toNat H.bits);rw[W];refine hw ky [F cl (u.toNat:Nat)] rfl rfl (by intro aa d;simp at d;subst d;rfl) A A λX ab v aA=>?_;have ac:=p3 (be:=bs) (l:=[u]) (by simpa[bF,bs]using ab);refine Bt (t.V v) (f.R v B) ac (by simp;omega) λdd aB ad af=>?_;try simp only[M]
   rw[bq A A];exact⟨⟨j+1,dd,_,rfl,A,ad,by simp;omega,af⟩,by simp;omega⟩
  ·obtain⟨aC,ag,aF⟩:=t;refine(w3 IW n8 (ag.eF e2 A)).2 (yR vM (k.J f B) (x:=h7 fT) (λ_=>rfl) rfl (by intro c y;simp[Go.X.dV]at y;subst y;rfl) A (by unfold d0;omega) A λdd X ez ah z aG=>?_);try simp only[M]
   rw[bq A A];have aH:=f.aI;have aI:=o.aI;refine⟨⟨i+1,dd,l++[h7 fT],ez,rfl,A,ah,by simp;omega,λx e=>?_,λg p=>(z.cq g p).elim (m g) (λaJ=>A),(o.R f B).R z.J (λg p=>Z (m g p))⟩,by simp;omega⟩;rcases b4.1 e with e|e
   ·exact q x e
   ·rw[ku.1 e];have:(h7 fT).size=fT.length:=by simp[h7,vv]
    omega
 ·exact⟨⟨l,k.eF (λ_=>rfl) A,A,q,gx.c4 k m⟩,o⟩
end
end
end Go.Proofs.YtepeilglbedgdaaGreatDoor
