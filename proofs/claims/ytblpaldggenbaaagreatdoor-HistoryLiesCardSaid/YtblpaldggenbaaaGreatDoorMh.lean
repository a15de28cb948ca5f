/- A part. -/
import Derived.Test.YtblpaldggenbaaaGreatDoorMg
import Derived.Test.YtblpaldggenbaaaGreatDoorMf
namespace Go.Proofs.YtblpaldggenbaaaGreatDoor
open Go.RowKit Go.Proofs.Tryz
set_option maxRecDepth 100000
set_option maxHeartbeats 64000000
variable{r:Rd}{A:OA}
def Rd.ah(r:Rd):Nat->(Nat->LI)×Rd
 |0=>(λ_=>[],r)
 |j+1=>(aJ (r.ah j).1 j (r.ah j).2.gE.1,(r.ah j).2.gE.2)
def Rd.dv(r:Rd):Nat->List (LI)×Rd
 |0=>([],r)
 |n+1=>((r.dv n).1++[(r.dv n).2.gE.1],(r.dv n).2.gE.2)
def Rd.h1(r:Rd):Int×Rd:=r.num 8
def Rd.h2(r:Rd):Int×Rd:=r.h1.2.num 4
def Rd.h3(r:Rd):(Nat->LI)×Rd:=r.h2.2.ah 4
def Rd.h4(r:Rd):Int×Rd:=r.h3.2.num 1
def Rd.h5(r:Rd):List (LI)×Rd:=r.h4.2.dv r.h4.1.toNat
def Rd.rg(r:Rd):Rg:=⟨r.h1.1,r.h2.1,r.h3.1,r.h5.1⟩
def Rd.gz(r:Rd):Nat->(Nat->Rg)×Rd
 |0=>(tA,r)
 |k+1=>(aJ (r.gz k).1 k (r.gz k).2.rg,(r.gz k).2.h5.2)
def fI(b:LI):Bool:=decide (b.length<=24)
def mj(b:Nat->LI)(j:Nat):Bool:=(List.range j).all λi=>fI (b i)
def Qo(x:Rg):Bool:=mj x.b 4&&x.log.all fI&&decide (x.log.length<=4)&&(decide (0<x.aE)||x.seq==0)
def lI(m:Nat->Rg)(k:Nat):Bool:=(List.range k).all λi=>Qo (m i)
def uZ(X:LI):Int:=if(Rd.gz ⟨X,false⟩ 4).2.kx≠0 then(Rd.gz ⟨X,false⟩ 4).2.kx else if lI (Rd.gz ⟨X,false⟩ 4).1 4=true then 0 else 1
theorem tu(b:Nat->LI)(j:Nat):mj b (j+1)=(mj b j&&fI (b j)):=by simp[mj,Yi]
theorem tK(m:Nat->Rg)(k:Nat):lI m (k+1)=(lI m k&&Qo (m k)):=by simp[lI,Yi]
theorem Rd.Ok.ah(h:r.Ok)(j:Nat):(r.ah j).2.Ok:=by
 induction j with
 |zero=>exact h
 |succ j K=>exact K.gE
theorem Rd.Ok.dv(h:r.Ok)(n:Nat):(r.dv n).2.Ok:=by
 induction n with
 |zero=>exact h
 |succ n K=>exact K.gE
theorem Rd.Ok.h5(h:r.Ok):r.h5.2.Ok:=(((h.num 8).num 4).ah 4|>.num 1).dv _
theorem Rd.Ok.gz(h:r.Ok)(k:Nat):(r.gz k).2.Ok:=by
 induction k with
 |zero=>exact h
 |succ k K=>exact K.h5
theorem Rd.ol(r:Rd)(n:Nat):(r.dv n).1.length=n:=by
 induction n with
 |zero=>rfl
 |succ n K=>show((r.dv n).1++[_]).length=_;simp[K]
theorem Rd.Fb(h:r.Ok)(U:r.gE.2.s=false):r.s=false/\r.xs=bE r.gE.1++r.gE.2.xs:=by
 have p:r.PT 9=(⟨9,0,r.gE.1⟩,r.gE.2):=iP rfl;have Z:=Rd.PY (k:=9) h.hb rfl (by rw[p];exact U);rw[p]at Z;exact⟨Z.1,Z.2.1⟩
theorem Rd.wL(h:r.Ok)(m:Nat)(Z:1<=m)(S:m<=8)(U:(r.num (m:Int)).2.s=false):r.s=false/\r.xs=bL (r.num (m:Int)).1 m++(r.num (m:Int)).2.xs:=by
 have V:=Rd.zB h.hb Z S U;refine⟨V.1,?_⟩;have e:bL (r.num (m:Int)).1 m=aT (r.num (m:Int)).1 m:=by
  unfold bL;rw[iN oM,qG]
 rw[e];exact V.2.1
def Bb(b:Nat->LI)(j:Nat):LI:=(List.range j).flatMap λi=>bE (b i)
theorem lm(b:Nat->LI)(j:Nat):Bb b (j+1)=Bb b j++bE (b j):=by simp[Bb,Yi]
theorem Rr(b:Nat->LI)(j k:Nat)(x:LI)(h:j<=k):Bb (aJ b k x) j=Bb b j:=by
 induction j with
 |zero=>rfl
 |succ j K=>rw[lm,lm,K oM,cm _ _ _ _ oM]
theorem Rd.Rc(h:r.Ok)(j:Nat)(U:(r.ah j).2.s=false):r.s=false/\r.xs=Bb (r.ah j).1 j++(r.ah j).2.xs:=by
 induction j with
 |zero=>exact⟨U,rfl⟩
 |succ j K=>
  have Z:=Rd.Fb (h.ah j) U;have V:=K Z.1;refine⟨V.1,?_⟩;show r.xs=Bb (aJ (r.ah j).1 j (r.ah j).2.gE.1) (j+1)++(r.ah j).2.gE.2.xs;rw[lm,Rr _ _ _ _ (g9 _),aW,nX,<-Z.2];exact V.2
theorem Rd.NB(h:r.Ok)(n:Nat)(U:(r.dv n).2.s=false):r.s=false/\r.xs=(r.dv n).1.flatMap bE++(r.dv n).2.xs:=by
 induction n with
 |zero=>exact⟨U,rfl⟩
 |succ n K=>
  have Z:=Rd.Fb (h.dv n) U;have V:=K Z.1;refine⟨V.1,?_⟩;show r.xs=((r.dv n).1++[(r.dv n).2.gE.1]).flatMap bE++(r.dv n).2.gE.2.xs;rw[zcw,nX];simp only[Bo,List.flatMap_nil,rX];rw[<-Z.2];exact V.2
theorem Rd.TA(h:r.Ok)(U:r.h5.2.s=false):r.s=false/\r.xs=gF r.rg++r.h5.2.xs:=by
 have c:r.h1.2.Ok:=h.num 8;have d:r.h2.2.Ok:=c.num 4;have b:r.h3.2.Ok:=d.ah 4;have g:r.h4.2.Ok:=b.num 1;have i:=Rd.NB g r.h4.1.toNat U;have D:=Rd.wL b 1 oM oM i.1;have L:=Rd.Rc d 4 D.1;have A:=Rd.wL c 4 oM oM L.1;have t:=Rd.wL h 8 oM oM A.1;refine⟨t.1,?_⟩;have C:((r.h5.1.length:Nat):Int)=r.h4.1:=by
  have e:r.h5.1.length=r.h4.1.toNat:=Rd.ol _ _;have:=(Rd.mO b).1;rw[e];exact zcU this
 have S:r.xs=bL r.h1.1 8++r.h1.2.xs:=t.2;have P:r.h1.2.xs=bL r.h2.1 4++r.h2.2.xs:=A.2;have j:r.h2.2.xs=Bb r.h3.1 4++r.h3.2.xs:=L.2;have p:r.h3.2.xs=bL r.h4.1 1++r.h4.2.xs:=D.2;have u:r.h4.2.xs=r.h5.1.flatMap bE++r.h5.2.xs:=i.2;have a:Bb r.h3.1 4=bE (r.h3.1 0)++bE (r.h3.1 1)++bE (r.h3.1 2)++bE (r.h3.1 3):=by
  rw[lm,lm,lm,lm];simp[Bb]
 show r.xs=(bL r.h1.1 8++bL r.h2.1 4++bE (r.h3.1 0)++bE (r.h3.1 1)++bE (r.h3.1 2)++bE (r.h3.1 3)++bL (r.h5.1.length:Nat) 1++r.h5.1.flatMap bE)++r.h5.2.xs;rw[C,S,P,j,p,u,a];simp only[nX]
theorem JI(m:Nat->Rg)(k i:Nat)(x:Rg)(h:k<=i):iX (aJ m i x) k=iX m k:=by
 induction k with
 |zero=>rfl
 |succ k K=>rw[cR,cR,K oM,cm _ _ _ _ oM]
theorem Rd.QG(h:r.Ok)(k:Nat)(U:(r.gz k).2.s=false):r.s=false/\r.xs=iX (r.gz k).1 k++(r.gz k).2.xs:=by
 induction k with
 |zero=>exact⟨U,rfl⟩
 |succ k K=>
  have Z:=Rd.TA (h.gz k) U;have V:=K Z.1;refine⟨V.1,?_⟩;show r.xs=iX (aJ (r.gz k).1 k (r.gz k).2.rg) (k+1)++(r.gz k).2.h5.2.xs;rw[cR,JI _ _ _ _ (g9 _),aW,nX,<-Z.2];exact V.2
theorem Rd.Vj(r:Rd)(j i:Nat)(h:j<=i):(r.ah j).1 i=[]:=by
 induction j with
 |zero=>rfl
 |succ j K=>
  show aJ (r.ah j).1 j _ i=[];rw[cm _ _ _ _ oM];exact K oM
theorem Rd.TM(r:Rd)(k i:Nat)(h:k<=i):(r.gz k).1 i=Rg.zero:=by
 induction k with
 |zero=>rfl
 |succ k K=>
  show aJ (r.gz k).1 k _ i=Rg.zero;rw[cm _ _ _ _ oM];exact K oM
theorem Rd.WS(h:r.Ok)(k i:Nat)(z:i<k):∃q:Rd,q.Ok/\(r.gz k).1 i=q.rg:=by
 induction k with
 |zero=>omega
 |succ k K=>
  by_cases Y:i=k
  ·subst Y
   exact⟨(r.gz i).2,h.gz i,aW _ _ _⟩
  ·obtain⟨q,Z,V⟩:=K oM
   exact⟨q,Z,(cm _ _ _ _ Y).trans V⟩
theorem ZL{q:Rd}(h:q.Ok)(H:Qo q.rg=true):q.rg.ok:=by
 unfold Qo at H;simp only[mq,decide_eq_true_eq]at H;obtain⟨⟨⟨B,C⟩,W⟩,_⟩:=H;have b:=Rd.yb h;have a:=Rd.lC (h.num 8);refine⟨b.1,b.2,a.1,a.2,W,λl y=> ?_,λj=> ?_⟩
 ·have:=yT.1 C l y
  unfold fI at this;simpa using this
 ·by_cases N:j<4
  ·have:=yT.1 B j (OW.2 N)
   unfold fI at this;simpa using this
  ·show((Rd.ah _ 4).1 j).length<=24
   rw[Rd.Vj _ _ _ oM];exact acy
theorem Tg{bs:LI}(h:Rd.Ok ⟨bs,false⟩)(Y:uZ bs=0):bj (Rd.gz ⟨bs,false⟩ 4).1=bs/\∀k,((Rd.gz ⟨bs,false⟩ 4).1 k).ok:=by
 unfold uZ at Y
 split at Y
 ·rename_i Z
  exact absurd Y Z
 ·rename_i Z
  have K:(Rd.gz ⟨bs,false⟩ 4).2.kx=0:=ZW.1 Z
  split at Y
  ·rename_i P
   have U:(Rd.gz ⟨bs,false⟩ 4).2.s=false/\(Rd.gz ⟨bs,false⟩ 4).2.xs=[]:=by
    unfold Rd.kx at K
    split at K
    ·cases K
    ·rename_i U
     split at K
     ·cases K
     ·rename_i C
      exact⟨by simpa using U,AJ oM⟩
   have u:=Rd.QG h 4 U.1;refine⟨?_,λk=> ?_⟩
   ·have:=u.2
    rw[U.2,rX]at this;exact this.symm
   ·by_cases F:k<4
    ·have a:=yT.1 P k (OW.2 F)
     obtain⟨q,d,e⟩:=Rd.WS h 4 k F;rw[e]at a⊢;exact ZL d a
    ·rw[Rd.TM _ _ _ oM]
     exact Rg.CJ
  ·cases Y
theorem RP{I:aH}{L:List aw}(b a i:Nat)(ok:Bool)(r:Rd)(w:World)(G:r.Ok)(h:St I w (ab b 253 #[pO i]::ab a 4 #[.bool ok]::po i r::L)):
 Calls prog 134 #[pO b,pO a] w λe O=>∃v,e= .returned v/\St I O (ai .u8 v r.gE.1::ab b 253 #[pO i]::ab a 4 #[.bool (ok&&fI r.gE.1)]::po i r.gE.2::L):=by
 have l:=(h.ah 0 rfl).cell 0;have H:=aa h;clear h
 go_enter func134,ntmps134
 go_wp2_with fail
 refine(yR i r _ G.hb G.hl G.hz H.tX).mono ?_;rintro e X⟨v,rfl,h⟩;obtain⟨A,c,rfl,_,_,_⟩:=h.get 0 rfl;have o:=(h.ah 3 rfl).cell 0;have f0:=(h.ah 3 rfl).frozen 0;have T:=aa h;clear H h l
 cases ok with
 |true=>
  have M:St I (X.setCell ⟨a,0,none⟩ (.bool (decide ((r.gE.1.length:Int)<=24)))) (ab a 4 #[.bool (decide ((r.gE.1.length:Int)<=24))]::ai .u8 (.slice A r.gE.1.length c) r.gE.1::po i r.gE.2::ab b 253 #[pO i]::L):=T.up3.bI 0 _;have e:(true&&fI r.gE.1)=decide ((r.gE.1.length:Int)<=24):=by
   unfold fI;rw[MM];exact decide_eq_decide.2 oM
  refine bm e M λE N=>?_;clear T M e
  go_wp2_with fail
  go_ret
  exact⟨_,rfl,by rw[E.out];exact N.pick 4 [1,3,0,2]⟩
 |false=>
  have M:St I (X.setCell ⟨a,0,none⟩ (.bool false)) (ab a 4 #[.bool false]::ai .u8 (.slice A r.gE.1.length c) r.gE.1::po i r.gE.2::ab b 253 #[pO i]::L):=T.up3.bI 0 _;have N:=aa M;clear T M
  go_wp2_with fail
  go_ret
  exact⟨_,rfl,by rw[ZR];exact N.pick 4 [1,3,0,2]⟩
section
section
variable {P:Program} {ops:Array Oper} {Q:Exit->Act->World->Prop} {S:World->Prop} {L:Nat}
theorem vz(x:∀(j:Nat) (o:Oper) N b,ops[j]? =some o->o.op≠ .select N b)(u:ta ops L=true)(T:∀d v c a w,Q (.panic c) (a.put d v) w->Q (.panic c) a w)
 (n:Nat) {w:World} (z:S w):∀(q:List Nat) (listed l:Array Bool) (a:Act),ot ops L q listed=some l->
  jD P ops S (λg=>Ek P ops Q S L n l g w) q a->Ek P ops Q S L (q.length+n) listed a w
 |[],listed,l,a,h,R=>by
  simp only[ot,Xr]at h;subst h;rw[OV,s7];exact R
 |i::r,listed,l,a,h,R=>by
  unfold ot at h
  split at h
  ·rename_i D
   simp only[mq,decide_eq_true_eq]at D;obtain⟨⟨E,G⟩,C⟩:=D;obtain⟨o,v,H,A,R⟩:=R;have:=vz x u T n z r _ l _ h R;rw[oO,show r.length+1+n=(r.length+n)+1 by omega];exact wF H x u C (T _ _) _ listed a w (Region.free_spec H E) (by simpa using G) A z this
  ·cases h
def VI(ops:Array Oper)(L n:Nat)(q:List Nat)(l:Array Bool):Bool:=
 Region.noSelect ops&&ta ops L&&(q.length+n==ops.size)&&ot ops L q (Array.replicate ops.size false)==some l
def DJ(P:Program)(ops:Array Oper)(Q:Exit->Act->World->Prop)(S:World->Prop)(L k:Nat)(listed:Array Bool)(i:Nat)(a:Act)(w:World):Prop:=
 wpOp P ops Q i (λg O=>(i<L->S O)/\Ek P ops Q S L k (listed.setIfInBounds i true) g O) a w
theorem Nd{k:Nat}{listed:Array Bool}{a:Act}{w:World}(y:List Nat)(h:Region.ready .any ops listed=y)(I:y≠[])(H:∀i∈y,DJ P ops Q S L k listed i a w):Ek P ops Q S L (k+1) listed a w:=
 ⟨λK=>absurd (h.symm.trans K) I,λi z=>H i (h▸z)⟩
end
section
variable {P:Program} {l:List Oper} {Q:Exit->Act->World->Prop} {S:World->Prop} {L:Nat}
theorem GQ{id:Nat}{a:Act}{w:World}{l:List Oper}(S:World->Prop)(L n:Nat)(q:List Nat)(listed:Array Bool)(y:P.follows .mixedOrders=true)(M:VI l.toArray L n q listed=true)
 (T:∀d v c a w,Q (.panic c) (a.put d v) w->Q (.panic c) a w)
 (h:∀W:World,W=w.drew->S W/\jD P l.toArray S (λg=>Ek P l.toArray Q S L n listed g W) q a):(Code.region id l.toArray true).wp P Q a w:=by
 obtain⟨z,R⟩:=h _ rfl;simp only[VI,mq,beq_iff_eq]at M;obtain⟨⟨⟨x,u⟩,F⟩,M⟩:=M;refine wp_region_any y (mJ (S:=S) (L:=L) _ _ _ _ ?_);rw[<-F];exact vz (Region.noSelect_spec x) u T n z q _ listed a (by rw[F];exact M) R
end
end
section
section
variable {P:Program} {l:List Oper} {Q:Exit->Act->World->Prop} {S:World->Prop} {L:Nat}
theorem BM{k:Nat}{listed:Array Bool}{i:Nat}{a:Act}{w:World}{o:Oper}{f:FuncId}{args:Vq}(H:l[i]? =some o)(u:o.guard=none)
 (C:(execOp a.eval o).run P w= .ok (.enter f args) w)
 (h:Calls P f args w λe O=>∃v,e= .returned v/\(i<L->S O)/\Ek P l.toArray Q S L k (listed.setIfInBounds i true) (a.put o.dst v) O):DJ P l.toArray Q S L k listed i a w:=by
 unfold DJ wpOp;have d:l.toArray[i]? =some o:=by simpa using H
 simp only[d];rw[iP (by simp[Region.wanted,u])];refine .inl ?_;unfold Oper.wp;rw[C,Oper.upon_enter];refine h.mono λe O ⟨v,Y,z,h⟩=> ?_;subst Y;exact⟨z,h⟩
theorem LP{k:Nat}{listed:Array Bool}{a:Act}{w:World}(i:Nat)(G:Region.ready .any l.toArray listed=[i])(h:DJ P l.toArray Q S L k listed i a w):Ek P l.toArray Q S L (k+1) listed a w:=
 Nd [i] G acy (λj N=>by rw[lA.1 N];exact h)
theorem TU{n:Nat}{listed:Array Bool}{a:Act}{w:World}(q:List Nat)(b:Array Bool)(x:Region.noSelect l.toArray=true)(u:ta l.toArray L=true)(T:∀d v c a w,Q (.panic c) (a.put d v) w->Q (.panic c) a w)
 (z:S w) (R:ot l.toArray L q listed=some b) (h:jD P l.toArray S (λg=>Ek P l.toArray Q S L n b g w) q a):Ek P l.toArray Q S L (q.length+n) listed a w:=
 vz (Region.noSelect_spec x) u T n z q listed b a R h
end
section
variable {I:aH} {w:World} {L:List aw} {g:Nat} {m:Nat->Rg}
theorem ud{α:Type}(f:Nat->α)(k:Nat):aJ f k (f k)=f:=by
 funext i
 by_cases h:i=k
 ·subst h;rw[aW]
 ·rw[cm _ _ _ _ h]
theorem St.CL{U:Nat->RV}{R:World->Prop}{k j:Nat}{x:Rg}{p:RV}{u:Value}(h:St I w (im g U m::dx U m::aS R::L))(F:k<4)(N:j<7)
 (E:DY x p=(DY (m k) (U k)).set j u) (J:∀O,AR O (U k) (m k)->R O->AR O p x):St I (w.setCell ⟨g,k*7+j,none⟩ u) (im g (aJ U k p) (aJ m k x)::dx (aJ U k p) (aJ m k x)::L):=by
 have Z:=h.bI (k*7+j) u;rw[uP m U F N E]at Z;exact afB
theorem St.Ue(h:St I w L):St I (w.alloc (.cells (nj tA (λ_=>xC)) 90)) (im w.heap.size (λ_=>xC) tA::dx (λ_=>xC) tA::L):=
 (h.bG (R:=λw=>∀k,k<4->AR w xC (tA k)) (λO _ _k _=>⟨λ_ _=>aA.none_ O _,bF.none_ _ _ _ _⟩)).alloc 90 _
theorem Mm(m:Nat->Rg)(U:Nat->RV){k:Nat}(F:k<4){u:Value}(E:(U k).log=u):(nj m U).setIfInBounds (k*7+6) u=nj m U:=by
 rw[uP m U F oM (x:=m k) (p:=U k) (by subst E;rfl),ud,ud]
theorem St.WZ{U:Nat->RV}{k:Nat}{u:Value}{e:TypeId}{a:List (LI)}{x:Rg}(h:St I w (ab g 90 ((nj m U).setIfInBounds (k*7+6) u)::dx U m::ay e 1 dP u a::L))(F:k<4)(J:x={m k with log:=a}):
 ∃p:RV,p.log=u/\St I w (im g (aJ U k p) (aJ m k x)::dx (aJ U k p) (aJ m k x)::L):=by
 obtain⟨b,Z⟩:=h.tX.kF.vm;rw[uP m U F oM (x:=x) (p:={U k with log:=u,cs:=b}) (by subst J;rfl)]at Z;refine⟨{U k with log:=u,cs:=b},rfl,?_⟩;have V:=Z.sh;exact(V.swap.tX.swap.ku (λO M Q=>CT M ⟨λj N=>by subst J;exact(M k F).b j N,by subst J;exact Q⟩)).swap
theorem ma(m:Nat->Rg)(U:Nat->RV){k:Nat}(F:k<4)(u:Value):((nj m U).setIfInBounds (k*7+6) u)[k*7+6]? =some u:=by
 rw[Array.getElem?_setIfInBounds,iP rfl,iP (show k*7+6<(nj m U).size from(by omega:k*7+6<28))]
end
theorem Rd.PH(r:Rd)(k i:Nat)(h:k<=i):(r.gz k).1 i=Rg.zero:=by
 induction k with
 |zero=>rfl
 |succ k K=>
  show aJ (r.gz k).1 k _ i=_;rw[cm _ _ _ _ oM,K oM]
theorem Kw(l:List (LI))(x:LI):(l++[x]).all fI=(l.all fI&&fI x):=by simp
theorem Nx(m:Nat->Rg)(k j:Nat)(x:Rg)(h:j<=k):lI (aJ m k x) j=lI m j:=by
 induction j with
 |zero=>rfl
 |succ j K=>rw[tK,tK,K oM,cm _ _ _ _ oM]
theorem Nw(b:Nat->LI)(k j:Nat)(x:LI)(h:j<=k):mj (aJ b k x) j=mj b j:=by
 induction j with
 |zero=>rfl
 |succ j K=>rw[tu,tu,K oM,cm _ _ _ _ oM]
theorem Kc(b:Nat->LI)(j:Nat)(x:LI):mj (aJ b j x) (j+1)=(mj b j&&fI x):=by
 rw[tu,Nw _ _ _ _ (g9 _),aW]
theorem Rp(r:Rd)(k:Nat)(ok:Bool)(h:ok=(lI (r.gz k).1 k&&mj (r.gz k).2.h3.1 4&&(r.gz k).2.h5.1.all fI)):
 lI (r.gz (k+1)).1 (k+1)=(ok&&decide ((r.gz k).2.h5.1.length<=4)&&(decide (0<(r.gz k).2.h1.1)||(r.gz k).2.h2.1==0)):=by
 show lI (aJ (r.gz k).1 k (r.gz k).2.rg) (k+1)=_;rw[tK,Nx _ _ _ _ (g9 _),aW,h];show(_&&(_&&_&&_&&_))=_;simp only[zc1]
 rfl
theorem Jo(r:Rd)(k:Nat):(r.gz (k+1)).1=aJ (r.gz k).1 k ⟨(r.gz k).2.h1.1,(r.gz k).2.h2.1,(r.gz k).2.h3.1,(r.gz k).2.h5.1⟩:=rfl
end
section
section
variable {α:Type}
def cq(g:List (LV×α)):LV:=g.flatMap Prod.fst
def sized(size:Nat)(g:List (LV×α)):Prop:=∀p∈g,p.1.length=size
theorem iM(a b:List (LV×α)):cq (a++b)=cq a++cq b:=by simp[cq]
theorem kK{size:Nat}(g:List (LV×α))(h:sized size g):(cq g).length=g.length*size:=by
 induction g with
 |nil=>simp[cq]
 |cons p r K=>
  have Z:=h p acy;have V:=K (λq d=>h q (by simp[d]));show(p.1++cq r).length=(r.length+1)*size;rw[eG,Z,V,vq];omega
theorem sized.take{size:Nat}{g:List (LV×α)}(h:sized size g)(k:Nat):sized size (g.take k):=λp o=>h p (Hn o)
theorem sized.drop{size:Nat}{g:List (LV×α)}(h:sized size g)(k:Nat):sized size (g.drop k):=λp o=>h p (Ud o)
theorem sized.append{size:Nat}{a b:List (LV×α)}(h:sized size a)(V:sized size b):sized size (a++b):=λp o=>(lU.1 o).elim (h p) (V p)
theorem nB{size:Nat}(g:List (LV×α))(h:sized size g)(k:Nat)(F:k<=g.length):(cq g).take (k*size)=cq (g.take k):=by
 have Z:(cq (g.take k)).length=k*size:=by rw[kK _ (h.take k),fJ,Ho F]
 have V:cq g=cq (g.take k)++cq (g.drop k):=by rw[<-iM,IY]
 rw[V,<-Z,XL]
theorem pW{size:Nat}(g:List (LV×α))(h:sized size g)(k:Nat)(F:k<=g.length):(cq g).drop (k*size)=cq (g.drop k):=by
 have Z:(cq (g.take k)).length=k*size:=by rw[kK _ (h.take k),fJ,Ho F]
 have V:cq g=cq (g.take k)++cq (g.drop k):=by rw[<-iM,IY]
 rw[V,<-Z,Ym]
theorem zt{size:Nat}(g:List (LV×α))(h:sized size g)(i:Nat)(p:LV×α)(z:g[i]? =some p):((cq g).drop (i*size)).take size=p.1:=by
 have B:=(lQ.1 z).1;obtain⟨_,rfl⟩:=lQ.1 z;rw[pW g h i oM,Eb B];show(g[i].1++cq _).take size=_;rw[<-h g[i] (Sp B),XL]
theorem qv{size:Nat}(g R:List (LV×α))(h:sized size g)(E:sized size R)(i:Nat)(z:i+R.length<=g.length):bh (cq g) (i*size) (cq R)=cq (bh g i R):=by
 unfold bh;rw[kK _ E,<-vq,nB g h i oM,pW g h _ z,iM,iM]
theorem EZ{size:Nat}:∀(T:List α) (U:LV),U.length=T.length*size->∃g:List (LV×α),g.map Prod.snd=T/\cq g=U/\sized size g
 |[],U,h=>by
  obtain rfl:U=[]:=AJ acX;exact⟨[],rfl,rfl,λ_ o=>by simp at o⟩
 |x::r,U,h=>by
  rw[oO,vq,Co]at h;obtain⟨g,Z,V,M⟩:=EZ (size:=size) r (U.drop size) acO;refine⟨(U.take size,x)::g,by simp[Z],?_,λp o=> ?_⟩
  ·show U.take size++cq g=U
   rw[V,IY]
  ·rcases nO.1 o with rfl|o
   ·show(U.take size).length=size
    exact acT
   ·exact M p o
end
section
variable {α:Type} {I:aH} {w:World} {L:List aw} {e:TypeId} {size:Nat} {R:World->LV->α->Prop}
def Em(R:World->LV->α->Prop)(g:List (LV×α)):World->Prop:=λw=>∀p∈g,R w p.1 p.2
theorem St.KH{n c:Nat}{T:List α}(h:St I w (ay e size R (.slice A n c) T::L)):
 ∃g:List (LV×α),g.map Prod.snd=T/\n=g.length/\sized size g/\St I w (bY e size (.slice A n c) n (cq g)::aS (Em R g)::L):=by
 obtain⟨U,W,C,Z⟩:=h.bK;obtain⟨g,S,P,t⟩:=EZ T U (by rw[C,W]);have F:g.length=T.length:=by rw[<-S,nL]
 refine⟨g,S,oM,t,?_⟩;rw[P];refine(Z.swap.bu (λO G p o=> ?_)).swap;obtain⟨i,z⟩:=zdu.1 o;have J:T[i]? =some p.2:=by rw[<-S,wO,z];rfl
 have:=G i p.2 J;rwa[<-P,zt g t i p z]at this
theorem St.Px{v:Value}{q:Nat}{g:List (LV×α)}{T:List α}(h:St I w (bY e size v q (cq g)::aS (Em R g)::L))(K:sized size g)(J:g.map Prod.snd=T)(d:q=g.length):St I w (ay e size R v T::L):=by
 subst J;subst d;refine St.cZ (f:=λU=>aX (bY e size v (g.map Prod.snd).length U) (aS (λw=>∀(i:Nat) y,(g.map Prod.snd)[i]? =some y->R w ((U.drop (i*size)).take size) y))) (cq g) ?_;refine St.aM ?_;rw[nL];refine(h.swap.bu (λO G i y z=> ?_)).swap;rw[wO]at z
 cases H:g[i]? with
 |none=>rw[H]at z;simp at z
 |some p=>
  rw[H]at z;obtain rfl:p.2=y:=by simpa using z
  rw[zt g K i p H];exact G p (pJ H)
theorem St.o8{b n c:Nat}{T:LV}(h:St I w (bY e size (.slice (aO b) n c) n T::L))(o:Nat)(R:LV)(H:o+R.length<=n*size):
 St I (w.setCells b o R) (bY e size (.slice (aO b) n c) n (bh T o R)::L):=
 h.oU (kE (h.row 0 rfl) o H) (jN b R o w (Fr.refl _ _) (λ_=>rfl)) (.inl rfl)
theorem St.uY{n c m:Nat}{T:LV}(h:St I w (bY e size (.slice A n c) n T::L))(y:m<=n):
 St I w (bY e size (.slice A m c) m (T.take (m*size))::L):=by
 exact aeb
end
section
variable {P:Program} {I:aH} {w:World} {L:List aw} {t e:TypeId} {z:Value} {size bytes:Nat}
theorem St.vP(q:eB P t e z size bytes){b n c:Nat}{T:LV}(h:St I w (bY e size (.slice (aO b) n c) n T::L))(i j p:Nat)(a:Addr)(H:j<n->a=⟨b,j*size,none⟩)
 (A:i<=j) (R:j<=n) (Z:∀u∈T,u.oneCell'=true):
 ∃O,(∀X,(Builtin.append_ #[t,t] X #[.slice (aO b) i c,.slice (some a) (n-j) p]).run P w= .ok (.slice (aO b) (i+(n-j)) c) O)/\
  St I O (bY e size (.slice (aO b) n c) n (bh T (i*size) (T.drop (j*size)))::L):=by
 have Y:=h.row 0 rfl;obtain⟨r,N,_,J,_⟩:=info_parts q.jW;obtain⟨l,B,M,U,W,y,_⟩:=mL Y;have C:(T.drop (j*size)).length=(n-j)*size:=by rw[km,Y.1,Nat.sub_mul]
 have x:i*size<=j*size:=vl _ A;have V:j*size<=n*size:=vl _ R;have Q:n*size<=l.size:=by rw[U];exact vl _ W
 have d:i*size+(T.drop (j*size)).length<=n*size:=by rw[C,Nat.sub_mul];omega
 have D:∀k u,(T.drop (j*size))[k]? =some u->w.cell? (a.add k)=some u:=by
  intro k u E;have F:=(lQ.1 E).1;by_cases o:j<n
  ·rw[H o]
   have S:=Y.cells (g:=b) rfl (j*size+k) u (by rw[<-xV];exact E);have K:(⟨b,0,none⟩:Addr).add (j*size+k)=(⟨b,j*size,none⟩:Addr).add k:=by
    unfold Addr.add
    split<;>split<;>simp_all
   rwa[K]at S
  ·have:n-j=0:=oM
   rw[C,this]at F;omega
 have G:=λX=>run_append_room (P:=P) w t X e r q.ht N b i c l B a (n-j) p (T.drop (j*size)) (by rw[J];exact C) D (λu E=>Z u (Ud E)) oM (by rw[J];omega);refine⟨_,G,?_⟩;rw[J];refine h.oU ?_ ?_ (.inl rfl)
 ·refine tr (setRow_heap w b l _ e _ B) ?_ ?_ W y (jG _)
  ·show(bh l.toList (i*size) (T.drop (j*size))).take (n*size)=_
   rw[xp _ _ _ _ d (by simpa using Q),M]
  ·rw[So]
   show(bh l.toList (i*size) (T.drop (j*size))).length=_;rw[ia l.toList (i*size) (T.drop (j*size)) (by rw[VX];exact qJ d Q),VX,U]
 ·exact⟨rfl,rfl,rfl,by simp,λk _ F=>setRow_other w b k _ (λe=>F (by simp[Value.ownBlock,e]))⟩
theorem St.pz(q:eB P t e z size bytes)(G:∀w,(zeroValue e).run P w= .ok z w)(o:∀u∈z.cells,u.oneCell'=true){b n c:Nat}{T:LV}(h:St I w (bY e size (.slice (aO b) n c) n T::L))(i j p:Nat)(a:Addr)(Q:i<j->a=⟨b,i*size,none⟩)
 (S:i<=j) (N:j<=n):
 ∃O R,(∀X,(Builtin.clear_ #[t] X #[.slice (some a) (j-i) p]).run P w= .ok (.tuple #[]) O)/\R.length=(j-i)*size/\
  St I O (bY e size (.slice (aO b) n c) n (bh T (i*size) R)::L):=by
 by_cases B:i<j
 ·rw[Q B]
  have Y:=h.row 0 rfl;have x:i*size+(j-i)*size<=n*size:=by rw[<-vq];exact vl _ oM
  have C:(Builtin.zeroCells z.cells (j-i)).toList.length=(j-i)*size:=by rw[VX,size_zeroCells,q.Jg]
  have W:=iL Y (i*size) ((j-i)*size) x;have V:=run_storeCells_cells (P:=P) b (i*size) (Builtin.zeroCells z.cells (j-i)).toList 0 w (λk F=>by rw[vt];exact(W k oM).1) (λk F=>by rw[vt];exact(W k oM).2) (by
   intro u E;have r:0<z.cells.size:=by rw[q.Jg];exact q.mT
   unfold Builtin.zeroCells at E;rw[Zc,oK]at E;obtain⟨k,_,rfl⟩:=E;have F:=Zf k r;rw[getElem!_pos z.cells _ F];exact o _ (Array.getElem_mem F))
  simp only[vt]at V;refine⟨_,_,?_,C,h.o8 (i*size) _ (by rw[C];exact x)⟩;intro X;obtain⟨m,y⟩:∃m,j-i=m+1:=⟨j-i-1,oM⟩;rw[y]at V⊢;simp[Builtin.clear_,run_underlying q.ht,G,V]
 ·have K:j-i=0:=oM
  refine⟨w,[],?_,by rw[K];simp,by simpa[bh]using h⟩;rw[K];intro X;simp[Builtin.clear_,run_underlying q.ht]
theorem vW{ops:Array Oper}{rest:List Oper}{o:Oper}{a:Act}{Q:Exit->Act->World->Prop}{s x:Operand}{v u g:Value}{O:World}(t:TypeId)(r:o.guard=none)
 (H:o.op= .call {callee:= .builtin .append,args:= #[s,x],argTypes:= #[t,t]}) (U:a.eval s=v) (J:a.eval x=u)
 (G:∀X,(Builtin.append_ #[t,t] X #[v,u]).run P w= .ok g O) (k:wpList P ops Q rest (a.put o.dst g) O):wpList P ops Q (o::rest) a w:=by
 refine wpList_plain r λK l=> ?_;unfold Oper.wp execOp;simp only[H,resolve,invoke,builtin,Sem.run_bind,Sem.run_pure,Result.andThen_ok,FV,li,BQ,U,J,G];exact l _ _ k
end
end
theorem St.GP{α:Type}{I:aH}{w:World}{L:List aw}{e:TypeId}{size:Nat}{R:World->LV->α->Prop}{n c:Nat}{T:List α}(h:St I w (ay e size R (.slice A n c) T::L))(K:0<size){k:Nat}{x:α}(F:T[k]? =some x):
 ∃Y N,A=some Y/\N.length=size/\(∀j u,N[j]? =some u->w.cell? ((Y.add (k*size)).add j)=some u)/\R w N x/\n=T.length/\St I w (aS (λO=>R O N x)::ay e size R (.slice A n c) T::L):=by
 exact adS
theorem St.fx{α:Type}{I:aH}{w:World}{L:List aw}{e:TypeId}{size:Nat}{R:World->LV->α->Prop}{v:Value}{T:List α}(h:St I w (ay e size R v T::L)):∃A c,v= .slice A T.length c/\T.length<=c/\c<=maxLen:=by
 obtain⟨A,c,q,U,rfl,d,Z⟩:=h.nC;subst d;rcases(Z.row 0 rfl).2 with⟨V,K⟩|⟨g,cap,l,V,u,H,D,y,_⟩
 ·injection V with V M Q
  exact⟨A,c,rfl,oM,by unfold maxLen;omega⟩
 ·injection V with V M Q
  exact⟨A,c,rfl,oM,oM⟩
def ju{L:Type}(f:L->PU->Bool×L):L->Nat->List PU->Int×L
 |s,_,[]=>(-1,s)
 |s,i,x::r=>if(f s x).1=true then((i:Int),(f s x).2)else ju f (f s x).2 (i+1) r
def eI{L:Type}(f:L->PU->Bool×L):L->List PU->List PU
 |_,[]=>[]
 |s,x::r=>if(f s x).1=true then eI f (f s x).2 r else x::eI f (f s x).2 r
def qC{L:Type}(f:L->PU->Bool×L)(s:L)(l:List PU):L:=l.foldl (λs x=>(f s x).2) s
theorem Mz{I:aH}{L:Type}(T:L->List aw)(f:FuncId)(cap:Value)(p:L->PU->Bool×L)(J:L)(l:List PU)(A:OA)(n c:Nat)(w:World)
 (D:∀(args:Vq) (W:World),Sem.run prog (callFunc f args) W= .ok (.enter f args) W)
 (hF:∀(s:L) (x:PU) (v:Value) (W:World),x∈l->St I W (ay 213 3 bU (.slice A n c) l::T s)->Calls prog f #[tU x v,cap] W λe g=>e= .returned (.bool (p s x).1)/\St I g (ay 213 3 bU (.slice A n c) l::T (p s x).2))
 (h:St I w (ay 213 3 bU (.slice A n c) l::T J)):
 Rt I w 159 #[.slice A n c,.func (.func f) #[] #[cap]] (iI (ju p J 0 l).1) (ay 213 3 bU (.slice A n c) l::T (ju p J 0 l).2):=by
 obtain⟨A',c',e,F,y⟩:=h.fx;injection e with S P t;subst S;subst t;have b:=aa P;have B0:n<=c:=oM
 have A0:(c:Int)<=9223372036854775807:=by unfold maxLen at y;omega
 refine mr h hF D (show ju p J 0 l=ju p J 0 (l.drop 0)from rfl) λH Z V j=>?_;clear h P hF D y F
 go_enter func159,ntmps159
 go_wp2_with fail
 go_loopg [8] n (λq i wr=>∃(k:Nat) (s:L),q=n-k/\k<=n/\i= iI (k:Nat)/\ju p J 0 l=ju p s k (l.drop k)/\St I wr (ay 213 3 bU (.slice A n c) l::T s))
 case atStart=>exact⟨0,J,rfl,oM,rfl,j.out,H⟩
 case round=>
  clear H j;obtain⟨k,s,u,hk,rfl,z,h⟩:=hrel;have R:=aa u;clear u;by_cases M:k<n
  ·have B:=gP (l:=l) (i:=k) acS
   have O:=Eb (l:=l) (i:=k) acS;generalize l[k]' acS=x at B O;have U:ju p s k (l.drop k)=if(p s x).1=true then((k:Int),(p s x).2)else ju p (p s x).2 (k+1) (l.drop (k+1)):=by rw[O];rfl
   have G:=aa (pJ B);obtain⟨ad,cs,rfl,_,a,⟨v,rfl,K⟩,-,Y⟩:=h.GP oM B;obtain⟨X,d,rfl,_,_,_⟩:=id K;obtain⟨Q,S,P⟩:=oN a;refine bm (z.trans U) h λC r=>?_;clear B h Y K a O U z;have i0:(0:Int)<=(k:Int):=oM
   have i1:(k:Int)<(n:Int):=oM
   go_wp2_with fail
   rw[V.out,Oper.upon_enter];refine qH (Z s x (.slice X x.data.length d) _ G r) λw2 N=>?_;clear r Q S P
   cases o:(p s x).1 with
   |true=>
    exact aeS
   |false=>
    exact afZ
  ·exact aem
theorem NI(p:PU->Bool)(l:List PU):∀i,ju (λ(_:Unit) x=>(p x,())) () i l=(fW p i l,()):=by
 induction l with
 |nil=>intro i;rfl
 |cons x r K=>
  intro i;show(if p x=true then((i:Int),())else ju _ () (i+1) r)=((if p x=true then(i:Int)else fW p (i+1) r),())
  split
  ·rfl
  ·exact K _
theorem tI{I:aH}{L:List aw}(f:FuncId)(cap:Value)(p:PU->Bool)(l:List PU)(A:OA)(n c:Nat)(w:World)
 (D:∀(args:Vq) (W:World),Sem.run prog (callFunc f args) W= .ok (.enter f args) W)
 (hF:∀(x:PU) (v:Value) (W:World),x∈l->St I W (ay 213 3 bU (.slice A n c) l::L)->Calls prog f #[tU x v,cap] W λe g=>e= .returned (.bool (p x))/\St I g (ay 213 3 bU (.slice A n c) l::L))
 (h:St I w (ay 213 3 bU (.slice A n c) l::L)):
 Rt I w 159 #[.slice A n c,.func (.func f) #[] #[cap]] (iI (fW p 0 l)) (ay 213 3 bU (.slice A n c) l::L):=by
 have Z:=Mz (λ_:Unit=>L) f cap (λ_ x=>(p x,())) () l A n c w D (λ_ x v W B J=>hF x v W B J) h;rw[NI]at Z;exact Z
theorem vj{I:aH}{L:List aw}(f:FuncId)(cap:Value)(p:PU->Bool)(l:List PU)(A:OA)(n c:Nat)(w:World)
 (D:∀(args:Vq) (W:World),Sem.run prog (callFunc f args) W= .ok (.enter f args) W)
 (hF:∀(x:PU) (v:Value) (W:World),x∈l->St I W (ay 213 3 bU (.slice A n c) l::L)->Calls prog f #[tU x v,cap] W λe g=>e= .returned (.bool (p x))/\St I g (ay 213 3 bU (.slice A n c) l::L))
 (h:St I w (ay 213 3 bU (.slice A n c) l::L)):
 Rt I w 113 #[.slice A n c,.func (.func f) #[] #[cap]] (.bool (l.any p)) (ay 213 3 bU (.slice A n c) l::L):=by
 refine bm (tI f cap p l A n c w D hF h) (yE p l 0) λC J=>?_;exact af8
theorem jq:eB prog 67 213 (.agg #[iI 0,iI 0,sN]) 3 40:=⟨underlying67,kR,kR,oM⟩
theorem FN(w:World):(zeroValue 213).run prog w= .ok (.agg #[iI 0,iI 0,sN]) w:=by
 obtain⟨q,H,G,_,_⟩:=info_parts jq.jW;simp[zeroValue,typeInfo,H,G]
theorem Dm{I:aH}{L:List aw}(l:List PU)(A:OA)(n c i j:Nat)(w:World)(N:j=i+1)(z:i<l.length)(h:St I w (ay 213 3 bU (.slice A n c) l::L)):
 Calls prog 162 #[.slice A n c,iI i,iI j] w λe O=>∃q,q+1=n/\e= .returned (.slice A q c)/\St I O (ay 213 3 bU (.slice A q c) (l.eraseIdx i)::L):=by
 obtain⟨g,H,W,Y,Z⟩:=h.KH;have B0:g.length=l.length:=by rw[<-H,nL]
 obtain⟨b,rfl⟩:=fQ (Z.row 0 rfl) oM;obtain⟨A',c',M,D,hm⟩:=h.fx;injection M with e1 M e2;subst e2;refine mr Z H Y W λr HZ V R=>?_;have E0:i<n:=oM
 have i0:(0:Int)<=(i:Int):=oM
 have i1:(i:Int)<=(j:Int):=oM
 have i2:(j:Int)<=(n:Int):=oM
 have i3:(n:Int)<=(c:Int):=oM
 have i4:(0:Int)<=(j:Int):=oM
 have i5:(0:Int)<=(n:Int):=oM
 have i6:(j:Int)<=(c:Int):=oM
 have i7:(i:Int)<=(c:Int):=oM
 have bne:((i:Int)==(j:Int))=false:=kO oM;refine bm N M λt HL=>?_;clear h Z H Y B0 M W z e1 D N
 go_enter func162,ntmps162
 go_wp2_with fail
 refine fO 6 kR kR (λC0 P=> ?_);have U:=aa (r.drew);rw[<-P]at U;clear P r;simp only[Kx,Hm,Nl,AW]
 repeat still_step
 try refine wpStill_nil ?_
 obtain⟨a,S,B⟩:∃a:Addr,(if c=j then some (⟨b,0,none⟩:Addr)else some ⟨b,j*3,none⟩)=some a/\(j<n->a=⟨b,j*3,none⟩):=by
  exact aeJ
 rw[S];have x:∀u∈cq g,u.oneCell'=true:=by
  intro u E;obtain⟨p,o,E⟩:=List.mem_flatMap.1 E;obtain⟨v,hv,A,D0,z,_⟩:=(U.get 1 rfl) p o;rw[hv,z]at E;simp only[nO,nK,or_false]at E;exact afA
 obtain⟨w2,G,J⟩:=St.vP jq U i j (c-j) a B oM oM x;obtain⟨q,d⟩:=nM (i+(n-j));have y:q+1=n:=by rw[d];have:=t.out;omega
 rw[<-d]at G;refine vW 67 rfl rfl rfl rfl G ?_;clear G S B x;refine ib J d y λT HQ k=>?_;have q0:(0:Int)<=(q:Int):=oM
 have q1:(q:Int)<=(n:Int):=oM
 have q2:(q:Int)<=(c:Int):=oM
 have q3:¬c=q:=oM
 obtain⟨w3,ys,X,hy,K⟩:=St.pz jq FN dC T q n (c-q) ⟨b,q*3,none⟩ (λ_=>rfl) oM oM;have D:=X 0;have F:=aa K;clear J U d y X hy T K;simp only[Act.put]
 go_wp2_with fail
 go_ret
 refine⟨q,k,rfl,?_⟩;have Q:=F.uY (m:=q) (by have:=k.out;omega);have e:(bh (bh (cq g) (i*3) ((cq g).drop (j*3))) (q*3) ys).take (q*3)=cq (g.eraseIdx i):=by
  have N:=t.out;have W:=R.out;have d:=k.out;have f1:(cq g).take (i*3)=cq (g.take i):=nB g V i oM;have f2:(cq g).drop (j*3)=cq (g.drop j):=pW g V j oM;have f3:(cq (g.take i)++cq (g.drop j)).length=q*3:=by
   rw[<-iM,kK _ ((V.out.take i).append (V.out.drop j)),eG,fJ,km]
   exact aeC
  unfold bh;rw[f1,f2];rw[Yn f3,nX,Yn f3,<-iM,N,VD]
 rw[e]at Q;have A0:(g.eraseIdx i).length=q:=by
  have W:=R.out;exact afw
 refine(Q.swap.bu (λO G p o=>G p (Xj o))).swap.Px (λp o=>V p (Xj o)) ?_ A0.symm;rw[<-HZ.out,VD,VD,xd,Sx,WT]
section
open Go.Shelf
variable {cx:CX}
def cC(r i:Int)(x:PU):Bool:=x.region==r&&x.index==i
def an(cx:CX)(g:Nat)(D wr:List PU):aw:=AU λp:Value×Value=>aX (ab g 75 (cF cx p.1 p.2)) (aX (ay 213 3 bU p.1 D) (ay 213 3 bU p.2 wr))
theorem St.nI{I:aH}{w:World}{L:List aw}{g:Nat}{D wr:List PU}(h:St I w (an cx g D wr::L)):
 ∃A c S d,D.length<=c/\wr.length<=d/\c<=9223372036854775807/\d<=9223372036854775807/\St I w (ab g 75 (cF cx (.slice A D.length c) (.slice S wr.length d))::ay 213 3 bU (.slice A D.length c) D::ay 213 3 bU (.slice S wr.length d) wr::L):=by
 obtain⟨⟨v,u⟩,Z⟩:=h.ex;have V:=Z.star;have M:=V.swap.star;obtain⟨A,c,rfl,Y,Q⟩:=M.fx;obtain⟨S,d,rfl,q,a⟩:=M.swap.fx;exact⟨A,c,S,d,Y,q,by unfold maxLen at Q;omega,by unfold maxLen at a;omega,M.tX⟩
theorem St.gT{I:aH}{w:World}{L:List aw}{g:Nat}{D wr:List PU}{v u:Value}(h:St I w (ab g 75 (cF cx v u)::ay 213 3 bU v D::ay 213 3 bU u wr::L)):St I w (an cx g D wr::L):=
 St.cZ (f:=λp:Value×Value=>aX (ab g 75 (cF cx p.1 p.2)) (aX (ay 213 3 bU p.1 D) (ay 213 3 bU p.2 wr))) (v,u) (h.sh.aM.swap.aM)
theorem UQ{I:aH}{L:List aw}(b:Nat)(r i:Int)(y:PU)(v:Value)(W:World)(h:St I W L)(j:Nat)(N:L[j]? =some (ab b 166 #[iI r,iI i])):
 Calls prog 163 #[tU y v,pO b] W λe g=>e= .returned (.bool (cC r i y))/\Fr iY W g:=by
 obtain⟨a,k,d⟩:=y;have Z:=h.alloc 213 #[iI a,iI k,v];have o:(W.alloc (.cells #[iI a,iI k,v] 213)).cell? (aD b 0)=some (iI r):=(Z.ah (j+1) N).cell 0;have E:(W.alloc (.cells #[iI a,iI k,v] 213)).cell? (aD b 1)=some (iI i):=(Z.ah (j+1) N).cell 1;clear h Z N
 go_enter func163,ntmps163
 exact ad1
theorem Lh{I:aH}{L:List aw}(b:Nat)(r i:Int)(y:PU)(v:Value)(W:World)(h:St I W L)(j:Nat)(N:L[j]? =some (ab b 166 #[iI r,iI i])):
 Calls prog 167 #[tU y v,pO b] W λe g=>e= .returned (.bool (cC r i y))/\Fr iY W g:=by
 obtain⟨a,k,d⟩:=y;have Z:=h.alloc 213 #[iI a,iI k,v];have o:(W.alloc (.cells #[iI a,iI k,v] 213)).cell? (aD b 0)=some (iI r):=(Z.ah (j+1) N).cell 0;have E:(W.alloc (.cells #[iI a,iI k,v] 213)).cell? (aD b 1)=some (iI i):=(Z.ah (j+1) N).cell 1;clear h Z N
 go_enter func167,ntmps167
 exact ad1
theorem KB{I:aH}{L:List aw}(g:Nat)(D wr:List PU)(r i:Int)(w:World)(h:St I w (an cx g D wr::L)):
 Rt I w 105 #[.pointer (some ⟨g,20,none⟩),.agg #[iI r,iI i]] (iI (fW (cC r i) 0 D)) (an cx g D wr::L):=by
 obtain⟨A,c,S,d,_,_,_,_,Z⟩:=h.nI;have V:=Z.alloc 166 #[iI r,iI i];have G:=(V.ah 1 rfl).cell 20;have H:=aa (V.pk 4 [2,0,1,3]);clear h Z V
 go_enter func105,ntmps105
 go_wp2_with fail
 refine qK (tI 163 (pO w.heap.size) (cC r i) D A D.length c _ (enters_of func163 kR rfl) (λx v W _ J=>(UQ w.heap.size r i x v W J 1 rfl).mono (λe O ⟨Y,a⟩=>⟨Y,J.grow a⟩)) H) λX h=>?_;have T:=aa (h.pk 4 [2,0,3]);exact afP
theorem Rf{I:aH}{L:List aw}(g:Nat)(D wr:List PU)(r i:Int)(w:World)(h:St I w (an cx g D wr::L)):
 Rt I w 111 #[.pointer (some ⟨g,20,none⟩),.agg #[iI r,iI i]] (.bool (wr.any (cC r i))) (an cx g D wr::L):=by
 obtain⟨A,c,S,d,_,_,_,_,Z⟩:=h.nI;have V:=Z.alloc 166 #[iI r,iI i];have G:=(V.ah 1 rfl).cell 21;have H:=aa (V.pk 4 [3,0,1,2]);clear h Z V
 go_enter func111,ntmps111
 go_wp2_with fail
 refine qK (vj 167 (pO w.heap.size) (cC r i) wr S wr.length d _ (enters_of func167 kR rfl) (λx v W _ J=>(Lh w.heap.size r i x v W J 1 rfl).mono (λe O ⟨Y,a⟩=>⟨Y,J.grow a⟩)) H) λX h=>?_;have T:=aa (h.pk 4 [2,3,0]);exact afP
end
section
variable {cx:CX}
theorem mW(w:World)(a b:Int)(A:OA)(n k:Nat):(Instr.buildSlice 67 1 #[(0,.agg #[iI a,iI b,.slice A n k])]).run prog w= .ok (.slice (aO w.heap.size) 1 1) (w.alloc (.cells #[iI a,iI b,.slice A n k] 213)):=kR
theorem sC(a b:Int)(A:OA)(n k:Nat):∀u∈[Value.int .i64 a,iI b,.slice A n k],u.oneCell'=true:=by
 intro u E;simp at E;exact afA
def Tp(g y:Nat)(v a b d:Value)(W:World):Prop:=W.cell? (aD g 20)=some v/\W.cell? (aD y 0)=some a/\W.cell? (aD y 1)=some b/\W.cell? (aD y 2)=some d
theorem jz{I:aH}{W:World}{e:List aw}{g y:Nat}{v u a b d:Value}(h:St I W e)(i j:Nat)(z:e[i]? =some (ab g 75 (cF cx v u)))(N:e[j]? =some (ab y 213 #[a,b,d])):Tp g y v a b d W:=
 ⟨(h.ah i z).cell 20,(h.ah j N).cell 0,(h.ah j N).cell 1,(h.ah j N).cell 2⟩
theorem uj{w:World}{b:Nat}{t:TypeId}{cs:LV}(h:eF w b t cs.toArray):Sl w Any cs.length (aO b) 1 cs:=
 ⟨by simp,λ_=>⟨_,rfl,trivial,h.lt,λj u E=>by
  rw[show(⟨b,0,none⟩:Addr).add j=⟨b,j,none⟩by simp[Addr.add];exact Qt,h.cell];simpa using E⟩⟩
theorem QF{I:aH}{L:List aw}(g:Nat)(D wr:List PU)(i:Nat)(x:PU)(w:World)(B:D[i]? =some x)(hl:D.length<=1000000)(h:St I w (an cx g D wr::L)):
 Rt I w 106 #[.pointer (some ⟨g,20,none⟩),iI i] (.tuple #[]) (an cx g (D.eraseIdx i++[x]) wr::L):=by
 obtain⟨A,c,gw,d,hc,_,G0,_,Z⟩:=h.nI;have k:=(lQ.1 B).1;obtain⟨n,u⟩:=nM (D.length);rw[<-u]at Z hc;have G:=(Z.ah 0 rfl).cell 20;obtain⟨Y,cs,rfl,_,o,⟨v,rfl,hv⟩,-,E⟩:=(Z.pk 3 [1,0,2]).GP oM B;obtain⟨X,r,rfl,_,_,_⟩:=id hv;obtain⟨e0,e1,e2⟩:=oN o;refine ib E k u λT C HN=>?_;have i0:(0:Int)<=(i:Int):=oM
 have i1:(i:Int)<(n:Int):=oM
 have i2:(n:Int)<=1000000:=oM
 have f:=(Z.ah 0 rfl).frozen;clear h Z E hv o k u B hl
 go_enter func106,ntmps106
 go_wp2_with fail
 have M:=T.alloc 213 #[iI x.region,iI x.index,.slice X x.data.length r];generalize w.heap.size=y at M⊢;have N:=aa M;clear M T e0 e1 e2 G f;generalize w.alloc _=w3 at N⊢;obtain⟨j,O⟩:=nM (i+1);have a:=aa O;have jw:IntKind.i64.wrap ((i:Int)+1)=(j:Int):=by rw[O,IntWalk.i64_in _ oM];omega
 clear O;refine wM (Tp g y (.slice (some Y) n c) (iI x.region) (iI x.index) (.slice X x.data.length r)) 12 5 [0,1,2,3,4,5,6,7,9] [[8,10,11,12,13,14],[10,8,11,12,13,14]] kR kR (λd=>by cases d<;>exact λ_ _ _ _ h=>h) (λW J=> ?_);have U:=aa (N.drew);rw[<-J]at U;clear J N;refine⟨jz U 3 0 rfl rfl,?_⟩
 iterate 7 (refine bN rfl rfl (λW J=>by(obtain⟨G,y0,y1,y2⟩:=J;go_simp;try rfl)) ?_;simp only[aR])
 refine bN (v:= iI j) rfl rfl (λW J=>by(obtain⟨G,y0,y1,y2⟩:=J;go_simp;first|done|(rw[jw];try rfl))) ?_;simp only[aR];refine bN rfl rfl (λW J=>by(obtain⟨G,y0,y1,y2⟩:=J;go_simp;try rfl)) ?_;simp only[aR];refine take_nil ?_;intro tl B0;simp only[nO,nK,or_false]at B0;rcases B0 with rfl|rfl
 case' inl=>
  have Q:=U.pk 5 [2,0,1,3,4];refine eP (f:=162) (args:= #[.slice (some Y) n c,iI i,iI j]) rfl rfl gS ?_;refine(Dm D (some Y) n c i j W a C Q).mono ?_;rintro e w4⟨q,P,rfl,F⟩;refine⟨_,rfl,λ_=>jz F 3 1 rfl rfl,?_⟩;simp only[aR];refine bm P (F.alloc 213 #[iI x.region,iI x.index,.slice X x.data.length r]) λR K=>?_;clear Q F P U;refine bX rfl rfl 67 1 0 _ (.agg #[iI x.region,iI x.index,.slice X x.data.length r]) rfl rfl (mW _ _ _ _ _ _) (λ_=>jz K 4 2 rfl rfl) ?_;simp only[aR];generalize w4.heap.size=z at K⊢;generalize w4.alloc _=w6 at K⊢
 case' inr=>
  have Q:=U.alloc 213 #[iI x.region,iI x.index,.slice X x.data.length r];refine bX rfl rfl 67 1 0 _ (.agg #[iI x.region,iI x.index,.slice X x.data.length r]) rfl rfl (mW _ _ _ _ _ _) (λ_=>jz Q 4 1 rfl rfl) ?_;simp only[aR];generalize W.heap.size=z at Q⊢;have F:=Q.pk 6 [3,0,1,2,4,5];clear Q U;generalize W.alloc _=W4 at F⊢;refine eP (f:=162) (args:= #[.slice (some Y) n c,iI i,iI j]) rfl rfl gS ?_;refine(Dm D (some Y) n c i j W4 a C F).mono ?_;rintro e w6⟨q,P,rfl,S⟩;refine⟨_,rfl,λ_=>jz S 4 2 rfl rfl,?_⟩;simp only[aR];refine bm P S.swap λR K=>?_;clear F S P
 all_goals
  have l:=K.pk 6 [1,0,2,3,4,5];obtain⟨F0,A0,C0,t⟩:=l.bK;have E0:=R.out;refine qe jq t rfl rfl _ _ rfl rfl (aO z) 1 1 rfl [iI x.region,iI x.index,.slice X x.data.length r] (uj (cs:=[iI x.region,iI x.index,.slice X x.data.length r]) (t.ah 2 rfl)) (sC _ _ _ _ _) oM oM (λV b w7 p=>⟨λ_=>jz p 5 3 rfl rfl,?_⟩);simp only[aR];have H:=(p.pk 7 [0,1,4,5,6]).fR A0 rfl C0;have G:=(H.ah 1 rfl).cell 20;have f:=(H.ah 1 rfl).frozen;have D0:=aa (H.swap.bI 20 (.slice V (q+1) b));clear l t p H E0 A0 C0 K
  iterate 2 (refine bD rfl rfl gS nD ?_;simp only[aR])
  refine dp rfl rfl 67 _ _ (.pointer (some ⟨g,20,none⟩)) (.slice V (q+1) b) rfl rfl rfl gS nD ?_;simp only[Act.put];refine cN ?_;clear G f
  go_wp2_with fail
  go_end0
  exact⟨rfl,D0.gT⟩
end
section
open Go.Shelf
variable {cx:CX}
theorem Mt{I:aH}{L:List aw}(g:Nat)(wr:List PU)(A S:OA)(n c m d:Nat)(r i:Int)(w:World)(h:St I w (ab g 75 (cF cx (.slice A n c) (.slice S m d))::ay 213 3 bU (.slice S m d) wr::L)):
 Rt I w 111 #[.pointer (some ⟨g,20,none⟩),.agg #[iI r,iI i]] (.bool (wr.any (cC r i))) (ab g 75 (cF cx (.slice A n c) (.slice S m d))::ay 213 3 bU (.slice S m d) wr::L):=by
 have V:=h.alloc 166 #[iI r,iI i];have G:=(V.ah 1 rfl).cell 21;have H:=aa (V.pk 3 [2,0,1]);clear h V
 go_enter func111,ntmps111
 go_wp2_with fail
 refine qK (vj 167 (pO w.heap.size) (cC r i) wr S m d _ (enters_of func167 kR rfl) (λx v W _ J=>(Lh w.heap.size r i x v W J 1 rfl).mono (λe O ⟨Y,a⟩=>⟨Y,J.grow a⟩)) H) λX h=>?_;have T:=aa (h.pk 3 [2,0]);clear H h G
 exact adW
def qZ(wr:List PU)(x:PU):Bool:= !wr.any (cC x.region x.index)
theorem UD{I:aH}{X:aw}{L:List aw}(g b:Nat)(wr:List PU)(A S:OA)(n c m d:Nat)(y:PU)(v:Value)(w:World)(h:St I w (X::ab b 211 #[.pointer (some ⟨g,20,none⟩)]::ab g 75 (cF cx (.slice A n c) (.slice S m d))::ay 213 3 bU (.slice S m d) wr::L)):
 Rt I w 161 #[tU y v,pO b] (.bool (qZ wr y)) (X::ab b 211 #[.pointer (some ⟨g,20,none⟩)]::ab g 75 (cF cx (.slice A n c) (.slice S m d))::ay 213 3 bU (.slice S m d) wr::L):=by
 obtain⟨a,k,Q⟩:=y;have Z:=h.alloc 213 #[iI a,iI k,v];have G:=(Z.ah 2 rfl).cell 0;have o:=(Z.ah 0 rfl).cell 0;have E:=(Z.ah 0 rfl).cell 1;have H:=aa (Z.pk 5 [3,4,1,2]);clear h Z
 go_enter func161,ntmps161
 go_wp2_with fail
 refine qK (Mt g wr A S n c m d a k _ H) λq h=>?_;have T:=aa (h.pk 4 [2,3,0,1]);clear H h G o E
 exact adW
end
section
section
variable {α:Type} {I:aH} {w:World} {L:List aw} {e:TypeId} {size:Nat} {R:World->LV->α->Prop}
theorem yY{c:Type}(T:List c)(k:Nat)(x:c)(F:k<T.length):bh T k [x]=T.set k x:=by
 unfold bh;rw[zb7,iP F];exact acy
theorem St.Lc{n c k:Nat}{T:List α}{N:LV}{x:α}(h:St I w (ay e size R (.slice A n c) T::aS (λw=>R w N x)::L))(D:N.length=size)(F:k<T.length):
 ∃b,A=some ⟨b,0,none⟩/\St I (w.setCells b (k*size) N) (ay e size R (.slice A n c) (T.set k x)::L):=by
 obtain⟨g,G,W,U,Z⟩:=h.KH;have y:g.length=T.length:=by rw[<-G,nL]
 obtain⟨b,rfl⟩:=fQ (Z.row 0 rfl) oM;refine⟨b,rfl,?_⟩;have X:(k+1)*size<=n*size:=vl _ oM;rw[vq,Co]at X;have V:=Z.o8 (k*size) N oM;have S:=qv g [(N,x)] U (λp o=>by
  obtain rfl:p=(N,x):=by simpa using o
  exact D) k acC
 rw[show cq [(N,x)]=N by simp[cq],yY g k (N,x) oM]at S;rw[S]at V;have M:=(V.sh.ku (Q:=Em R (g.set k (N,x))) (λO Z V p o=>by
  rcases Yy o with o|rfl
  ·exact Z p o
  ·exact V)).swap
 refine M.Px (λp o=> ?_) (by rw[Wj,G]) (by rw[Vx];omega);rcases Yy o with o|rfl
 ·exact U p o
 ·exact D
end
theorem jU(p:PU->Bool)(l:List PU):∀i:Nat,(fW p i l= -1/\l.any p=false)\/∃(k:Nat) (x:PU),fW p i l=((i+k:Nat):Int)/\l[k]? =some x/\p x=true:=by
 induction l with
 |nil=>exact λi=> .inl ⟨rfl,rfl⟩
 |cons x r K=>
  intro i
  cases o:p x with
  |true=>exact .inr ⟨0,x,by simp[fW,o],rfl,o⟩
  |false=>
   rcases K (i+1)with⟨Z,V⟩|⟨k,y,Z,V,M⟩
   ·exact .inl ⟨by simp[fW,o,Z],by simp[o,V]⟩
   ·refine .inr ⟨k+1,y,?_,V,M⟩
    have e:fW p i (x::r)=fW p (i+1) r:=by simp[fW,o]
    rw[e,Z];omega
end
theorem sW(w:World)(b o:Nat)(R:w.there b o 3)(x y:Int)(A:OA)(n c:Nat):
 (Instr.storeAt 213 (.pointer (some ⟨b,o,none⟩)) (.agg #[iI x,iI y,.slice A n c])).run prog w= .ok () (w.setCells b o [iI x,iI y,.slice A n c]):=by
 have z:=(R 0 oM).1;have Y:=(R 1 oM).1;have G:=(R 2 oM).1;have V:=run_storeCells_cells (P:=prog) b o [iI x,iI y,.slice A n c] 0 w (λk F=>by rw[vt];exact(R k F).1) (λk F=>by rw[vt];exact(R k F).2) (sC x y A n c);simp only[vt]at V;obtain⟨q,H,_,T,_⟩:=info_parts jq.jW;simp[Instr.storeAt,Instr.sureAddr,storeVar,sizeOf,typeInfo,H,T,V,Value.cells]
theorem Bh{P:Program}{w:World}{ops:Array Oper}{rest:List Oper}{o:Oper}{a:Act}{Q:Exit->Act->World->Prop}{s x:Operand}{v u:Value}{O:World}(t:TypeId)(r:o.guard=none)
 (H:o.op= .store t s x) (U:a.eval s=v) (J:a.eval x=u)
 (G:(Instr.storeAt t v u).run P w= .ok () O) (k:wpList P ops Q rest (a.put o.dst undef) O):wpList P ops Q (o::rest) a w:=by
 exact aeD
theorem St.WR{α:Type}{I:aH}{w:World}{L:List aw}{e:TypeId}{size:Nat}{R:World->LV->α->Prop}{b n c k:Nat}{T:List α}(h:St I w (ay e size R (.slice (aO b) n c) T::L))(F:k<T.length):w.there b (k*size) size:=by
 obtain⟨g,G,W,U,Z⟩:=h.KH;have y:g.length=T.length:=by rw[<-G,nL]
 have X:(k+1)*size<=n*size:=vl _ oM;rw[vq,Co]at X;exact iL (Z.row 0 rfl) (k*size) size oM
section
open Go.Shelf
variable {cx:CX}
def lh(D wr:List PU)(r i:Int):Int:=
 if 0<=fW (cC r i) 0 D then 0 else if 6<=D.length then(if fW (qZ wr) 0 D<0 then 42 else 0)else 0
def mz(D wr:List PU)(p:PU):List PU:=
 if 0<=fW (cC p.region p.index) 0 D then D.eraseIdx (fW (cC p.region p.index) 0 D).toNat++[p]
 else if 6<=D.length then(if fW (qZ wr) 0 D<0 then D else D.eraseIdx (fW (qZ wr) 0 D).toNat++[p])else D++[p]
theorem Se{I:aH}{L:List aw}(g:Nat)(D wr:List PU)(r i:Int)(u:OA)(a d:Nat)(data:LI)(w:World)(hl:D.length<=1000000)(hd:data.length<=140737488355328)(h:St I w (ai .u8 (.slice u a d) data::an cx g D wr::L)):
 Rt I w 104 #[.pointer (some ⟨g,20,none⟩),.agg #[iI r,iI i],.slice u a d] (iI (lh D wr r i)) (an cx g (mz D wr ⟨r,i,data⟩) wr::L):=by
 have Y0:a=data.length:=(h.get 0 rfl).sl.1;have h1:=h.alloc 211 #[.pointer (some ⟨g,20,none⟩)];have h2:=h1.alloc 166 #[iI r,iI i];rw[World.size_alloc]at h2;have A1:a<=140737488355328:=oM
 clear Y0 hd;have B0:=aa h2;clear h h1 h2
 go_enter func104,ntmps104
 go_wp2_with fail
 generalize w.heap.size+1=y at B0⊢;generalize w.heap.size=z at B0⊢;generalize World.alloc _ _=w2 at B0⊢;have h0:=B0.out;clear B0;refine ak (I:=I) (L0:=ab z 211 #[.pointer (some ⟨g,20,none⟩)]::an cx g D wr::L) [⟨none,none,λe=>ab y 166 #[iI r,iI i]⟩,⟨none,none,λe=>ai .u8 (.slice u a d) data⟩,⟨some 2,none,λe=>ai .u8 (.slice (e 2).A a (e 2).n) data⟩,⟨some 4,some 5,λe=>ab (e 4).n 213 #[iI 0,iI 0,sN]⟩,⟨some 5,none,λe=>ab (e 4).n 213 #[iI r,iI i,.slice (e 2).A a (e 2).n]⟩] [[],[],[1],rG 3,[],rG 5] (rG 6) rfl kR kR kR (by rfl) (λ_=>rfl) h0.fk ?_;refine vM ?_;refine aZ 23 (λe=> #[.slice u a d]) (λe=> .slice (e 2).A a (e 2).n) rfl (λe wx Lx h=>by(
  have h:=h.fn;refine(dY u a d data _ (h.jr (Q:=λw=>aA w .u8 (.slice u a d) data)).sl.2.2.2 oM h).mono ?_;rintro C1 wy⟨v,rfl,h1⟩;obtain⟨A',c',rfl⟩:=h1.slice;exact⟨⟨A',c',default⟩,rfl,(St.ints (k:= .u8) (xs:=data) h1).fk⟩)) ?_
 simp only[aR];refine kj (λe=> .agg #[iI r,iI i,.slice (e 2).A a (e 2).n]) rfl (λe wx Lx h=>gS) ?_;simp only[aR];refine xN (λe=> .pointer (some ⟨(e 4).n,0,none⟩)) rfl (λe wx Lx h=>by(
  have h:=h.fn;exact⟨⟨none,wx.heap.size,default⟩,wx.alloc (.cells #[iI 0,iI 0,sN] 213),gS,(h.alloc 213 #[iI 0,iI 0,sN]).fk⟩)) ?_
 simp only[aR];refine jA (λe=> .pointer (some ⟨(e 4).n,0,none⟩)) (λe=> .agg #[iI r,iI i,.slice (e 2).A a (e 2).n]) rfl rfl (λe wx Lx h=>by(
  have h:=h.fn;have h4:=h.front (X:=ab (e 4).n 213 #[iI 0,iI 0,sN]);obtain⟨y0,y1,y2⟩:=(h4.ah 0 rfl).three;have f:=(h4.ah 0 rfl).frozen;exact⟨_,gS,(((h4.br 0 (iI r) #[iI r,iI 0,sN] rfl).br 1 (iI i) #[iI r,iI i,sN] rfl).br 2 (.slice (e 2).A a (e 2).n) #[iI r,iI i,.slice (e 2).A a (e 2).n] rfl).fk⟩)) ?_
 simp only[Act.put];refine ax ?_;intro e w5 h;have h:=h.fn
 dsimp only
 generalize(e 2).A=A2 at h⊢;generalize(e 2).n=c2 at h⊢;generalize(e 4).n=p at h⊢;have H6:=aa (h.sub (L':=ab p 213 #[iI r,iI i,.slice A2 a c2]::ai .u8 (.slice A2 a c2) data::ab y 166 #[iI r,iI i]::ab z 211 #[.pointer (some ⟨g,20,none⟩)]::ai .u8 (.slice u a d) data::an cx g D wr::L));clear h h0;have H7:=aa (H6.pk 6 [5,0,1,2,3]);clear H6;have G:=(H7.ah 4 rfl).cell 0;have y0:=(H7.ah 3 rfl).cell 0;have y1:=(H7.ah 3 rfl).cell 1
 go_wp2_with fail
 refine qH (KB g D wr r i _ H7) λw6 H8=>?_;clear H7 G y0 y1;have G:=(H8.ah 4 rfl).cell 0;obtain⟨c,S,U⟩:=(H8.ah 1 rfl).three;rcases jU (cC r i) D 0 with⟨F,_⟩|⟨k,x,F,hx,_⟩
 case' inr=>
  rw[s7]at F;have B:=aa (show lh D wr r i=0 by unfold lh;rw[F,iP oM]);have E:=aa (show mz D wr ⟨r,i,data⟩=D.eraseIdx k++[⟨r,i,data⟩]by unfold mz;simp only[F];rw[iP oM,qG]);have HX:=aa hx;rw[F];clear F hx;have k0:(0:Int)<=(k:Int):=oM
  have k1:decide ((k:Int)≥0)=true:=dZ k0;have k2:decide ((0:Int)<=(k:Int))=true:=dZ k0
  go_wp2_with fail
  refine qK (QF g D wr k x _ HX hl H8) λw7 h9=>?_;clear H8 G c S U;obtain⟨q,hq⟩:=nM ((D.eraseIdx k).length);obtain⟨V,R,B3,d3,Z,_,X0,_,H⟩:=h9.nI;obtain⟨m,hm⟩:=nM ((D.eraseIdx k++[x]).length);have R0:m=q+1:=by rw[hm,eG,hq];rfl
  have S0:q<=1000000:=by
   have:=zdo D k;omega
  rw[<-hm]at H Z;have Y:=H.pk 7 [1,4,0,3,6,2];have P:=(Y.swap.bu (R':=λO=>bU O [iI r,iI i,.slice A2 a c2] ⟨r,i,data⟩) (λO hi=>⟨_,rfl,hi⟩)).swap;clear h9 H Y;have O0:q<(D.eraseIdx k++[x]).length:=oM
  refine mr hq hm R0 Z λEQ HM Z0 U0=>?_;have m0:(0:Int)<=(q:Int):=oM
  have m1:(q:Int)<(m:Int):=oM
  have m2:IntKind.i64.wrap ((m:Int)-1)=(q:Int):=by rw[IntWalk.i64_in _ oM];omega
  clear hq hm R0 S0 Z;obtain⟨b3,rfl⟩:∃K0,V=some ⟨K0,0,none⟩:=by
   obtain⟨K0,hb,_⟩:=P.Lc (k:=q) rfl O0;exact⟨K0,hb⟩
  have G:=(P.ah 4 rfl).cell 0;obtain⟨c,S,U⟩:=(P.ah 3 rfl).three;have T:=(P.ah 2 rfl).cell 20;refine bm P O0 λC Q0=>?_;clear P O0
  go_wp2_with fail
  refine fO 12 kR kR (λW4 J=> ?_);have t:=aa (C.drew);rw[<-J]at t;clear J C G c S U T;have G:=(t.ah 4 rfl).cell 0;obtain⟨c,S,U⟩:=(t.ah 3 rfl).three;have T:=(t.ah 2 rfl).cell 20;simp only[Kx,Hm,Nl,AW]
  repeat still_step
  try refine wpStill_nil ?_
  obtain⟨b4,e4,K⟩:=t.out.Lc (k:=q) rfl Q0;obtain rfl:b3=b4:=by injection e4 with e4;injection e4
  have T0:=sW W4 b3 (q*3) (t.WR Q0) r i A2 a c2;refine Bh 213 rfl rfl rfl rfl T0 ?_;have P0:=aa (K.pk 5 [1,0,4]);clear T0 K t G c S U T;generalize World.setCells _ _ _ _=w8 at P0⊢;simp only[Act.put]
  go_wp2_with fail
  go_ret
  refine⟨by rw[B.out];try rfl,?_⟩;have e:(D.eraseIdx k++[x]).set q ⟨r,i,data⟩=D.eraseIdx k++[⟨r,i,data⟩]:=by
   rw[EQ.out,zdv _ _ (g9 _),UC]
   rfl
  rw[E.out,<-e];exact P0.gT
 case' inl=>
  obtain⟨V,R,B3,d3,Z,_,X0,_,H⟩:=H8.out.nI;obtain⟨n,hn⟩:=nM (D.length);rw[<-hn]at H Z;have Y:=H.pk 7 [1,6,0,2,3,4];clear H8 G c S U H;have G:=(Y.ah 1 rfl).cell 0;have T:=(Y.ah 2 rfl).cell 20;obtain⟨c,S,U⟩:=(Y.ah 4 rfl).three;refine ib Y hn F λC0 b HK=>?_;have B1:n<=1000000:=oM
  have U0:=aa Z;rw[F];clear Y hn F hl Z;by_cases hs:6<=n
  ·have s0:decide ((n:Int)≥6)=true:=decide_eq_true (by omega)
   have s1:decide ((6:Int)<=(n:Int))=true:=decide_eq_true (by omega);have s2:(6:Int)<=(n:Int):=oM
   go_wp2_with fail
   refine qK (tI 161 (pO z) (qZ wr) D V n R _ (enters_of func161 kR rfl) (λx v W _ J=>UD g z wr V B3 n R wr.length d3 x v W J) C0) λw7 P=>?_;rcases jU (qZ wr) D 0 with⟨N,_⟩|⟨k,x,N,hx,_⟩
   ·have B:=aa (show lh D wr r i=42 by unfold lh;rw[HK.out,iN oM,iP ac2,N,iP oM])
    have E:=aa (show mz D wr ⟨r,i,data⟩=D by unfold mz;simp only[HK.out,N];rw[iN oM,iP ac2,iP oM]);have C:=aa (P.pk 6 [2,0,3]);clear P C0 G T c S U;rw[N];clear N
    go_wp2_with fail
    go_ret
    exact⟨by rw[B.out];try rfl,by rw[E.out];exact C.gT⟩
   ·rw[s7]at N
    have B:=aa (show lh D wr r i=0 by unfold lh;rw[HK.out,iN oM,iP ac2,N,iN oM]);have E:=aa (show mz D wr ⟨r,i,data⟩=D.eraseIdx k++[⟨r,i,data⟩]by unfold mz;simp only[HK.out,N];rw[iN oM,iP ac2,iN oM,qG]);have N0:=(lQ.1 hx).1;rw[<-b.out]at N0;have V0:=aa (show k<D.length by rw[<-b.out];exact N0);have C:=aa P;obtain⟨H0,M0⟩:=nM (k+1);have HJ:=aa M0;have jw:IntKind.i64.wrap ((k:Int)+1)=(H0:Int):=by rw[M0,IntWalk.i64_in _ oM];omega
    have k0:(0:Int)<=(k:Int):=oM
    have k1:¬(k:Int)<0:=oM
    have k2:decide ((k:Int)<0)=false:=dQ k1;clear P C0 G T c S U M0 N0 hx;rw[N];clear N
    go_wp2_with fail
    refine bQ (λW=>W.cell? (aD z 0)=some (.pointer (some ⟨g,20,none⟩))/\W.cell? (aD g 20)=some (.slice V n R)) 9 (rG 8) [8,9,10,11] kR kR (λD0=>by cases D0<;>exact λ_ _ _ _ h=>h) (λW8 J=> ?_);have t:=aa (C.drew);rw[<-J]at t;clear J C;refine⟨⟨(t.ah 1 rfl).cell 0,(t.ah 2 rfl).cell 20⟩,?_⟩
    iterate 7 (refine bN rfl rfl (λW J=>by(obtain⟨G,l⟩:=J;go_simp;try rfl)) ?_;simp only[aR])
    refine bN (v:= iI H0) rfl rfl (λW J=>by(obtain⟨G,l⟩:=J;go_simp;first|done|(rw[jw];try rfl))) ?_;simp only[aR];refine take_nil ?_;refine eP (f:=162) (args:= #[.slice V n R,iI k,iI H0]) rfl rfl gS ?_;refine(Dm D V n R k H0 W8 HJ V0 t).mono ?_;rintro e w9⟨q,hq,rfl,K⟩;refine⟨_,rfl,λ_=>⟨(K.ah 1 rfl).cell 0,(K.ah 2 rfl).cell 20⟩,?_⟩;simp only[aR];have l:=(K.ah 2 rfl).cell 20;have f:=(K.ah 2 rfl).frozen;have S0:q<=1000000:=oM
    have HQ:=aa hq;have A:=(K.pk 6 [2,0,1,3,4,5]).bI 20 (.slice V q R);have J0:Hid (St I (w9.setCell ⟨g,20,none⟩ (.slice V q R)) (ay 213 3 bU (.slice V q R) (D.eraseIdx k)::ab z 211 #[.pointer (some ⟨g,20,none⟩)]::ab g 75 (cF cx (.slice V q R) (.slice B3 wr.length d3))::ay 213 3 bU (.slice B3 wr.length d3) wr::ab p 213 #[iI r,iI i,.slice A2 a c2]::ai .u8 (.slice A2 a c2) data::L)):=aa (A.pick 6 [1,2,0,3,4,5]);clear K A hq t
    iterate 2 (refine bD rfl rfl gS nD ?_;simp only[aR])
    refine dp rfl rfl 67 _ _ (.pointer (some ⟨g,20,none⟩)) (.slice V q R) rfl rfl rfl gS nD ?_;simp only[Act.put];refine cN ?_;clear l f;generalize World.setCell _ _ _=w10 at J0⊢
    go_wp2_with fail
    refine bQ (λW=>W.cell? (aD z 0)=some (.pointer (some ⟨g,20,none⟩))/\Tp g p (.slice V q R) (iI r) (iI i) (.slice A2 a c2) W) 8 (rG 6) [6,7,8,9,10] kR kR (λD0=>by cases D0<;>exact λ_ _ _ _ h=>h) (λW9 J=> ?_);have t:=aa (J0.drew);rw[<-J]at t;clear J J0;refine⟨⟨(t.ah 1 rfl).cell 0,jz t 2 4 rfl rfl⟩,?_⟩
    iterate 6 (refine bN rfl rfl (λW J=>by(obtain⟨G,l,y0,y1,y2⟩:=J;go_simp;try rfl)) ?_;simp only[aR])
    refine take_nil ?_;obtain⟨W0,F0,G0,K⟩:=t.out.bK;have A:=K.alloc 213 #[iI r,iI i,.slice A2 a c2];have M:=A.pk 8 [1,0,2,3,4,5,6,7];refine bX rfl rfl 67 1 0 _ (.agg #[iI r,iI i,.slice A2 a c2]) rfl rfl (mW _ _ _ _ _ _) (λ_=>⟨(M.ah 3 rfl).cell 0,jz M 4 6 rfl rfl⟩) ?_;simp only[aR];refine qe jq M rfl rfl _ _ rfl rfl (aO W9.heap.size) 1 1 rfl [iI r,iI i,.slice A2 a c2] (uj (cs:=[iI r,iI i,.slice A2 a c2]) (M.ah 1 rfl)) (sC _ _ _ _ _) oM oM (λA4 c4 w9 j=>⟨λ_=>⟨(j.ah 3 rfl).cell 0,jz j 4 6 rfl rfl⟩,?_⟩);simp only[aR];have E0:=j.pk 8 [0,2,7,4,5];have o:=((E0.tX.bu (R':=λO=>bU O [iI r,iI i,.slice A2 a c2] ⟨r,i,data⟩) (λO hi=>⟨_,rfl,hi⟩)).sh).fR F0 rfl G0;have l:=(o.ah 1 rfl).cell 20;have f:=(o.ah 1 rfl).frozen;have I0:=aa (o.swap.bI 20 (.slice A4 (q+1) c4));clear K A M j E0 o F0 G0 t
    iterate 2 (refine bD rfl rfl gS nD ?_;simp only[aR])
    refine dp rfl rfl 67 _ _ (.pointer (some ⟨g,20,none⟩)) (.slice A4 (q+1) c4) rfl rfl rfl gS nD ?_;exact aeK
  ·have s0:decide ((n:Int)≥6)=false:=decide_eq_false (by omega)
   have s1:decide ((6:Int)<=(n:Int))=false:=decide_eq_false (by omega);have s2:¬(6:Int)<=(n:Int):=oM
   have B:=aa (show lh D wr r i=0 by unfold lh;rw[HK.out,iN oM,iN ac2]);have E:=aa (show mz D wr ⟨r,i,data⟩=D++[⟨r,i,data⟩]by unfold mz;simp only[HK.out];rw[iN oM,iN ac2])
   go_wp2_with fail
   refine bQ (λW=>W.cell? (aD z 0)=some (.pointer (some ⟨g,20,none⟩))/\Tp g p (.slice V n R) (iI r) (iI i) (.slice A2 a c2) W) 8 (rG 6) [6,7,8,9,10] kR kR (λD0=>by cases D0<;>exact λ_ _ _ _ h=>h) (λW8 J=> ?_);have t:=aa (C0.drew);rw[<-J]at t;clear J C0 G T c S U;refine⟨⟨(t.ah 1 rfl).cell 0,jz t 2 4 rfl rfl⟩,?_⟩
   iterate 6 (refine bN rfl rfl (λW J=>by(obtain⟨G,l,y0,y1,y2⟩:=J;go_simp;try rfl)) ?_;simp only[aR])
   refine take_nil ?_;obtain⟨W0,F0,G0,K⟩:=t.out.bK;have A:=K.alloc 213 #[iI r,iI i,.slice A2 a c2];have M:=A.pk 8 [1,0,2,3,4,5,6,7];refine bX rfl rfl 67 1 0 _ (.agg #[iI r,iI i,.slice A2 a c2]) rfl rfl (mW _ _ _ _ _ _) (λ_=>⟨(M.ah 3 rfl).cell 0,jz M 4 6 rfl rfl⟩) ?_;simp only[aR];refine qe jq M rfl rfl _ _ rfl rfl (aO W8.heap.size) 1 1 rfl [iI r,iI i,.slice A2 a c2] (uj (cs:=[iI r,iI i,.slice A2 a c2]) (M.ah 1 rfl)) (sC _ _ _ _ _) oM oM (λA4 c4 w9 j=>⟨λ_=>⟨(j.ah 3 rfl).cell 0,jz j 4 6 rfl rfl⟩,?_⟩);simp only[aR];have E0:=j.pk 8 [0,2,7,4,5];have o:=((E0.tX.bu (R':=λO=>bU O [iI r,iI i,.slice A2 a c2] ⟨r,i,data⟩) (λO hi=>⟨_,rfl,hi⟩)).sh).fR F0 rfl G0;have l:=(o.ah 1 rfl).cell 20;have f:=(o.ah 1 rfl).frozen;have I0:=aa (o.swap.bI 20 (.slice A4 (n+1) c4));clear K A M j E0 o F0 G0 t
   iterate 2 (refine bD rfl rfl gS nD ?_;simp only[aR])
   refine dp rfl rfl 67 _ _ (.pointer (some ⟨g,20,none⟩)) (.slice A4 (n+1) c4) rfl rfl rfl gS nD ?_;exact aeK
end
section
open Go.Shelf
variable {cx:CX}
def Bm(D wr:List PU)(r i:Int):Int:=if wr.any (cC r i)=true then 1 else lh D wr r i
def oX(D wr:List PU)(p:PU):List PU:=if wr.any (cC p.region p.index)=true then D else mz D wr p
theorem Vo{I:aH}{L:List aw}(g:Nat)(D wr:List PU)(r i:Int)(c:OA)(a z:Nat)(data:LI)(w:World)(C:D.length<=1000000)(q:data.length<=140737488355328)(h:St I w (ai .u8 (.slice c a z) data::an cx g D wr::L)):
 Rt I w 71 #[.pointer (some ⟨g,20,none⟩),.agg #[iI r,iI i],.slice c a z] (iI (Bm D wr r i)) (an cx g (oX D wr ⟨r,i,data⟩) wr::L):=by
 have Z:=h.alloc 166 #[iI r,iI i];have o:=(Z.ah 0 rfl).cell 0;have E:=(Z.ah 0 rfl).cell 1;refine ib (Z.pk 3 [2,0,1]) q C λH P j=>?_;clear h Z q C
 go_enter func71,ntmps71
 go_wp2_with fail
 refine qK (Rf g D wr r i _ H) λX V=>?_;clear H o E;have o:=(V.ah 1 rfl).cell 0;have E:=(V.ah 1 rfl).cell 1;have T:=aa V;clear V
 cases U:wr.any (cC r i)with
 |true=>
  have A:=aa (show Bm D wr r i=1 by unfold Bm;rw[iP U]);have l:=aa (show oX D wr ⟨r,i,data⟩=D by unfold oX;exact iP U);have N:=aa (T.pk 3 [0]);clear T
  go_wp2_with fail
  go_ret
  exact⟨by rw[A.out];try rfl,by rw[l.out];exact N.out⟩
 |false=>
  have A:=aa (show Bm D wr r i=lh D wr r i by unfold Bm;rw[iN (by rw[U];exact gV)]);have l:=aa (show oX D wr ⟨r,i,data⟩=mz D wr ⟨r,i,data⟩by unfold oX;exact iN (by rw[U];exact gV));have N:=aa (T.pk 3 [2,0]);clear T
  go_wp2_with fail
  refine qH (Se g D wr r i c a z data _ j P N) λY d=>?_;clear N o E
  go_wp2_with fail
  go_ret
  exact⟨by rw[A.out];try rfl,by rw[l.out];exact d.out⟩
end
section
open Go.Shelf
variable {cx:CX}
def l8(D:List PU)(r i:Int):List PU:=if 0<=fW (cC r i) 0 D then D.eraseIdx (fW (cC r i) 0 D).toNat++(D[(fW (cC r i) 0 D).toNat]?).toList else D
def rh(D:List PU)(r i:Int):LI:=if 0<=fW (cC r i) 0 D then((D[(fW (cC r i) 0 D).toNat]?).map PU.data).getD []else []
theorem GS{I:aH}{L:List aw}(g:Nat)(D wr:List PU)(r i:Int)(w:World)(N:D.length<=1000000)(u:∀x∈D,x.data.length<=140737488355328)(h:St I w (an cx g D wr::L)):
 Calls prog 67 #[.pointer (some ⟨g,20,none⟩),.agg #[iI r,iI i]] w λe O=>∃v,e= .returned (.tuple #[v,.bool (decide (0<=fW (cC r i) 0 D))])/\St I O (ai .u8 v (rh D r i)::an cx g (l8 D r i) wr::L):=by
 have Z:=h.alloc 166 #[iI r,iI i];have y0:=(Z.ah 0 rfl).cell 0;have y1:=(Z.ah 0 rfl).cell 1;have H:=aa (Z.pk 2 [1]);clear h Z
 go_enter func67,ntmps67
 go_wp2_with fail
 refine qH (KB g D wr r i _ H) λw2 T=>?_;clear H y0 y1;rcases jU (cC r i) D 0 with⟨F,_⟩|⟨k,x,F,J,_⟩
 ·have C:=aa (show l8 D r i=D by unfold l8;rw[F,iN oM])
  have l:=aa (show rh D r i=[]by unfold rh;rw[F,iN oM]);have U:=aa (show decide (0<=fW (cC r i) 0 D)=false by rw[F];rfl);rw[F];clear F
  go_wp2_with fail
  go_ret2
  exact⟨sN,by rw[U.out];try rfl,by rw[C.out,l.out];exact T.bG (λO _=>aA.none_ O _)⟩
 ·rw[s7]at F
  have C:=aa (show l8 D r i=D.eraseIdx k++[x]by unfold l8;simp only[F];rw[iP oM,qG,J];rfl);have l:=aa (show rh D r i=x.data by unfold rh;simp only[F];rw[iP oM,qG,J];rfl);have U:=aa (show decide (0<=fW (cC r i) 0 D)=true by rw[F];exact decide_eq_true (by omega));have D0:x.data.length<=140737488355328:=u x (pJ J);have z:=aa J;rw[F];clear F J u;have k0:(0:Int)<=(k:Int):=oM
  have k1:¬(k:Int)<0:=oM
  have k2:decide ((k:Int)<0)=false:=dQ k1
  go_wp2_with fail
  refine qK (QF g D wr k x _ z N T) λw3 M=>?_;obtain⟨q,d⟩:=nM ((D.eraseIdx k).length);obtain⟨A3,n,B3,d3,A,_,C0,_,Q⟩:=M.nI;obtain⟨m,y⟩:=nM ((D.eraseIdx k++[x]).length);have A0:m=q+1:=by rw[y,eG,d];rfl
  have B0:q<=1000000:=by
   have:=zdo D k;omega
  rw[<-y]at Q A;have p:(D.eraseIdx k++[x])[q]? =some x:=by rw[d,OU (g9 _),UC];rfl
  obtain⟨Y,cs,rfl,_,V,⟨v,rfl,K⟩,-,t⟩:=(Q.pk 3 [1,0,2]).GP oM p;obtain⟨X,a,rfl,_,_,_⟩:=id K;obtain⟨e0,e1,P⟩:=oN V;have G:=(t.ah 2 rfl).cell 20;refine ib t d y λS HQ HM=>?_;have m0:(0:Int)<=(q:Int):=oM
  have m1:(q:Int)<(m:Int):=oM
  have m2:IntKind.i64.wrap ((m:Int)-1)=(q:Int):=by rw[IntWalk.i64_in _ oM];omega
  clear d y A0 B0 A M Q t K V p e0 e1 T N
  go_wp2_with fail
  refine fO 13 kR kR (λW R=> ?_);have o:=aa (S.drew);rw[<-R]at o;have x1:W.cell? (aD g 20)=some (.slice (some Y) m n):=by rw[R];exact G
  have e3:W.cell? ⟨(Y.add (q*3)).block,(Y.add (q*3)).off+2,none⟩=some (.slice X x.data.length a):=by rw[R];exact P
  clear R S G P;simp only[Kx,Hm,Nl,AW]
  repeat still_step
  try refine wpStill_nil ?_
  have j:=(o.bu (R':=λO=>aA O .u8 (.slice X x.data.length a) x.data) (λO hp=>by
   obtain⟨v,K,hi⟩:=hp;simp only[Hc,and_true,true_and]at K;rw[K];exact hi))
  have B:=dY X x.data.length a x.data W (j.get 0 rfl).sl.2.2.2 oM j;have b:=aa B;clear j B o x1 e3
  go_wp2_with fail
  refine b.mono ?_;rintro e w5⟨v5,rfl,c⟩;have E:=aa (c.ints.pk 5 [0,3,2,4]);clear c b
  go_wp2_with fail
  go_ret2
  refine⟨v5,by rw[U.out];try rfl,?_⟩;rw[C.out,l.out];exact(E.pk 4 [1,2,3,0]).gT.swap
end
section
open Go.Shelf
variable {cx:CX}
def VG(y:Nat)(a b d:Value)(W:World):Prop:=W.cell? (aD y 0)=some a/\W.cell? (aD y 1)=some b/\W.cell? (aD y 2)=some d
theorem ug{I:aH}{W:World}{e:List aw}{y:Nat}{a b d:Value}(h:St I W e)(j:Nat)(N:e[j]? =some (ab y 213 #[a,b,d])):VG y a b d W:=
 ⟨(h.ah j N).cell 0,(h.ah j N).cell 1,(h.ah j N).cell 2⟩
def ao(r:Int)(x:PU):Bool:=x.region==r
theorem sg{I:aH}{L:List aw}(g:Nat)(D u:List PU)(r:Int)(w:World)(hl:u.length<=1000000)(hd:∀x∈u,x.data.length<=1000000)(h:St I w (an cx g D u::L)):
 Calls prog 72 #[.pointer (some ⟨g,20,none⟩),iI r] w λe O=>∃v,e= .returned v/\St I O (ay 213 3 bU v (u.filter (ao r))::an cx g D u::L):=by
 obtain⟨A,B0,gw,d,_,E0,_,M0,Z⟩:=h.nI;obtain⟨n,P⟩:=nM (u.length);rw[<-P]at Z E0;have x0:=(Z.ah 0 rfl).cell 21;have b:=aa P;have O0:n<=1000000:=oM
 refine bm hd ((Z.dU 213 3 bU).pk 4 [0,3,1,2]) λHD H=>?_;clear h Z P hl hd E0
 go_enter func72,ntmps72
 go_wp2_with fail
 go_loopg [5,13] n (λgh v i wr=>∃(k:Nat) (C:OA) (q e:Nat),gh=n-k/\k<=n/\v= .slice C q e/\i= iI (k:Nat)/\q=((u.take k).filter (ao r)).length/\St I wr (ay 213 3 bU (.slice C q e) ((u.take k).filter (ao r))::ay 213 3 bU (.slice gw n d) u::ab g 75 (cF cx (.slice A D.length B0) (.slice gw n d))::ay 213 3 bU (.slice A D.length B0) D::L))
 case atStart=>exact⟨0,none,0,0,rfl,oM,rfl,rfl,rfl,H⟩
 case round=>
  clear H x0;obtain⟨k,C,q,e,hg,hk,rfl,rfl,t,h⟩:=hrel;have a:=aa hg;clear hg;by_cases F0:k<n
  ·have J:=gP (l:=u) (i:=k) (by rw[<-b.out];exact F0)
   generalize u[k]'(by rw[<-b.out];exact F0)=x at J;have ht:u.take (k+1)=u.take k++[x]:=by rw[Et,J];rfl
   obtain⟨ad,cs,rfl,_,D0,⟨v,rfl,S⟩,-,Z⟩:=h.swap.GP oM J;obtain⟨X,U,rfl,_,_,_⟩:=id S;obtain⟨e0,e1,e2⟩:=oN D0;refine ib Z ht t λY HT c=>?_;have P0:q<=1000000:=by
    have:=VP (ao r) (u.take k);rw[fJ]at this;omega
   have N0:x.data.length<=1000000:=HD.out x (pJ J);have i0:(0:Int)<=(k:Int):=oM
   have i1:(k:Int)<(n:Int):=oM
   clear h Z ht t J S D0;by_cases G:x.region=r
   ·have b1:(x.region==r)=true:=Ec G
    have V:(u.take (k+1)).filter (ao r)=(u.take k).filter (ao r)++[x]:=by rw[HT.out,Yo];simp[ao,G]
    have E:=aa V;clear V G
    go_wp2_with fail
    have M:=Y.alloc 213 #[iI x.region,iI x.index,.slice X x.data.length U];generalize wr.heap.size=y at M⊢;have N:=aa M;clear M Y e0 e1 e2;generalize wr.alloc _=w3 at N⊢;refine bQ (VG y (iI x.region) (iI x.index) (.slice X x.data.length U)) 9 (rG 5) [5,6,7,8,9] kR kR (λd=>by cases d<;>exact λ_ _ _ _ h=>h) (λA0 R=> ?_);have p:=aa (N.drew);rw[<-R]at p;clear R N;refine⟨ug p 0 rfl,?_⟩
    iterate 5 (refine bN rfl rfl (λA0 R=>by(obtain⟨y0,y1,y2⟩:=R;go_simp;try rfl)) ?_;simp only[aR])
    refine take_nil ?_;have B:=(p.copy 1 rfl).bu (R':=λO=>aA O .u8 (.slice X x.data.length U) x.data) (λO hp=>by
     obtain⟨v,S,o⟩:=hp;simp only[Hc,and_true,true_and]at S;rw[S];exact o)
    refine eP (f:=23) (args:= #[.slice X x.data.length U]) rfl rfl gS ?_;refine(dY X x.data.length U x.data A0 (B.get 0 rfl).sl.2.2.2 oM B).mono ?_;rintro e w4⟨v4,rfl,Q⟩;obtain⟨K,T,rfl⟩:=Q.slice;refine⟨_,rfl,λ_=>ug Q 2 rfl,?_⟩;simp only[aR];refine bD rfl rfl gS (λ_=>ug Q 2 rfl) ?_;simp only[aR];have F:=Q.ints.alloc 213 #[iI x.region,iI x.index,.slice K x.data.length T];refine bX rfl rfl 67 1 0 _ (.agg #[iI x.region,iI x.index,.slice K x.data.length T]) rfl rfl (mW _ _ _ _ _ _) (λ_=>ug F 3 rfl) ?_;simp only[aR];generalize w4.heap.size=z at F⊢;generalize w4.alloc _=w5 at F⊢;have h6:=(F.swap.bu (R':=λO=>bU O [iI x.region,iI x.index,.slice K x.data.length T] x) (λO o=>⟨_,rfl,o⟩)).pk 9 [6,1,0,3,5,7,8];clear B Q F p;obtain⟨L0,G0,I0,j⟩:=h6.bK;refine qe jq j rfl rfl _ _ rfl rfl (aO z) 1 1 rfl [iI x.region,iI x.index,.slice K x.data.length T] (uj (cs:=[iI x.region,iI x.index,.slice K x.data.length T]) (j.ah 2 rfl)) (sC _ _ _ _ _) oM oM (λA6 c6 w7 W=>⟨λ_=>ug W 4 rfl,?_⟩);simp only[aR];have C0:=(W.pk 8 [0,1,3,5,6,7]).fR G0 rfl I0;have J0:=aa C0;clear h6 j W C0 G0 I0;refine bD rfl rfl gS nD ?_;simp only[aR];refine cN ?_
    go_wp2_with fail
    go_roundg (n-(k+1))
    case measure=>have:=a.out;omega
    case rel=>exact⟨k+1,A6,q+1,c6,rfl,oM,rfl,by go_num,by rw[E.out,eG,<-c.out];rfl,by rw[E.out];exact J0.out⟩
   ·have b1:(x.region==r)=false:=kO G
    have V:(u.take (k+1)).filter (ao r)=(u.take k).filter (ao r):=by rw[HT.out,Yo];simp[ao,G]
    have E:=aa V;clear V
    go_wp2_with fail
    go_roundg (n-(k+1))
    case measure=>have:=a.out;omega
    case rel=>exact⟨k+1,C,q,e,rfl,oM,rfl,by go_num,by rw[E.out];exact c,by rw[E.out];exact((Y.tail.swap).nP _)⟩
  ·obtain rfl:k=n:=oM
   have H0:u.take k=u:=nS acE;rw[H0]at h;have K0:=b.out;have H:=aa (h.pk 4 [0,2,3,1]);clear h H0 t K0
   go_wp2_with fail
   go_ret
   exact⟨.slice C q e,rfl,(H.pk 4 [1,2,3,0]).gT.swap⟩
end
section
open Go.Shelf
theorem MU{I:aH}{L:Type}(T:L->List aw)(f:FuncId)(K:Vq)(p:L->PU->Bool×L)(J:L)(l:List PU)(A:OA)(n c:Nat)(w:World)
 (D:∀(args:Vq) (W:World),Sem.run prog (callFunc f args) W= .ok (.enter f args) W)
 (hF:∀(X:aw) (s:L) (x:PU) (v:Value) (W:World),x∈l->St I W (X::T s)->Calls prog f (#[tU x v]++K) W λe q=>e= .returned (.bool (p s x).1)/\St I q (X::T (p s x).2))
 (h:St I w (ay 213 3 bU (.slice A n c) l::T J)):
 Rt I w 159 #[.slice A n c,.func (.func f) #[] K] (iI (ju p J 0 l).1) (ay 213 3 bU (.slice A n c) l::T (ju p J 0 l).2):=by
 obtain⟨A',c',e,hc,y⟩:=h.fx;injection e with S P t;subst S;subst t;have b:=aa P;have B0:n<=c:=oM
 have A0:(c:Int)<=9223372036854775807:=by unfold maxLen at y;omega
 refine mr h hF D (show ju p J 0 l=ju p J 0 (l.drop 0)from rfl) λH Z V j=>?_;clear h P hF D y hc
 go_enter func159,ntmps159
 go_wp2_with fail
 go_loopg [8] n (λF i wr=>∃(k:Nat) (s:L),F=n-k/\k<=n/\i= iI (k:Nat)/\ju p J 0 l=ju p s k (l.drop k)/\St I wr (ay 213 3 bU (.slice A n c) l::T s))
 case atStart=>exact⟨0,J,rfl,oM,rfl,j.out,H⟩
 case round=>
  clear H j;obtain⟨k,s,u,hk,rfl,z,h⟩:=hrel;have R:=aa u;clear u;by_cases M:k<n
  ·have B:=gP (l:=l) (i:=k) acS
   have O:=Eb (l:=l) (i:=k) acS;generalize l[k]' acS=x at B O;have U:ju p s k (l.drop k)=if(p s x).1=true then((k:Int),(p s x).2)else ju p (p s x).2 (k+1) (l.drop (k+1)):=by rw[O];rfl
   have G:=aa (pJ B);obtain⟨ad,cs,rfl,_,a,⟨v,rfl,g⟩,-,h1⟩:=h.GP oM B;obtain⟨Y,d,rfl,_,_,_⟩:=id g;obtain⟨Q,S,P⟩:=oN a;refine bm (z.trans U) h λC r=>?_;clear B h h1 g a O U z;have i0:(0:Int)<=(k:Int):=oM
   have i1:(k:Int)<(n:Int):=oM
   go_wp2_with fail
   rw[V.out,Oper.upon_enter];refine qH (Z _ s x (.slice Y x.data.length d) _ G r) λw2 N=>?_;clear r Q S P
   cases o:(p s x).1 with
   |true=>
    exact aeS
   |false=>
    exact afZ
  ·exact aem
theorem Na{L:Type}(p:L->PU->Bool×L)(l:List PU):∀(s:L) (i:Nat),((ju p s i l).1= -1/\eI p s l=l/\qC p s l=(ju p s i l).2)\/
 ∃k,k<l.length/\(ju p s i l).1=((i+k:Nat):Int)/\eI p s l=l.take k++eI p (ju p s i l).2 (l.drop (k+1))/\qC p s l=qC p (ju p s i l).2 (l.drop (k+1)):=by
 induction l with
 |nil=>exact λs i=> .inl ⟨rfl,rfl,rfl⟩
 |cons x r K=>
  intro s i
  cases o:(p s x).1 with
  |true=>
   have e:ju p s i (x::r)=((i:Int),(p s x).2):=by simp[ju,o]
   rw[e];exact .inr ⟨0,by simp,by simp,by simp[eI,o],rfl⟩
  |false=>
   have e:ju p s i (x::r)=ju p (p s x).2 (i+1) r:=by simp[ju,o]
   have d:eI p s (x::r)=x::eI p (p s x).2 r:=by simp[eI,o]
   rw[e,d];rcases K (p s x).2 (i+1)with⟨Z,V,M⟩|⟨k,F,Z,V,M⟩
   ·exact .inl ⟨Z,by rw[V],M⟩
   ·refine .inr ⟨k+1,by simp;omega,by rw[Z];omega,?_,M⟩
    rw[V]
    rfl
section
variable {α:Type} {I:aH} {w:World} {L:List aw} {e:TypeId} {size:Nat} {R:World->LV->α->Prop}
theorem St.zAt{b n c j:Nat}{t:List (LV×α)}{N:LV}{x:α}(h:St I w (bY e size (.slice (aO b) n c) n (cq t)::aS (Em R t)::L))(U:sized size t)(G:t[j]? =some (N,x)):
 N.length=size/\R w N x/\∀q u,N[q]? =some u->w.cell? ⟨b,j*size+q,none⟩=some u:=by
 have y:=pJ G;refine⟨U _ y,h.get 1 rfl _ y,λq u E=> ?_⟩;have a:=zt t U j (N,x) G;have d:=(lQ.1 E).1;rw[show N=((cq t).drop (j*size)).take size from a.symm,AH,iP (by rw[<-U _ y];exact d),xV]at E;have:=(h.row 0 rfl).cells (g:=b) rfl _ u E;rwa[show(⟨b,0,none⟩:Addr).add (j*size+q)=⟨b,j*size+q,none⟩by(generalize j*size+q=m;simp[Addr.add];exact Qt)]at this
theorem St.Xd{b n c j:Nat}{g:List (LV×α)}(h:St I w (bY e size (.slice (aO b) n c) n (cq g)::L))(N:j<n):w.there b (j*size) size:=by
 have X:(j+1)*size<=n*size:=vl _ N;rw[vq,Co]at X;exact iL (h.row 0 rfl) (j*size) size oM
theorem St.aa3{b n c i:Nat}{g:List (LV×α)}{N:LV}{x:α}(h:St I w (bY e size (.slice (aO b) n c) n (cq g)::aS (Em R g)::aS (λw=>R w N x)::L))(U:sized size g)(D:N.length=size)(z:i<n)(W:g.length=n):
 sized size (g.set i (N,x))/\St I (w.setCells b (i*size) N) (bY e size (.slice (aO b) n c) n (cq (g.set i (N,x)))::aS (Em R (g.set i (N,x)))::L):=by
 have X:(i+1)*size<=n*size:=vl _ z;rw[vq,Co]at X;have V:=h.o8 (i*size) N oM;have S:=qv g [(N,x)] U (λp o=>by
  obtain rfl:p=(N,x):=by simpa using o
  exact D) i acC
 rw[show cq [(N,x)]=N by simp[cq],yY g i (N,x) oM]at S;rw[S]at V;refine⟨λp o=> ?_,(V.sh.ku (Q:=Em R (g.set i (N,x))) (λO Z V p o=> ?_)).swap⟩
 ·rcases Yy o with o|rfl
  ·exact U p o
  ·exact D
 ·rcases Yy o with o|rfl
  ·exact Z p o
  ·exact V
end
theorem Qx{α:Type}(g:List α)(i:Nat)(z:α)(h:i<g.length):(g.set i z).take (i+1)=g.take i++[z]:=by
 rw[Et,zcJ oM,zcv (g9 i)]
 rfl
theorem CD{I:aH}{L:Type}(T:L->List aw)(f:FuncId)(C0:Vq)(p:L->PU->Bool×L)(J:L)(l:List PU)(A:OA)(n c:Nat)(w:World)
 (hC:∀(args:Vq) (W:World),Sem.run prog (callFunc f args) W= .ok (.enter f args) W)
 (hF:∀(X:aw) (s:L) (x:PU) (v:Value) (W:World),x∈l->St I W (X::T s)->Calls prog f (#[tU x v]++C0) W λe W'=>e= .returned (.bool (p s x).1)/\St I W' (X::T (p s x).2))
 (h:St I w (ay 213 3 bU (.slice A n c) l::T J)):
 Calls prog 101 #[.slice A n c,.func (.func f) #[] C0] w λe O=>∃v,e= .returned v/\St I O (ay 213 3 bU v (eI p J l)::T (qC p J l)):=by
 have C:=aa (MU T f C0 p J l A n c w hC hF h);obtain⟨A',c',e,hc,hm⟩:=h.fx;injection e with e1 e2 e3;subst e1;subst e3;have R:=aa e2;have Y0:n<=c:=oM
 have X0:(c:Int)<=9223372036854775807:=by unfold maxLen at hm;omega
 refine bm hF hC λHF HC=>?_;have V:=Na p l J 0;generalize ju p J 0 l=z at C V;obtain⟨z1,z2⟩:=z;have V:(z1= -1/\eI p J l=l/\qC p J l=z2)\/∃k,k<l.length/\z1=((0+k:Nat):Int)/\eI p J l=l.take k++eI p z2 (l.drop (k+1))/\qC p J l=qC p z2 (l.drop (k+1)):=V;have C:Hid (Calls prog 159 #[.slice A n c,.func (.func f) #[] C0] w λe O=>e= .returned (iI z1)/\St I O (ay 213 3 bU (.slice A n c) l::T z2)):=C;clear h e2 hF hC hm hc;rcases V with⟨rfl,D,S⟩|⟨k,P0,I0,D,S⟩
 ·have Y:=aa D
  have a:=aa S;clear D S
  go_enter func101,ntmps101
  go_wp2_with fail
  refine qH C λw2 H=>?_;clear C
  go_wp2_with fail
  go_ret
  exact⟨_,rfl,by rw[Y.out,a.out];exact H.out⟩
 ·rw[s7]at I0
  subst I0;refine bm D S λY a=>?_;have Q0:k<n:=by have:=R.out;omega
  have k0:(0:Int)<=(k:Int):=oM
  have U0:((k:Int)== -1)=false:=kO oM;obtain⟨j,N⟩:=nM (k+1);have jw:IntKind.i64.wrap ((k:Int)+1)=(j:Int):=by rw[N,IntWalk.i64_in _ oM];omega
  have HJ:=aa N;clear D S P0 N
  go_enter func101,ntmps101
  go_wp2_with fail
  refine qK C λw2 h=>?_;obtain⟨g,G,hn,hs,Z⟩:=h.KH;obtain⟨b,rfl⟩:=fQ (Z.row 0 rfl) oM;refine mr G hn hs Z λHZ q V H=>?_;clear h Z C hn hs G
  go_wp2_with fail
  go_loopg [5,6] (n-j) (λgh v V0 wr=>∃(i j:Nat) (s:L) (g:List (LV×PU)),gh=n-j/\i<j/\j<=n/\v= iI (i:Nat)/\V0= iI (j:Nat)/\g.length=n/\sized 3 g/\(g.drop j).map Prod.snd=l.drop j/\
   eI p J l=(g.take i).map Prod.snd++eI p s (l.drop j)/\qC p J l=qC p s (l.drop j)/\St I wr (bY 213 3 (.slice (aO b) n c) n (cq g)::aS (Em bU g)::T s))
  case atStart=>
   have N:=HJ.out;refine⟨k,j,z2,g,rfl,oM,oM,rfl,rfl,q.symm,V,by rw[WT,HZ.out],?_,?_,H⟩
   ·rw[Y.out,Sx,HZ.out,N]
   ·rw[a.out,N]
  case round=>
   clear H HZ q V Y a HJ jw k0 U0 Q0;clear g;obtain⟨i,j,s,g,hg,E0,N,rfl,rfl,U,hs,G,r,u,h⟩:=hrel;refine ib hg hs U λHG V q=>?_;have i0:(0:Int)<=(i:Int):=oM
   have j0:(0:Int)<=(j:Int):=oM
   clear hg hs;by_cases B:j<n
   ·have i1:(i:Int)<(n:Int):=oM
    have j1:(j:Int)<(n:Int):=oM
    have hx:=gP (l:=l) (i:=j) ac6;have t:=Eb (l:=l) (i:=j) ac6;generalize l[j]' ac6=x at hx t;have A0:=gP (l:=g) (i:=j) (by rw[U];exact B);have F0:=Eb (l:=g) (i:=j) (by rw[U];exact B);generalize g[j]'(by rw[U];exact B)=z at A0 F0;obtain⟨cs,d⟩:=z;have B0:=G;rw[t,F0,li]at B0;injection B0 with T0 B0;subst T0;obtain⟨H0,⟨v,rfl,hv⟩,D0⟩:=h.zAt V A0;obtain⟨X,xc,rfl,_,_,_⟩:=id hv;have e0:wr.cell? ⟨b,j*3,none⟩=some (iI d.region):=D0 0 _ rfl;have e1:wr.cell? ⟨b,j*3+1,none⟩=some (iI d.index):=D0 1 _ rfl;have e2:wr.cell? ⟨b,j*3+2,none⟩=some (.slice X d.data.length xc):=D0 2 _ rfl;have J0:eI p s (l.drop j)=if(p s d).1=true then eI p (p s d).2 (l.drop (j+1))else d::eI p (p s d).2 (l.drop (j+1)):=by rw[t];rfl
    have K0:qC p s (l.drop j)=qC p (p s d).2 (l.drop (j+1)):=by rw[t];rfl
    refine mr (pJ hx) A0 B0 (r.trans (congrArg _ J0)) λHM W0 G0 HK=>?_;refine ib (u.trans K0) h ((h.copy 1 rfl).bu (R':=λO=>bU O [iI d.region,iI d.index,.slice X d.data.length xc] d) (λO o=>o _ (pJ A0))) λHL H H1=>?_;clear hx t A0 F0 G B0 H0 hv D0 J0 K0 r u h H U
    go_wp2_with fail
    have M:=(H1.alloc 213 #[iI d.region,iI d.index,.slice X d.data.length xc]).pk 4 [2,3,1,0];generalize wr.heap.size=y at M⊢;have K:=(M.sh.aM.swap.aM).swap.aM;have P:=aa K;clear M K H1 e0 e1 e2;generalize wr.alloc _=w3 at P⊢;rw[HC.out,Oper.upon_enter];refine qK (HF _ s d (.slice X d.data.length xc) _ HM P) λw4 Q=>?_;have F:=Q.star.swap.star.swap.star.pk 4 [2,0,1,3];clear Q P;have jw:IntKind.i64.wrap ((j:Int)+1)=((j+1:Nat):Int):=by rw[IntWalk.i64_in _ oM];omega
    cases o:(p s d).1 with
    |true=>
     refine bm (HK.trans (by rw[iP o])) (F.pk 4 [0,1]) λY H5=>?_;clear F HK
     go_wp2_with fail
     go_roundg (n-(j+1))
     case measure=>exact ad5
     case rel=>exact⟨i,j+1,(p s d).2,g,rfl,oM,oM,rfl,by go_num,q,V,G0,Y,HL,H5⟩
    |false=>
     have Y:=aa (HK.trans (by rw[iN acU]));obtain⟨y0,y1,y2⟩:=(F.ah 3 rfl).three;have iw:IntKind.i64.wrap ((i:Int)+1)=((i+1:Nat):Int):=by rw[IntWalk.i64_in _ oM];omega
     have S0:=sW w4 b (i*3) (F.Xd oM) d.region d.index X d.data.length xc;obtain⟨M0,h6⟩:=F.aa3 (i:=i) V rfl oM q;refine ib (h6.pk 3 [0,1]) M0 E0 λH6 O0 E=>?_;clear F h6 M0 HK
     go_wp2_with (refine Bh 213 rfl rfl rfl rfl S0 ?_)
     go_roundg (n-(j+1))
     case measure=>exact ad5
     case rel=>exact⟨i+1,j+1,(p s d).2,_,rfl,by have:=E.out;omega,oM,by go_num,by go_num,by rw[Vx];exact q,O0,by rw[zcT (by have:=E.out;omega)];exact G0,by
      rw[Y.out,Qx _ _ _ (by have:=q.out;omega),xd,nX];rfl,HL,H6⟩
   ·obtain rfl:j=n:=oM
    have i1:(i:Int)<(j:Int):=oM
    have q1:(i:Int)<=(j:Int):=oM
    have q2:(i:Int)<=(c:Int):=oM
    have q3:¬c=i:=oM
    have q4:(j:Int)<=(c:Int):=oM
    have R0:l.drop j=[]:=Qz (by rw[<-R.out];exact g9 _);rw[R0]at r u;refine ib (r.trans (rX _)) (u.trans (show qC p s []=s from rfl)) E0 λY a E=>?_;obtain⟨w3,ys,L0,hy,K⟩:=St.pz jq FN dC h i j (c-i) ⟨b,i*3,none⟩ (λ_=>rfl) oM oM;have H0:=L0 0;refine bm K hy λP HY=>?_;clear h L0 hy K r u E0 G U
    go_wp2_with fail
    go_ret
    refine⟨_,rfl,?_⟩;rw[Y.out,a.out];have Q:=P.uY (m:=i) (by have:=E.out;omega);have e:(bh (cq g) (i*3) ys).take (i*3)=cq (g.take i):=by
     have Z:=E.out;have M:=q.out;unfold bh;rw[nB g V.out i oM,nX,Yn];rw[kK _ (V.out.take i),fJ,Ho oM]
    rw[e]at Q;refine(Q.swap.bu (λO N0 p o=>N0 p (Hn o))).swap.Px (V.take i) rfl ?_;have Z:=E.out;have M:=q.out;exact acT
end
section
open Go.Shelf
variable {cx:CX}
def gN(r:Int)(n:Nat)(y:PU):Bool×Nat:=if(y.region==r&&decide (0<n))=true then(true,n-1)else(false,n)
theorem PG{I:aH}{X:aw}{L:List aw}(O J:Nat)(r:Int)(n:Nat)(y:PU)(v:Value)(w:World)(h:St I w (X::ko (n<=1000000)::ab O 3 #[iI r]::ab J 3 #[iI n]::L)):
 Rt I w 165 #[tU y v,pO O,pO J] (.bool (gN r n y).1) (X::ko ((gN r n y).2<=1000000)::ab O 3 #[iI r]::ab J 3 #[iI (gN r n y).2]::L):=by
 obtain⟨a,k,Q⟩:=y;have W:=h.swap.wT.1;have Z:=h.alloc 213 #[iI a,iI k,v];have C:=(Z.ah 0 rfl).cell 0;have c:=(Z.ah 3 rfl).cell 0;have F:=(Z.ah 4 rfl).cell 0;have f:=(Z.ah 4 rfl).frozen;by_cases S:a=r
 ·by_cases P:0<n
  ·have l:gN r n ⟨a,k,Q⟩=(true,n-1):=by simp[gN,S,P]
   rw[l];have Y:(a==r)=true:=Ec S;have o:decide ((0:Int)<(n:Int))=true:=decide_eq_true (by omega);have R:decide ((n:Int)>0)=true:=o;have U:IntKind.i64.wrap ((n:Int)-1)=((n-1:Nat):Int):=by rw[IntWalk.i64_in _ oM];omega
   refine bm (((Z.pk 5 [4,1,2,3]).bI 0 (iI (n-1:Nat))).pk 4 [1,3,0]) (show n-1<=1000000 by omega) λH b=>?_;clear h Z S l
   go_enter func165,ntmps165
   go_wp2_with fail
   go_ret
   exact⟨rfl,(H.uk b).swap⟩
  ·have l:gN r n ⟨a,k,Q⟩=(false,n):=by simp[gN,P]
   rw[l];have Y:(a==r)=true:=Ec S;have o:decide ((0:Int)<(n:Int))=false:=decide_eq_false (by omega);have R:decide ((n:Int)>0)=false:=o;exact agc
 ·have l:gN r n ⟨a,k,Q⟩=(false,n):=by simp[gN,S]
  rw[l];have Y:(a==r)=false:=kO S;exact agc
theorem Gq{I:aH}{X:aw}{L:List aw}(b:Nat)(r:Int)(y:PU)(v:Value)(w:World)(h:St I w (X::ab b 3 #[iI r]::L)):
 Rt I w 100 #[tU y v,pO b] (.bool (ao r y)) (X::ab b 3 #[iI r]::L):=by
 obtain⟨a,k,Q⟩:=y;have Z:=h.alloc 213 #[iI a,iI k,v];have o:=(Z.ah 0 rfl).cell 0;have c:=(Z.ah 2 rfl).cell 0;have H:=aa Z.tail;clear h Z;by_cases S:a=r
 ·have Y:(a==r)=true:=Ec S
  have l:ao r ⟨a,k,Q⟩=true:=Y;exact agf
 ·have Y:(a==r)=false:=kO S
  have l:ao r ⟨a,k,Q⟩=false:=Y;exact agf
def ZK(u:List PU)(r n:Int):Prop:=n<0\/n>((u.filter (ao r)).length:Nat)
instance(ws:List PU)(r n:Int):Decidable (ZK ws r n):=inferInstanceAs (Decidable (_\/_))
def Yz(u:List PU)(r n:Int):Int:=if ZK u r n then 1 else 0
def OX(u:List PU)(r n:Int):List PU:=if ZK u r n then u else eI (gN r) n.toNat u
def flS(O J:Nat)(r n:Int)(W:World):Prop:=W.cell? (aD O 0)=some (iI r)/\W.cell? (aD J 0)=some (iI n)
theorem tH{I:aH}{W:World}{e:List aw}{O J:Nat}{r n:Int}(h:St I W e)(i j:Nat)(z:e[i]? =some (ab O 3 #[iI r]))(N:e[j]? =some (ab J 3 #[iI n])):flS O J r n W:=
 ⟨(h.ah i z).cell 0,(h.ah j N).cell 0⟩
theorem Km{I:aH}{L:List aw}(g:Nat)(D u:List PU)(r n:Int)(w:World)(Y:u.length<=1000000)(q:∀x∈u,x.data.length<=1000000)(h:St I w (an cx g D u::L)):
 Rt I w 108 #[.pointer (some ⟨g,20,none⟩),iI r,iI n] (iI (Yz u r n)) (an cx g D (OX u r n)::L):=by
 have Z:=(h.alloc 3 #[iI r]).alloc 3 #[iI n];rw[World.size_alloc]at Z;refine bm Y q λj p=>?_;clear h Y q
 go_enter func108,ntmps108
 go_wp2_with fail
 have H:=aa Z;clear Z;generalize World.alloc _ _=w1 at H⊢;generalize w.heap.size+1=b2 at*;generalize w.heap.size=b1 at*;by_cases y:n<0
 ·have l:Hid (Yz u r n=1):=iP (.inl y)
  have b:Hid (OX u r n=u):=iP (.inl y);have t:decide (n<0)=true:=dZ y;refine ak (I:=I) (L0:=an cx g D u::L) [⟨none,none,λe=>ab b2 3 #[iI n]⟩,⟨none,none,λe=>ab b1 3 #[iI r]⟩] [[],[0],[0,1],rG 3,rG 3,rG 3,[0,1,2,4,5],[0,1,2,4,5,6],rG 8,rG 9] (rG 10) rfl kR kR kR (by rfl) (λ_=>rfl) H.fk ?_;refine yk ?_
  iterate 6 (refine Mp rfl (by intro e;go_simp;try rfl) rfl ?_;simp only[aR])
  refine kj (λe=> .bool true) rfl (λe wx Lx h=>gS) ?_;simp only[aR];refine ax ?_;intro e w3 h;have J:=h.fn;clear h;have T:=aa J;clear J H
  go_wp2_with fail
  go_ret
  exact⟨by rw[l.out];try rfl,by rw[b.out];exact T.tail.tail⟩
 ·obtain⟨m,rfl⟩:∃m:Nat,n=(m:Int):=⟨n.toNat,oM⟩
  have m0:(0:Int)<=(m:Int):=oM
  have t:decide ((m:Int)<0)=false:=dQ y;obtain⟨k,E⟩:=nM ((u.filter (ao r)).length);have l:=aa (show Yz u r m=if k<m then 1 else 0 by
   by_cases i:k<m
   ·rw[iP i];exact iP (.inr oM)
   ·rw[iN i];exact iN (λe=>by rcases e with e|e<;>omega))
  have b:=aa (show OX u r m=if k<m then u else eI (gN r) m u by
   by_cases i:k<m
   ·rw[iP i];exact iP (.inr oM)
   ·rw[iN i];exact iN (λe=>by rcases e with e|e<;>omega))
  have B0:k<=1000000:=by
   have:=VP (ao r) u;have:=j.out;omega
  have a:=aa E;clear E y;refine bQ (flS b1 b2 r m) 10 (rG 6) [6,7,8,9] kR kR (λd=>by cases d<;>exact λ_ _ _ _ h=>h) (λW J=> ?_);have U:=aa (H.drew);rw[<-J]at U;clear J H;refine⟨tH U 1 0 rfl rfl,?_⟩
  iterate 3 (refine bN rfl rfl (λW J=>by(obtain⟨y1,y2⟩:=J;go_simp;try rfl)) ?_;simp only[aR])
  iterate 3 (refine CY rfl gS (λW J=>by(obtain⟨y1,y2⟩:=J;go_simp;try rfl)) ?_;simp only[aR])
  refine take_nil ?_;have V:=U.pk 3 [2,0,1];refine q8 (f:=72) (args:= #[.pointer (some ⟨g,20,none⟩),iI r]) rfl gS gS ?_;refine(sg g D u r W j p V).mono ?_;rintro e w4⟨v,rfl,M⟩;obtain⟨A3,R,rfl,A0,C0⟩:=M.fx;rw[<-a.out]at A0;rw[<-a.out];refine⟨_,rfl,λ_=>tH M 3 2 rfl rfl,?_⟩;simp only[aR];have N:=aa M;clear V M U;refine lX rfl gS gS (λ_=>tH N 3 2 rfl rfl) ?_;simp only[aR];by_cases i:k<m
  ·have o:decide ((m:Int)>(k:Int))=true:=decide_eq_true (by omega)
   have R:decide ((k:Int)<(m:Int))=true:=o;rw[iP i]at l b;refine lX (v:= .bool true) rfl gS gS (λ_=>tH N 3 2 rfl rfl) ?_;simp only[aR];refine bD (v:= .bool true) rfl rfl gS (λ_=>tH N 3 2 rfl rfl) ?_;simp only[aR];refine cN ?_
   go_wp2_with fail
   go_ret
   exact⟨by rw[l.out];try rfl,by rw[b.out];exact N.tail.pick 3 [0]⟩
  ·have o:decide ((m:Int)>(k:Int))=false:=decide_eq_false (by omega)
   have R:decide ((k:Int)<(m:Int))=false:=o;rw[iN i]at l b;refine lX (v:= .bool false) rfl gS gS (λ_=>tH N 3 2 rfl rfl) ?_;simp only[aR];refine bD (v:= .bool false) rfl rfl gS (λ_=>tH N 3 2 rfl rfl) ?_;simp only[aR];refine cN ?_;obtain⟨A,c,S,d,_,_,_,_,Q⟩:=N.out.tail.nI;have G:=(Q.ah 0 rfl).cell 21;have C:=aa ((Q.pk 5 [2,4,3,0,1]));have K:=aa ((C.uk (show m<=1000000 by omega)).swap);clear Q C N
   go_wp2_with fail
   refine(CD (λn:Nat=>ko (n<=1000000)::ab b1 3 #[iI r]::ab b2 3 #[iI n]::ab g 75 (cF cx (.slice A D.length c) (.slice S u.length d))::ay 213 3 bU (.slice A D.length c) D::L) 165 #[pO b1,pO b2] (gN r) m u S u.length d _ (enters_of func165 kR rfl) (λX s x v W _ J=>PG b1 b2 r s x v W J) K).mono ?_;rintro e w5⟨v5,rfl,F⟩;obtain⟨z,O,rfl,_,_⟩:=F.fx;generalize(eI (gN r) m u).length=q5 at*;have P:=F.swap.wT.2.pk 5 [3,0,4];clear F K G;have G:=(P.ah 0 rfl).cell 21;have f:=(P.ah 0 rfl).frozen;have B:=aa ((P.bI 21 (.slice z q5 O)).pk 3 [0,2,1]);clear P
   go_wp2_with fail
   go_ret
   exact⟨by rw[l.out];try rfl,by rw[b.out];exact B.gT⟩
theorem Ao(p:PU->Bool)(l:List PU):eI (λ(_:Unit) x=>(p x,())) () l=l.filter (λx=> !p x):=by
 induction l with
 |nil=>rfl
 |cons x r K=>cases o:p x<;>simp[eI,o,K]
theorem LH{I:aH}{L:List aw}(g:Nat)(D u:List PU)(r:Int)(w:World)(N:u.length<=1000000)(q:∀x∈u,x.data.length<=1000000)(h:St I w (an cx g D u::L)):
 Calls prog 63 #[.pointer (some ⟨g,20,none⟩),iI r] w λe O=>∃v,e= .returned v/\St I O (ay 213 3 bU v (u.filter (ao r))::an cx g (D.filter (λx=> !ao r x)) (u.filter (λx=> !ao r x))::L):=by
 have Z:=h.alloc 3 #[iI r];have o:=(Z.ah 0 rfl).cell 0;refine ib N q Z.swap λb U H=>?_;clear h N q Z
 go_enter func63,ntmps63
 go_wp2_with fail
 refine(sg g D u r _ b U H).mono ?_;rintro e w2⟨v,rfl,V⟩;clear o H;obtain⟨t,Y,rfl,_,_⟩:=V.fx;generalize(u.filter (ao r)).length=q2 at*;obtain⟨A,c,j,d,_,_,_,_,K⟩:=V.swap.nI;generalize w.heap.size=y at*;have Q:=K.pk 5 [2,4,0,1,3];have o:=(Q.ah 1 rfl).cell 0;have G:=(Q.ah 2 rfl).cell 21;have C:=aa Q;clear V K Q
 go_wp2_with fail
 have E:=λM W h=>CD (I:=M) (λ_:Unit=>ab y 3 #[iI r]::ab g 75 (cF cx (.slice A D.length c) (.slice j u.length d))::ay 213 3 bU (.slice A D.length c) D::ay 213 3 bU (.slice t q2 Y) (u.filter (ao r))::L) 100 #[pO y] (λ_ x=>(ao r x,())) () u j u.length d W (enters_of func100 kR rfl) (λX _ x v W _ J=>Gq y r x v W J) h;refine(E _ _ C).mono ?_;clear E;rintro e w3⟨n,rfl,F⟩;rw[Ao]at F;obtain⟨a,R,rfl,_,_⟩:=F.fx;generalize(u.filter (λx=> !ao r x)).length=q3 at*;clear C G o;have P:=F.pk 5 [2,0,3,1,4];have G:=(P.ah 0 rfl).cell 21;have l:=(P.ah 0 rfl).cell 20;have f:=(P.ah 0 rfl).frozen;have B:=aa ((P.bI 21 (.slice a q3 R)).pk 5 [2,3,0,1,4]);clear F P
 go_wp2_with fail
 clear G l f;generalize World.setCell _ _ _=w4 at B⊢;have i:=λM W h=>CD (I:=M) (λ_:Unit=>ab y 3 #[iI r]::ab g 75 (cF cx (.slice A D.length c) (.slice a q3 R))::ay 213 3 bU (.slice a q3 R) (u.filter (λx=> !ao r x))::ay 213 3 bU (.slice t q2 Y) (u.filter (ao r))::L) 100 #[pO y] (λ_ x=>(ao r x,())) () D A D.length c W (enters_of func100 kR rfl) (λX _ x v W _ J=>Gq y r x v W J) h;refine(i _ _ B).mono ?_;clear i;rintro e w5⟨v5,rfl,S⟩;rw[Ao]at S;obtain⟨z,T,rfl,_,_⟩:=S.fx;generalize(D.filter (λx=> !ao r x)).length=q5 at*;clear B;have p:=S.pk 5 [2,0,3,4];have G:=(p.ah 0 rfl).cell 20;have f:=(p.ah 0 rfl).frozen;have k:=aa (p.bI 20 (.slice z q5 T));clear S p
 go_wp2_with fail
 go_ret
 exact⟨_,rfl,k.gT.swap⟩
end
section
open Go.Shelf
variable {cx:CX}
def Qs(u:List PU)(r:Int)(data:LI):Int:=if 23<data.length then 2 else if 12<=(u.filter (ao r)).length then 42 else 0
def Dy(D u:List PU)(p:PU):Int:=if Qs u p.region p.data=0 then lh D u p.region p.index else Qs u p.region p.data
def za(D u:List PU)(p:PU):List PU:=if Qs u p.region p.data=0 then mz D u p else D
def AL(D u:List PU)(p:PU):List PU:=if Dy D u p=0 then u++[p]else u
def wrS(y g:Nat)(r i:Int)(v:Value)(W:World):Prop:=W.cell? (aD y 0)=some (iI r)/\W.cell? (aD y 1)=some (iI i)/\W.cell? (aD g 21)=some v
theorem yK{I:aH}{W:World}{e:List aw}{y g:Nat}{r i:Int}{u v:Value}(h:St I W e)(j k:Nat)(N:e[j]? =some (ab y 166 #[iI r,iI i]))(F:e[k]? =some (ab g 75 (cF cx u v))):wrS y g r i v W:=
 ⟨(h.ah j N).cell 0,(h.ah j N).cell 1,(h.ah k F).cell 21⟩
theorem Uy(D u:List PU)(r i:Int):lh D u r i=0\/lh D u r i=42:=by
 unfold lh
 split
 ·exact aes
 ·split
  ·split
   ·exact .inr rfl
   ·exact aes
  ·exact aes
theorem Mg{I:aH}{L:List aw}(g:Nat)(D u:List PU)(r i:Int)(G:OA)(a j:Nat)(data:LI)(w:World)(D0:D.length<=1000000)(hl:u.length<=1000000)(hd:∀x∈u,x.data.length<=1000000)(h:St I w (ai .u8 (.slice G a j) data::an cx g D u::L)):
 Rt I w 66 #[.pointer (some ⟨g,20,none⟩),.agg #[iI r,iI i],.slice G a j] (iI (Dy D u ⟨r,i,data⟩)) (an cx g (za D u ⟨r,i,data⟩) (AL D u ⟨r,i,data⟩)::L):=by
 have M:a=data.length:=(h.get 0 rfl).sl.1;have Z:=h.alloc 166 #[iI r,iI i];generalize hy:w.heap.size=y at Z;have C:=(Z.ah 0 rfl).cell 0;have E:=(Z.ah 0 rfl).cell 1;refine Cz (Z.pk 3 [2,0,1]) hl hd D0 M λH HL HD HB H0=>?_;clear h Z hl hd D0;by_cases M0:23<a
 ·have X:Qs u r data=2:=iP oM
  have c:=aa (show Dy D u ⟨r,i,data⟩=2 by unfold Dy;simp only[X];rfl);have l:=aa (show za D u ⟨r,i,data⟩=D by unfold za;simp only[X];rfl);have b:=aa (show AL D u ⟨r,i,data⟩=u by unfold AL;rw[c.out];rfl);have S:decide ((a:Int)>23)=true:=decide_eq_true (by omega);have c2:decide ((23:Int)<(a:Int))=true:=S;clear X M hy
  go_enter func66,ntmps66
  go_wp2_with fail
  go_ret
  exact⟨by rw[c.out];try rfl,by rw[l.out,b.out];exact H.pick 3 [0]⟩
 ·have S:decide ((a:Int)>23)=false:=decide_eq_false (by omega)
  have c2:decide ((23:Int)<(a:Int))=false:=S;have O0:a<=1000000:=oM
  have hX:Qs u r data=if 12<=(u.filter (ao r)).length then 42 else 0:=iN oM;have t:=aa hX;clear hX M
  go_enter func66,ntmps66
  go_wp2_with fail
  refine(sg g D u r _ HL HD H).mono ?_;rintro e w2⟨v,rfl,V⟩;obtain⟨A2,L0,rfl,I0,N0⟩:=V.fx;obtain⟨o,B⟩:=nM ((u.filter (ao r)).length);rw[<-B]at I0 V t;rw[<-B];have C:=(V.ah 2 rfl).cell 0;have E:=(V.ah 2 rfl).cell 1;refine bm (V.pk 4 [3,1,2]) B λN HQ=>?_;clear V H B;by_cases E0:12<=o
  ·have R:decide ((o:Int)≥12)=true:=decide_eq_true (by omega)
   have T:decide ((12:Int)<=(o:Int))=true:=R;have X:Qs u r data=42:=by rw[t.out,iP E0]
   have c:=aa (show Dy D u ⟨r,i,data⟩=42 by unfold Dy;simp only[X];rfl);have l:=aa (show za D u ⟨r,i,data⟩=D by unfold za;simp only[X];rfl);have b:=aa (show AL D u ⟨r,i,data⟩=u by unfold AL;rw[c.out];rfl);clear X
   go_wp2_with fail
   go_ret
   exact⟨by rw[c.out];try rfl,by rw[l.out,b.out];exact N.pick 3 [1]⟩
  ·have R:decide ((o:Int)≥12)=false:=decide_eq_false (by omega)
   have T:decide ((12:Int)<=(o:Int))=false:=R;have X:Qs u r data=0:=by rw[t.out,iN E0]
   have l:=aa (show za D u ⟨r,i,data⟩=mz D u ⟨r,i,data⟩by unfold za;simp only[X];rfl);have c:=aa (show Dy D u ⟨r,i,data⟩=lh D u r i by unfold Dy;simp only[X];rfl);have HI:=aa (N.copy 0 rfl);clear X N
   go_wp2_with fail
   have h3:=(HI.pk 4 [0,2,1,3]);refine qK (Se g D u r i G a j data _ HB (by have:=H0.out;omega) h3) λw3 Q=>?_;clear h3 HI C E;have C:=(Q.ah 2 rfl).cell 0;have E:=(Q.ah 2 rfl).cell 1;have q:=aa Q;clear Q;rcases Uy D u r i with Y|Y
   ·have b:=aa (show AL D u ⟨r,i,data⟩=u++[⟨r,i,data⟩]by unfold AL;rw[c.out,Y];rfl)
    rw[Y]at c;rw[Y];clear Y
    go_wp2_with fail
    obtain⟨A,K0,gw,d,_,_,_,_,F⟩:=q.out.nI;obtain⟨n,hn⟩:=nM (u.length);rw[<-hn]at F;have P0:n<=1000000:=by have:=HL.out;omega
    have k:=aa F;clear F q C E hn;refine bQ (wrS y g r i (.slice gw n d)) 11 (rG 7) [7,8,9,10,11,12,13] kR kR (λd=>by cases d<;>exact λ_ _ _ _ h=>h) (λC0 J=> ?_);have U:=aa (k.drew);rw[<-J]at U;clear J k;refine⟨yK U 4 0 rfl rfl,?_⟩
    iterate 7 (refine bN rfl rfl (λC0 J=>by(obtain⟨C,E,x0⟩:=J;go_simp;try rfl)) ?_;simp only[aR])
    refine take_nil ?_;refine eP (f:=23) (args:= #[.slice G a j]) rfl rfl gS ?_;refine(dY G a j data C0 (U.get 3 rfl).sl.2.2.2 oM U).mono ?_;rintro e w4⟨v4,rfl,Q⟩;obtain⟨K,T,rfl⟩:=Q.slice;refine⟨_,rfl,λ_=>yK Q 5 1 rfl rfl,?_⟩;simp only[aR];refine bD rfl rfl gS (λ_=>yK Q 5 1 rfl rfl) ?_;simp only[aR];have F:=Q.ints.alloc 213 #[iI r,iI i,.slice K a T];refine bX rfl rfl 67 1 0 _ (.agg #[iI r,iI i,.slice K a T]) rfl rfl (mW _ _ _ _ _ _) (λ_=>yK F 6 2 rfl rfl) ?_;simp only[aR];generalize w4.heap.size=z at F⊢;generalize w4.alloc _=w5 at F⊢;have h6:=(F.swap.bu (R':=λB0=>bU B0 [iI r,iI i,.slice K a T] ⟨r,i,data⟩) (λB0 hi=>⟨_,rfl,hi⟩)).pk 7 [4,1,0,2,3,6];clear Q F U;obtain⟨J0,B,F0,W⟩:=h6.bK;refine qe jq W rfl rfl _ _ rfl rfl (aO z) 1 1 rfl [iI r,iI i,.slice K a T] (uj (cs:=[iI r,iI i,.slice K a T]) (W.ah 2 rfl)) (sC _ _ _ _ _) oM oM (λP c6 w7 p=>⟨λ_=>yK p 6 4 rfl rfl,?_⟩);simp only[aR];have O:=(p.pk 7 [0,1,3,4,5]).fR B rfl F0;have x0:=(O.ah 1 rfl).cell 21;have f:=(O.ah 1 rfl).frozen;have G0:=aa ((O.swap.bI 21 (.slice P (n+1) c6)).pk 3 [0,2,1]);clear h6 W p O B F0
    iterate 2 (refine bD rfl rfl gS nD ?_;simp only[aR])
    refine dp rfl rfl 67 _ _ (.pointer (some ⟨g,21,none⟩)) (.slice P (n+1) c6) rfl rfl rfl gS nD ?_;simp only[Act.put];refine cN ?_;clear x0 f
    go_wp2_with fail
    go_ret
    exact⟨by rw[c.out];try rfl,by rw[l.out,b.out];exact G0.gT⟩
   ·have b:=aa (show AL D u ⟨r,i,data⟩=u by unfold AL;rw[c.out,Y];rfl)
    rw[Y]at c;rw[Y];clear Y
    go_wp2_with fail
    go_ret
    exact⟨by rw[c.out];try rfl,by rw[l.out,b.out];exact q.pick 3 [0]⟩
end
theorem oT{fn:Func}{t k:Nat}{ty:TypeId}{P:Program}{w:World}{v:Value}{a:Addr}(h:fn.results= #[.cell t ty,.tmp k])(b:Vq)(Q:b.getD t undef= .pointer (some a))(C:(loadVar ty a).run P w= .ok v w):
 (results fn b).run P w= .ok (.tuple #[v,b.getD k undef]) w:=by
 exact aef
theorem yy{w:World}{n c:Nat}{i:Int}{d:LI}(h:aA w .u8 (.slice A n c) (i::d)):∃Y,A=some Y/\n=d.length+1/\n<=c/\c<=9223372036854775807/\w.cell? Y=some (.int .u8 i):=by
 obtain⟨W,D,y,U⟩:=h.sl;have z:n=d.length+1:=by simpa using W
 obtain⟨Y,u,rfl,_,_,E,J⟩:=U.at_ (k:=0) oM;obtain rfl:Value.int .u8 i=u:=by simpa using E
 exact⟨Y,rfl,z,D,y,by simpa[Addr.add]using J⟩
theorem aA.SX{w:World}{A G:OA}{n c:Nat}{i:Int}{d:LI}(h:aA w .u8 (.slice A n c) (i::d))(r:1<n->G=A.map (·.add 1)):aA w .u8 (.slice G (n-1) (c-1)) d:=by
 obtain⟨K,Z,V,M⟩:=h.sl;have C:d.length=n-1:=by simp at K;omega
 refine⟨G,c-1,by rw[C],by rw[C];omega,by unfold maxLen;omega,by rw[nL];omega,λo=> ?_⟩;rw[C]at o;obtain⟨Y,e,P,B,D⟩:=M.2 oM;subst e;refine⟨Y.add 1,by rw[r oM];rfl,trivial,by rw[fl];exact B,λj u E=> ?_⟩;rw[dk];refine D (1+j) u ?_;rw[ZF];simpa using E
end Go.Proofs.YtblpaldggenbaaaGreatDoor
