/- A part. -/
import Derived.Test.YtblpaldggenbaaaGreatDoorMr
namespace Go.Proofs.YtblpaldggenbaaaGreatDoor
open Go.RowKit
set_option maxRecDepth 100000
set_option maxHeartbeats 64000000
variable{o:eH}{S:gD}
section
theorem dR{y:Int×Int}{l:List (Int×Int)}{x:Int}(h:(y.1==x)=false):aP (y::l) x=aP l x:=by
 unfold aP;rw[Uq,h]
theorem fL{y:Int×Int}{l:List (Int×Int)}{x:Int}(h:(y.1==x)=true):aP (y::l) x=some y:=by
 unfold aP;rw[Uq,h]
theorem jN(l:List (Int×Int))(c n x:Int):(aP (bR l c n) x).isSome=(aP l x).isSome:=by
 induction l with
 |nil=>rfl
 |cons y l K=>
  unfold bR
  split
  ·cases E:y.1==x with
   |true=>rw[fL (y:=(y.1,n)) E,fL E];rfl
   |false=>rw[dR (y:=(y.1,n)) E,dR E]
  ·cases E:y.1==x with
   |true=>rw[fL E,fL E]
   |false=>rw[dR E,dR E];exact K
theorem rY{l:List (Int×Int)}{c x:Int}(h:x≠c):(aP (jV l c) x).isSome=(aP l x).isSome:=by
 induction l with
 |nil=>rfl
 |cons y l K=>
  unfold jV at K⊢
  cases D:y.1==c with
  |true=>
   have E:(y.1==x)=false:=by
    have:y.1=c:=by simpa using D
    simp[this,Vh h]
   rw[UL (p:=λx:Int×Int=>x.1==c) D,dR E]
  |false=>
   rw[WH (p:=λx:Int×Int=>x.1==c) (by rw[D];exact iu)]
   cases E:y.1==x with
   |true=>rw[fL E,fL E]
   |false=>rw[dR E,dR E];exact K
theorem LS{l r:List (Int×Int)}{x:Int}(h:(aP l x).isSome=true):(aP (l++r) x).isSome=true:=by
 unfold aP at h⊢;rw[Zk]
 cases Y:l.find? (λy=>y.1==x)with
 |none=>rw[Y]at h;cases h
 |some _=>rfl
theorem MD(l:List (Int×Int))(c n:Int):(aP (l++[(c,n)]) c).isSome=true:=by
 unfold aP;rw[Zk]
 cases Y:l.find? (λy=>y.1==c)with
 |none=>exact abN
 |some _=>rfl
theorem xo{l:List PU}{r j:Int}(h:j≠r):(l.filter (λx=> !ao r x)).filter (ao j)=l.filter (ao j):=by
 rw[List.filter_filter];refine List.filter_congr (λx _=> ?_);unfold ao;by_cases J:x.region=j
 ·simp[J,h]
 ·simp[J]
theorem FU{l:List PU}{r:Int}:(l.filter (λx=> !ao r x)).filter (ao r)=[]:=by
 rw[List.filter_filter,List.filter_eq_nil_iff];intro x _;exact abN
theorem yO{r:Int}(K:0<=r)(S:r<4):cB r=true:=by unfold cB;simp;omega
theorem qe{C:aY}{r:Int}(K:0<=r)(S:r<4):C.tok r=(C.h r.toNat).t:=by unfold aY.tok;rw[iP (yO K S)]
theorem DO{C I:aY}{r j t u:Int}(K:0<=r)(B:0<=j)(O:j<4)(l:I.h=aI C.h r.toNat ⟨2,t,u⟩):I.tok j=if j=r then t else C.tok j:=by
 rw[qe B O,qe B O,l];by_cases h:j=r
 ·rw[iP h,h,aT]
 ·rw[iN h,bS _ _ _ _ oM]
section
variable {X:WM} {U:Nat->Int->Vw} {own l:cU} {N N':Nat->Rg} {n n' m m':Nat} {T T':Int}
theorem GI.Gl(h:GI X U own N n m T){q:Int}(C:cN q X.sv.be own S.be l)(d:q<=20*((m':Int)-(m:Int)))(p:m<=m')(V:∀x:Int,(aP X.sv.a9 x).isSome=true->(aP S.a9 x).isSome=true):GI ⟨S,X.st,X.c,X.ev⟩ U l N n m' T:=by
 refine h.serve (C.tV 0) d ⟨cO _,dC⟩ p (λi z x J=> ?_) (λi z x J=>V _ (h.wc i z x (C.w i z x J)).2.2) (λc K M D=>V _ (h.ss c K M D));rcases C.h i z x J with⟨_,w,E,e⟩|⟨y,g,e,_⟩
 ·rw[<-e];exact V _ (h.wc i z w E).2.2
 ·rw[<-e];exact V _ (h.hc i z y g).2.2
theorem GI.numbers(h:GI X U own N n m T){c:Int}(K:0<=c)(M:c<3){I:aY}(u:I.h=(X.c c.toNat).h)(Y:I.la=(X.c c.toNat).la)(P:I.a9=(X.c c.toNat).a9)(g:I.r=(X.c c.toNat).r)(b:I.wr=(X.c c.toNat).wr)(R:I.bl=(X.c c.toNat).bl):GI ⟨X.sv,X.st,aI X.c c.toNat I,X.ev⟩ U own N n m T:=by
 have D:=h.ci c K M;refine h.wR K M ⟨by rw[b,R];exact D.i,by rw[b];exact D.w,by rw[R];exact D.b,by rw[g];exact D.q,by rw[g];exact D.p⟩ (λr Q L=> .inl ⟨xa u r,by rw[g],by rw[b],by rw[R];exact λy E _=>E⟩) (λr Q L x J p V=> ?_) (λr Q L=>⟨by rw[Y];exact h.ll c r K M Q L,λx J p=> ?_⟩) (λV=>h.ss c K M (by rw[<-P];exact V)) (λV r=>by rw[xa u];exact h.s0 c K M (by rw[<-P];exact V) r) (λk=>by rw[u];exact h.hz c K M k)
 ·rw[xa u,<-p]
  exact h.fr r Q L x J (by rw[p,<-P];exact V)
 ·rw[Y,<-p]
  exact h.la r Q L x J
theorem PC(d:aH)(c s r b t a:Int):FF d ⟨3,c,s,r,b,t,a⟩=d.acquire c r b:=iP rfl
theorem Yf(d:aH)(c s r b t a:Int):FF d ⟨4,c,s,r,b,t,a⟩=((d.release c r t).1,0,(d.release c r t).2):=(iN (by show¬(4:Int)=3;decide)).trans (iP rfl)
theorem Kv(d:aH)(c s r b t a:Int):FF d ⟨5,c,s,r,b,t,a⟩=d.renew c r t:=(iN (by show¬(5:Int)=3;decide)).trans ((iN (by show¬(5:Int)=4;decide)).trans (iP rfl))
theorem jb{q:dH}(M:q.op=3\/q.op=4\/q.op=5)(V:(aP S.a9 q.c).isSome=true):S.apply q=⟨⟨bR S.a9 q.c q.seq,(FF S.be q).1⟩,(FF S.be q).2.2,(FF S.be q).2.1⟩:=by
 unfold gD.apply;rw[iN oM,iN oM,iN oM,iP V]
theorem sR{q:dH}(M:q.op=3\/q.op=4\/q.op=5)(V:¬(aP S.a9 q.c).isSome=true):S.apply q=⟨S,81,0⟩:=by
 unfold gD.apply;rw[iN oM,iN oM,iN oM,iN V]
theorem DH{V:List bh}(Z:V.length<=1){x y:bh}(J:x∈V)(E:y∈V):x=y:=by
 rcases Jr Z with e|⟨z,e⟩
 ·rw[e]at J;cases J
 ·rw[e]at J E;rw[nN.1 J,nN.1 E]
theorem JN{d:aH}{c r t:Int}(h:(d.renew c r t).2.2=0):∃x∈(d.r r.toNat).h,x.c=c/\x.t=t:=by
 unfold aH.renew at h
 split at h
 ·exact aer
 ·rename_i Z
  have Z:d.gy c r t=0:=by simpa using Z
  unfold aH.gy at Z
  split at Z
  ·rename_i G;exact absurd Z G
  ·split at Z
   ·rename_i x J
    obtain⟨a,b⟩:=tN J;refine⟨x,a,b,?_⟩
    split at Z
    ·assumption
    ·cases Z
   ·cases Z
theorem Ge{g:Type}(f:Nat->g)(i:Nat)(x y:g):aI (aI f i x) i y=aI f i y:=by
 funext j
 unfold aI
 split<;>rfl
theorem GI.ren(h:GI X U own N n m T){c r:Int}(K:0<=c)(M:c<3)(Q:0<=r)(L:r<4)(R:1<=(X.c c.toNat).tok r):
 GI ⟨(cZ X.sv c (X.c c.toNat) r ((X.c c.toNat).tok r)).s,X.st,aI X.c c.toNat (cZ X.sv c (X.c c.toNat) r ((X.c c.toNat).tok r)).c,X.ev⟩ U own N n m T:=by
 generalize F:X.c c.toNat=C at R;generalize D:C.tok r=t at R;unfold cZ;by_cases V:(aP X.sv.a9 c).isSome=true
 ·rw[jb (.inr (.inr rfl)) V,Kv]
  have Z:=h.Gl (S:=⟨bR X.sv.a9 c (dP C.seq),(X.sv.be.renew c r t).1⟩) (m':=m) (h.tb.renew c r t) oM (io _) (λx J=>by rw[jN];exact J);by_cases Y:(X.sv.be.renew c r t).2.2=0
  ·show GI ⟨(if(X.sv.be.renew c r t).2.2≠0 then _ else _:nP).s,X.st,aI X.c c.toNat (if(X.sv.be.renew c r t).2.2≠0 then _ else _:nP).c,X.ev⟩ U own N n m T
   rw[iN (λh=>h Y)];show GI ⟨⟨bR X.sv.a9 c (dP C.seq),(X.sv.be.renew c r t).1⟩,X.st,aI X.c c.toNat (({C with seq:=dP C.seq}:aY).nS r t (X.sv.be.renew c r t).2.1),X.ev⟩ U own N n m T;unfold aY.nS
   split
   ·obtain⟨x,J,p,b⟩:=JN Y
    have q:=h.ci c K M;have l:=λj B O=>h.ll c j K M B O;have d:=h.tk c r K M;rw[F]at q l d;have I:X.sv.be.last<=(X.sv.be.renew c r t).1.last:=(h.tb.renew c r t).last;have A:∀j,0<=j->j<4->aY.tok {C with seq:=dP C.seq,h:=aI C.h r.toNat ⟨2,t,(X.sv.be.renew c r t).2.1⟩,la:=aI C.la r.toNat t} j=C.tok j:=λj B O=>by
     rw[DO (C:=C) Q B O rfl]
     split
     ·rename_i e;rw[e,D]
     ·rfl
    have g:∀j,aY.tok {C with seq:=dP C.seq,h:=aI C.h r.toNat ⟨2,t,(X.sv.be.renew c r t).2.1⟩,la:=aI C.la r.toNat t} j=C.tok j:=λj=>by
     by_cases H:0<=j/\j<4
     ·exact A j H.1 H.2
     ·rw[oy H,oy H]
    refine Z.wR K M ⟨q.i,q.w,q.b,q.q,q.p⟩ (λj B O=> .inl ⟨?_,?_,?_,?_⟩) (λj B O y E P W=> ?_) (λj B O=> ?_) (λW=> ?_) (λW j=> ?_) (λk=> ?_)
    ·show _=(X.c c.toNat).tok j
     rw[A j B O,F]
    ·show C.r j.toNat=(X.c c.toNat).r j.toNat
     rw[F]
    ·show C.wr.filter (ao j)=(X.c c.toNat).wr.filter (ao j)
     rw[F]
    ·show∀y∈C.bl,y.region=j->y∈(X.c c.toNat).bl
     rw[F];exact λy E _=>E
    ·rw[A j B O]
     have:=Z.fr j B O y E (by show(X.c y.c.toNat).a9=true;rw[P,F];exact W);have:y.t=(X.c y.c.toNat).tok j\/_:=this;rw[P,F]at this;exact this
    ·show aI C.la r.toNat t j.toNat<=(X.sv.be.renew c r t).1.last/\∀y∈((X.sv.be.renew c r t).1.r j.toNat).h,y.c=c->aI C.la r.toNat t j.toNat<=y.t
     by_cases H:j=r
     ·subst H
      rw[aT];refine⟨?_,λy E _=> ?_⟩
      ·have:t<=X.sv.be.last:=by rw[<-D];exact d.2
       exact tU this I
      ·rcases(h.tb.renew c j t).h j.toNat oM y E with⟨a,w,G,e⟩|⟨z,o,_,e⟩
       ·have:=h.tk c j K M
        rw[F,D]at this;omega
       ·rw[<-e,DH (h.tb.one _ oM) o J,b]
        exact cO _
     ·rw[bS _ _ _ _ oM]
      refine⟨tU (l j B O) I,λy E P=> ?_⟩;have:=Z.la j B O y E;have:(X.c y.c.toNat).la j.toNat<=y.t:=this;rw[P,F]at this;exact this
    ·exact Z.ss c K M (by show(X.c c.toNat).a9=true;rw[F];exact W)
    ·rw[g]
     have:=h.s0 c K M (by rw[F];exact W) j;rw[F]at this;exact this
    ·show aI C.h r.toNat ⟨2,t,(X.sv.be.renew c r t).2.1⟩ k=qO.zero\/1<=(aI C.h r.toNat ⟨2,t,(X.sv.be.renew c r t).2.1⟩ k).t
     rcases cL C.h r.toNat k ⟨2,t,(X.sv.be.renew c r t).2.1⟩with⟨_,e⟩|⟨_,e⟩
     ·rw[e];exact .inr R
     ·rw[e,<-F];exact h.hz c K M k
   ·exact Z.numbers K M acr acj acm acs acn aco
  ·show GI ⟨(if(X.sv.be.renew c r t).2.2≠0 then _ else _:nP).s,X.st,aI X.c c.toNat (if(X.sv.be.renew c r t).2.2≠0 then _ else _:nP).c,X.ev⟩ U own N n m T
   rw[iP Y];exact Z.numbers K M acr acj acm acs acn aco
 ·rw[sR (.inr (.inr rfl)) V]
  exact h.numbers K M acr acj acm acs acn aco
end
end
section
structure pG(T:aH)(own:cU)(T':aH)(own':cU):Prop where
 last:T.last<=T'.last
 vf:∀t,t<=T.last->own' t=own t
 h:∀i,i<4->∀h'∈(T'.r i).h,T.last<h'.t\/∃h∈(T.r i).h,h.c=h'.c/\h.t=h'.t
theorem pG.refl(T:aH)(own:cU):pG T own T own:=⟨cO _,λ_ _=>rfl,λ_ _ E l=> .inr ⟨E,l,rfl,rfl⟩⟩
theorem pG.trans{T Q H:aH}{o F I:cU}(h:pG T o Q F)(k:pG Q F H I):pG T o H I:=by
 refine⟨tU h.last k.last,λt R=>(k.vf t (tU R h.last)).trans (h.vf t R),λi z E l=> ?_⟩;rcases k.h i z E l with a|⟨Z,b,u,Y⟩
 ·exact .inl (zcV h.last a)
 ·rcases h.h i z Z b with a|⟨G,j,P,g⟩
  ·exact .inl (by rw[<-Y];exact a)
  ·exact .inr ⟨G,j,P.trans u,g.trans Y⟩
theorem Mw.nx{q c:Int}{T T':aH}{o g:cU}(h:Mw q T o T' g c):pG T o T' g:=⟨h.last,h.vf,λi z x J=>(h.h i z x J).imp (λa=>a.1) (λa=>a)⟩
theorem cN.nx{q:Int}{T T':aH}{o g:cU}(h:cN q T o T' g):pG T o T' g:=(h.tV 0).nx
section
variable {X:WM} {F:Nat->Int->Vw} {own I:cU} {N N':Nat->Rg} {n n' m m':Nat} {T T':Int}
theorem rR(k r:Int):(aY.zero k).tok r=0:=by
 unfold aY.tok aY.zero
 split<;>rfl
theorem lU.zero(k:Int)(m:Nat):lU (aY.zero k) m:=by
 refine⟨iz.init.le (iD _),λp P=>(by cases P),λp P=>(by cases P),λk=> ?_,λk=>iD _⟩;show(0:Int)<=_;omega
theorem GI.die(h:GI X F own N n m T){c:Int}(K:0<=c)(M:c<3)(k:Int):GI ⟨X.sv,X.st,aI X.c c.toNat (aY.zero k),X.ev⟩ F own N n m T:=by
 refine h.wR K M (lU.zero _ _) (λr _ _=> .inr (.inl (rR _ _))) (λr _ _ x _ _ V=>by cases V) (λr Q L=>⟨h.tb.last,λx J _=> ?_⟩) (λV=>by cases V) (λ_ r=>rR _ _) (λ_=> .inl rfl);have:=(h.tb.own _ oM x J).2.1;show(0:Int)<=x.t;omega
theorem GI.Xl(h:GI X F own N n m T){c:Int}(K:0<=c)(M:c<3)(E:m<=m')(d:8<=20*((m':Int)-(m:Int))):
 ∃I,GI ⟨(ia X.sv c (X.c c.toNat)).s,X.st,aI X.c c.toNat (ia X.sv c (X.c c.toNat)).c,X.ev⟩ F I N n m' T/\((ia X.sv c (X.c c.toNat)).e=0->(ia X.sv c (X.c c.toNat)).c.a9=true)/\(∀r,(ia X.sv c (X.c c.toNat)).c.tok r=(X.c c.toNat).tok r)/\pG X.sv.be own (ia X.sv c (X.c c.toNat)).s.be I:=by
 have D:aI X.c c.toNat (X.c c.toNat)=X.c:=oK _ _;unfold ia;by_cases V:(X.c c.toNat).a9=true
 ·rw[iP V]
  refine⟨own,?_,λ_=>V,λ_=>rfl,pG.refl _ _⟩;show GI ⟨X.sv,X.st,aI X.c c.toNat (X.c c.toNat),X.ev⟩ F own N n m' T;rw[D];exact h.mono (io _) E (cO _)
 ·rw[iN V]
  have V:(X.c c.toNat).a9=false:=by simpa using V
  have k:∃g o,(X.sv.apply ⟨2,c,0,0,0,0,0⟩).s=o/\pG X.sv.be own o.be g/\GI ⟨o,X.st,X.c,X.ev⟩ F g N n m' T/\(∀i,i<4->(∀x∈(o.be.r i).h,x.c≠c)/\∀x∈(o.be.r i).w,x.c≠c):=by
   unfold gD.apply;rw[iN (by show¬(2:Int)=7;decide),iN (by show¬(2:Int)=1;decide),iP rfl];show∃g o,(if(aP X.sv.a9 c).isSome=true then(⟨⟨jV X.sv.a9 c,nh X.sv.be c⟩,0,0⟩:qG)else⟨X.sv,81,0⟩).s=o/\_;by_cases a:(aP X.sv.a9 c).isSome=true
   ·rw[iP a]
    obtain⟨g,Z,G⟩:=FJ h.tb (c:=c) ⟨K,oM⟩;refine⟨g,_,rfl,Z.nx,?_,G⟩;refine h.serve (Z.tV c) d ⟨K,M⟩ E (λi z x J=> ?_) (λi z x J=> ?_) (λU l t H=> ?_)
    ·show(aP (jV X.sv.a9 c) x.c).isSome=true
     rw[rY ((G i z).1 x J)];rcases Z.h i z x J with⟨_,w,hw,e⟩|⟨y,A,e,_⟩
     ·rw[<-e];exact(h.wc i z w hw).2.2
     ·rw[<-e];exact(h.hc i z y A).2.2
    ·show(aP (jV X.sv.a9 c) x.c).isSome=true
     rw[rY ((G i z).2 x J)];exact(h.wc i z x (Z.w i z x J)).2.2
    ·show(aP (jV X.sv.a9 c) U).isSome=true
     rw[rY (λe=>by rw[e,V]at H;cases H)];exact h.ss U l t H
   ·rw[iN a]
    refine⟨own,_,rfl,pG.refl _ _,h.mono (io _) E (cO _),λi z=>⟨λx J p=>a ?_,λx J p=>a ?_⟩⟩
    ·rw[<-p];exact(h.hc i z x J).2.2
    ·rw[<-p];exact(h.wc i z x J).2.2
  obtain⟨g,o,u,W,Z,G⟩:=k;rw[u];have B:∃j e,o.apply ⟨1,c,0,0,0,0,0⟩=⟨j,e,0⟩/\j.be=o.be/\(e=0->(aP j.a9 c).isSome=true)/\∀x,(aP o.a9 x).isSome=true->(aP j.a9 x).isSome=true:=by
   unfold gD.apply;rw[iN (by show¬(1:Int)=7;decide),iP rfl]
   split
   ·exact⟨_,_,rfl,rfl,λh=>(by cases h),λ_ h=>h⟩
   ·split
    ·exact⟨_,_,rfl,rfl,λh=>(by cases h),λ_ h=>h⟩
    ·exact⟨_,_,rfl,rfl,λ_=>MD _ _ _,λ_ h=>LS h⟩
  obtain⟨j,e,C,P,O,b⟩:=B;rw[C];have t:GI ⟨j,X.st,X.c,X.ev⟩ F g N n m' T:=by
   have S:cN 0 o.be g j.be g:=by rw[P];exact cN.refl oM Z.tb
   exact Z.Gl S oM (io _) b
  by_cases Y:e=0
  ·subst Y
   refine⟨g,?_,λ_=>rfl,λ_=>rfl,by show pG X.sv.be own j.be g;rw[P];exact W⟩;show GI ⟨j,X.st,aI X.c c.toNat {X.c c.toNat with a9:=true,seq:=0},X.ev⟩ F g N n m' T;have q:=t.ci c K M;refine t.wR K M ⟨q.i,q.w,q.b,q.q,q.p⟩ (λr Q L=> .inl ⟨rfl,rfl,rfl,λy A _=>A⟩) (λr Q L x J p _=> ?_) (λr Q L=>⟨t.ll c r K M Q L,λx J p=> ?_⟩) (λ_=>O rfl) (λV=>by cases V) (t.hz c K M)
   ·exact aeE
   ·exact aeE
  ·have R:(if(qG.mk j e 0).e≠0 then(⟨(qG.mk j e 0).s,X.c c.toNat,(qG.mk j e 0).e⟩:nP)else⟨(qG.mk j e 0).s,{X.c c.toNat with a9:=true,seq:=0},0⟩)=⟨j,X.c c.toNat,e⟩:=iP Y
   refine⟨g,?_,λh=> ?_,λr=> ?_,?_⟩
   ·show GI ⟨(if(qG.mk j e 0).e≠0 then(⟨(qG.mk j e 0).s,X.c c.toNat,(qG.mk j e 0).e⟩:nP)else⟨(qG.mk j e 0).s,{X.c c.toNat with a9:=true,seq:=0},0⟩).s,X.st,aI X.c c.toNat (if(qG.mk j e 0).e≠0 then(⟨(qG.mk j e 0).s,X.c c.toNat,(qG.mk j e 0).e⟩:nP)else⟨(qG.mk j e 0).s,{X.c c.toNat with a9:=true,seq:=0},0⟩).c,X.ev⟩ F g N n m' T
    rw[R,D];exact t
   ·have h:(if(qG.mk j e 0).e≠0 then(⟨(qG.mk j e 0).s,X.c c.toNat,(qG.mk j e 0).e⟩:nP)else⟨(qG.mk j e 0).s,{X.c c.toNat with a9:=true,seq:=0},0⟩).e=0:=h
    rw[R]at h;exact absurd h Y
   ·show(if(qG.mk j e 0).e≠0 then(⟨(qG.mk j e 0).s,X.c c.toNat,(qG.mk j e 0).e⟩:nP)else⟨(qG.mk j e 0).s,{X.c c.toNat with a9:=true,seq:=0},0⟩).c.tok r=_
    rw[R]
   ·show pG X.sv.be own (if(qG.mk j e 0).e≠0 then(⟨(qG.mk j e 0).s,X.c c.toNat,(qG.mk j e 0).e⟩:nP)else⟨(qG.mk j e 0).s,{X.c c.toNat with a9:=true,seq:=0},0⟩).s.be g
    rw[R];show pG X.sv.be own j.be g;rw[P];exact W
theorem GI.get(h:GI X F own N n m T){c r:Int}(K:0<=c)(M:c<3)(Q:0<=r)(W:r<4)(A0:(X.c c.toNat).a9=true)(hm:m<=m')(hq:1<=20*((m':Int)-(m:Int))):
 ∃I,GI ⟨(mU X.sv c (X.c c.toNat) r).s,X.st,aI X.c c.toNat (mU X.sv c (X.c c.toNat) r).c,X.ev⟩ F I N n m' T/\
  ((mU X.sv c (X.c c.toNat) r).e=0->∃x∈((mU X.sv c (X.c c.toNat) r).s.be.r r.toNat).h,x.c=c/\x.t=(mU X.sv c (X.c c.toNat) r).c.tok r)/\pG X.sv.be own (mU X.sv c (X.c c.toNat) r).s.be I:=by
 generalize J:X.c c.toNat=C at A0;have B0:=h.ss c K M (by rw[J];exact A0);unfold mU;rw[jb (.inl rfl) B0,PC];obtain⟨g,q,L0⟩:=h.tb.acquire c r;have F0:∀x:Int,(aP X.sv.a9 x).isSome=true->(aP (bR X.sv.a9 c (dP C.seq)) x).isSome=true:=λx B=>by rw[jN];exact B
 have h1:GI ⟨⟨bR X.sv.a9 c (dP C.seq),(X.sv.be.acquire c r 2).1⟩,X.st,X.c,X.ev⟩ F g N n m' T:=by
  refine h.serve q oM ⟨K,M⟩ hm (λi Y x B=>F0 _ ?_) (λi Y x B=>F0 _ ?_) (λc' S0 T0 U0=>F0 _ (h.ss c' S0 T0 U0))
  ·rcases q.h i Y x B with⟨_,e|⟨w,hw,e⟩⟩|⟨y,E,e,_⟩
   ·rw[e];exact B0
   ·rw[<-e];exact(h.wc i Y w hw).2.2
   ·rw[<-e];exact(h.hc i Y y E).2.2
  ·rcases q.w i Y x B with e|B
   ·rw[e];exact B0
   ·exact(h.wc i Y x B).2.2
 generalize hA:X.sv.be.acquire c r 2=A at q L0 h1;obtain⟨d,P,A3⟩:=A;have h2:GI ⟨⟨bR X.sv.a9 c (dP C.seq),d⟩,X.st,aI X.c c.toNat {C with seq:=dP C.seq},X.ev⟩ F g N n m' T:=h1.numbers K M (by show C.h=(X.c c.toNat).h;rw[J]) (by show C.la=(X.c c.toNat).la;rw[J]) (by show C.a9=(X.c c.toNat).a9;rw[J]) (by show C.r=(X.c c.toNat).r;rw[J]) (by show C.wr=(X.c c.toNat).wr;rw[J]) (by show C.bl=(X.c c.toNat).bl;rw[J]);by_cases he:A3=0
 case neg=>
  have R:(let a:qG:=⟨⟨bR X.sv.a9 c (dP C.seq),d⟩,A3,P⟩;let b:aY:={C with seq:=dP C.seq};if a.e≠0 then(⟨a.s,b,a.e⟩:nP)else if a.v=C.tok r then cZ a.s c b r a.v else cZ a.s c ((b.drop r).kX r.toNat dO.zero) r a.v)=⟨⟨bR X.sv.a9 c (dP C.seq),d⟩,{C with seq:=dP C.seq},A3⟩:=iP he;refine⟨g,?_,λhh=> ?_,?_⟩
  rotate_left 2
  ·show pG X.sv.be own (let a:qG:=⟨⟨bR X.sv.a9 c (dP C.seq),d⟩,A3,P⟩;let b:aY:={C with seq:=dP C.seq};if a.e≠0 then(⟨a.s,b,a.e⟩:nP)else if a.v=C.tok r then cZ a.s c b r a.v else cZ a.s c ((b.drop r).kX r.toNat dO.zero) r a.v).s.be g
   rw[R];exact q.nx
  ·exact R▸h2
  ·exact absurd ((congrArg nP.e R).symm.trans hh) he
 subst he;obtain⟨_,_,x,B,D0,Z⟩:=L0 rfl;have B:x∈(d.r r.toNat).h:=B;have Z:x.t=P:=Z;have U:=q.i.own _ oM x B;rw[Z,D0,Zi Q]at U;obtain⟨I0,W0,y,E,R0,E0⟩:=OJ q.i (c:=c) ⟨K,oM⟩ ⟨Q,W⟩ B D0;rw[Z]at I0 W0 E E0;have N0:(aP (bR X.sv.a9 c (dP C.seq)) c).isSome=true:=F0 _ B0;by_cases hv:P=C.tok r
 ·have R:(let a:qG:=⟨⟨bR X.sv.a9 c (dP C.seq),d⟩,0,P⟩;let b:aY:={C with seq:=dP C.seq};if a.e≠0 then(⟨a.s,b,a.e⟩:nP)else if a.v=C.tok r then cZ a.s c b r a.v else cZ a.s c ((b.drop r).kX r.toNat dO.zero) r a.v)=cZ ⟨bR X.sv.a9 c (dP C.seq),d⟩ c {C with seq:=dP C.seq} r P:=(iN (λh=>h rfl)).trans (iP hv)
  have Q0:aI X.c c.toNat ({C with seq:=dP C.seq}:aY) c.toNat={C with seq:=dP C.seq}:=aT _ _ _;have P0:({C with seq:=dP C.seq}:aY).tok r=P:=hv.symm;have h4:=h2.ren K M Q W (by show 1<=(aI X.c c.toNat {C with seq:=dP C.seq} c.toNat).tok r;rw[Q0,P0];exact U.2.1);rw[show(WM.mk ⟨bR X.sv.a9 c (dP C.seq),d⟩ X.st (aI X.c c.toNat {C with seq:=dP C.seq}) X.ev).c c.toNat={C with seq:=dP C.seq}from Q0,P0]at h4;rw[show aI (WM.mk ⟨bR X.sv.a9 c (dP C.seq),d⟩ X.st (aI X.c c.toNat {C with seq:=dP C.seq}) X.ev).c c.toNat=aI X.c c.toNat from funext λz=>Ge _ _ _ _]at h4;have G:cZ ⟨bR X.sv.a9 c (dP C.seq),d⟩ c {C with seq:=dP C.seq} r P=⟨⟨bR (bR X.sv.a9 c (dP C.seq)) c (dP (dP C.seq)),(d.renew c r P).1⟩,({C with seq:=dP (dP C.seq)}:aY).nS r P (d.renew c r P).2.1,({C with seq:=dP C.seq}:aY).my r P⟩:=by
   unfold cZ;rw[jb (.inr (.inr rfl)) N0,Kv];exact iN (λh=>h I0)
  refine⟨g,R▸h4,λhh=> ?_,?_⟩
  rotate_left
  ·show pG X.sv.be own (let a:qG:=⟨⟨bR X.sv.a9 c (dP C.seq),d⟩,0,P⟩;let b:aY:={C with seq:=dP C.seq};if a.e≠0 then(⟨a.s,b,a.e⟩:nP)else if a.v=C.tok r then cZ a.s c b r a.v else cZ a.s c ((b.drop r).kX r.toNat dO.zero) r a.v).s.be g
   rw[R,G];exact q.nx.trans (q.i.renew c r P).nx
  have hh:(let a:qG:=⟨⟨bR X.sv.a9 c (dP C.seq),d⟩,0,P⟩;let b:aY:={C with seq:=dP C.seq};if a.e≠0 then(⟨a.s,b,a.e⟩:nP)else if a.v=C.tok r then cZ a.s c b r a.v else cZ a.s c ((b.drop r).kX r.toNat dO.zero) r a.v).e=0:=hh;show∃x∈((let a:qG:=⟨⟨bR X.sv.a9 c (dP C.seq),d⟩,0,P⟩;let b:aY:={C with seq:=dP C.seq};if a.e≠0 then(⟨a.s,b,a.e⟩:nP)else if a.v=C.tok r then cZ a.s c b r a.v else cZ a.s c ((b.drop r).kX r.toNat dO.zero) r a.v).s.be.r r.toNat).h,x.c=c/\x.t=(let a:qG:=⟨⟨bR X.sv.a9 c (dP C.seq),d⟩,0,P⟩;let b:aY:={C with seq:=dP C.seq};if a.e≠0 then(⟨a.s,b,a.e⟩:nP)else if a.v=C.tok r then cZ a.s c b r a.v else cZ a.s c ((b.drop r).kX r.toNat dO.zero) r a.v).c.tok r;rw[R];rw[G];refine⟨y,E,R0,?_⟩;rw[E0];show P=(({C with seq:=dP (dP C.seq)}:aY).nS r P (d.renew c r P).2.1).tok r;unfold aY.nS
  split
  ·rw[DO (C:=C) Q Q W rfl,iP rfl]
  ·exact hv
 ·have R:(let a:qG:=⟨⟨bR X.sv.a9 c (dP C.seq),d⟩,0,P⟩;let b:aY:={C with seq:=dP C.seq};if a.e≠0 then(⟨a.s,b,a.e⟩:nP)else if a.v=C.tok r then cZ a.s c b r a.v else cZ a.s c ((b.drop r).kX r.toNat dO.zero) r a.v)=cZ ⟨bR X.sv.a9 c (dP C.seq),d⟩ c ((({C with seq:=dP C.seq}:aY).drop r).kX r.toNat dO.zero) r P:=(iN (λh=>h rfl)).trans (iN hv)
  have Z0:C.la r.toNat<=P:=by
   have:=h2.la r Q W x B;have:(aI X.c c.toNat {C with seq:=dP C.seq} x.c.toNat).la r.toNat<=x.t:=this;rw[D0,aT,Z]at this;exact this
  have M0:F r.toNat P=Vw.zero/\aC r P X.ev=jB P:=by
   have:=h2.fr r Q W x B (by show(aI X.c c.toNat {C with seq:=dP C.seq} x.c.toNat).a9=true;rw[D0,aT];exact A0);have:x.t=(aI X.c c.toNat {C with seq:=dP C.seq} x.c.toNat).tok r\/_:=this;rw[D0,aT,Z]at this;rcases this with this|this
   ·exact absurd this hv
   ·exact this
  have O0:(((({C with seq:=dP C.seq}:aY).drop r).kX r.toNat dO.zero)).my r P=0:=by
   unfold aY.my;rw[iN (by rw[yO Q W];simp),iN];rintro(e|e)
   ·omega
   ·have:P<C.la r.toNat:=e
    omega
  have X0:({((({C with seq:=dP C.seq}:aY).drop r).kX r.toNat dO.zero)with seq:=dP (dP C.seq)}:aY).my r P=0:=O0;have G:cZ ⟨bR X.sv.a9 c (dP C.seq),d⟩ c ((({C with seq:=dP C.seq}:aY).drop r).kX r.toNat dO.zero) r P=⟨⟨bR (bR X.sv.a9 c (dP C.seq)) c (dP (dP C.seq)),(d.renew c r P).1⟩,{((({C with seq:=dP C.seq}:aY).drop r).kX r.toNat dO.zero)with seq:=dP (dP C.seq),h:=aI C.h r.toNat ⟨2,P,(d.renew c r P).2.1⟩,la:=aI C.la r.toNat P},0⟩:=by
   unfold cZ;rw[jb (.inr (.inr rfl)) N0,Kv];refine(iN (λh=>h I0)).trans ?_;rw[O0];show nP.mk _ (aY.nS {((({C with seq:=dP C.seq}:aY).drop r).kX r.toNat dO.zero)with seq:=dP (dP C.seq)} r P (d.renew c r P).2.1) 0=_;unfold aY.nS;rw[iP X0]
   rfl
  have C0:=q.i.renew c r P;have p:GI ⟨⟨bR (bR X.sv.a9 c (dP C.seq)) c (dP (dP C.seq)),(d.renew c r P).1⟩,X.st,X.c,X.ev⟩ F g N n m' T:=h1.Gl (S:=⟨bR (bR X.sv.a9 c (dP C.seq)) c (dP (dP C.seq)),(d.renew c r P).1⟩) C0 oM (io _) (λx B=>by rw[jN];exact B);have l:=p.ci c K M;have l:lU (X.c c.toNat) m':=l;rw[J]at l;have K0:P<=(d.renew c r P).1.last:=tU U.2.2 C0.last;obtain⟨L,u⟩:∃L,L=({((({C with seq:=dP C.seq}:aY).drop r).kX r.toNat dO.zero)with seq:=dP (dP C.seq),h:=aI C.h r.toNat ⟨2,P,(d.renew c r P).2.1⟩,la:=aI C.la r.toNat P}:aY):=⟨_,rfl⟩;have f1:L.h=aI C.h r.toNat ⟨2,P,(d.renew c r P).2.1⟩:=by rw[u]
  have f2:L.la=aI C.la r.toNat P:=by rw[u]
  have f3:L.r=aI C.r r.toNat dO.zero:=by rw[u];rfl
  have f4:L.wr=C.wr.filter (λx=> !ao r x):=by rw[u];rfl
  have f5:L.bl=C.bl.filter (λx=> !ao r x):=by rw[u];rfl
  have f6:L.a9=C.a9:=by rw[u];rfl
  have V:∀j,0<=j->j<4->L.tok j=if j=r then P else C.tok j:=λj D O=>DO (C:=C) Q D O f1;have V0:GI ⟨⟨bR (bR X.sv.a9 c (dP C.seq)) c (dP (dP C.seq)),(d.renew c r P).1⟩,X.st,aI X.c c.toNat L,X.ev⟩ F g N n m' T:=by
   refine p.wR K M ⟨by rw[f4,f5];exact l.i.drop,λJ0 hp=> ?_,λJ0 hp=> ?_,λk=> ?_,λk=> ?_⟩ (λj D O=> ?_) (λj D O z o H0 _=> ?_) (λj D O=> ?_) (λ_=>by show(aP _ c).isSome=true;rw[jN,jN];exact B0) (λhs=>by rw[f6,A0]at hs;cases hs) (λk=>by
    rw[f1];rcases cL C.h r.toNat k ⟨2,P,(d.renew c r P).2.1⟩with⟨_,e⟩|⟨_,e⟩
    ·rw[e];exact .inr U.2.1
    ·rw[e,<-J];exact h.hz c K M k)
   ·rw[f4]at hp;exact l.w J0 (Ea.1 hp).1
   ·rw[f5]at hp;exact l.b J0 (Ea.1 hp).1
   ·rw[f3]
    rcases cL C.r r.toNat k dO.zero with⟨_,e⟩|⟨_,e⟩
    ·rw[e];show(0:Int)<=_;omega
    ·rw[e];exact l.q k
   ·rw[f3]
    rcases cL C.r r.toNat k dO.zero with⟨_,e⟩|⟨_,e⟩
    ·rw[e];exact iD _
    ·rw[e];exact l.p k
   ·by_cases H:j=r
    ·subst H
     have t:L.tok j=P:=(V j D O).trans (iP rfl);refine .inr (.inr ⟨by rw[t];exact U.2.1,by rw[t];exact K0,by rw[t];exact U.1,by rw[t];exact M0.1,by rw[t];exact M0.2,by rw[f3,aT],by rw[f4];exact FU,λz o Y0=> ?_⟩);rw[f5]at o;have:=(Ea.1 o).2;unfold ao at this;simp[Y0]at this
    ·have t:L.tok j=C.tok j:=(V j D O).trans (iN H)
     refine .inl ⟨?_,?_,?_,?_⟩
     ·show L.tok j=(X.c c.toNat).tok j
      rw[t,J]
     ·show L.r j.toNat=(X.c c.toNat).r j.toNat
      rw[f3,bS _ _ _ _ oM,J]
     ·show L.wr.filter (ao j)=(X.c c.toNat).wr.filter (ao j)
      rw[f4,J];exact xo H
     ·show∀y∈L.bl,y.region=j->y∈(X.c c.toNat).bl
      rw[f5,J];exact λy E _=>(Ea.1 E).1
   ·by_cases H:j=r
    ·subst H
     left
     rw[V j D O,iP rfl];rw[DH (C0.i.one _ oM) o E];exact E0
    ·rw[V j D O,iN H]
     have:=p.fr j D O z o (by show(X.c z.c.toNat).a9=true;rw[H0,J];exact A0);have:z.t=(X.c z.c.toNat).tok j\/_:=this;rw[H0,J]at this;exact this
   ·rw[f2]
    by_cases H:j=r
    ·subst H
     rw[aT];refine⟨K0,λz o _=> ?_⟩;rw[DH (C0.i.one _ oM) o E,E0];exact cO _
    ·rw[bS _ _ _ _ oM]
     have G0:=p.ll c j K M D O;have G0:(X.c c.toNat).la j.toNat<=_:=G0;rw[J]at G0;refine⟨G0,λz o H0=> ?_⟩;have:=p.la j D O z o;have:(X.c z.c.toNat).la j.toNat<=z.t:=this;rw[H0,J]at this;exact this
  rw[<-u]at G;have e9:=R.trans G;refine⟨g,e9▸V0,λ_=> ?_,?_⟩
  rotate_left
  ·show pG X.sv.be own (let a:qG:=⟨⟨bR X.sv.a9 c (dP C.seq),d⟩,0,P⟩;let b:aY:={C with seq:=dP C.seq};if a.e≠0 then(⟨a.s,b,a.e⟩:nP)else if a.v=C.tok r then cZ a.s c b r a.v else cZ a.s c ((b.drop r).kX r.toNat dO.zero) r a.v).s.be g
   rw[e9];exact q.nx.trans C0.nx
  show∃x∈((let a:qG:=⟨⟨bR X.sv.a9 c (dP C.seq),d⟩,0,P⟩;let b:aY:={C with seq:=dP C.seq};if a.e≠0 then(⟨a.s,b,a.e⟩:nP)else if a.v=C.tok r then cZ a.s c b r a.v else cZ a.s c ((b.drop r).kX r.toNat dO.zero) r a.v).s.be.r r.toNat).h,x.c=c/\x.t=(let a:qG:=⟨⟨bR X.sv.a9 c (dP C.seq),d⟩,0,P⟩;let b:aY:={C with seq:=dP C.seq};if a.e≠0 then(⟨a.s,b,a.e⟩:nP)else if a.v=C.tok r then cZ a.s c b r a.v else cZ a.s c ((b.drop r).kX r.toNat dO.zero) r a.v).c.tok r;rw[e9];refine⟨y,E,R0,?_⟩;rw[E0];exact((V r Q W).trans (iP rfl)).symm
end
end
section
section
variable {X:WM} {B:Nat->Int->Vw} {own z:cU} {N w:Nat->Rg} {n n' m m':Nat} {T T':Int}
theorem GI.Vv(h:GI X B own N n m T)(c r t:Int)(C:aY):pG X.sv.be own (cZ X.sv c C r t).s.be own:=by
 unfold cZ;by_cases V:(aP X.sv.a9 c).isSome=true
 ·rw[jb (.inr (.inr rfl)) V,Kv]
  have Z:=(h.tb.renew c r t).nx;show pG X.sv.be own (if(X.sv.be.renew c r t).2.2≠0 then _ else _:nP).s.be own
  split
  ·exact Z
  ·exact Z
 ·rw[sR (.inr (.inr rfl)) V]
  exact pG.refl _ _
theorem GI.rel(h:GI X B own N n m T){c r:Int}(K:0<=c)(M:c<3)(Y:m<=m')(hq:1<=20*((m':Int)-(m:Int))):
 ∃z,GI ⟨(ie X.sv c (X.c c.toNat) r).s,X.st,aI X.c c.toNat (ie X.sv c (X.c c.toNat) r).c,X.ev⟩ B z N n m' T/\pG X.sv.be own (ie X.sv c (X.c c.toNat) r).s.be z:=by
 generalize F:X.c c.toNat=C;unfold ie;by_cases R:C.tok r=0
 ·rw[iP R]
  refine⟨own,?_,pG.refl _ _⟩;have:=h.mono (io n) Y (cO T);show GI ⟨X.sv,X.st,aI X.c c.toNat C,X.ev⟩ B own N n m' T;rw[<-F,oK];exact this
 ·rw[iN R]
  have U:0<=r/\r<4:=by
   by_cases U:0<=r/\r<4
   ·exact U
   ·exact absurd (oy U) R
  obtain⟨r0,r4⟩:=U;have B0:=h.tk c r K M;rw[F]at B0;have W:C.a9=true:=by
   cases V:C.a9 with
   |true=>rfl
   |false=>
    have:=h.s0 c K M (by rw[F];exact V) r;rw[F]at this;exact absurd this R
  have w:=h.ss c K M (by rw[F];exact W);rw[jb (.inr (.inl rfl)) w,Yf];obtain⟨G,u⟩:=h.tb.release c r (C.tok r);have Z:=h.Gl (S:=⟨bR X.sv.a9 c (dP C.seq),(X.sv.be.release c r (C.tok r)).1⟩) (m':=m') u oM Y (λx hx=>by rw[jN];exact hx);refine⟨G,?_,u.nx⟩;have q:=Z.ci c K M;have q:lU (X.c c.toNat) m':=q;rw[F]at q;obtain⟨I,D⟩:∃I,I=(({C with seq:=dP C.seq}:aY).gone r).drop r:=⟨_,rfl⟩;have A:({C with seq:=dP C.seq}:aY).gone r={C with seq:=dP C.seq,h:=aI C.h r.toNat qO.zero}:=iP (yO r0 r4);have f1:I.h=aI C.h r.toNat qO.zero:=by rw[D,A];rfl
  have f2:I.la=C.la:=by rw[D,A];rfl
  have f3:I.r=C.r:=by rw[D,A];rfl
  have f4:I.wr=C.wr.filter (λx=> !ao r x):=by rw[D,A];rfl
  have f5:I.bl=C.bl.filter (λx=> !ao r x):=by rw[D,A];rfl
  have f6:I.a9=C.a9:=by rw[D,A];rfl
  have b:∀j,0<=j->j<4->I.tok j=if j=r then 0 else C.tok j:=λj d O=>by
   rw[qe d O,qe d O,f1];by_cases h:j=r
   ·rw[iP h,h,aT];rfl
   ·rw[iN h,bS _ _ _ _ oM]
  show GI ⟨⟨bR X.sv.a9 c (dP C.seq),(X.sv.be.release c r (C.tok r)).1⟩,X.st,aI X.c c.toNat ((({C with seq:=dP C.seq}:aY).gone r).drop r),X.ev⟩ B G N n m' T;rw[<-D];refine Z.wR K M ⟨by rw[f4,f5];exact q.i.drop,λp P=> ?_,λp P=> ?_,λk=>by rw[f3];exact q.q k,λk=>by rw[f3];exact q.p k⟩ (λj d O=> ?_) (λj d O g o i _=> ?_) (λj d O=> ?_) (λ_=>by show(aP _ c).isSome=true;rw[jN];exact w) (λV=>by rw[f6,W]at V;cases V) (λk=>by
   rw[f1];rcases cL C.h r.toNat k qO.zero with⟨_,e⟩|⟨_,e⟩
   ·rw[e];exact adH
   ·rw[e,<-F];exact h.hz c K M k)
  ·rw[f4]at P;exact q.w p (Ea.1 P).1
  ·rw[f5]at P;exact q.b p (Ea.1 P).1
  ·by_cases H:j=r
   ·exact .inr (.inl ((b j d O).trans (iP H)))
   ·have e8:I.tok j=C.tok j:=(b j d O).trans (iN H)
    refine .inl ⟨?_,?_,?_,?_⟩
    ·show I.tok j=(X.c c.toNat).tok j
     rw[e8,F]
    ·show I.r j.toNat=(X.c c.toNat).r j.toNat
     rw[f3,F]
    ·show I.wr.filter (ao j)=(X.c c.toNat).wr.filter (ao j)
     rw[f4,F];exact xo H
    ·show∀y∈I.bl,y.region=j->y∈(X.c c.toNat).bl
     rw[f5,F];exact λy E _=>(Ea.1 E).1
  ·have L:=Z.fr j d O g o (by show(X.c g.c.toNat).a9=true;rw[i,F];exact W)
   have t:g.t=(X.c g.c.toNat).tok j\/(B j.toNat g.t=Vw.zero/\aC j g.t X.ev=jB g.t):=L;clear L;rw[i,F]at t;by_cases H:j=r
   ·rcases t with t|t
    ·subst H
     exfalso;have o:g∈((X.sv.be.release c j (C.tok j)).1.r j.toNat).h:=o;rcases u.h j.toNat oM g o with⟨D0,_⟩|⟨y,E,J,Q⟩
     ·omega
     ·have a:y.c=c:=J.trans i
      have C0:y.t=C.tok j:=Q.trans t;have A0:(X.sv.be.r j.toNat).h=[y]:=by
       rcases Jr (h.tb.one j.toNat oM)with e|⟨x,e⟩
       ·rw[e]at E;cases E
       ·rw[e]at E⊢;rw[nN.1 E]
      have:=(zj h.tb ⟨d,O⟩ A0 (by rw[a];omega)).1 g;rw[a,C0]at this;exact this o i
    ·exact .inr t
   ·rw[b j d O,iN H]
    exact t
  ·rw[f2]
   have l:=Z.ll c j K M d O;have l:(X.c c.toNat).la j.toNat<=_:=l;rw[F]at l;refine⟨l,λg o i=> ?_⟩;have:=Z.la j d O g o;have:(X.c g.c.toNat).la j.toNat<=g.t:=this;rw[i,F]at this;exact this
theorem GI.again(h:GI X B own N n m T)(W:n<=900000)(A:T<256){p:Int×RQ}(P:p∈X.st.aw):∃w,GI ⟨X.sv,X.st.cI p.2,X.c,X.ev⟩ B own w (n+1) m T:=by
 obtain⟨w,Z,G,M⟩:=h.w.s.cI W A (h.w.s.g p P);refine⟨w,h.store ⟨Z,h.w.z.cI h.w.s W A (h.w.s.g p P) (c:=p.1) P G M,?_⟩⟩;rw[M];exact h.w.p.heard (h.w.s.g p P) (h.w.p.st p P) G
theorem GI.br(h:GI X B own N n m T)(W:n<=900000)(A:T<=250)(G:LI):∃w,GI ⟨X.sv,X.st.br G,X.c,X.ev⟩ B own w (n+1) m (T+1):=by
 obtain⟨_,_,_,Z,_,J⟩:=h.w.s.br W A G;have o:qz (X.st.br G) (X.st.br G).s.M (T+1):=by
  have V:(X.st.br G).aw=X.st.aw:=rfl;have p:LN (X.st.br G).s.M (X.st.br G).aw:=by
   rw[V];rcases J with e|e
   ·rw[e];exact h.w.z.hm
   ·rw[e];exact h.w.z.hn
  exact⟨by have:=h.w.z.t1;omega,λe=>by have:=h.w.z.t1;omega,p,p⟩
 refine⟨_,h.store ⟨Z,o,?_⟩⟩;rcases J with e|e
 ·rw[e];exact⟨h.w.p.rm,h.w.p.rm,h.w.p.vw,h.w.p.st⟩
 ·rw[e];exact⟨h.w.p.rn,h.w.p.rn,h.w.p.vw,h.w.p.st⟩
theorem GI.gM(h:GI X B own N n m T){f:Int}(a: -9223372036854775808<=f/\f<=9223372036854775807):GI ⟨X.sv,X.st.gM f,X.c,X.ev⟩ B own N n m (T+1):=
 h.store ⟨(h.w.s.gM a).mono (io _) oM,⟨by have:=h.w.z.t1;omega,λe=>by have:=h.w.z.t1;omega,h.w.z.hm,h.w.z.hn⟩,h.w.p⟩
structure xY(o:eH):Prop where
 b:Bytes o.b
 n0: -9223372036854775808<=o.n
 n1:o.d≠10->o.n<=1073741824
theorem WM.oQ(h:o.fit=true):X.step o=⟨(X.one o).sv,(X.one o).st,aI X.c o.c.toNat (X.one o).c,X.ev++[X.bw o]⟩:=iP h
theorem WM.Kb(h:o.fit=true):X.bw o=o.out (X.c o.c.toNat) (X.one o):=iP h
theorem zH(h:o.fit=true):1<=o.d/\o.d<=11/\0<=o.c/\o.c<3:=by
 unfold eH.fit at h;simp only[mf,decide_eq_true_eq]at h;exact⟨h.1.1.1,h.1.1.2,h.1.2,h.2⟩
structure zS(X:WM)(own:cU)(o:eH)(X':WM)(z:cU):Prop where
 x:pG X.sv.be own X'.sv.be z
 a:o.d=3->(X.bw o).e=0->0<=o.c/\0<=o.r/\o.r<4/\∃y∈(X'.sv.be.r o.r.toNat).h,y.c=o.c/\y.t=(X.bw o).t
theorem FA{C:aY}{r:Int}(h:C.wM r=true):0<=r/\r<4:=by
 unfold aY.wM at h;simp only[mf]at h;exact qZ h.1.1.1
theorem GI.step(h:GI X B own N n m T)(hn:n<=200000)(hm:m<=110)(hT:T<=200)(q:xY o){T1:Int}(U0:T<=T1)(I0:o.d=11->T+1<=T1):∃K z w,GI (X.step o) K z w (n+610) (m+2) T1/\zS X own o (X.step o) z:=by
 by_cases hf:o.fit=true
 case neg=>
  have u:X.step o=⟨X.sv,X.st,X.c,X.ev++[X.bw o]⟩:=iN hf;have t:X.bw o=⟨o.d,o.c,o.r,o.i,0,[],1⟩:=iN hf;refine⟨B,own,N,?_,⟨by rw[u];exact pG.refl _ _,λ_ F=>by rw[t]at F;cases F⟩⟩;rw[u,t];exact(h.bad (λr=>s9 (by show(1:Int)≠0;decide) r) (λ_ F=>by cases F)).mono oM oM oM
 obtain⟨d1,d11,D,y⟩:=zH hf;have u:=WM.oQ (X:=X) hf;have t:=WM.Kb (X:=X) hf;generalize J:X.c o.c.toNat=C at t;have M:(X.bw o).d=o.d/\(X.bw o).r=o.r/\(X.bw o).i=o.i/\(X.bw o).e=(X.one o).e:=by rw[t];exact⟨rfl,rfl,rfl,rfl⟩
 have C0:o.d≠3->(X.bw o).t=C.tok o.r:=λg=>by rw[t];exact iN (λh=>g h.1)
 have l:X.one o=gJ X.sv X.st C o:=by unfold WM.one;rw[J]
 have H:aI X.c o.c.toNat C=X.c:=by rw[<-J];exact oK _ _
 have plain:∀{K z w} {sv:gD} {p:dz} {I:aY} {b:LI} {e:Int},X.one o=⟨sv,p,I,b,e⟩->(∀r,(X.bw o).gO r=false)->(o.d=5->e≠0)->GI ⟨sv,p,aI X.c o.c.toNat I,X.ev⟩ K z w (n+610) (m+2) T1->pG X.sv.be own sv.be z->(o.d=3->e=0->0<=o.r/\o.r<4/\∃A0∈(sv.be.r o.r.toNat).h,A0.c=o.c/\A0.t=I.tok o.r)->∃K z w,GI (X.step o) K z w (n+610) (m+2) T1/\zS X own o (X.step o) z:=by
  intro K z w sv p I b e q d h5 hg hx g;refine⟨K,z,w,?_,⟨by rw[u,q];exact hx,λA F=> ?_⟩⟩
  ·rw[u,q]
   exact hg.bad d (λx F=>by rw[M.1]at x;rw[M.2.2.2,q]at F;exact absurd F (h5 x))
  ·rw[M.2.2.2,q]at F
   obtain⟨a1,a2,a3⟩:=g A F;have et:(X.bw o).t=I.tok o.r:=by
    rw[t,q];exact iP ⟨A,F⟩
   rw[et,u,q];exact⟨D,a1,a2,a3⟩
 have G:(o.d<5\/7<o.d)->∀r,(X.bw o).gO r=false:=λhd r=>KJ (by rw[M.1];exact hd) r;have c:=h.mono (n':=n+610) (m':=m+2) (T':=T1) oM oM oM;by_cases j:o.d=1
 ·have P:X.one o=if o.n<0 then⟨X.sv,X.st,C,[],1⟩else⟨(X.sv.apply ⟨7,0,0,0,0,0,IntKind.u64.wrap (X.sv.be.now+o.n)⟩).s,X.st,C,[],0⟩:=by rw[l];exact iP j
  by_cases W:o.n<0
  ·rw[iP W]at P
   exact adO
  ·rw[iN W]at P
   have e4:(X.sv.apply ⟨7,0,0,0,0,0,IntKind.u64.wrap (X.sv.be.now+o.n)⟩).s=⟨X.sv.a9,X.sv.be.time (IntKind.u64.wrap (X.sv.be.now+o.n))⟩:=by unfold gD.apply;rw[iP rfl]
   rw[e4]at P;obtain⟨z,hg⟩:=h.tb.time (IntKind.u64.wrap (X.sv.be.now+o.n));have h1:=(h.Gl (S:=⟨X.sv.a9,X.sv.be.time (IntKind.u64.wrap (X.sv.be.now+o.n))⟩) (m':=m+2) hg oM oM (λ_ hx=>hx)).mono (n':=n+610) (T':=T1) oM (io _) oM;exact plain P (G oM) oM (by rw[H];exact h1) hg.nx oM
 by_cases E:o.d=2
 ·have P:X.one o=if o.n<0 then⟨X.sv,X.st,C,[],1⟩else⟨X.sv,X.st,{C with iZ:=IntKind.u64.wrap (C.iZ+o.n)},[],0⟩:=by rw[l];unfold gJ;rw[iN j,iP E]
  by_cases W:o.n<0
  ·rw[iP W]at P
   exact adO
  ·rw[iN W]at P
   refine plain P (G oM) oM (c.numbers D y ?_ ?_ ?_ ?_ ?_ ?_) (pG.refl _ _) oM<;>rw[J]
 by_cases A:o.d=3
 ·have P:X.one o=⟨(eB X.sv o.c C o.r).s,X.st,(eB X.sv o.c C o.r).c,[],(eB X.sv o.c C o.r).e⟩:=by rw[l];unfold gJ;rw[iN j,iN E,iP A]
  have key:∃z,GI ⟨(eB X.sv o.c C o.r).s,X.st,aI X.c o.c.toNat (eB X.sv o.c C o.r).c,X.ev⟩ B z N n (m+2) T/\pG X.sv.be own (eB X.sv o.c C o.r).s.be z/\((eB X.sv o.c C o.r).e=0->0<=o.r/\o.r<4/\∃A0∈((eB X.sv o.c C o.r).s.be.r o.r.toNat).h,A0.c=o.c/\A0.t=(eB X.sv o.c C o.r).c.tok o.r):=by
   unfold eB;by_cases U:cB o.r=false
   ·rw[iP U]
    exact⟨own,by show GI ⟨X.sv,X.st,aI X.c o.c.toNat C,X.ev⟩ B own N n (m+2) T;rw[H];exact h.mono (io _) oM (cO _),pG.refl _ _,λF=>by cases F⟩
   ·rw[iN U]
    obtain⟨Q,L⟩:=qZ (by simpa using U);obtain⟨gF,s1,s2,s3,s4⟩:=h.Xl D y (m':=m+1) oM oM;rw[J]at s1 s2 s3 s4;generalize ia X.sv o.c C=Y at s1 s2 s3 s4;by_cases F:Y.e=0
    ·rw[iN (λh=>h F)]
     have K0:(aI X.c o.c.toNat Y.c) o.c.toNat=Y.c:=aT _ _ _;obtain⟨M0,t1,t2,t3⟩:=s1.get D y Q L (by show((aI X.c o.c.toNat Y.c) o.c.toNat).a9=true;rw[K0];exact s2 F) (m':=m+2) oM oM;rw[show(WM.mk Y.s X.st (aI X.c o.c.toNat Y.c) X.ev).c o.c.toNat=Y.c from K0]at t1 t2 t3;have T0:aI (aI X.c o.c.toNat Y.c) o.c.toNat (mU Y.s o.c Y.c o.r).c=aI X.c o.c.toNat (mU Y.s o.c Y.c o.r).c:=Ge _ _ _ _;have t1:GI ⟨(mU Y.s o.c Y.c o.r).s,X.st,aI (aI X.c o.c.toNat Y.c) o.c.toNat (mU Y.s o.c Y.c o.r).c,X.ev⟩ B M0 N n (m+2) T:=t1;rw[T0]at t1;exact⟨M0,t1,s4.trans t3,λF=>⟨Q,L,t2 F⟩⟩
    ·rw[iP F]
     exact⟨gF,s1.mono (io _) oM (cO _),s4,λh=>absurd h F⟩
  obtain⟨z,g1,g2,g3⟩:=key;exact plain P (G oM) oM (g1.mono oM (io _) oM) g2 (λ_ F=>g3 F)
 by_cases Z:o.d=4
 ·have P:X.one o=⟨(eo X.sv o.c C o.r).s,X.st,(eo X.sv o.c C o.r).c,[],(eo X.sv o.c C o.r).e⟩:=by rw[l];unfold gJ;rw[iN j,iN E,iN A,iP Z]
  unfold eo at P;by_cases R:C.tok o.r=0
  ·rw[iP R]at P
   exact adO
  ·rw[iN R]at P
   have U:0<=o.r/\o.r<4:=by
    by_cases U:0<=o.r/\o.r<4
    ·exact U
    ·exact absurd (oy U) R
   have H0:=h.tk o.c o.r D y;have h1:=h.ren D y U.1 U.2 (by rw[J]at H0⊢;omega);rw[J]at h1;exact plain P (G oM) oM (h1.mono oM oM oM) (h.Vv _ _ _ _) oM
 have N0:∀{i:Int},C.eI o.r i=0->0<=o.r/\o.r<4:=λd=>FA (nt d).2.2;have G0:1<=C.tok o.r->0<=o.r->o.r<4->ol C o.r (B o.r.toNat (C.tok o.r)) (aC o.r (C.tok o.r) X.ev):=λR Q L=>by
  have:=(h.lk o.c o.r D y Q L (by rw[J];exact R)).1;rw[J]at this;exact this
 have H0:=h.tk o.c o.r D y;have B0:=h.ci o.c D y;rw[J]at H0 B0;have V0:=h.lb;have F0:¬1<=C.tok o.r->∀i,C.eI o.r i≠0:=λR i d=>by
  obtain⟨Q,L⟩:=N0 d;have E0:=(nt d).2.2;rw[qe Q L]at R;have hz:=h.hz o.c D y o.r.toNat;rw[J]at hz;rcases hz with hz|hz
  ·unfold aY.wM at E0
   rw[hz]at E0;simp[qO.none,qO.zero]at E0
  ·exact R hz
 have none:∀{p:dz} {I:aY} {b:LI} {e:Int},¬1<=C.tok o.r->5<=o.d->o.d<=7->X.one o=⟨X.sv,p,I,b,e⟩->(p=X.st/\I=C/\e≠0\/GI ⟨X.sv,p,aI X.c o.c.toNat I,X.ev⟩ B own N (n+610) (m+2) T1/\e≠0)->∃K z w,GI (X.step o) K z w (n+610) (m+2) T1/\zS X own o (X.step o) z:=by
  intro p I b e _ h5 h7 P hh;rcases hh with⟨rfl,rfl,F⟩|⟨hg,F⟩
  ·exact plain P (λr=>s9 (by rw[M.2.2.2,P];exact F) r) (λ_=>F) acO (pG.refl _ _) oM
  ·exact plain P (λr=>s9 (by rw[M.2.2.2,P];exact F) r) (λ_=>F) hg (pG.refl _ _) oM
 have done:∀{p:dz} {I:aY} {b:LI} {e:Int} {w:Nat->Rg} {v':Vw} {n' m':Nat},1<=C.tok o.r->0<=o.r->o.r<4->o.d≠3->X.one o=⟨X.sv,p,I,b,e⟩->n'<=n+610->m<=m'->m'<=m+2->(o.d=5->e=0->(X.bw o).b.length<=23)->ot p (X.ev++[X.bw o]) B n' T o.r (C.tok o.r) C I m' w v'->∃K z w,GI (X.step o) K z w (n+610) (m+2) T1/\zS X own o (X.step o) z:=by
  intro p I b e w v' n' m' R Q L g P R0 P0 O0 h5 V;refine⟨gz B o.r (C.tok o.r) v',own,w,?_,⟨by rw[u,P];exact pG.refl _ _,λk=>absurd k g⟩⟩;rw[<-J]at V R⊢;have:=h.block D y Q L R M.2.1 (by rw[C0 g,J]) (λx F=>h5 (by rw[<-M.1];exact x) (by rw[M.2.2.2,P]at F;exact F)) P0 V;rw[u,P];exact this.mono R0 O0 oM
 by_cases x:o.d=5
 ·have P:X.one o=⟨X.sv,X.st,(dj C o.r o.i o.b).1,[],(dj C o.r o.i o.b).2⟩:=by rw[l];unfold gJ;rw[iN j,iN E,iN A,iN Z,iP x]
  by_cases R:1<=C.tok o.r
  ·have U:0<=o.r/\o.r<4:=by
    exact ad5
   have d:(dj C o.r o.i o.b).2=0->(X.bw o).b=o.b:=λF=>by rw[t];exact iP ⟨x,by rw[P];exact F⟩
   obtain⟨v',V⟩:=JT (e:=X.bw o) h.w (G0 R U.1 U.2) B0 U.1 U.2 R q.b (by rw[M.1];exact x) M.2.1 (C0 A) M.2.2.1 d (by rw[M.2.2.2,P]);refine done R U.1 U.2 A P oM oM oM (λ_ F=> ?_) V;rw[d F];unfold dj at F
   split at F
   ·rename_i S0;exact absurd F S0
   ·exact(yS F).2.2
  ·have O:=F0 R o.i
   unfold dj at P;exact ad7
 by_cases a:o.d=6
 ·have P:X.one o=⟨X.sv,(df X.st o.c C o.r o.i o.n).x,(df X.st o.c C o.r o.i o.n).c,(df X.st o.c C o.r o.i o.n).b,(df X.st o.c C o.r o.i o.n).e⟩:=by rw[l];unfold gJ;rw[iN j,iN E,iN A,iN Z,iN x,iP a]
  by_cases R:1<=C.tok o.r
  ·have U:0<=o.r/\o.r<4:=by
    exact ad5
   have d:(X.bw o).b=(df X.st o.c C o.r o.i o.n).b:=by
    rw[t,P];exact iN (λh=>x h.1)
   obtain⟨w,v',V⟩:=MO (e:=X.bw o) (i:=o.i) h.w oM oM (G0 R U.1 U.2) B0 U.1 U.2 ⟨R,oM⟩ rfl o.c o.n (by rw[M.1];exact a) M.2.1 (C0 A) M.2.2.1 d (by rw[M.2.2.2,P]);exact done R U.1 U.2 A P oM (io _) oM (λh=>absurd h x) V
  ·have O:=F0 R o.i
   unfold df at P;exact ad7
 by_cases k7:o.d=7
 ·have P:X.one o=⟨X.sv,(bz X.st o.c C o.r o.n).x,(bz X.st o.c C o.r o.n).c,[],(bz X.st o.c C o.r o.n).e⟩:=by rw[l];unfold gJ;rw[iN j,iN E,iN A,iN Z,iN x,iN a,iP k7]
  by_cases R:1<=C.tok o.r
  ·have U:0<=o.r/\o.r<4:=by
    exact ad5
   obtain⟨w,v',V⟩:=JD (e:=X.bw o) h.w oM oM oM (G0 R U.1 U.2) B0 U.1 U.2 ⟨R,oM⟩ rfl o.c o.n (by rw[M.1];exact k7) M.2.1 (C0 A) (by rw[M.2.2.2,P]);exact done R U.1 U.2 A P oM oM oM (λh=>absurd h x) V
  ·have O:=F0 R 0
   unfold bz at P;exact ad7
 by_cases k8:o.d=8
 ·have P:X.one o=⟨(ie X.sv o.c C o.r).s,X.st,(ie X.sv o.c C o.r).c,[],(ie X.sv o.c C o.r).e⟩:=by rw[l];unfold gJ;rw[iN j,iN E,iN A,iN Z,iN x,iN a,iN k7,iP k8]
  obtain⟨z,g1,g2⟩:=h.rel (r:=o.r) D y (m':=m+2) oM oM;rw[J]at g1 g2;exact plain P (G oM) oM (g1.mono oM (io _) oM) g2 oM
 by_cases k9:o.d=9
 ·have P:X.one o=⟨X.sv,X.st,aY.zero C.iZ,[],0⟩:=by rw[l];unfold gJ;rw[iN j,iN E,iN A,iN Z,iN x,iN a,iN k7,iN k8,iP k9]
  exact plain P (G oM) oM (c.die D y C.iZ) (pG.refl _ _) oM
 by_cases L0:o.d=10
 ·have P:X.one o=if o.n<0\/(X.st.aw.length:Int)<=o.n then⟨X.sv,X.st,C,[],1⟩else⟨X.sv,X.st.cI ((X.st.aw.getD o.n.toNat (0,gE 0 0)).2),C,[],0⟩:=by rw[l];unfold gJ;rw[iN j,iN E,iN A,iN Z,iN x,iN a,iN k7,iN k8,iN k9,iP L0]
  by_cases W:o.n<0\/(X.st.aw.length:Int)<=o.n
  ·rw[iP W]at P
   exact adO
  ·rw[iN W]at P
   have J0:o.n.toNat<X.st.aw.length:=oM
   have Q0:X.st.aw.getD o.n.toNat (0,gE 0 0)∈X.st.aw:=by
    rw[Iy,g7 J0];exact Oq J0
   obtain⟨w,D0⟩:=h.again oM oM Q0;exact plain P (G oM) oM (by rw[H];exact D0.mono oM oM oM) (pG.refl _ _) oM
 have P:X.one o=if o.i≠0 then⟨X.sv,X.st.gM o.n,C,[],0⟩else⟨X.sv,X.st.br o.p,C,[],0⟩:=by rw[l];unfold gJ;rw[iN j,iN E,iN A,iN Z,iN x,iN a,iN k7,iN k8,iN k9,iN L0]
 by_cases ki:o.i≠0
 ·rw[iP ki]at P
  exact plain P (G oM) oM (by rw[H];exact(h.gM ⟨q.n0,by have:=q.n1 oM;omega⟩).mono oM oM (I0 oM)) (pG.refl _ _) oM
 ·rw[iN ki]at P
  obtain⟨w,D0⟩:=h.br oM oM o.p;exact plain P (G oM) oM (by rw[H];exact D0.mono oM oM (I0 oM)) (pG.refl _ _) oM
end
end
end Go.Proofs.YtblpaldggenbaaaGreatDoor
