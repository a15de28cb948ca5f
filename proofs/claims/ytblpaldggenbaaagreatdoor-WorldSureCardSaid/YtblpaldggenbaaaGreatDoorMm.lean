/- A part. -/
import Derived.Test.YtblpaldggenbaaaGreatDoorMl
namespace Go.Proofs.YtblpaldggenbaaaGreatDoor
open Go.RowKit
set_option maxRecDepth 100000
set_option maxHeartbeats 64000000
variable{D:DS}{m:Nat->Rg}{J:JM}{x s:LI}{b:LI}{a:Int}{K T:Int}{A:Nat->Prop}{P:DS->Prop}{p:Nat}{L:Nat->Rg}{j:Int}{r:RQ}{i:Nat}
theorem pM(N R:LI):iq (N++R)=iq N+256^N.length*iq R:=by
 induction N with
 |nil=>simp[iq]
 |cons x r K=>
  rw[Oe,iq,iq,K,qR,Zq,Int.mul_add,zdq (256^r.length) 256,Int.mul_assoc];omega
theorem Ky{N R:LI}(J:Bytes N)(E:Bytes R)(F:N.length=R.length)(h:iq N=iq R):N=R:=by
 rw[<-zV J,<-zV E,h,F]
def iB(x s:LI)(p:Nat):LI:=x.take p++s.drop p
theorem xF(J:x.length=64)(V:s.length=64):(iB x s p).length=64:=by
 unfold iB;rw[dB,fV,km];omega
theorem AN(J:Bytes x)(V:Bytes s):Bytes (iB x s p):=(J.take p).append (V.drop p)
theorem Kq{p o n:Nat}(h:o+n<=p)(J:p<=x.length):((iB x s p).drop o).take n=(x.drop o).take n:=by
 unfold iB;rw[Xa ab5,Vg (by rw[km,fV];omega),Xq,Oz,Hc oM]
theorem oo{p o:Nat}(h:p<=o)(J:p<=x.length):(iB x s p).drop o=s.drop o:=by
 unfold iB;rw[zc5,UY ab5,zm,fV,FI]
 exact adS
theorem yE(h:s.drop p=x.drop p):iB x s p=x:=by
 unfold iB;rw[h,Le]
theorem Pb(h:s.take p=x.take p):iB x s p=s:=by
 unfold iB;rw[<-h,Le]
theorem zE{o m:Nat}(p:m<=4)(J:o+4<=x.length)(_hs:o+4<=s.length):((iB x s (o+m)).drop o).take 4=((x.drop o).take 4).take m++((s.drop o).take 4).drop m:=by
 unfold iB;rw[Xa ab5,Xq,zc1,fV,km,Oz,Oz,Xq,FI]
 congr 1
 ·congr 1;omega
 ·congr 1;omega
theorem py(s:LI)(o m:Nat)(V:o+4<=s.length)(p:m<=4):s.drop (o+m)=((s.drop o).take 4).drop m++s.drop (o+4):=by
 have h:=Le 4 (s.drop o);rw[FI]at h;have G:=congrArg (List.drop m) h;rw[Xa (by rw[fV,km];omega),FI]at G;exact G.symm
theorem Dd{m:Nat}(Z:1<=m)(M:m<=3):(256:Int)^m=256\/(256:Int)^m=65536\/(256:Int)^m=16777216:=by
 have:m=1\/m=2\/m=3:=oM
 rcases this with rfl|rfl|rfl
 ·exact .inl dC
 ·exact .inr (.inl dC)
 ·exact .inr (.inr dC)
theorem lh{s:LI}{o m:Nat}(h:Bytes s)(V:o+4<=s.length)(p:m<=4):yV s o=iq (((s.drop o).take 4).take m)+256^m*iq (((s.drop o).take 4).drop m)/\0<=iq (((s.drop o).take 4).take m)/\iq (((s.drop o).take 4).take m)<256^m/\0<=iq (((s.drop o).take 4).drop m):=by
 have B:Bytes ((s.drop o).take 4):=(h.drop o).take 4;have F:(((s.drop o).take 4).take m).length=m:=by rw[fV,fV,km];omega
 have e:=pM (((s.drop o).take 4).take m) (((s.drop o).take 4).drop m);rw[Le,F]at e;have i:=iS (B.take m);rw[F]at i;exact⟨e,i.1,i.2,(iS (B.drop m)).1⟩
theorem Df{o m:Nat}(J:Bytes x)(V:Bytes s)(a:o+4<=x.length)(q:o+4<=s.length)(h:iq (((x.drop o).take 4).drop m)=iq (((s.drop o).take 4).drop m)):((x.drop o).take 4).drop m=((s.drop o).take 4).drop m:=
 Ky (((J.drop o).take 4).drop m) (((V.drop o).take 4).drop m) (by rw[km,km,fV,fV,km,km];omega) h
theorem Jg{o:Nat}(J:Bytes x)(V:Bytes s)(a:o+4<=x.length)(q:o+4<=s.length)(h:yV x o=yV s o):(x.drop o).take 4=(s.drop o).take 4:=
 Ky ((J.drop o).take 4) ((V.drop o).take 4) (by rw[fV,fV,km,km];omega) h
theorem qw{q e:Int}(d:0<q/\q<4294967296)(Y:0<=e/\e<4294967296)(B:b.length<=43):jU (aR q e b)=true/\mj (aR q e b)=q/\nk (aR q e b)=e/\jp (aR q e b)=q/\kY (aR q e b)=e:=by
 have h:=lS d Y B;have a:jU (aR q e b)=true:=by
  cases a:jU (aR q e b)with
  |true=>rfl
  |false=>rw[mN a]at h;cases h
 rw[pT a]at h;have Z:mj (aR q e b)=q:=congrArg PM.q h;have G:nk (aR q e b)=e:=congrArg PM.e h;have t:=a;unfold jU at t;simp only[mf,Zn,XK,bne_eq_false_iff_eq]at t;obtain⟨_,⟨⟨⟨_,M⟩,S⟩,_⟩,_⟩:=t;exact⟨a,Z,G,M▸Z,S▸G⟩
theorem r8{s:LI}(h:jU s=true):mj s=jp s/\nk s=kY s/\mj s≠0:=by
 unfold jU at h;simp only[mf,Zn,XK,bne_eq_false_iff_eq,beq_eq_false_iff_ne]at h;obtain⟨_,⟨⟨⟨K,M⟩,S⟩,_⟩,_⟩:=h;exact⟨M,S,K⟩
def wb(l:Int)(s:LI):Prop:=s.length=64/\Bytes s/\kY s=0/\(jp s<l\/jp s=0)
theorem MQ{l:Int}{b s:LI}(C:0<=l/\l<4294967295)(B:b.length<=43)(F:Bytes b)(P:p<=64)(h:wb l s):
 iB (aR (l+1) 0 b) s p=aR (l+1) 0 b\/wb l (iB (aR (l+1) 0 b) s p):=by
 obtain⟨V,E,K,T⟩:=h;have J:=dI (l+1) 0 B;have X:=eA (l+1) 0 F;obtain⟨_,_,_,f3,f4⟩:=qw (q:=l+1) (e:=0) oM oM B;generalize aR (l+1) 0 b=x at*;have R:=xF (p:=p) J V;have j:=AN (p:=p) X E;have a:0<=jp s:=(fK E 56).1;have k:s.drop 60=x.drop 60:=by
  have:=Jg (o:=60) E X oM oM (K.trans f4.symm);rw[oJ ab2,oJ ab2]at this;exact this
 by_cases Z:p<=56
 ·refine .inr ⟨R,j,?_,?_⟩
  ·unfold kY yV at K⊢
   rw[oo oM oM];exact K
  ·unfold jp yV at T⊢
   rw[oo oM oM];exact T
 ·by_cases G:p<60
  ·obtain⟨m,rfl⟩:∃m,p=56+m:=⟨p-56,oM⟩
   have i:kY (iB x s (56+m))=0:=by
    unfold kY yV at K⊢;rw[oo oM oM];exact K
   obtain⟨d,O,I,n⟩:=lh (o:=56) (m:=m) E oM oM;obtain⟨D,r,Q,t⟩:=lh (o:=56) (m:=m) X oM oM;have D:jp x=_:=D;have d:jp s=_:=d;have w:jp (iB x s (56+m))=iq (((x.drop 56).take 4).take m)+256^m*iq (((s.drop 56).take 4).drop m):=by
    exact aff
   by_cases Y:iq (((s.drop 56).take 4).drop m)=iq (((x.drop 56).take 4).drop m)
   ·refine .inl (yE ?_)
    rw[py s 56 m oM oM,py x 56 m oM oM,Df E X oM oM Y,k]
   ·refine .inr ⟨R,j,i,.inl ?_⟩
    rw[w];rw[f3]at D;generalize iq (((x.drop 56).take 4).take m)=u at*;generalize iq (((s.drop 56).take 4).take m)=v at*;generalize iq (((x.drop 56).take 4).drop m)=y at*;generalize iq (((s.drop 56).take 4).drop m)=z at*
    (have H:=Dd (m:=m) oM oM;generalize(256:Int)^m=L at*;rcases H with rfl|rfl|rfl<;>omega)
  ·refine .inl (yE ?_)
   obtain⟨m,rfl⟩:∃m,p=60+m:=⟨p-60,oM⟩;rw[<-FI,<-FI,k]
theorem wb.aaK{l:Int}{s:LI}(h:wb l s)(G:(cW s).ok=true):(cW s).q<l:=by
 cases a:jU s with
 |false=>rw[mN a]at G;cases G
 |true=>
  rw[pT a];obtain⟨M,_,U⟩:=r8 a;show mj s<l;rcases h.2.2.2 with S|S<;>omega
structure nA(q e:Int)(s:LI):Prop where
 l:s.length=64
 b:Bytes s
 a:kY s<=e
 p:nk s<=e
 w:jp s=q->kY s<e/\mj s=q
 n:¬(jU s=true/\mj s=q)
theorem nA.mono{q e A:Int}{s:LI}(h:nA q e s)(Y:e<=A):nA q A s:=
 ⟨h.l,h.b,tU h.a Y,tU h.p Y,λx=>⟨XF (h.w x).1 Y,(h.w x).2⟩,h.n⟩
theorem Og{q e:Int}{b s:LI}(T:0<q/\q<4294967296)(Y:0<=e/\e<256)(B:b.length<=43)(n:Bytes b)(P:p<=64)(h:nA q e s):
 iB (aR q e b) s p=aR q e b\/nA q (e+1) (iB (aR q e b) s p):=by
 obtain⟨hs,E,ha,B0,M,W⟩:=h;have hx:=dI q e B;have X:=eA q e n;obtain⟨f0,f1,f2,f3,f4⟩:=qw (q:=q) (e:=e) T oM B;generalize aR q e b=x at*;have R:=xF (p:=p) hx hs;have k:=AN (p:=p) X E;have a0:0<=kY s:=(fK E 60).1;have p0:0<=nk s:=(fK E 4).1;by_cases V:iB x s p=x
 ·exact .inl V
 refine .inr ?_;by_cases Z:p<=4
 ·have l:nk (iB x s p)=nk s:=by unfold nk yV;rw[oo oM oM]
  have c:jp (iB x s p)=jp s:=by unfold jp yV;rw[oo oM oM]
  have A:kY (iB x s p)=kY s:=by unfold kY yV;rw[oo oM oM]
  have r:jp s=q->iB x s p=s:=by
   intro C;obtain⟨_,A0⟩:=M C;have g:=Jg (o:=0) E X oM oM (A0.trans f1.symm);rw[Bg,Bg]at g;refine Pb ?_;have:=congrArg (List.take p) g;rw[Oz,Oz,Hc Z]at this;exact this
  refine⟨R,k,by rw[A];omega,by rw[l];omega,λC=> ?_,λ⟨G,j⟩=> ?_⟩
  ·rw[c]at C
   have N:=r C;rw[N];exact⟨by have:=(M C).1;omega,(M C).2⟩
  ·obtain⟨i,_,_⟩:=r8 G
   rw[c,j]at i;have N:=r i.symm;rw[N]at G j;exact W ⟨G,j⟩
 ·have F:mj (iB x s p)=q:=by
   rw[<-f1];unfold mj yV;rw[Kq oM oM]
  have l:nk (iB x s p)=e:=by
   by_cases h8:8<=p
   ·rw[<-f2];unfold nk yV;rw[Kq oM oM]
   ·obtain⟨m,rfl⟩:∃m,p=4+m:=⟨p-4,oM⟩
    obtain⟨d,s2,s3,s4⟩:=lh (o:=4) (m:=m) E oM oM;obtain⟨D,J,Q,a⟩:=lh (o:=4) (m:=m) X oM oM;have D:nk x=_:=D;have d:nk s=_:=d;show iq (((iB x s (4+m)).drop 4).take 4)=_;rw[zE oM oM oM,pM,fV,fV,km,show min m (min 4 (x.length-4))=m by omega];generalize iq (((x.drop 4).take 4).take m)=u at*;generalize iq (((s.drop 4).take 4).take m)=v at*;generalize iq (((x.drop 4).take 4).drop m)=y at*;generalize iq (((s.drop 4).take 4).drop m)=z at*
    (have H:=Dd (m:=m) oM oM;generalize(256:Int)^m=L at*;rcases H with rfl|rfl|rfl<;>omega)
  by_cases h2:p<=60
  ·have A:kY (iB x s p)=kY s:=by unfold kY yV;rw[oo oM oM]
   refine⟨R,k,by rw[A];omega,by rw[l];omega,λ_=>⟨by rw[A];omega,F⟩,λ⟨G,_⟩=> ?_⟩;obtain⟨i,t,_⟩:=r8 G;rw[F]at i;rw[l,A]at t;by_cases h5:p<=56
   ·have c:jp (iB x s p)=jp s:=by unfold jp yV;rw[oo oM oM]
    rw[c]at i;have:=(M i.symm).1;omega
   ·refine V (yE ?_)
    have S:s.drop 60=x.drop 60:=by
     have:=Jg (o:=60) E X oM oM (t.symm.trans f4.symm);rw[oJ ab2,oJ ab2]at this;exact this
    obtain⟨m,rfl⟩:∃m,p=56+m:=⟨p-56,oM⟩;obtain⟨D,J,Q,a⟩:=lh (o:=56) (m:=m) X oM oM;have D:jp x=_:=D;have w:jp (iB x s (56+m))=iq (((x.drop 56).take 4).take m)+256^m*iq (((s.drop 56).take 4).drop m):=by
     exact aff
    have Y:iq (((s.drop 56).take 4).drop m)=iq (((x.drop 56).take 4).drop m):=by
     rw[f3]at D;rw[w]at i;have I:(256:Int)^m≠0:=by
      have:m=0\/m=4\/(1<=m/\m<=3):=oM
      rcases this with rfl|rfl|K
      ·decide
      ·decide
      ·rcases Dd K.1 K.2 with P|P|P<;>rw[P]<;>decide
     have O:256^m*iq (((s.drop 56).take 4).drop m)=256^m*iq (((x.drop 56).take 4).drop m):=oM
     exact Int.eq_of_mul_eq_mul_left I O
    rw[py s 56 m oM oM,py x 56 m oM oM,Df E X oM oM Y,S]
  ·refine absurd (yE ?_) V
   obtain⟨m,rfl⟩:∃m,p=60+m:=⟨p-60,oM⟩;have hz:iq (((s.drop 60).take 4).drop m)=iq (((x.drop 60).take 4).drop m):=by
    by_cases U:m=4
    ·subst U
     rw[UY ab5,UY ab5]
    ·obtain⟨d,s2,s3,s4⟩:=lh (o:=60) (m:=m) E oM oM
     obtain⟨D,J,Q,a⟩:=lh (o:=60) (m:=m) X oM oM;have D:kY x=_:=D;have d:kY s=_:=d;generalize iq (((x.drop 60).take 4).take m)=u at*;generalize iq (((s.drop 60).take 4).take m)=v at*;generalize iq (((x.drop 60).take 4).drop m)=y at*;generalize iq (((s.drop 60).take 4).drop m)=z at*
     (have H:=Dd (m:=m) oM oM;generalize(256:Int)^m=L at*;rcases H with rfl|rfl|rfl<;>omega)
   rw[py s 60 m oM oM,py x 60 m oM oM,Df E X oM oM hz,UY (show s.length<=60+4 by omega),UY (show x.length<=60+4 by omega)]
def sec(s:LI)(j:Nat):LI:=(s.drop (j*64)).take 64
theorem KO{s:LI}{j:Nat}(h:j*64+64<=s.length):(sec s j).length=64:=by
 unfold sec;rw[fV,km];omega
theorem Dk{s v:LI}(j:Nat)(o:v.length<=64)(V:i*64+64<=s.length):sec (bm s (i*64) v) j=if j=i then v++(sec s i).drop v.length else sec s j:=by
 unfold sec;apply XC;intro k;rw[AW];by_cases Q:k<64
 ·rw[iP Q,zU,xI _ _ _ _ oM]
  by_cases R:j=i
  ·subst R
   rw[iP rfl];by_cases Z:k<v.length
   ·rw[iP oM,TE Z,zcs]
   ·rw[iN oM,OB oM,zU,AW,iP oM,zU]
    exact adS
  ·rw[iN oM,iN R,AW,iP Q,zU]
 ·rw[iN Q]
  split
  ·rw[KV (by rw[dB,km,fV];omega)]
  ·rw[KV ab5]
theorem Ez(G:LI){j:Nat}:∀(l:List (Nat×LI)) (s:LI) (k:Nat),(∀p∈l,p.1*64+64<=s.length/\p.2.length=64)->(∀p∈l,p.1≠j)->sec (qj G s k l) j=sec s j
 |[],_,_,_,_=>rfl
 |p::r,s,k,h,H=>by
  have Z:=h p Eg;have F:(p.2.take (keeps G k)).length<=64:=by rw[fV];omega
  have t:(bm s (p.1*64) (p.2.take (keeps G k))).length=s.length:=ig _ _ _ oM;show sec (qj G (bm s (p.1*64) (p.2.take (keeps G k))) (k+1) r) j=_;rw[Ez G r _ (k+1) (λq d=>by rw[t];exact h q (Bd _ d)) (λq d=>H q (Bd _ d)),Dk j F Z.1,iN (λe=>H p Eg e.symm)]
theorem RN(G:LI){s b:LI}(j:Nat)(V:i*64+64<=s.length)(B:b.length=64):sec (qj G s 0 [(i,b)]) j=if j=i then iB b (sec s i) (keeps G 0)else sec s j:=by
 show sec (bm s (i*64) (b.take (keeps G 0))) j=_;have Q:=Ao G 0;rw[Dk j ab5 V,fV,B,Hc Q]
 rfl
structure DB(D:DS):Prop where
 ok:D.ok
 b:Bytes D.seen
 u:Bytes D.sure
 p:∀x∈D.aq,Bytes x.2
 so:D.seen=qX D.sure D.aq
theorem zQ:∀(l:List (Nat×LI)) (s:LI),Bytes s->(∀x∈l,Bytes x.2)->Bytes (qX s l)
 |[],_,h,_=>h
 |p::r,_,h,F=>zQ r _ (mE h (F p Eg)) (λq d=>F q (Bd _ d))
theorem zD(G:LI):∀(l:List (Nat×LI)) (s:LI) (k:Nat),Bytes s->(∀x∈l,Bytes x.2)->Bytes (qj G s k l)
 |[],_,_,h,_=>h
 |p::r,_,_,h,F=>zD G r _ _ (mE h ((F p Eg).take _)) (λq d=>F q (Bd _ d))
theorem DB.after(h:DB D):DB D.after:=⟨h.ok.after,h.b,h.u,h.p,h.so⟩
theorem Ai(h:Bytes b):Bytes (full b):=h.append (jQ _)
theorem DB.put(h:DB D)(z:i<D.n)(B:b.length<=64)(F:Bytes b):DB (D.put i b):=by
 refine⟨h.ok.put i b z B,mE h.b (Ai F),h.u,λx J=> ?_,?_⟩
 ·rcases oc.1 J with J|J
  ·exact h.p x J
  ·rw[nN.1 J];exact Ai F
 ·show bm D.seen (i*64) (full b)=qX D.sure (D.aq++[(i,full b)])
  rw[xG,<-h.so]
  rfl
theorem DB.sync(h:DB D):DB D.sync:=by
 have Q:=h.ok.sync;unfold DS.sync at Q⊢
 split
 ·rename_i C
  rw[iP C]at Q;exact⟨Q,h.b,zQ _ _ h.u h.p,λx J=>absurd J qo,h.so⟩
 ·exact h.after
structure Calm(D:DS):Prop where
 db:DB D
 dn:D.down=false
 pn:D.aq=[]
theorem Calm.su(h:Calm D):D.sure=D.seen:=by
 have:=h.db.so;rw[h.pn]at this;exact this.symm
theorem Calm.Mx(h:Calm D)(k:Nat):dE D k:=⟨h.db.ok,h.db.b,by rw[h.pn];exact iD _⟩
theorem DB.br(h:DB D)(G:LI):Calm (D.br G)/\Live (D.br G):=by
 have Q:=h.ok.br G;have B:=zD G D.aq D.sure 0 h.u h.p;exact⟨⟨⟨Q,B,B,λx J=>absurd J qo,rfl⟩,rfl,rfl⟩,⟨Q,rfl,rfl⟩⟩
theorem LO{D E:DS}(W:E.n=D.n)(h:0<=j->j<(D.n:Int)->sec E.seen j.toNat=sec D.seen j.toNat):E.read j=D.read j:=by
 unfold DS.read;rw[W]
 split
 ·rfl
 ·exact h oM oM
theorem yo(K:0<=j)(Z:j<(D.n:Int)):D.read j=sec D.seen j.toNat:=iN oM
theorem rO(h:D.ok)(K:0<=j)(Z:j<(D.n:Int)):(D.read j).length=64:=by
 rw[yo K Z];have:=h.hs;exact KO oM
theorem Calm.zn(h:Calm D)(G:LI)(j:Int):(D.br G).read j=D.read j:=by
 refine LO (D:=D) (E:=D.br G) (j:=j) rfl (λ_ _=> ?_);show sec (qj G D.sure 0 D.aq) _=_;rw[h.pn,h.su]
 rfl
structure kI(D:DS)(P:DS->Prop):Prop where
 db:DB D
 dn:D.down=true
 cr:∀G,P (D.br G)
theorem kI.mono{P Q:DS->Prop}(h:kI D P)(d:∀E,Calm E->Live E->P E->Q E):kI D Q:=⟨h.db,h.dn,λp=>d _ (h.db.br p).1 (h.db.br p).2 (h.cr p)⟩
theorem kI.goes(h:kI D P):D.goes=false:=by unfold DS.goes;rw[h.dn];rfl
theorem kI.after(h:kI D P):kI D.after P:=⟨h.db.after,by show(D.down||_)=true;rw[h.dn];rfl,h.cr⟩
theorem kI.sync(h:kI D P):kI D.sync P:=by
 have:D.sync=D.after:=by unfold DS.sync;rw[h.goes];rfl
 rw[this];exact h.after
theorem kI.write(h:kI D P){i:Int}(K:0<=i)(W:i<(D.n:Int))(B:b.length<=64):D.eR i b=43/\kI (D.write i b) P:=by
 have Z:¬(i<0\/(D.n:Int)<=i):=oM
 have G:¬64<b.length:=oM
 have C:¬D.goes=true:=by rw[h.goes];exact iu
 unfold DS.eR DS.write;rw[iN Z,iN G,iN C,iN Z,iN G,iN C];exact⟨rfl,h.after⟩
theorem Eb(h:D.down=false):(D.goes=true/\D.after.down=false)\/(D.goes=false/\D.after.down=true):=by
 unfold DS.goes DS.after;rw[h];show(!(false||D.gM==0))=true/\(false||D.gM==0)=false\/(!(false||D.gM==0))=false/\(false||D.gM==0)=true
 cases D.gM==0
 ·exact .inl ⟨rfl,rfl⟩
 ·exact .inr ⟨rfl,rfl⟩
structure Ot(D0 D:DS)(A:Nat->Prop):Prop where
 db:DB D
 dn:D.down=false
 n:D.n=D0.n
 su:D.sure=D0.seen
 pa:∀x∈D.aq,A x.1
 rd:∀j:Int,0<=j->¬A j.toNat->D.read j=D0.read j
theorem Calm.ZJ(h:Calm D)(A:Nat->Prop):Ot D D A:=⟨h.db,h.dn,rfl,h.su,λx J=>by rw[h.pn]at J;exact absurd J qo,λ_ _ _=>rfl⟩
theorem Ot.Vi{c D:DS}(h:Ot c D A)(G:LI)(_h0:0<=j)(H:¬A j.toNat):(D.br G).read j=c.read j:=by
 refine LO (D:=c) (E:=D.br G) (j:=j) h.n (λ_ _=> ?_);show sec (qj G D.sure 0 D.aq) _=_;have y:=h.db.ok.hu;rw[Ez G (j:=j.toNat) D.aq D.sure 0 (λp P=>⟨by have:=(h.db.ok.hp p P).1;rw[y];omega,(h.db.ok.hp p P).2⟩) (λp P e=>H (by rw[<-e];exact h.pa p P)),h.su]
theorem Ot.dead{c D:DS}(h:Ot c D A)(y:D.after.down=true):kI D.after (λE=>E.n=c.n/\∀j:Int,0<=j->¬A j.toNat->E.read j=c.read j):=
 ⟨h.db.after,y,λp=>⟨h.n,λ_ K H=>h.Vi p K H⟩⟩
theorem Ot.write{c D:DS}(h:Ot c D A){i:Int}(K:0<=i)(W:i<(c.n:Int))(o:A i.toNat)(B:b.length<=64)(F:Bytes b):
 (D.eR i b=0/\Ot c (D.write i b) A/\(D.write i b).aq=D.aq++[(i.toNat,full b)]/\∀j,0<=j->(D.write i b).read j=if j=i then full b else D.read j)\/
 (D.eR i b=43/\kI (D.write i b) (λE=>E.n=c.n/\∀j:Int,0<=j->¬A j.toNat->E.read j=c.read j)):=by
 have M:=h.n;have Z:¬(i<0\/(D.n:Int)<=i):=oM
 have G:¬64<b.length:=oM
 unfold DS.eR DS.write;rw[iN Z,iN G,iN Z,iN G];rcases Eb h.dn with⟨C,y⟩|⟨C,y⟩
 ·refine .inl ?_
  rw[iP C,iP C];have V:=h.db.ok.hs;have I:∀j,0<=j->(D.after.put i.toNat b).read j=if j=i then full b else D.read j:=by
   intro j g;unfold DS.read;show(if j<0\/(D.n:Int)<=j then []else _)=_;by_cases H:j<0\/(D.n:Int)<=j
   ·rw[iP H,iP H,iN oM]
   ·rw[iN H,iN H]
    show sec (bm D.seen (i.toNat*64) (full b)) j.toNat=_;have a:=jY B;rw[Dk _ oM oM];by_cases R:j=i
    ·rw[iP R,iP (by rw[R]),a,UY (by rw[KO oM];omega),xd]
    ·rw[iN R,iN oM]
     rfl
  refine⟨rfl,⟨h.db.after.put (by show i.toNat<D.n;omega) B F,y,h.n,h.su,λx J=> ?_,λj g H=> ?_⟩,rfl,I⟩
  ·rcases oc.1 J with J|J
   ·exact h.pa x J
   ·rw[nN.1 J];exact o
  ·have X:¬j=i:=λe=>H (by rw[e];exact o)
   rw[I j g,iN X];exact h.rd j g H
 ·have C:¬D.goes=true:=by rw[C];exact iu
  rw[iN C,iN C];exact .inr ⟨rfl,h.dead y⟩
theorem Ot.sync{c D:DS}(h:Ot c D A):
 (Calm D.sync/\D.sync.n=c.n/\∀j,D.sync.read j=D.read j)\/kI D.sync (λE=>E.n=c.n/\∀j:Int,0<=j->¬A j.toNat->E.read j=c.read j):=by
 rcases Eb h.dn with⟨C,y⟩|⟨C,y⟩
 ·have e:D.sync={D.after with sure:=qX D.sure D.aq,aq:=[]}:=by unfold DS.sync;rw[iP C]
  refine .inl ⟨⟨h.db.sync,by rw[e];exact y,by rw[e]⟩,by rw[e];exact h.n,λj=>by rw[e];rfl⟩
 ·have e:D.sync=D.after:=by unfold DS.sync;rw[C];rfl
  rw[e];exact .inr (h.dead y)
theorem Calm.one(h:Calm D){i:Int}(K:0<=i)(W:i<(D.n:Int))(B:b.length=64)(F:Bytes b):
 ((
  D.eR i b=0)/\((Calm (D.write i b).sync/\(D.write i b).sync.n=D.n/\∀j,0<=j->(D.write i b).sync.read j=if j=i then b else D.read j)\/
  kI (D.write i b).sync (λE=>E.n=D.n/\∃p,p<=64/\∀j,0<=j->E.read j=if j=i then iB b (D.read i) p else D.read j)))\/
 (D.eR i b=43/\kI (D.write i b) (λE=>E.n=D.n/\∀j,E.read j=D.read j)):=by
 rcases(h.ZJ (λk=>k=i.toNat)).write K W rfl oM F with⟨z,R,Y,o⟩|⟨z,R⟩
 ·refine .inl ⟨z,?_⟩
  rw[x7 B]at Y;have o:∀j,0<=j->(D.write i b).read j=if j=i then b else D.read j:=λj H=>by rw[o j H,x7 B]
  rcases R.sync with⟨O,L,I⟩|s
  ·exact .inl ⟨O,L,λj H=>(I j).trans (o j H)⟩
  ·refine .inr ⟨s.db,s.dn,λG=>⟨?_,keeps G 0,Ao _ _,λj H=> ?_⟩⟩
   ·exact(s.cr G).1
   ·by_cases l:j=i
    ·subst l
     rw[iP rfl];have d:(D.write j b).sync.br G=(D.write j b).br G:=by
      have C:(D.write j b).goes=false:=by
       cases C:(D.write j b).goes with
       |false=>rfl
       |true=>
        have J:=s.dn;unfold DS.sync at J;rw[iP C]at J;have M:(D.write j b).after.down=true:=J;rcases Eb R.dn with⟨_,S⟩|⟨S,_⟩
        ·rw[S]at M;cases M
        ·rw[S]at C;cases C
      have e:(D.write j b).sync=(D.write j b).after:=by unfold DS.sync;rw[C];rfl
      rw[e]
      rfl
     rw[d,yo (D:=(D.write j b).br G) K (by show j<((D.write j b).n:Int);rw[R.n];exact W)];show sec (qj G (D.write j b).sure 0 (D.write j b).aq) j.toNat=_;rw[Y,h.pn,R.su];have V:=h.db.ok.hs;rw[zm,RN G _ oM B,iP rfl,yo K W]
    ·rw[iN l]
     exact(s.cr G).2 j H oM
 ·refine .inr ⟨z,R.db,R.dn,λG=>⟨(R.cr G).1,λj=> ?_⟩⟩
  have y:=R.cr G;by_cases g:0<=j
  ·by_cases l:j=i
   ·subst l
    have Z:¬(j<0\/(D.n:Int)<=j):=oM
    have J:¬64<b.length:=oM
    have C:¬D.goes=true:=by
     intro C;unfold DS.eR at z;rw[iN Z,iN J,iP C]at z
     cases z
    have e:D.write j b=D.after:=by unfold DS.write;rw[iN Z,iN J,iN C]
    rw[e];exact h.zn G j
   ·exact y.2 j g oM
  ·unfold DS.read
   rw[iP oM,iP oM]
structure jt(D:DS)(a:Int):Prop where
 s:∀i,i=a\/i=a+1->(D.read i).length=64/\Bytes (D.read i)/\kY (D.read i)=0/\jp (D.read i)<=(aJ D a).q
 o:jp (D.read (dp D a))<(aJ D a).q\/jp (D.read (dp D a))=0
theorem jt.tail(h:jt D a):wb (aJ D a).q (D.read (dp D a)):=by
 obtain⟨Z,G,M,_⟩:=h.s _ (ox D a);exact⟨Z,G,M,h.o⟩
theorem jt.same{D E:DS}(h:jt D a)(K:E.read a=D.read a)(Z:E.read (a+1)=D.read (a+1)):jt E a:=by
 have F:=fW K Z;have P:dp E a=dp D a:=by unfold dp;rw[F]
 refine⟨λi z=> ?_,?_⟩
 ·rw[F]
  rcases z with rfl|rfl
  ·rw[K];exact h.s _ (.inl rfl)
  ·rw[Z];exact h.s _ (.inr rfl)
 ·rw[P,F]
  rcases ox D a with G|G
  ·rw[G,K];have:=h.o;rw[G]at this;exact this
  ·rw[G,Z];have:=h.o;rw[G]at this;exact this
theorem Ep{D E:DS}(C:Bytes D.seen)(h:jt D a)(d:(aJ D a).q<4294967295)(B:b.length<=43)(L:Bytes b)
 (U:∀j,E.read j=if j=dp D a then aR ((aJ D a).q+1) 0 b else D.read j):aJ E a=⟨dp D a,(aJ D a).q+1,b⟩/\jt E a:=by
 have k:=(tX C a).1;have F:aJ E a=⟨dp D a,(aJ D a).q+1,b⟩:=by
  refine Fq rfl k (λj=> ?_);unfold cg;rw[U j]
  split
  ·exact lS oM oM B
  ·rfl
 obtain⟨f0,f1,f2,f3,f4⟩:=qw (q:=(aJ D a).q+1) (e:=0) (b:=b) oM oM B;have u:dp E a=(aJ D a).at_:=by
  unfold dp;rw[F];show 2*a+1-(2*a+1-(aJ D a).at_)=_;omega
 refine⟨F,⟨λi z=> ?_,?_⟩⟩
 ·rw[F,U i]
  by_cases P:i=dp D a
  ·rw[iP P]
   exact⟨dI _ _ B,eA _ _ L,f4,by rw[f3];exact cO _⟩
  ·rw[iN P]
   obtain⟨Z,G,M,S⟩:=h.s i z;exact⟨Z,G,M,by show _<=(aJ D a).q+1;omega⟩
 ·rw[u,F,U]
  have X:(aJ D a).at_≠dp D a:=by unfold dp;have:=mR D a 2 oM;have:(aJ D a).at_=a\/(aJ D a).at_=a+1:=this;omega
  rw[iN X];obtain⟨_,_,_,S⟩:=h.s _ (mR D a 2 oM);have S:jp (D.read (aJ D a).at_)<=(aJ D a).q:=S;exact .inl (by show _<(aJ D a).q+1;omega)
theorem PQ{D E:DS}{t:LI}(C:Bytes D.seen)(h:jt D a)(R:wb (aJ D a).q t)
 (U:∀j,E.read j=if j=dp D a then t else D.read j):aJ E a=aJ D a/\jt E a:=by
 have k:=(tX C a).1;have A:xg (cW t)=true->(cW t).q<(aJ D a).q:=λz=>R.aaK (by unfold xg at z;simp only[mf]at z;exact z.1);have F:aJ E a=aJ D a:=by
  have g:=nw D a;rw[nw E a];rcases ox D a with P|P
  ·have S:cg E a=cW t:=by unfold cg;rw[U a,iP P.symm]
   have u:cg E (a+1)=cg D (a+1):=by unfold cg;rw[U (a+1),iN oM]
   have l:(aJ D a).at_=a+1:=by unfold dp at P;omega
   obtain⟨x,J⟩:=nM (eN D a ⟨a+1,0,[]⟩);obtain⟨y,q⟩:=nM (eN E a ⟨a+1,0,[]⟩);rw[<-J]at g;rw[<-q];unfold eN at g⊢;rw[u];by_cases d:xg (cg D (a+1))=true/\(cg D (a+1)).q>x.q
   ·rw[iP d]at g
    rw[g,iP];refine⟨d.1,?_⟩;have Y:(aJ D a).q=(cg D (a+1)).q:=by rw[g]
    rw[q];unfold eN;rw[S]
    split
    ·rename_i Z
     have:=A Z.1;show _>(cW t).q;omega
    ·show _>(0:Int)
     have n:0<=x.q:=by
      rw[J];unfold eN
      split
      ·exact(iT (DS.fZ C a)).1
      ·exact cO _
     omega
   ·rw[iN d]at g
    have b:x=⟨a+1,0,[]⟩:=by
     have Z:x.at_=a+1:=by rw[<-g];exact l
     rw[J]at Z⊢;unfold eN at Z⊢
     split at Z
     ·have Z:a=a+1:=Z
      omega
     ·rename_i G
      rw[iN G]
    have c:(aJ D a).q=0:=by rw[g,b]
    have r:y=⟨a+1,0,[]⟩:=by
     rw[q];unfold eN;rw[S,iN];rintro⟨Z,G⟩;have:=A Z;have G:(cW t).q>0:=G;omega
    rw[r,g,b,iN];rw[b]at d;exact d
  ·have S:cg E a=cg D a:=by unfold cg;rw[U a,iN oM]
   have u:cg E (a+1)=cW t:=by unfold cg;rw[U (a+1),iP P.symm]
   have l:(aJ D a).at_=a:=by unfold dp at P;omega
   have p:eN E a ⟨a+1,0,[]⟩=eN D a ⟨a+1,0,[]⟩:=by unfold eN;rw[S]
   rw[p];obtain⟨x,J⟩:=nM (eN D a ⟨a+1,0,[]⟩);rw[<-J]at g⊢;have e:aJ D a=x:=by
    rw[g];unfold eN;refine iN (λd=> ?_);rw[g]at l;unfold eN at l;rw[iP d]at l;have l:a+1=a:=l;omega
   rw[e];unfold eN;rw[u];refine iN (λd=> ?_);have:=A d.1;rw[e]at this;omega
 have P:dp E a=dp D a:=by unfold dp;rw[F]
 refine⟨F,⟨λi z=> ?_,?_⟩⟩
 ·rw[F,U i]
  by_cases T:i=dp D a
  ·rw[iP T]
   exact⟨R.1,R.2.1,R.2.2.1,by rcases R.2.2.2 with o|o<;>omega⟩
  ·rw[iN T];exact h.s i z
 ·rw[P,F,U,iP rfl]
  exact R.2.2.2
theorem Calm.save(h:Calm D)(ha:0<=a/\a+1<(D.n:Int))(F:b.length<=43)(B:Bytes b)(V:jt D a)(d:(aJ D a).q<4294967295):
 (ic D a b=0/\Calm (cG D a b)/\(cG D a b).n=D.n/\aJ (cG D a b) a=⟨dp D a,(aJ D a).q+1,b⟩/\jt (cG D a b) a/\∀j,j≠a->j≠a+1->(cG D a b).read j=D.read j)\/
 (ic D a b=43/\kI (cG D a b) (λE=>E.n=D.n/\(aJ E a=⟨dp D a,(aJ D a).q+1,b⟩\/aJ E a=aJ D a)/\jt E a/\∀j,j≠a->j≠a+1->E.read j=D.read j)):=by
 have q0:=(tX h.db.b a).1;have M:(lH D a b).length=64:=dI _ _ F;have K:Bytes (lH D a b):=eA _ _ B;have L:¬(aJ D a).q=4294967295:=oM
 have hI:=ox D a;have n:p9 D a b=D.sync.eR (dp D a) (lH D a b):=iN L;have o:qk D a b=D.sync.write (dp D a) (lH D a b):=iN L;have r:∀(E:DS) (j:Int),j<0->E.n=D.n->E.read j=D.read j:=λE j H W=>by unfold DS.read;rw[iP oM,iP oM]
 have q:∀E:DS,E.n=D.n->(∀j,0<=j->E.read j=D.read j)->E.n=D.n/\(aJ E a=⟨dp D a,(aJ D a).q+1,b⟩\/aJ E a=aJ D a)/\jt E a/\∀j,j≠a->j≠a+1->E.read j=D.read j:=by
  intro E W U;have t:∀j,E.read j=D.read j:=λj=>by
   by_cases H:0<=j
   ·exact U j H
   ·exact r E j oM W
  exact⟨W,.inr (fW (t _) (t _)),V.same (t _) (t _),λj _ _=>t j⟩
 rcases(h.ZJ (λ_=>False)).sync with⟨S,P,y⟩|c
 ·
  have k:=fW (y a) (y (a+1));have A0:dp D.sync a=dp D a:=by unfold dp;rw[k]
  rcases S.one (i:=dp D a) (b:=lH D a b) oM (by rw[P];omega) M K with⟨z,w⟩|⟨z,X⟩
  ·have N:p9 D a b=0:=n.trans z
   have T:cG D a b=(D.sync.write (dp D a) (lH D a b)).sync:=(iP N).trans (by rw[o]);have J:ic D a b=if(D.sync.write (dp D a) (lH D a b)).sync.down=true then 43 else 0:=(iP N).trans (by rw[o]);rcases w with⟨l,A,Q⟩|g
   ·refine .inl ?_
    rw[J,T,l.dn];have I:∀j,(D.sync.write (dp D a) (lH D a b)).sync.read j=if j=dp D a then aR ((aJ D a).q+1) 0 b else D.read j:=by
     intro j;by_cases H:0<=j
     ·rw[Q j H]
      split
      ·rfl
      ·exact y j
     ·rw[iN oM]
      exact r _ j oM (A.trans P)
    obtain⟨C,O⟩:=Ep h.db.b V d F B I;exact⟨rfl,l,A.trans P,C,O,λj Z G=>by rw[I j,iN oM]⟩
   ·refine .inr ?_
    rw[J,T,g.dn];refine⟨rfl,g.mono (λE _ _ ⟨u,p,hp,Y⟩=> ?_)⟩;have W:=u.trans P;rw[y (dp D a)]at Y;have I:∀j,E.read j=if j=dp D a then iB (lH D a b) (D.read (dp D a)) p else D.read j:=by
     intro j;by_cases H:0<=j
     ·rw[Y j H]
      split
      ·rfl
      ·exact y j
     ·rw[iN oM]
      exact r _ j oM W
    rcases MQ (p:=p) ⟨q0,d⟩ F B hp V.tail with R|R
    ·have R:iB (lH D a b) (D.read (dp D a)) p=aR ((aJ D a).q+1) 0 b:=R
     rw[R]at I;obtain⟨C,O⟩:=Ep h.db.b V d F B I;exact⟨W,.inl C,O,λj Z G=>by rw[I j,iN oM]⟩
    ·obtain⟨C,O⟩:=PQ h.db.b V R I
     exact⟨W,.inr C,O,λj Z G=>by rw[I j,iN oM]⟩
  ·have N:p9 D a b=43:=n.trans z
   have e:¬p9 D a b=0:=by rw[N];decide
   refine .inr ⟨(iN e).trans N,?_⟩;rw[show cG D a b=D.sync.write (dp D a) (lH D a b)from(iN e).trans o];exact X.mono (λE _ _ ⟨u,Y⟩=>q E (u.trans P) (λj _=>(Y j).trans (y j)))
 ·have W:D.sync.n=D.n:=DS.kD D
  obtain⟨z,X⟩:=c.write (i:=dp D a) (b:=lH D a b) oM (by rw[W];omega) oM;have N:p9 D a b=43:=n.trans z;have e:¬p9 D a b=0:=by rw[N];decide
  refine .inr ⟨(iN e).trans N,?_⟩;rw[show cG D a b=D.sync.write (dp D a) (lH D a b)from(iN e).trans o];exact X.mono (λE _ _ ⟨u,Y⟩=>q E u (λj H=>Y j H (λx=>x)))
structure MI(m:Nat->Rg):Prop where
 ok:∀k,(m k).ok
 mb:MB m
 Vi:∀k,4<=k->m k=Rg.zero
 bf:∀k j,4<=j->(m k).b j=[]
 hs:∀k,0<(m k).ax\/(m k).seq=0
theorem MI.tv:MI tv:=⟨λ_=>Rg.CN,MB.tv,λ_ _=>rfl,λ_ _ _=>rfl,λ_=> .inr rfl⟩
theorem MI.gL(h:MI m)(U:r.ok)(B:Bytes r.data):MI (gL m r):=by
 refine⟨Aw h.ok U,h.mb.gL B,λk Q=> ?_,λk j H=> ?_,λk=> ?_⟩
 ·unfold Go.Proofs.YtblpaldggenbaaaGreatDoor.gL
  split
  ·rename_i D
   have C:=oS D.1;have:=C.k;have:=(RQ.gT C.w).2.2.1;rw[bS _ _ _ _ oM];exact h.Vi k Q
  ·exact h.Vi k Q
 ·unfold Go.Proofs.YtblpaldggenbaaaGreatDoor.gL
  split
  ·rename_i D
   have C:=oS D.1;unfold aI
   split
   ·show(if r.op=2 then aI _ r.index.toNat r.data else _) j=[]
    split
    ·rename_i G
     have:=C.i oM;have:=(RQ.gT C.w).2.2.2.2.1;rw[bS _ _ _ _ oM];exact h.bf _ j H
    ·exact h.bf _ j H
   ·exact h.bf k j H
  ·exact h.bf k j H
 ·unfold Go.Proofs.YtblpaldggenbaaaGreatDoor.gL
  split
  ·rename_i D
   have a:=rW D.2;unfold aI
   split
   ·refine .inl ?_
    show 0<r.token;have:=U.t0;have:=a.2.1;omega
   ·exact h.hs k
  ·exact h.hs k
theorem MI.TS(h:MI m):Xt m:=h.mb.TS h.ok
theorem en{x:Int}{k:Nat}(K:0<=x)(Z:x<256^k)(G:1<=k)(W:k<=8)(rest:LI):Rd.num ⟨aV x k++rest,false⟩ (k:Int)=(x,⟨rest,false⟩):=by
 obtain⟨n,rfl⟩:=BE K;rw[Rd.pP n k G W];have M:((256^k:Nat):Int)=(256:Int)^k:=Int.natCast_pow 256 k;rw[<-M]at Z;rw[Ye (Int.ofNat_lt.1 Z)]
theorem wT(l:List (LI))(rest:LI)(F:∀x∈l,x.length<=24):∀n,n<=l.length->Rd.dx ⟨l.flatMap bG++rest,false⟩ n=(l.take n,⟨(l.drop n).flatMap bG++rest,false⟩)
 |0,_=>rfl
 |n+1,h=>by
  have K:=wT l rest F n oM;show((Rd.dx _ n).1++[(Rd.dx _ n).2.gI.1],(Rd.dx _ n).2.gI.2)=_;rw[K];have e:l.drop n=l[n]::l.drop (n+1):=IQ oM;have a:Rd.gI ⟨(l.drop n).flatMap bG++rest,false⟩=(l[n],⟨(l.drop (n+1)).flatMap bG++rest,false⟩):=by
   rw[e,BA,pI];exact oX _ (by have:=F _ (Oq (show n<l.length by omega));omega) _
  show(l.take n++[(Rd.gI ⟨(l.drop n).flatMap bG++rest,false⟩).1],(Rd.gI ⟨(l.drop n).flatMap bG++rest,false⟩).2)=_;rw[a,JU,g7 oM]
  rfl
theorem Rw(b:Nat->LI)(rest:LI)(B:∀j,(b j).length<=24)(a:∀j,4<=j->b j=[]):Rd.ah ⟨bG (b 0)++(bG (b 1)++(bG (b 2)++(bG (b 3)++rest))),false⟩ 4=(b,⟨rest,false⟩):=by
 have c:∀j,(b j).length<=1000:=λj=>by have:=B j;omega
 obtain⟨s,V⟩:∃s:Rd,s=⟨bG (b 0)++(bG (b 1)++(bG (b 2)++(bG (b 3)++rest))),false⟩:=⟨_,rfl⟩;rw[<-V];have u:s.ah 1=(aI (λ_=>[]) 0 (b 0),⟨bG (b 1)++(bG (b 2)++(bG (b 3)++rest)),false⟩):=by
  show(aI (λ_=>[]) 0 (Rd.gI s).1,(Rd.gI s).2)=_;rw[V,oX _ (c 0)]
 have Y:s.ah 2=(aI (aI (λ_=>[]) 0 (b 0)) 1 (b 1),⟨bG (b 2)++(bG (b 3)++rest),false⟩):=by
  show(aI (s.ah 1).1 1 (s.ah 1).2.gI.1,(s.ah 1).2.gI.2)=_;rw[u];show(aI _ 1 (Rd.gI _).1,(Rd.gI _).2)=_;rw[oX _ (c 1)]
 have P:s.ah 3=(aI (aI (aI (λ_=>[]) 0 (b 0)) 1 (b 1)) 2 (b 2),⟨bG (b 3)++rest,false⟩):=by
  show(aI (s.ah 2).1 2 (s.ah 2).2.gI.1,(s.ah 2).2.gI.2)=_;rw[Y];show(aI _ 2 (Rd.gI _).1,(Rd.gI _).2)=_;rw[oX _ (c 2)]
 show(aI (s.ah 3).1 3 (s.ah 3).2.gI.1,(s.ah 3).2.gI.2)=_;rw[P];show(aI _ 3 (Rd.gI _).1,(Rd.gI _).2)=_;rw[oX _ (c 3)];refine Prod.ext (funext λj=> ?_) rfl;show(if j=3 then b 3 else if j=2 then b 2 else if j=1 then b 1 else if j=0 then b 0 else [])=b j
 split
 ·exact adE
 ·split
  ·exact adE
  ·split
   ·exact adE
   ·split
    ·exact adE
    ·exact(a j oM).symm
theorem yD(x:Rg)(J:x.ok)(a:∀j,4<=j->x.b j=[])(rest:LI):Rd.rg ⟨gK x++rest,false⟩=x/\(Rd.h5 ⟨gK x++rest,false⟩).2=⟨rest,false⟩:=by
 obtain⟨s,V⟩:∃s:Rd,s=⟨gK x++rest,false⟩:=⟨_,rfl⟩;have S:gK x++rest=aV x.ax 8++(aV x.seq 4++(bG (x.b 0)++(bG (x.b 1)++(bG (x.b 2)++(bG (x.b 3)++(aV (x.log.length:Nat) 1++(x.log.flatMap bG++rest))))))):=by
  unfold gK;rw[show bM x.ax 8=aV x.ax 8 from rfl,show bM x.seq 4=aV x.seq 4 from rfl,show bM (x.log.length:Nat) 1=aV (x.log.length:Nat) 1 from rfl];simp only[pI]
 rw[<-V];rw[S]at V;have u:s.h1=(x.ax,⟨aV x.seq 4++(bG (x.b 0)++(bG (x.b 1)++(bG (x.b 2)++(bG (x.b 3)++(aV (x.log.length:Nat) 1++(x.log.flatMap bG++rest)))))),false⟩):=by
  show s.num ((8:Nat):Int)=_;rw[V];exact en J.h0 (by rw[show(256:Int)^8=18446744073709551616 by decide];exact J.h1) oM oM _
 have Y:s.h2=(x.seq,⟨bG (x.b 0)++(bG (x.b 1)++(bG (x.b 2)++(bG (x.b 3)++(aV (x.log.length:Nat) 1++(x.log.flatMap bG++rest))))),false⟩):=by
  show s.h1.2.num ((4:Nat):Int)=_;rw[u];exact en J.s0 (by rw[show(256:Int)^4=4294967296 by decide];exact J.s1) oM oM _
 have P:s.h3=(x.b,⟨aV (x.log.length:Nat) 1++(x.log.flatMap bG++rest),false⟩):=by
  show s.h2.2.ah 4=_;rw[Y];exact Rw x.b _ J.bb a
 have g:s.h4=(((x.log.length:Nat):Int),⟨x.log.flatMap bG++rest,false⟩):=by
  show s.h3.2.num ((1:Nat):Int)=_;rw[P];have:=J.ll;exact en oM ab4 oM oM _
 have b:s.h5=(x.log,⟨rest,false⟩):=by
  show s.h4.2.dx s.h4.1.toNat=_;rw[g];show Rd.dx ⟨x.log.flatMap bG++rest,false⟩ ((x.log.length:Int).toNat)=_;rw[rE,wT _ _ J.lb _ (io _),MT,Zm]
  rfl
 refine⟨?_,by rw[b]⟩;show Rg.mk s.h1.1 s.h2.1 s.h3.1 s.h5.1=x;rw[u,Y,P,b]
theorem Et(h:MI m):Rd.gB ⟨bi m,false⟩ 4=(m,⟨[],false⟩):=by
 have e:bi m=gK (m 0)++(gK (m 1)++(gK (m 2)++(gK (m 3)++[]))):=by
  show ji m 4=_;rw[cX,cX,cX,cX,xd];show((([]++gK (m 0))++gK (m 1))++gK (m 2))++gK (m 3)=_;simp only[pI,zm]
 obtain⟨s,V⟩:∃s:Rd,s=⟨bi m,false⟩:=⟨_,rfl⟩;rw[<-V];rw[e]at V;have u:s.gB 1=(aI tv 0 (m 0),⟨gK (m 1)++(gK (m 2)++(gK (m 3)++[])),false⟩):=by
  show(aI tv 0 (Rd.rg s),(Rd.h5 s).2)=_;obtain⟨H,O⟩:=yD (m 0) (h.ok 0) (h.bf 0) (gK (m 1)++(gK (m 2)++(gK (m 3)++[])));rw[V,H,O]
 have Y:s.gB 2=(aI (aI tv 0 (m 0)) 1 (m 1),⟨gK (m 2)++(gK (m 3)++[]),false⟩):=by
  show(aI (s.gB 1).1 1 (s.gB 1).2.rg,(s.gB 1).2.h5.2)=_;rw[u];obtain⟨H,O⟩:=yD (m 1) (h.ok 1) (h.bf 1) (gK (m 2)++(gK (m 3)++[]));show(aI _ 1 (Rd.rg _),(Rd.h5 _).2)=_;rw[H,O]
 have P:s.gB 3=(aI (aI (aI tv 0 (m 0)) 1 (m 1)) 2 (m 2),⟨gK (m 3)++[],false⟩):=by
  show(aI (s.gB 2).1 2 (s.gB 2).2.rg,(s.gB 2).2.h5.2)=_;rw[Y];obtain⟨H,O⟩:=yD (m 2) (h.ok 2) (h.bf 2) (gK (m 3)++[]);show(aI _ 2 (Rd.rg _),(Rd.h5 _).2)=_;rw[H,O]
 show(aI (s.gB 3).1 3 (s.gB 3).2.rg,(s.gB 3).2.h5.2)=_;rw[P];obtain⟨H,O⟩:=yD (m 3) (h.ok 3) (h.bf 3) [];show(aI _ 3 (Rd.rg _),(Rd.h5 _).2)=_;rw[H,O];refine Prod.ext (funext λj=> ?_) rfl;show(if j=3 then m 3 else if j=2 then m 2 else if j=1 then m 1 else if j=0 then m 0 else tv j)=m j
 split
 ·exact adE
 ·split
  ·exact adE
  ·split
   ·exact adE
   ·split
    ·exact adE
    ·exact(h.Vi j oM).symm
theorem PZ(h:MI m):vj (bi m)=0:=by
 have z:lF m 4=true:=by
  unfold lF;rw[AR];intro k _;have q:=h.ok k;unfold PN ma;simp only[mf,AR,decide_eq_true_eq,OR,beq_iff_eq];exact⟨⟨⟨λi _=>dZ (q.bb i),λx J=>dZ (q.lb x J)⟩,q.ll⟩,h.hs k⟩
 unfold vj;rw[Et h,iN (show¬(Rd.kw ⟨[],false⟩≠0)by decide),iP z]
def Fv(m:Nat->Rg)(r:RQ):Prop:=r.token<(m r.region.toNat).ax\/r.token=(m r.region.toNat).ax/\r.seq<=(m r.region.toNat).seq
theorem GN(K:(aE m r).2=0)(h:(aE m r).1=true):(m r.region.toNat).ax<r.token\/r.token=(m r.region.toNat).ax/\r.seq=(m r.region.toNat).seq+1:=by
 have C:=(oS K).t;unfold aE at h
 split at h
 ·cases h
 ·split at h
  ·cases h
  ·split at h
   ·cases h
   ·split at h
    ·cases h
    ·split at h
     ·unfold Rg.next Rg.nC at h
      split at h
      ·rename_i Z;exact .inl Z
      ·split at h
       ·cases h
       ·split at h
        ·cases h
        ·split at h
         ·cases h
         ·rename_i Z _ _ S
          exact .inr ⟨oM,Ze.1 S⟩
     ·cases h
theorem Ki(h:Fv m r):gL m r=m:=by
 unfold gL;refine iN (λD=> ?_);have Z:=GN D.1 D.2;unfold Fv at h;omega
theorem GO(K:(aE m r).2=0)(h:(aE m r).1=true):Fv (gL m r) r:=by
 unfold Fv gL;rw[iP ⟨K,h⟩,aT];exact .inr ⟨rfl,cO _⟩
theorem zu{r x:RQ}(h:Fv m r):Fv (gL m x) r:=by
 unfold gL
 split
 ·rename_i D
  have Z:=GN D.1 D.2;unfold Fv aI at*;by_cases Q:r.region.toNat=x.region.toNat
  ·rw[iP Q]
   rw[Q]at h;show r.token<x.token\/r.token=x.token/\r.seq<=x.seq;omega
  ·rw[iN Q]
   exact h
 ·exact h
structure Vt(D:DS)(a:Int)(L:Nat->Rg)(K:Int):Prop where
 r:0<=a/\a+44<=(D.n:Int)
 s:jt D a
 q:(aJ D a).q<=K
 nu:(cM D a).nu<=K
 bg:mh D a=L
 un:ii D a=0->vj (gg D a)=0
theorem Vt.mono{K b:Int}(h:Vt D a L K)(Q:K<=b):Vt D a L b:=⟨h.r,h.s,tU h.q Q,tU h.nu Q,h.bg,h.un⟩
theorem Cu{D E:DS}{a g nu sz:Int}(h:∀i:Nat,i<21->E.read (a+2+g*21+(i:Nat))=D.read (a+2+g*21+(i:Nat))):∀j,j<=21->ml E a g nu sz j=ml D a g nu sz j
 |0,_=>rfl
 |j+1,H=>by
  have K:=Cu (nu:=nu) (sz:=sz) h j oM;have e:Sa E a g j=Sa D a g j:=nW (h j oM);show(ml E a g nu sz j).bind _=(ml D a g nu sz j).bind _;rw[K];simp only[e]
theorem Vt.same{D E:DS}{K:Int}(h:Vt D a L K)(W:E.n=D.n)(V:jt E a)(F:aJ E a=aJ D a)
 (U:∀i:Nat,i<21->E.read (a+2+(cM D a).ar*21+(i:Nat))=D.read (a+2+(cM D a).ar*21+(i:Nat))):Vt E a L K:=by
 have p:=IH F;have o:jk E a=jk D a:=by
  unfold jk;rw[p,Cu U 21 (io _)]
 have B:gg E a=gg D a:=by unfold gg;rw[o]
 have Y:ii E a=ii D a:=by unfold ii;rw[o]
 refine⟨by rw[W];exact h.r,V,by rw[F];exact h.q,by rw[p];exact h.nu,?_,?_⟩
 ·unfold mh
  rw[Y,B];exact h.bg
 ·rw[Y,B];exact h.un
theorem Vt.alike{D E:DS}{K:Int}(h:Vt D a L K)(B:Bytes D.seen)(W:E.n=D.n)(U:∀j,a<=j->j<a+44->E.read j=D.read j):Vt E a L K:=by
 have p:=iF B a;exact h.same W (h.s.same (U a oM oM) (U (a+1) oM oM)) (fW (U a oM oM) (U (a+1) oM oM)) (λi z=>U _ oM oM)
theorem wG(b:LI)(j:Nat):(iM b j).length=min 43 (b.length-43*j):=by unfold iM;rw[fV,km]
theorem zN{E:DS}{a ar nu:Int}{b:LI}(c:0<=nu/\nu<4294967296)(U:∀i:Nat,i<(b.length+42)/43->E.read (Hp a ar i)=aR (((i:Nat):Int)+1) nu (iM b i)):∀j,j<=21->ml E a ar nu (b.length:Nat) j=some (b.take (43*j))
 |0,_=>rfl
 |j+1,H=>by
  have K:=zN c U j oM;show(ml E a ar nu (b.length:Nat) j).bind _=_;rw[K];show(if((j:Nat):Int)*43<((b.length:Nat):Int)then _ else _)=_;by_cases D:((j:Nat):Int)*43<((b.length:Nat):Int)
  ·rw[iP D]
   have V:(iM b j).length<=43:=by rw[wG];omega
   have e:Sa E a ar j=⟨((j:Nat):Int)+1,nu,iM b j,true⟩:=by
    show cW (E.read (Hp a ar j))=_;rw[U j oM];exact lS oM c V
   have R:(b.take (43*j)).length=43*j:=by rw[fV];omega
   have B:Sk (Sa E a ar j) j nu (b.length:Nat) (b.take (43*j)).length=true:=by
    rw[e,R];unfold Sk;have Z:((((j:Nat):Int)+1) !=((j:Nat):Int)+1)=false:=by simp
    have G:(nu !=nu)=false:=by simp
    have M:(((iM b j).length:Int) !=min 43 (((b.length:Nat):Int)-((43*j:Nat):Int)))=false:=by
     rw[bne_eq_false_iff_eq,wG];omega
    show(true&& !((((j:Nat):Int)+1) !=((j:Nat):Int)+1)&& !(nu !=nu)&& !(((iM b j).length:Int) !=min 43 (((b.length:Nat):Int)-((43*j:Nat):Int))))=true;rw[Z,G,M]
    rfl
   rw[iP B,e];show some (b.take (43*j)++(b.drop (43*j)).take 43)=_;rw[<-List.take_add,Nat.mul_succ]
  ·rw[iN D,oJ oM,oJ oM]
def kM(a g:Int)(k:Nat):Prop:=a+2+g*21<=(k:Int)/\(k:Int)<a+2+g*21+21
theorem Calm.Wc{D:DS}(h:Calm D){a ar nu:Int}{b:LI}(T:0<=a/\a+44<=(D.n:Int))(c:0<=ar/\ar<=1)(B:Bytes b):∀j,j<=21->
 ((fE D a ar nu b j).2=0/\Ot D (fE D a ar nu b j).1 (kM a ar)/\∀i:Nat,i<j->(fE D a ar nu b j).1.read (Hp a ar i)=aR (((i:Nat):Int)+1) nu (iM b i))\/
 ((fE D a ar nu b j).2=43/\kI (fE D a ar nu b j).1 (λE=>E.n=D.n/\∀j:Int,0<=j->¬kM a ar j.toNat->E.read j=D.read j))
 |0,_=> .inl ⟨rfl,h.ZJ _,λi Q=>absurd Q (Nat.not_lt_zero _)⟩
 |j+1,H=>by
  rcases Calm.Wc h (nu:=nu) T c B j oM with⟨Z,G,M⟩|⟨Z,G⟩
  ·rw[Dr Z]
   have Q:Hp a ar j=a+2+ar*21+(j:Nat):=rfl;have F:(iM b j).length<=43:=by rw[wG];omega
   have t:(aR (((j:Nat):Int)+1) nu (iM b j)).length=64:=dI _ _ F;rcases G.write (i:=Hp a ar j) (b:=aR (((j:Nat):Int)+1) nu (iM b j)) oM oM ab3 oM (eA _ _ (rC B j))with⟨z,R,_,o⟩|⟨z,R⟩
   ·refine .inl ⟨z,R,λi g=> ?_⟩
    have n:Hp a ar i=a+2+ar*21+(i:Nat):=rfl;show(DS.write _ _ _).read _=_;rw[o _ oM];by_cases r:i=j
    ·rw[r,iP rfl,x7 t]
    ·rw[iN oM]
     exact M i oM
   ·exact .inr ⟨z,R⟩
  ·have X:(fE D a ar nu b j).2≠0:=by rw[Z];decide
   rw[sH X 1];exact .inr ⟨Z,G⟩
theorem VZ{D E:DS}{a p:Int}{M:Nat->Rg}{K:Int}(B:Bytes D.seen)(e:MI M)(T:0<=a/\a+44<=(D.n:Int))(W:E.n=D.n)(V:jt E a)(g:0<=(aJ D a).q)(d:(aJ D a).q<=K)(c:(cM D a).nu<=K)(N:K<4294967290)
 (F:aJ E a=⟨p,(aJ D a).q+1,eW (cR D a (bi M))⟩)
 (U:∀i:Nat,i<((bi M).length+42)/43->E.read (Hp a (cR D a (bi M)).ar i)=aR (((i:Nat):Int)+1) (cR D a (bi M)).nu (iM (bi M) i)):Vt E a M (K+1):=by
 have y:=iF B a;have I:=e.TS.pl;obtain⟨mk,w⟩:=nM (cR D a (bi M));have x:mk.nu=(cM D a).nu+1:=by rw[w];rfl
 have q:mk.ar=1-(cM D a).ar:=by rw[w];rfl
 have C:mk.sz=((bi M).length:Nat):=by rw[w];rfl
 have X:mk.ok=true:=by rw[w];rfl
 rw[<-w]at F U;have J:nT (eW mk)=mk:=Tg oM oM oM X;have j:¬(aJ E a).q=0:=by rw[F];show¬(aJ D a).q+1=0;omega
 have k:cM E a=mk:=by
  unfold cM;rw[show j9 E a=0 from iN j,iP rfl,show ib E a=_ from iN j,F];exact J
 have r:=zN (E:=E) (a:=a) (ar:=mk.ar) (nu:=mk.nu) (b:=bi M) oM U 21 (io _);have o:jk E a=some (bi M):=by
  unfold jk;rw[k,C,X,iN (by rintro (h|h);cases h;omega),r,oJ oM]
 have Y:ii E a=0:=by unfold ii;rw[o];rfl
 have A:gg E a=bi M:=by unfold gg;rw[o];rfl
 refine⟨by rw[W];exact T,V,?_,?_,?_,?_⟩
 ·rw[F];show(aJ D a).q+1<=_;omega
 ·rw[k,x];omega
 ·unfold mh
  rw[Y,iP rfl,A,Et e]
 ·intro _
  rw[A];exact PZ e
theorem Calm.KH(h:Calm D){L M:Nat->Rg}{K:Int}(o:Vt D a L K)(hK:K<4294967290)(e:MI M):
 (qi D a (bi M)=0/\Calm (fH D a (bi M))/\(fH D a (bi M)).n=D.n/\Vt (fH D a (bi M)) a M (K+1)/\∀j,(j<a\/a+44<=j)->(fH D a (bi M)).read j=D.read j)\/
 (qi D a (bi M)=43/\kI (fH D a (bi M)) (λE=>E.n=D.n/\(Vt E a M (K+1)\/Vt E a L K)/\∀j,(j<a\/a+44<=j)->E.read j=D.read j)):=by
 have hm:=iF h.db.b a;have M0:=e.TS.pl;have F0:=e.TS.pb;have T:=o.r;have L0:(cR D a (bi M)).ar=1-(cM D a).ar:=rfl;have H:((bi M).length+42)/43<=21:=oM
 have X:¬(cM D a).nu=4294967295:=by have:=o.nu;omega
 have G0:=(tX h.db.b a).1;have G:∀(E:DS) (j:Int),j<0->E.n=D.n->E.read j=D.read j:=λE j H W=>by unfold DS.read;rw[iP oM,iP oM]
 have w:=h.Wc (a:=a) (ar:=(cR D a (bi M)).ar) (nu:=(cR D a (bi M)).nu) (b:=bi M) T oM F0 (((bi M).length+42)/43) H;have u:(cJ D a (bi M)).2=0->qi D a (bi M)=ic (cJ D a (bi M)).1.sync a (eW (cR D a (bi M))):=λZ=>(iN X).trans (iP Z);have Y:(cJ D a (bi M)).2=0->fH D a (bi M)=cG (cJ D a (bi M)).1.sync a (eW (cR D a (bi M))):=λZ=>(iN X).trans (iP Z);have q:¬(cJ D a (bi M)).2=0->qi D a (bi M)=(cJ D a (bi M)).2:=λZ=>(iN X).trans (iN Z);have g:¬(cJ D a (bi M)).2=0->fH D a (bi M)=(cJ D a (bi M)).1:=λZ=>(iN X).trans (iN Z);have w:((cJ D a (bi M)).2=0/\Ot D (cJ D a (bi M)).1 (kM a (cR D a (bi M)).ar)/\∀i:Nat,i<((bi M).length+42)/43->(cJ D a (bi M)).1.read (Hp a (cR D a (bi M)).ar i)=aR (((i:Nat):Int)+1) (cR D a (bi M)).nu (iM (bi M) i))\/
  ((cJ D a (bi M)).2=43/\kI (cJ D a (bi M)).1 (λE=>E.n=D.n/\∀j:Int,0<=j->¬kM a (cR D a (bi M)).ar j.toNat->E.read j=D.read j)):=w
 have vf:∀E:DS,E.n=D.n->(∀j:Int,0<=j->¬kM a (cR D a (bi M)).ar j.toNat->E.read j=D.read j)->E.n=D.n/\(Vt E a M (K+1)\/Vt E a L K)/\∀j,(j<a\/a+44<=j)->E.read j=D.read j:=by
  intro E W U;have Q:=U a oM ab3;have r:=U (a+1) oM ab3;refine⟨W,.inr (o.same W (o.s.same Q r) (fW Q r) (λi z=>U _ oM ab3)),λj H=> ?_⟩;by_cases d:0<=j
  ·exact U j d ab3
  ·exact G E j oM W
 generalize cJ D a (bi M)=picks at w u Y q g;rcases w with⟨l,c,g3⟩|⟨l,c⟩
 ·have u:=u l
  have Y:=Y l;rw[u,Y];rcases c.sync with⟨S,P,y⟩|A0
  ·
   have U:∀j:Int,0<=j->¬kM a (cR D a (bi M)).ar j.toNat->picks.1.sync.read j=D.read j:=λj d H=>(y j).trans (c.rd j d H);have Q:=U a oM ab3;have r:=U (a+1) oM ab3;have I:=fW Q r;have J:=o.s.same Q r;have E0:∀i:Nat,i<((bi M).length+42)/43->picks.1.sync.read (Hp a (cR D a (bi M)).ar i)=aR (((i:Nat):Int)+1) (cR D a (bi M)).nu (iM (bi M) i):=λi z=>(y _).trans (g3 i z);have B0:∀j,(j<a\/a+44<=j)->picks.1.sync.read j=D.read j:=by
    intro j H;by_cases d:0<=j
    ·exact U j d ab3
    ·exact G _ j oM P
   have I0:Vt picks.1.sync a L K:=o.same P J I (λi z=>U _ oM ab3);have V:∀(E:DS) (p:Int),E.n=picks.1.sync.n->jt E a->aJ E a=⟨p,(aJ picks.1.sync a).q+1,eW (cR D a (bi M))⟩->(∀j,j≠a->j≠a+1->E.read j=picks.1.sync.read j)->Vt E a M (K+1):=by
    intro E p W hs C H0;rw[I]at C;refine VZ h.db.b e T (W.trans P) hs G0 o.q o.nu hK C (λi z=> ?_);have J0:Hp a (cR D a (bi M)).ar i=a+2+(cR D a (bi M)).ar*21+(i:Nat):=rfl;rw[H0 _ oM oM];exact E0 i z
   have x:∀E:DS,(∀j,j≠a->j≠a+1->E.read j=picks.1.sync.read j)->∀j,(j<a\/a+44<=j)->E.read j=D.read j:=λE he j H=>(he j oM oM).trans (B0 j H);rcases S.save (a:=a) (b:=eW (cR D a (bi M))) (by rw[P];omega) (by rw[qh];omega) (rX _) J (by rw[I];have:=o.q;omega)with⟨O,F,n,s4,s5,k⟩|⟨O,F⟩
   ·exact .inl ⟨O,F,n.trans P,V _ _ n s5 s4 k,x _ k⟩
   ·refine .inr ⟨O,F.mono (λE _ _ ⟨t1,t2,t3,t4⟩=>⟨t1.trans P,?_,x _ t4⟩)⟩
    rcases t2 with t2|t2
    ·exact .inl (V _ _ t1 t3 t2 t4)
    ·exact .inr (I0.same t1 t3 t2 (λi _=>t4 _ (by have:=(iF S.db.b a);omega) (by have:=(iF S.db.b a);omega)))
  ·
   have C0:picks.1.sync.n=D.n:=(DS.kD _).trans c.n;have t:kI (cG picks.1.sync a (eW (cR D a (bi M)))) (λE=>E.n=D.n/\∀j:Int,0<=j->¬kM a (cR D a (bi M)).ar j.toNat->E.read j=D.read j)/\ic picks.1.sync a (eW (cR D a (bi M)))=43:=by
    have R:¬(aJ picks.1.sync a).q=4294967295:=by
     have Q:picks.1.sync.read a=D.read a:=by
      have:picks.1.sync.read a=picks.1.read a:=by unfold DS.read;rw[DS.kD];unfold DS.at_;rw[DS.wj]
      rw[this];exact c.rd a oM ab3
     have r:picks.1.sync.read (a+1)=D.read (a+1):=by
      have:picks.1.sync.read (a+1)=picks.1.read (a+1):=by unfold DS.read;rw[DS.kD];unfold DS.at_;rw[DS.wj]
      rw[this];exact c.rd (a+1) oM ab3
     rw[fW Q r];have:=o.q;omega
    have hI:=ox picks.1.sync a;have K0:(lH picks.1.sync a (eW (cR D a (bi M)))).length=64:=dI _ _ (by rw[qh];omega);have D0:picks.1.sync.sync.n=D.n:=(DS.kD _).trans C0;obtain⟨w1,w2⟩:=A0.sync.write (i:=dp picks.1.sync a) (b:=lH picks.1.sync a (eW (cR D a (bi M)))) oM (by rw[D0];omega) oM;have N:p9 picks.1.sync a (eW (cR D a (bi M)))=43:=(iN R).trans w1;have hD:qk picks.1.sync a (eW (cR D a (bi M)))=_:=iN R;have A:¬p9 picks.1.sync a (eW (cR D a (bi M)))=0:=by rw[N];decide
    refine⟨?_,(iN A).trans N⟩;rw[show cG picks.1.sync a (eW (cR D a (bi M)))=_ from(iN A).trans hD];exact w2
   exact .inr ⟨t.2,t.1.mono (λE _ _ ⟨t1,t2⟩=>vf E t1 t2)⟩
 ·have B:¬picks.2=0:=by rw[l];decide
  rw[q B,g B];exact .inr ⟨l,c.mono (λE _ _ ⟨t1,t2⟩=>vf E t1 t2)⟩
def mY(c:Int):Int->List lR->Prop
 |low,[]=>low<=c
 |low,x::r=>low<=x.1/\mY c x.1 r
theorem mY.le{c:Int}:∀{l:List lR} {low:Int},mY c low l->low<=c
 |[],_,h=>h
 |_::_,_,h=>tU h.1 h.2.le
theorem mY.mono{c a:Int}(Y:c<=a):∀{l:List lR} {low:Int},mY c low l->mY a low l
 |[],_,h=>tU h Y
 |_::_,_,h=>⟨h.1,h.2.mono Y⟩
theorem mY.oN{c:Int}(b:LI):∀{l:List lR} {low:Int},mY c low l->mY c low (l++[(c,b)])
 |[],_,h=>⟨h,cO _⟩
 |_::_,_,h=>⟨h.1,h.2.oN b⟩
theorem mY.last{c:Int}:∀{l:List lR} {low:Int},mY c low l->(l.getLast?.map Prod.fst).getD low<=c
 |[],_,h=>h
 |[x],_,h=>h.2
 |_::y::r,_,h=>by
  have:=mY.last (l:=y::r) h.2;rw[List.getLast?_cons_cons]
  cases C:(y::r).getLast? with
  |none=>simp at C
  |some z=>rw[C]at this;exact this
theorem Oh(Z:0<=J.first/\J.first<4294967296)(G:0<=J.ep/\J.ep<4294967296)(M:0<=J.low/\J.low<4294967296):(kO J.slot).1=J.first/\(mw J.slot).1=J.ep/\(mv J.slot).1=J.low/\(mv J.slot).2.kw=0:=by
 have o:(256:Int)^4=4294967296:=dC
 have u:kO J.slot=(J.first,⟨aV J.ep 4++(aV J.low 4++[]),false⟩):=by
  show(Rd.mk J.slot false).num ((4:Nat):Int)=_;rw[show J.slot=aV J.first 4++(aV J.ep 4++(aV J.low 4++[]))by unfold JM.slot;rw[pI,xd]];exact en Z.1 (by rw[o];exact Z.2) oM oM _
 have Y:mw J.slot=(J.ep,⟨aV J.low 4++[],false⟩):=by
  show(kO J.slot).2.num ((4:Nat):Int)=_;rw[u];exact en G.1 (by rw[o];exact G.2) oM oM _
 have P:mv J.slot=(J.low,⟨[],false⟩):=by
  show(mw J.slot).2.num ((4:Nat):Int)=_;rw[Y];exact en M.1 (by rw[o];exact M.2) oM oM _
 rw[u,Y,P];exact⟨rfl,rfl,rfl,rfl⟩
structure Below(q e:Int)(s:LI):Prop where
 a:kY s<=e
 p:nk s<=e
 u:mj s<q
 g:jp s<q
theorem Below.next{q M e:Int}{s:LI}(h:Below q e s)(F:s.length=64)(B:Bytes s)(d:q<=M):nA M e s:=
 ⟨F,B,h.a,h.p,λx=>absurd x (by have Z:=h.g;omega),λx=>by have:=h.u;have:=x.2;omega⟩
theorem Below.mono{q M e A:Int}{s:LI}(h:Below q e s)(d:q<=M)(Y:e<=A):Below M A s:=
 ⟨tU h.a Y,tU h.p Y,XF h.u d,XF h.g d⟩
structure Jt(D:DS)(J:JM)(K T d:Int):Prop where
 ok:vV J
 r:J.at_+2+(J.n:Int)<=(D.n:Int)
 s:jt D J.at_
 q:1<=(aJ D J.at_).q/\(aJ D J.at_).q<=K
 b:(aJ D J.at_).b=J.slot
 f:1<=J.first/\J.first+(J.held.length:Nat)<=K
 e:J.ep<=T
 c:mY J.ep J.low J.held
 h:∀(k:Nat) (x:lR),J.held[k]? =some x->cg D (J.at_+2+(J.first+(k:Nat))%(J.n:Nat))=⟨J.first+(k:Nat),x.1,x.2,true⟩
 o:∀i:Nat,i<J.n->((i:Nat):Int)≠J.next%(J.n:Nat)->Below J.next J.ep (D.read (J.at_+2+(i:Nat)))
 x:nA J.next (J.ep+d) (D.read (J.sec J.next))
theorem Jt.mono{K b T T' d:Int}(h:Jt D J K T d)(Q:K<=b)(R:T<=T'):Jt D J b T' d:=
 ⟨h.ok,h.r,h.s,⟨h.q.1,tU h.q.2 Q⟩,h.b,⟨h.f.1,tU h.f.2 Q⟩,tU h.e R,h.c,h.h,h.o,h.x⟩
theorem Jt.rest(h:Jt D J K T 0):Jt D J K T 1:=
 ⟨h.ok,h.r,h.s,h.q,h.b,h.f,h.e,h.c,h.h,h.o,h.x.mono oM⟩
theorem iV(h:vV J)(q:Int):0<=q%(J.n:Int)/\q%(J.n:Int)<(J.n:Int):=by
 have:=h.n0;exact⟨OC _ oM,PX _ oM⟩
theorem Jt.alike{D E:DS}{K T d:Int}(h:Jt D J K T d)(W:E.n=D.n)(U:∀j,J.at_<=j->j<J.at_+2+(J.n:Int)->E.read j=D.read j):Jt E J K T d:=by
 have c:=h.ok.n0;have Q:=U J.at_ oM oM;have o:=U (J.at_+1) oM oM;have F:=fW Q o;refine⟨h.ok,by rw[W];exact h.r,h.s.same Q o,by rw[F];exact h.q,by rw[F];exact h.b,h.f,h.e,h.c,λk x B=> ?_,λi z X=> ?_,?_⟩
 ·have:=iV h.ok (J.first+(k:Nat))
  rw[nW (U _ oM oM)];exact h.h k x B
 ·rw[U _ oM oM]
  exact h.o i z X
 ·have:=iV h.ok J.next
  have V:J.sec J.next=J.at_+2+J.next%(J.n:Nat):=rfl;rw[U _ oM oM];exact h.x
theorem Fj{D:DS}{a:Int}{n:Nat}{first c:Int}(held:List lR)(l:∀(k:Nat) (x:lR),held[k]? =some x->cg D (a+2+(first+(k:Nat))%(n:Nat))=⟨first+(k:Nat),x.1,x.2,true⟩)
 (J:∀low,qg (kP D a n first held.length) (first+(held.length:Nat)) low c=false):∀(rest b:List lR) (f:Nat) (low:Int),held=b++rest->rest.length<=f->mY c low rest->nH D a n first c f low b=held
 |[],b,0,_,Y,_,_=>by rw[Y,xd];rfl
 |[],b,f+1,low,Y,_,_=>by
  rw[xd]at Y;subst Y;exact vm (J low)
 |x::r,b,0,_,_,F,_=>by simp at F
 |x::r,b,f+1,low,Y,F,d=>by
  have Q:held[b.length]? =some x:=by rw[Y,OB (io _),Sm];rfl
  have P:kP D a n first b.length=⟨first+(b.length:Nat),x.1,x.2,true⟩:=l _ _ Q;have Z:=d.1;have G:=d.2.le;have V:qg (kP D a n first b.length) (first+(b.length:Nat)) low c=true:=by
   rw[P];unfold qg;show(true&& !((first+(b.length:Nat)) !=(first+(b.length:Nat)))&& !decide (x.1<low)&& !decide (x.1>c))=true;rw[show((first+((b.length:Nat):Int)) !=(first+(b.length:Nat)))=false by simp,decide_eq_false (by omega),decide_eq_false (by omega)]
   rfl
  rw[zY V,P];exact Fj held l J r (b++[x]) f x.1 (by rw[Y,pI];rfl) (by simp at F;omega) d.2
theorem nA.stop{q e low c:Int}{s:LI}(h:nA q e s):qg (cW s) q low c=false:=by
 unfold qg
 cases a:jU s with
 |false=>rw[mN a];rfl
 |true=>
  rw[pT a];have X:mj s≠q:=λe=>h.n ⟨a,e⟩;show(true&& !(mj s !=q)&&_&&_)=false;rw[show(mj s !=q)=true by simpa using X]
  rfl
def JM.up(J:JM):JM:={J with ep:=J.ep+1}
theorem Jt.found(h:Jt D J K T 1)(_hT:T<=1000):j9 D J.at_=0/\vG (ib D J.at_)=true/\bZ D J.at_ J.n={J with held:=[]}/\im D J.at_ J.n=J.up:=by
 have d:¬(aJ D J.at_).q=0:=by have:=h.q.1;omega
 have N:j9 D J.at_=0:=iN d;have A:ib D J.at_=J.slot:=(iN d).trans h.b;have B:=h.ok;have Y:=h.e;obtain⟨x,q,C,X⟩:=Oh (J:=J) (by have:=B.f0;omega) B.e0 B.l0;have e:bZ D J.at_ J.n={J with held:=[]}:=by
  unfold bZ;rw[iP N,A,x,q,C]
 refine⟨N,?_,e,?_⟩
 ·rw[A]
  unfold vG;rw[x,q,C,X];have:=h.f.1;have:=h.c.le;rw[decide_eq_true (by omega),decide_eq_true (by omega)]
  rfl
 ·have R:({J with held:=[]}:JM).scan D=J.held:=by
   show nH D J.at_ J.n J.first J.ep J.n J.low []=J.held;refine Fj J.held h.h (λlow=> ?_) J.held [] J.n J.low rfl B.h0 h.c;exact h.x.stop
  unfold im tD;rw[e,R]
  rfl
theorem vV.up(h:vV J)(Y:J.ep<=1000):vV J.up:=⟨h.a0,h.n0,h.f0,by show 0<=J.ep+1/\J.ep+1<_;have:=h.e0;omega,h.l0,h.h0,h.b0⟩
theorem Jt.OG{D E:DS}{J J':JM}{K T T' d d' p:Int}(h:Jt D J K T d)(b:vV J')(C:J'.at_=J.at_)(Y:J'.n=J.n)(B:J'.next=J.next)(r:J.ep<=J'.ep)(y:J.ep+d<=J'.ep+d')(A:J'.ep<=T')
 (a:1<=J'.first/\J'.first+(J'.held.length:Nat)<=K) (W:mY J'.ep J'.low J'.held)
 (l:∀(k:Nat) (x:lR),J'.held[k]? =some x->cg D (J'.at_+2+(J'.first+(k:Nat))%(J'.n:Nat))=⟨J'.first+(k:Nat),x.1,x.2,true⟩)
 (o:E.n=D.n) (V:jt E J.at_) (F:aJ E J.at_=⟨p,(aJ D J.at_).q+1,J'.slot⟩) (U:∀j,j≠J.at_->j≠J.at_+1->E.read j=D.read j):Jt E J' (K+1) T' d':=by
 have u:=h.q;refine⟨b,by rw[C,Y,o];exact h.r,by rw[C];exact V,?_,by rw[C,F],⟨a.1,oM⟩,A,W,λk x Q=> ?_,λi z X=> ?_,?_⟩
 ·rw[C,F]
  show 1<=(aJ D J.at_).q+1/\(aJ D J.at_).q+1<=K+1;omega
 ·have:=iV b (J'.first+(k:Nat))
  rw[nW (U _ oM oM)];exact l k x Q
 ·rw[B,Y]at X
  rw[Y]at z;rw[B,C,U _ oM oM];exact(h.o i z X).mono (cO _) r
 ·have e:J'.sec J'.next=J.sec J.next:=by unfold JM.sec;rw[B,C,Y]
  have:=iV h.ok J.next;have V:J.sec J.next=J.at_+2+J.next%(J.n:Nat):=rfl;rw[e,B,U _ oM oM];exact h.x.mono y
theorem JM.Mu(J:JM):J.trim.next=J.next:=by
 show J.first+(J.held.length:Nat)+((0:Nat):Int)=J.first+(J.held.length:Nat);omega
theorem Jt.YE(h:Jt D J K T 0)(C:Calm D)(N:K<=4000000000):
 (ic D J.at_ J.trim.slot=0/\Calm (cG D J.at_ J.trim.slot)/\(cG D J.at_ J.trim.slot).n=D.n/\Jt (cG D J.at_ J.trim.slot) J.trim (K+1) T 0/\∀j,j≠J.at_->j≠J.at_+1->(cG D J.at_ J.trim.slot).read j=D.read j)\/
 (ic D J.at_ J.trim.slot=43/\kI (cG D J.at_ J.trim.slot) (λE=>E.n=D.n/\(Jt E J.trim (K+1) T 0\/Jt E J K T 0)/\∀j,j≠J.at_->j≠J.at_+1->E.read j=D.read j)):=by
 have c:=h.ok.n0;have o:=h.ok.a0;have M:=h.r;have P:=h.f;have mk:∀(E:DS) (p:Int),E.n=D.n->jt E J.at_->aJ E J.at_=⟨p,(aJ D J.at_).q+1,J.trim.slot⟩->(∀j,j≠J.at_->j≠J.at_+1->E.read j=D.read j)->Jt E J.trim (K+1) T 0:=λE p W V F U=>
  h.OG (J':=J.trim) (h.ok.trim oM) rfl rfl J.Mu (cO _) (cO _) h.e ⟨by show 1<=J.first+_;omega,by show J.first+(J.held.length:Nat)+((0:Nat):Int)<=K;omega⟩ h.c.last (λk x Q=>by simp[JM.trim]at Q) W V F U
 rcases C.save (a:=J.at_) (b:=J.trim.slot) oM (by rw[JM.qY];omega) J.trim.pR h.s (by have:=h.q;omega)with⟨d,O,I,n,u,r⟩|⟨d,O⟩
 ·exact .inl ⟨d,O,I,mk _ _ I u n r,r⟩
 ·refine .inr ⟨d,O.mono (λE _ _ ⟨t1,t2,t3,t4⟩=>⟨t1,?_,t4⟩)⟩
  rcases t2 with t2|t2
  ·exact .inl (mk _ _ t1 t3 t2 t4)
  ·refine .inr ⟨h.ok,by rw[t1];exact h.r,t3,by rw[t2];exact h.q,by rw[t2];exact h.b,h.f,h.e,h.c,λk x Q=> ?_,λi z X=> ?_,?_⟩
   ·have:=iV h.ok (J.first+(k:Nat))
    rw[nW (t4 _ oM oM)];exact h.h k x Q
   ·rw[t4 _ oM oM]
    exact h.o i z X
   ·have:=iV h.ok J.next
    have V:J.sec J.next=J.at_+2+J.next%(J.n:Nat):=rfl;rw[t4 _ oM oM];exact h.x
theorem WK{n:Nat}{q:Int}{k m:Nat}(Q:k<m)(_hm:m<=n)(_hn:1<=n)(h:(q+(k:Nat))%(n:Int)=(q+(m:Nat))%(n:Int)):k=0/\m=n\/(m-k)%n=0:=by
 refine .inr ?_;have Z:((q+(m:Nat))-(q+(k:Nat)))%(n:Int)=0:=by
  rw[Int.sub_emod,h,Int.sub_self,Int.zero_emod]
 have G:(q+((m:Nat):Int))-(q+(k:Nat))=((m-k:Nat):Int):=oM
 rw[G]at Z;omega
theorem Jt.apart{K T d:Int}(h:Jt D J K T d)(t:J.held.length<J.n){k:Nat}(Q:k<J.held.length):(J.first+(k:Nat))%(J.n:Int)≠J.next%(J.n:Int):=by
 intro Y;have c:=h.ok.n0;have Y:(J.first+(k:Nat))%(J.n:Int)=(J.first+(J.held.length:Nat))%(J.n:Int):=Y;rcases WK (q:=J.first) Q (Nat.le_of_lt t) oM Y with Z|Z
 ·omega
 ·have:(J.held.length-k)%J.n=J.held.length-k:=Ye oM
  omega
theorem vV.oN(h:vV J)(F:b.length<=43)(K:Bytes b)(t:J.held.length<J.n):vV (J.oN b):=by
 refine⟨h.a0,h.n0,h.f0,h.e0,h.l0,?_,λx B=> ?_⟩
 ·show(J.held++[(J.ep,b)]).length<=J.n
  rw[dB];exact t
 ·rcases oc.1 B with B|B
  ·exact h.b0 x B
  ·rw[nN.1 B]
   exact⟨F,K,h.e0⟩
theorem JM.zp(J:JM)(b:LI):(J.oN b).next=J.next+1:=by
 show J.first+((J.held++[(J.ep,b)]).length:Nat)=J.first+(J.held.length:Nat)+1;rw[dB];show J.first+((J.held.length+1:Nat):Int)=_;omega
theorem Jt.QJ{D E:DS}(h:Jt D J K T 0)(C:Calm D)(F:b.length<=43)(B:Bytes b)(t:J.held.length<J.n)(N:K<4294967290)(W:E.n=D.n)
 (U:∀j,0<=j->E.read j=if j=J.sec J.next then aR J.next J.ep b else D.read j):Jt E (J.oN b) (K+1) T 0:=by
 have c:=h.ok.n0;have r:=h.ok.a0;have M:=h.r;have a:=h.f;have y:=h.ok.e0;have R:J.next=J.first+(J.held.length:Nat):=rfl;have z:=iV h.ok J.next;have V:J.sec J.next=J.at_+2+J.next%(J.n:Nat):=rfl;have O:=(U J.at_ oM).trans (iN oM);have o:=(U (J.at_+1) oM).trans (iN oM);have p:=fW O o;obtain⟨f0,f1,f2,f3,f4⟩:=qw (q:=J.next) (e:=J.ep) (b:=b) oM y F;have P:∀i:Nat,i<J.n->Below (J.next+1) J.ep (E.read (J.at_+2+(i:Nat))):=by
  intro i g;rw[U _ oM];by_cases d:J.at_+2+((i:Nat):Int)=J.sec J.next
  ·rw[iP d]
   exact⟨oM,oM,oM,oM⟩
  ·rw[iN d]
   exact(h.o i g oM).mono oM (cO _)
 refine⟨h.ok.oN F B t,by rw[W];exact h.r,h.s.same O o,?_,?_,⟨a.1,?_⟩,h.e,h.c.oN b,λk x Q=> ?_,λi g _=> ?_,?_⟩
 ·show 1<=(aJ E J.at_).q/\(aJ E J.at_).q<=K+1
  rw[p];have:=h.q;omega
 ·show(aJ E J.at_).b=J.slot
  rw[p];exact h.b
 ·show J.first+((J.held++[(J.ep,b)]).length:Nat)<=K+1
  rw[dB];show J.first+((J.held.length+1:Nat):Int)<=K+1;omega
 ·have Q:(J.held++[(J.ep,b)])[k]? =some x:=Q
  show cg E (J.at_+2+(J.first+(k:Nat))%(J.n:Nat))=_;have A:=iV h.ok (J.first+(k:Nat));by_cases u:k<J.held.length
  ·rw[TE u]at Q
   have X:=h.apart t u;rw[nW ((U _ oM).trans (iN oM))];exact h.h k x Q
  ·rw[OB oM]at Q
   have I:k-J.held.length=0:=by
    rcases RX (k-J.held.length)with Z|Z
    ·exact Z
    ·rw[KV abS]at Q;cases Q
   obtain rfl:k=J.held.length:=oM
   rw[Sm]at Q;obtain rfl:(J.ep,b)=x:=ME Q;unfold cg;rw[U _ oM];rw[iP (by rw[V];rfl)];exact lS oM y F
 ·rw[JM.zp]
  exact P i g
 ·have e:(J.oN b).sec (J.oN b).next=J.at_+2+(J.next+1)%(J.n:Nat):=by unfold JM.sec;rw[JM.zp];rfl
  have A:=iV h.ok (J.next+1);rw[e,JM.zp];obtain⟨i,n⟩:∃i:Nat,((i:Nat):Int)=(J.next+1)%(J.n:Nat):=⟨((J.next+1)%(J.n:Nat)).toNat,oM⟩;rw[<-n];have G:=P i oM;have l:(E.read (J.at_+2+(i:Nat))).length=64/\Bytes (E.read (J.at_+2+(i:Nat))):=by
   rw[U _ oM]
   split
   ·exact⟨dI _ _ F,eA _ _ B⟩
   ·exact⟨rO C.db.ok oM oM,DS.fZ C.db.b _⟩
  show nA (J.next+1) (J.ep+0) _;rw[VW];exact G.next l.1 l.2 (cO _)
theorem Jt.VX{D E:DS}{t:LI}(h:Jt D J K T 0)(r:J.held.length<J.n)(W:E.n=D.n)(R:nA J.next (J.ep+1) t)
 (U:∀j,0<=j->E.read j=if j=J.sec J.next then t else D.read j):Jt E J K T 1:=by
 have c:=h.ok.n0;have S:=h.ok.a0;have M:=h.r;have z:=iV h.ok J.next;have V:J.sec J.next=J.at_+2+J.next%(J.n:Nat):=rfl;have l:=(U J.at_ oM).trans (iN oM);have o:=(U (J.at_+1) oM).trans (iN oM);have p:=fW l o;refine⟨h.ok,by rw[W];exact h.r,h.s.same l o,by rw[p];exact h.q,by rw[p];exact h.b,h.f,h.e,h.c,λk x Q=> ?_,λi g X=> ?_,?_⟩
 ·have A:=iV h.ok (J.first+(k:Nat))
  have X:=h.apart r (nQ.1 Q).1;rw[nW ((U _ oM).trans (iN oM))];exact h.h k x Q
 ·rw[U _ oM,iN oM]
  exact h.o i g X
 ·rw[U _ oM,iP rfl]
  exact R
theorem Jt.ZW(h:Jt D J K T 0)(C:Calm D)(F:b.length<=43)(B:Bytes b)(r:J.held.length<J.n)(N:K<4294967290)(A:T<256):
 (CS D J b=0/\Calm (si D J b)/\(si D J b).n=D.n/\Jt (si D J b) (J.oN b) (K+1) T 0/\∀j,j<J.at_+2->(si D J b).read j=D.read j)\/
 (CS D J b=43/\kI (si D J b) (λE=>E.n=D.n/\(Jt E (J.oN b) (K+1) T 1\/Jt E J K T 1)/\∀j,j<J.at_+2->E.read j=D.read j)):=by
 have V:=h.ok.n0;have o:=h.ok.a0;have O:=h.r;have a:=h.f;have I:=h.ok.e0;have Q:=h.e;have X:J.next=J.first+(J.held.length:Nat):=rfl;have M:=iV h.ok J.next;have Z:J.sec J.next=J.at_+2+J.next%(J.n:Nat):=rfl;have Y:(aR J.next J.ep b).length=64:=dI _ _ F;have G:∀(E:DS) (j:Int),j<0->E.n=D.n->E.read j=D.read j:=λE j H W=>by unfold DS.read;rw[iP oM,iP oM]
 have k:∀(E:DS) (t:LI),E.n=D.n->(∀j,0<=j->E.read j=if j=J.sec J.next then t else D.read j)->∀j,j<J.at_+2->E.read j=D.read j:=by
  intro E t W U j H;by_cases d:0<=j
  ·rw[U j d,iN oM]
  ·exact G E j oM W
 rcases C.one (i:=J.sec J.next) (b:=aR J.next J.ep b) oM oM Y (eA _ _ B)with⟨z,w⟩|⟨z,y⟩
 ·have S:J.wO D b=0:=z
  have u:si D J b=(D.write (J.sec J.next) (aR J.next J.ep b)).sync:=iP S;rcases w with⟨l,c,L⟩|g
  ·refine .inl ⟨?_,by rw[u];exact l,by rw[u];exact c,by rw[u];exact h.QJ C F B r N c L,by rw[u];exact k _ _ c L⟩
   unfold CS;rw[u,l.dn];exact S
  ·refine .inr ⟨?_,?_⟩
   ·unfold CS
    rw[u,g.dn]
    rfl
   ·rw[u]
    refine g.mono (λE _ _ ⟨t1,p,P,t2⟩=>⟨t1,?_,k _ _ t1 t2⟩);rcases Og (q:=J.next) (e:=J.ep) (b:=b) (s:=D.read (J.sec J.next)) (p:=p) oM oM F B P (by have:=h.x;rw[VW]at this;exact this)with R|R
    ·rw[R]at t2
     exact .inl (h.QJ C F B r N t1 t2).rest
    ·exact .inr (h.VX r t1 R t2)
 ·have S:J.wO D b=43:=z
  have n:¬J.wO D b=0:=by rw[S];decide
  have u:si D J b=D.write (J.sec J.next) (aR J.next J.ep b):=iN n;refine .inr ⟨?_,?_⟩
  ·unfold CS
   rw[u,y.dn]
   rfl
  ·rw[u]
   exact y.mono (λE _ _ ⟨t1,t2⟩=>⟨t1,.inr (h.alike t1 (λj _ _=>t2 j)).rest,λj _=>t2 j⟩)
end Go.Proofs.YtblpaldggenbaaaGreatDoor
