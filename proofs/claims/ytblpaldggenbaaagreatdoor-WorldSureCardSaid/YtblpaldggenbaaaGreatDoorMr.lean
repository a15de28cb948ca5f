/- A part. -/
import Derived.Test.YtblpaldggenbaaaGreatDoorMq
import Derived.Test.YtblpaldggenbaaaGreatDoorMp
import Derived.Test.YtblpaldggenbaaaGreatDoorMo
namespace Go.Proofs.YtblpaldggenbaaaGreatDoor
open Go.RowKit
set_option maxRecDepth 100000
set_option maxHeartbeats 64000000
variable{s:fT}
section
def q8(X:dz)(N:Nat->Rg)(n:Nat)(T:Int):Prop:=(X.up=true/\N=X.s.M/\Up X.s 0 8 (10+3*(n:Int)) T)\/(X.up=false/\Down X.s 0 8 N (10+3*(n:Int)) T)
structure fN(X:dz)(N:Nat->Rg)(n:Nat)(T:Int):Prop where
 c:q8 X N n T
 l:X.aw.length<=n
 g:∀p∈X.aw,eV p.2
section
variable {X:dz} {N:Nat->Rg} {n m:Nat} {T T':Int} {q:RQ}
theorem q8.mono(h:q8 X N n T)(p:n<=m)(A:T<=T'):q8 X N m T':=by
 rcases h with⟨a,b,c⟩|⟨a,c⟩
 ·exact .inl ⟨a,b,c.mono oM A⟩
 ·exact .inr ⟨a,c.mono oM A⟩
theorem fN.mono(h:fN X N n T)(p:n<=m)(A:T<=T'):fN X N m T':=⟨h.c.mono p A,qJ h.l p,h.g⟩
theorem q8.same(h:q8 X N n T)(y:X.up=true):N=X.s.M/\Up X.s 0 8 (10+3*(n:Int)) T:=by
 rcases h with⟨_,e,h⟩|⟨e,_⟩
 ·exact⟨e,h⟩
 ·rw[e]at y;cases y
theorem q8.cI(h:q8 X N n T)(W:n<=900000)(A:T<256)(d:eV q):
 ∃N',q8 (X.cI q) N' (n+1) T/\(X.cI q).aw=X.aw/\
  (
   (X.hZ q=true/\X.up=true/\(X.cI q).up=true/\(X.cI q).s.M=gL X.s.M q/\N'=gL X.s.M q/\X.s.mB 0 8 q=(aE X.s.M q).2)\/
   (X.hZ q=false/\X.up=true/\(X.cI q).up=false/\(X.cI q).s.M=X.s.M/\N'=gL X.s.M q/\X.s.mB 0 8 q=43)\/(X.hZ q=false/\X.up=false/\X.cI q=X/\N'=N)):=by
 have K:=h;rcases h with⟨y,c,b⟩|⟨y,C⟩
 ·have u:X.cI q=⟨X.s.jX 0 8 q,(X.s.mB 0 8 q !=43),X.aw⟩:=iP y
  rcases b.jX oM A d.ok d.b with⟨d1,d2,d3,_⟩|⟨d1,d2,d3,d4,_⟩
  ·have B:(X.s.mB 0 8 q !=43)=true:=by rw[d1];exact bne_iff_ne.2 (lI _ _).2.2
   have e:(X.s.jX 0 8 q).M=gL X.s.M q:=by
    rw[d3]
    split
    ·rfl
    ·rename_i K
     exact(iN (λh=>K h.1)).symm
   refine⟨gL X.s.M q,.inl ⟨by rw[u];exact B,by rw[u];exact e.symm,by rw[u];exact d2.mono oM (cO _)⟩,by rw[u],.inl ⟨?_,y,by rw[u];exact B,by rw[u];exact e,rfl,d1⟩⟩;unfold dz.hZ;rw[y,B]
   rfl
  ·have B:(X.s.mB 0 8 q !=43)=false:=by rw[d1];rfl
   refine⟨gL X.s.M q,.inr ⟨by rw[u];exact B,by rw[u];exact d3.mono oM (cO _)⟩,by rw[u],.inr (.inl ⟨?_,y,by rw[u];exact B,by rw[u];exact d4,rfl,d1⟩)⟩;unfold dz.hZ;rw[B,ZV]
 ·have u:X.cI q=X:=iN (by rw[y];exact iu)
  refine⟨N,by rw[u];exact K.mono oM (cO _),by rw[u],.inr (.inr ⟨?_,y,u,rfl⟩)⟩;unfold dz.hZ;rw[y]
  rfl
def zK(M N M' N':Nat->Rg)(q:RQ):Prop:=(M'=M/\N'=N)\/(N=M/\N'=gL M q/\(M'=M\/M'=gL M q))
theorem fN.cI(h:fN X N n T)(W:n<=900000)(A:T<256)(d:eV q):∃N',fN (X.cI q) N' (n+1) T/\zK X.s.M N (X.cI q).s.M N' q/\(X.cI q).aw=X.aw:=by
 obtain⟨N',Z,G,M⟩:=h.c.cI W A d;refine⟨N',⟨Z,by rw[G];exact zcZ h.l,by rw[G];exact h.g⟩,?_,G⟩;rcases M with⟨_,y,_,u,Y,_⟩|⟨_,y,_,u,Y,_⟩|⟨_,_,u,Y⟩
 ·exact .inr ⟨(h.c.same y).1,Y,.inr u⟩
 ·exact .inr ⟨(h.c.same y).1,Y,.inl u⟩
 ·exact .inl ⟨by rw[u],Y⟩
structure Vf(X:dz)(N N':Nat->Rg)(q:RQ)(a:Yp):Prop where
 u:X.up=true
 n:N=X.s.M
 u':a.x.up=true
 c:(aE X.s.M q).2=0
 m:a.x.s.M=gL X.s.M q
 n':N'=gL X.s.M q
 l:a.l=mu X.s.M q
theorem fN.ask(h:fN X N n T)(W:n<=800000)(A:T<256)(c:Int)(d:eV q)(i:Int):
 ∃N',fN (X.ask c q i).x N' (n+1) T/\(((X.ask c q i).x=X/\N'=N)\/(X.ask c q i).x=(X.send c q).cI q/\(X.ask c q i).x.aw=X.aw++[(c,q)])/\zK X.s.M N (X.ask c q i).x.s.M N' q/\((X.ask c q i).e=0->Vf X N N' q (X.ask c q i)):=by
 unfold dz.ask;by_cases C:i%2=1
 ·rw[iP C]
  exact⟨N,h.mono oM (cO _),.inl ⟨rfl,rfl⟩,.inl ⟨rfl,rfl⟩,λF=>by cases F⟩
 ·rw[iN C,iN (by rw[d.w];simp)]
  have D:q8 (X.send c q) N n T:=h.c;obtain⟨N',G,M,S⟩:=D.cI (q:=q) oM A d;have V:(X.send c q).aw=X.aw++[(c,q)]:=rfl;have B:fN ((X.send c q).cI q) N' (n+1) T:=by
   refine⟨G,by rw[M,V,dB];exact zdb h.l,λp P=> ?_⟩;rw[M,V]at P;rcases oc.1 P with P|P
   ·exact h.g p P
   ·rw[nN.1 P]
    exact d
  have l:zK X.s.M N ((X.send c q).cI q).s.M N' q:=by
   rcases S with⟨_,y,_,u,Y,_⟩|⟨_,y,_,u,Y,_⟩|⟨_,_,u,Y⟩
   ·exact .inr ⟨(h.c.same y).1,Y,.inr u⟩
   ·exact .inr ⟨(h.c.same y).1,Y,.inl u⟩
   ·exact .inl ⟨by rw[u];rfl,Y⟩
  by_cases J:(X.send c q).hZ q=false\/2<=i
  ·rw[iP J]
   exact⟨N',B,.inr ⟨rfl,M.trans V⟩,l,λF=>by cases F⟩
  ·rw[iN J]
   refine⟨N',B,.inr ⟨rfl,M.trans V⟩,l,λF=> ?_⟩;rcases S with⟨_,y,o,u,Y,_⟩|⟨e,_⟩|⟨e,_⟩
   ·exact⟨y,(h.c.same y).1,o,F,u,Y,rfl⟩
   ·exact absurd (.inl e) J
   ·exact absurd (.inl e) J
theorem fN.live(h:fN X N n T)(W:n<=900000)(A:T<256)(y:X.up=true)(c:NF X.s.D)(d:eV q):(X.cI q).up=true/\NF (X.cI q).s.D/\(X.cI q).s.M=gL X.s.M q/\X.hZ q=true:=by
 obtain⟨_,b⟩:=h.c.same y;obtain⟨d1,d2,d3,d4⟩:=b.live c oM A d.ok d.b;have B:(X.s.mB 0 8 q !=43)=true:=by rw[d1];exact bne_iff_ne.2 (lI _ _).2.2
 have e:X.cI q=⟨X.s.jX 0 8 q,(X.s.mB 0 8 q !=43),X.aw⟩:=iP y;rw[e];exact⟨B,d3,d4,by unfold dz.hZ;rw[y,B];rfl⟩
theorem fN.br(h:fN X N n T)(W:n<=900000)(A:T<=250)(G:LI):
 dE X.s.D 900000/\yK (X.s.D.br G) 0 8/\dE (X.s.D.br G) 10/\fN (X.br G) (X.br G).s.M (n+1) (T+1)/\NF (X.br G).s.D/\((X.br G).s.M=X.s.M\/(X.br G).s.M=N):=by
 have key:∀{M:Nat->Rg},Rest (X.s.D.br G) 0 8 M (10+3*(n:Int)) T->Calm (X.s.D.br G)->Live (X.s.D.br G)->yK (X.s.D.br G) 0 8/\dE (X.s.D.br G) 10/\fN (X.br G) (X.br G).s.M (n+1) (T+1)/\NF (X.br G).s.D/\(X.br G).s.M=M:=by
  intro M B F g;obtain⟨I,V,q,p,_⟩:=B.open_ F g oM A;exact⟨I,F.Mx _,⟨.inl ⟨rfl,rfl,q.mono oM (cO _)⟩,zcZ h.l,h.g⟩,p.nf,V⟩
 rcases h.c with⟨E,_,Z⟩|⟨E,Z⟩
 ·obtain⟨F,g,_,B⟩:=Z.br G
  obtain⟨a,b,c,d,e⟩:=key B F g;exact⟨Z.c.Mx _,a,b,c,d,.inl e⟩
 ·obtain⟨F,g,_,B⟩:=Z.br G
  have y:dE X.s.D 900000:=Z.ok.d.mono oM;rcases B with B|B
  ·obtain⟨a,b,c,d,e⟩:=key B F g
   exact⟨y,a,b,c,d,.inl e⟩
  ·obtain⟨a,b,c,d,e⟩:=key B F g
   exact⟨y,a,b,c,d,.inr e⟩
theorem fN.gM(h:fN X N n T){f:Int}(a: -9223372036854775808<=f/\f<=9223372036854775807):fN (X.gM f) N n T:=by
 refine⟨?_,h.l,h.g⟩;rcases h.c with⟨y,e,Z⟩|⟨y,Z⟩
 ·exact .inl ⟨y,e,Z.gM a⟩
 ·exact .inr ⟨y,Z.gM a⟩
end
end
section
def gz(gv:Nat->Int->Vw)(r t:Int)(v:Vw):Nat->Int->Vw:=aI gv r.toNat (kc (gv r.toNat) t v)
theorem oO(gv:Nat->Int->Vw)(r t:Int):gz gv r t (gv r.toNat t)=gv:=by
 unfold gz;rw[sD]
 funext j
 unfold aI
 split
 ·exact adE
 ·rfl
theorem jD(gv:Nat->Int->Vw)(r t:Int)(v:Vw):gz gv r t v r.toNat=kc (gv r.toNat) t v:=aT _ _ _
theorem aS(gv:Nat->Int->Vw)(r t:Int)(v:Vw):gz gv r t v r.toNat t=v:=by rw[jD,fA]
theorem kA(gv:Nat->Int->Vw){r t:Int}(v:Vw){j:Nat}(h:j≠r.toNat):gz gv r t v j=gv j:=bS _ _ _ _ h
theorem kE(gv:Nat->Int->Vw)(r t:Int)(v u:Vw):gz (gz gv r t v) r t u=gz gv r t u:=by
 unfold gz;rw[aT]
 funext j
 unfold aI
 split
 ·funext i
  unfold kc
  split
  ·rfl
  ·rfl
 ·rfl
structure Jx(M N:Nat->Rg)(aw:List (Int×RQ))(ev:List jZ)(gv:Nat->Int->Vw):Prop where
 rm:∀r:Int,0<=r->r<4->∃k,dF (λt=>aC r t ev) (gv r.toNat) (M r.toNat) k
 rn:∀r:Int,0<=r->r<4->∃k,dF (λt=>aC r t ev) (gv r.toNat) (N r.toNat) k
 vw:∀r t:Int,0<=r->r<4->1<=t->Qu r t (aC r t ev) (gv r.toNat t)
 st:∀p∈aw,∀r:Int,0<=r->r<4->tw r (gv r.toNat) p.2
def Cp(gv:Nat->Int->Vw)(q:RQ):Prop:=∀r:Int,0<=r->r<4->tw r (gv r.toNat) q
theorem l4{q:RQ}(d:eV q):0<=q.region:=(RQ.gT d.w).2.2.1
section
variable {M N y w:Nat->Rg} {u:List (Int×RQ)} {ev:List jZ} {n:Nat->Int->Vw} {q:RQ}
theorem Ie(U:∀r:Int,0<=r->r<4->∃k,dF (λt=>aC r t ev) (n r.toNat) (M r.toNat) k)(o:∀r t:Int,0<=r->r<4->1<=t->Qu r t (aC r t ev) (n r.toNat t))(d:eV q)(V:Cp n q):
 ∀r:Int,0<=r->r<4->∃k,dF (λt=>aC r t ev) (n r.toNat) (gL M q r.toNat) k:=by
 intro r K S;obtain⟨k,h⟩:=U r K S;by_cases Y:q.region=r
 ·exact h.late (o r · K S) (V r K S) Y
 ·rw[NT (by have:=l4 d;omega)]
  exact⟨k,h⟩
theorem Jx.heard(h:Jx M N u ev n)(d:eV q)(V:Cp n q)(l:zK M N y w q):Jx y w u ev n:=by
 rcases l with⟨rfl,rfl⟩|⟨rfl,rfl,rfl|rfl⟩
 ·exact h
 ·exact⟨h.rm,Ie h.rm h.vw d V,h.vw,h.st⟩
 ·exact⟨Ie h.rm h.vw d V,Ie h.rm h.vw d V,h.vw,h.st⟩
def Bh(v g:Vw):Prop:=v.x.dh=true->g.x.dh=true/\v.s0<=g.s0/\∀q,v.x.aq.head? =some q->q.seq<g.s0\/g.x.aq.head? =some q
theorem Bh.refl(v:Vw):Bh v v:=λh=>⟨h,cO _,λ_ h=> .inr h⟩
theorem Bh.toS{g:Int->Vw}{r t:Int}{d:Vw}(h:Bh (g t) d)(V:tw r g q):tw r (kc g t d) q:=by
 intro U D;obtain⟨Z,G⟩:=V U D;refine⟨Z,?_⟩;by_cases e:q.token=t
 ·rw[e,fA]
  rw[e]at G;rcases G with G|⟨G,M⟩
  ·exact .inl G
  ·obtain⟨a,b,c⟩:=h G
   refine .inr ⟨a,?_⟩;rcases M with M|M
   ·exact .inl oM
   ·exact c q M
 ·rw[fy _ _ e]
  exact G
theorem Jx.xR(h:Jx M N u ev n){r t:Int}(K:0<=r)(S:r<4)(g:Vw)(o:Qu r t (aC r t ev) g)(F:Bh (n r.toNat t) g)
 (c:∀x k,x=M r.toNat\/x=N r.toNat->dF (λt=>aC r t ev) (n r.toNat) x k->dF (λt=>aC r t ev) (kc (n r.toNat) t g) x k):Jx M N u ev (gz n r t g):=by
 have X:∀j:Int,0<=j->j≠r->j.toNat≠r.toNat:=λj Z G=>oM
 refine⟨λj B O=> ?_,λj B O=> ?_,λj i B O z=> ?_,λp P j B O=> ?_⟩
 ·by_cases e:j=r
  ·subst e
   obtain⟨k,Q⟩:=h.rm j B O;rw[jD];exact⟨k,c _ _ (.inl rfl) Q⟩
  ·rw[kA _ _ (X j B e)]
   exact h.rm j B O
 ·by_cases e:j=r
  ·subst e
   obtain⟨k,Q⟩:=h.rn j B O;rw[jD];exact⟨k,c _ _ (.inr rfl) Q⟩
  ·rw[kA _ _ (X j B e)]
   exact h.rn j B O
 ·by_cases e:j=r
  ·subst e
   rw[jD];by_cases Y:i=t
   ·subst Y
    rw[fA];exact o
   ·rw[fy _ _ Y]
    exact h.vw j i B O z
  ·rw[kA _ _ (X j B e)]
   exact h.vw j i B O z
 ·by_cases e:j=r
  ·subst e
   rw[jD];exact F.toS (h.st p P j B O)
  ·rw[kA _ _ (X j B e)]
   exact h.st p P j B O
end
theorem KK{S:Int->fT}{g:Int->Vw}{m:Nat->Rg}{k:Int->Nat}{r t:Int}{q:RQ}{n:List RQ}(h:dF S g (m r.toNat) k)(d:∀t,1<=t->Qu r t (S t) (g t))(R:1<=t)(U:0<=r/\r<4)(I:(g t).x.dh=true)(P:(g t).x.aq=q::n)(l:(m r.toNat).ax=t):(aE m q).2=0/\((m r.toNat).seq=(g t).s0-1->(aE m q).1=true):=by
 subst l;obtain⟨H,O,b,j,C⟩:=(d _ R).sq 0 q (by rw[P];rfl);have M:=j.w;obtain⟨_,L,w,K,c,_,E⟩:=h.fD R I;have W:Rg.next (m r.toNat) q=(false,0)/\(m r.toNat).seq≠(g (m r.toNat).ax).s0-1\/Rg.next (m r.toNat) q=(true,0)/\¬(q.op<=2/\4<=q.index):=by
  unfold Rg.next Rg.nC;rw[iN oM];rcases E with⟨e,A⟩|⟨_,_,_,e,_⟩
  ·rw[P]at A
   obtain⟨_,_,_,_,_,_,J,_,z,_⟩:=Cw c A;rw[iN oM,iN oM,iN oM];exact .inr ⟨J,z⟩
  ·rw[iP oM]
   exact .inl ⟨rfl,oM⟩
 have z:=j.i;unfold aE;rw[iN (by rw[M];simp),iN oM,iN z,iN (by rw[H];omega),iP C,H];rcases W with⟨e,J⟩|⟨e,_⟩
 ·rw[e];exact⟨rfl,λh=>absurd h J⟩
 ·rw[e];exact⟨rfl,λ_=>rfl⟩
theorem Pr{S:Int->fT}{g:Int->Vw}{m:Nat->Rg}{k:Int->Nat}{r:Int}{q:RQ}(h:dF S g (m r.toNat) k)(i:∀t,1<=t->Qu r t (S t) (g t))(U:0<=r/\r<4)(V:tw r g q)(c:q.region=r)(D:q.bI=true)(C:eV q):Fv (gL m q) q:=by
 by_cases d:(aE m q).2=0/\(aE m q).1=true
 ·exact GO d.1 d.2
 ·rw[show gL m q=m from iN d]
  unfold Fv;rw[c];obtain⟨Z,G⟩:=V c D;by_cases F:q.token<(m r.toNat).ax
  ·exact .inl F
  right
  rcases G with G|⟨I,G⟩
  ·have z:q.seq=1:=by rw[G];rfl
   by_cases Y:q.token=(m r.toNat).ax
   ·exact⟨Y,by have:=h.s1 oM;omega⟩
   ·exfalso
    refine d ?_;have W:Rg.next (m r.toNat) q=(true,0):=by
     have j:q.op=5:=by rw[G];rfl
     have Q:q.index=0:=by rw[G];rfl
     unfold Rg.next Rg.nC Rg.cT;rw[iP oM,iN oM,iN oM,iN oM]
    unfold aE;rw[iN (by rw[C.w];simp),iN oM,iN C.i,iN (by rw[c];omega),iP D,c,W];exact ac7
  ·have B:=h.fe q.token Z ((i _ Z).rf I)
   have Y:(m r.toNat).ax=q.token:=oM
   refine⟨Y.symm,?_⟩;obtain⟨_,L,w,K,_,_,E⟩:=h.fD oM (by rw[Y];exact I);rw[Y]at E;have l:(g q.token).s0-1<=(m r.toNat).seq:=by
    rcases E with⟨e,_⟩|⟨_,_,_,e,_⟩<;>omega
   rcases G with G|G
   ·omega
   ·obtain⟨n,o⟩:∃n,(g q.token).x.aq=q::n:=by
     cases P:(g q.token).x.aq with
     |nil=>rw[P]at G;cases G
     |cons a b=>rw[P]at G;injection G with G;exact⟨b,by rw[G]⟩
    have y:=((i _ Z).sq 0 q (by rw[o];rfl)).2.2.1;obtain⟨u,J⟩:=KK h i Z U I o Y;by_cases p:(m r.toNat).seq=(g q.token).s0-1
    ·exact absurd ⟨u,J p⟩ d
    ·omega
theorem Gz(m:Nat->Rg)(q:RQ)(k:Nat):gL m q k=m k\/(k=q.region.toNat/\(gL m q k).ax=q.token):=by
 unfold gL
 split
 ·by_cases e:k=q.region.toNat
  ·rw[e,aT];exact .inr ⟨rfl,rfl⟩
  ·rw[bS _ _ _ _ e];exact adH
 ·exact adH
def LN(M:Nat->Rg)(aw:List (Int×RQ)):Prop:=∀k,(M k).ax=0\/∃p∈aw,p.2.region.toNat=k/\p.2.token=(M k).ax
theorem LN.do_{M:Nat->Rg}{aw:List (Int×RQ)}(h:LN M aw){c:Int}{q:RQ}(d:(c,q)∈aw):LN (gL M q) aw:=λk=>by
 rcases Gz M q k with e|⟨u,Y⟩
 ·rw[e];exact h k
 ·exact .inr ⟨_,d,u.symm,Y.symm⟩
theorem LN.more{M:Nat->Rg}{s b:List (Int×RQ)}(h:LN M s)(V:∀p∈s,p∈b):LN M b:=λk=>(h k).imp (λx=>x) (λ⟨p,P,e⟩=>⟨p,V p P,e⟩)
theorem LN.held{M N M' N':Nat->Rg}{s:List (Int×RQ)}{c:Int}{q:RQ}(h:LN M s)(W:LN N s)(d:(c,q)∈s)(l:zK M N M' N' q):LN M' s/\LN N' s:=by
 rcases l with⟨rfl,rfl⟩|⟨rfl,rfl,rfl|rfl⟩
 ·exact⟨h,W⟩
 ·exact⟨h,h.do_ d⟩
 ·exact⟨h.do_ d,h.do_ d⟩
structure qz(X:dz)(N:Nat->Rg)(T:Int):Prop where
 t1:1<=T
 nf:T=1->X.up=true/\NF X.s.D/\∀p∈X.aw,p.2.bI=true->Fv X.s.M p.2
 hm:LN X.s.M X.aw
 hn:LN N X.aw
theorem qz.mono{X:dz}{N:Nat->Rg}{T T':Int}(h:qz X N T)(A:T<=T'):qz X N T':=⟨tU h.t1 A,λe=>h.nf (by have:=h.t1;omega),h.hm,h.hn⟩
theorem qz.cI{X:dz}{N N':Nat->Rg}{n:Nat}{T:Int}{q:RQ}{c:Int}(h:qz X N T)(D:fN X N n T)(W:n<=900000)(A:T<256)(C:eV q)(d:(c,q)∈X.aw)(l:zK X.s.M N (X.cI q).s.M N' q)(V:(X.cI q).aw=X.aw):qz (X.cI q) N' T:=by
 obtain⟨H,O⟩:=h.hm.held h.hn d l;refine⟨h.t1,λe=> ?_,by rw[V];exact H,by rw[V];exact O⟩;obtain⟨u,J,Q⟩:=h.nf e;obtain⟨d1,d2,d3,_⟩:=D.live W A u J C;refine⟨d1,d2,λp P r=> ?_⟩;rw[V]at P;rw[d3];exact zu (Q p P r)
theorem qz.ask{X:dz}{N N':Nat->Rg}{n:Nat}{T:Int}{q:RQ}{c:Int}(h:qz X N T)(D:fN X N n T)(W:n<=900000)(A:T<256)(C:eV q)(U:q.bI=true->Fv (gL X.s.M q) q)(l:zK X.s.M N ((X.send c q).cI q).s.M N' q)(V:((X.send c q).cI q).aw=X.aw++[(c,q)]):qz ((X.send c q).cI q) N' T:=by
 have g:(c,q)∈X.aw++[(c,q)]:=by simp
 have a:∀p∈X.aw,p∈X.aw++[(c,q)]:=λp P=>XE _ P;obtain⟨H,O⟩:=(h.hm.more a).held (h.hn.more a) g l;refine⟨h.t1,λe=> ?_,by rw[V];exact H,by rw[V];exact O⟩;obtain⟨u,J,Q⟩:=h.nf e;have R:q8 (X.send c q) N n T:=D.c;have b:=(R.same u).2;obtain⟨d1,d2,d3,d4⟩:=b.live J oM A C.ok C.b;have B:((X.send c q).s.mB 0 8 q !=43)=true:=by rw[d1];exact bne_iff_ne.2 (lI _ _).2.2
 have e:(X.send c q).cI q=⟨(X.send c q).s.jX 0 8 q,((X.send c q).s.mB 0 8 q !=43),(X.send c q).aw⟩:=iP u;rw[e];refine⟨B,d3,λp P r=> ?_⟩;show Fv ((X.send c q).s.jX 0 8 q).M p.2;rw[d4];rcases oc.1 P with P|P
 ·exact zu (Q p P r)
 ·rw[nN.1 P]at r⊢
  exact U r
structure WI(X:dz)(ev:List jZ)(gv:Nat->Int->Vw)(N:Nat->Rg)(n:Nat)(T:Int):Prop where
 s:fN X N n T
 z:qz X N T
 p:Jx X.s.M N X.aw ev gv
section
variable {X:dz} {ev:List jZ} {I:Nat->Int->Vw} {N:Nat->Rg} {n:Nat} {T:Int} {q:RQ} {r t:Int} {x:dO} {f:Nat} {ca:List PU}
theorem WI.mono{m:Nat}{T':Int}(h:WI X ev I N n T)(p:n<=m)(A:T<=T'):WI X ev I N m T':=⟨h.s.mono p A,h.z.mono A,h.p⟩
theorem WI.ask(h:WI X ev I N n T)(W:n<=800000)(A:T<256)(c:Int)(d:eV q)(V:Cp I q)(i:Int):
 ∃N',WI (X.ask c q i).x ev I N' (n+1) T/\((X.ask c q i).e=0->Vf X N N' q (X.ask c q i)):=by
 obtain⟨N',Z,G,M,S⟩:=h.s.ask W A c d i;have U:=h.p.heard d V M;have o:qz (X.ask c q i).x N' T:=by
  rcases G with⟨u,Y⟩|⟨u,Y⟩
  ·rw[u,Y];exact h.z
  ·rw[u]at M Y⊢
   refine h.z.ask h.s oM A d (λD=> ?_) M Y;obtain⟨k,Q⟩:=h.p.rm q.region (l4 d) d.r;exact Pr Q (h.p.vw q.region · (l4 d) d.r) ⟨l4 d,d.r⟩ (V q.region (l4 d) d.r) rfl D d
 refine⟨N',⟨Z,o,U.rm,U.rn,U.vw,λp P=> ?_⟩,S⟩;rcases G with⟨e,_⟩|⟨_,e⟩
 ·rw[e]at P
  exact U.st p P
 ·rw[e]at P
  rcases oc.1 P with P|P
  ·exact U.st p P
  ·rw[nN.1 P]
   exact V
theorem xx(D:q.bI=false):Cp I q:=λr _ _ _ h=>by rw[D]at h;cases h
theorem Mj(R:1<=t):Cp I (gE r t):=λj _ _ H _=>by
 have H:r=j:=H;subst H;exact⟨R,.inl rfl⟩
theorem uS(U:0<=r/\r<4)(R:0<=t/\t<18446744073709551616):eV (gE r t):=(uF U R (.inr (.inr rfl)) oM oM (λ_ h=>by cases h) abN).1
theorem uX(U:0<=r/\r<4)(R:0<=t/\t<18446744073709551616):eV (jH r t):=by
 refine⟨⟨R.1,R.2,cO _,(by show(0:Int)<4294967296;decide)⟩,?_,(λ_ h=>by cases h),(by show¬((3:Int)<=2/\_);omega),U.2⟩;unfold RQ.b9 jH;rw[iN (by show¬((3:Int)<1\/(5:Int)<3\/r<0\/255<r\/(0:Int)<0\/(255:Int)<0);omega),iN (by show¬24<([]:LI).length;decide)]
theorem wD{i:Int}(U:0<=r/\r<4)(z:0<=i/\i<4)(R:0<=t/\t<18446744073709551616):eV (eC r i t):=by
 refine⟨⟨R.1,R.2,cO _,(by show(0:Int)<4294967296;decide)⟩,?_,(λ_ h=>by cases h),(by show¬((1:Int)<=2/\4<=i);omega),U.2⟩;unfold RQ.b9 eC;rw[iN (by show¬((1:Int)<1\/(5:Int)<1\/r<0\/255<r\/i<0\/255<i);omega),iN (by show¬24<([]:LI).length;decide)]
theorem WI.cS(h:WI X ev I N n T)(W:n<=800000)(A:T<256)(c:Int)(U:0<=r/\r<4)(R:1<=t/\t<18446744073709551616)(J:I r.toNat t=⟨x,f,ca⟩)(u:x.dh=false)(l:Int):
 ∃N',WI (jL X c r t x l).x ev (gz I r t ⟨(jL X c r t x l).r,f,ca⟩) N' (n+1) T/\(jL X c r t x l).r={x with cS:=(jL X c r t x l).r.cS}/\((jL X c r t x l).e=0->(jL X c r t x l).r.cS=true):=by
 have j:gz I r t ⟨x,f,ca⟩=I:=by rw[<-J];exact oO I r t
 unfold jL;by_cases a:x.cS=true
 ·rw[iP a]
  exact⟨N,by rw[j];exact h.mono oM (cO _),rfl,λ_=>a⟩
 ·rw[iN a]
  obtain⟨N',Z,G⟩:=h.ask W A c (uS U oM) (Mj (r:=r) R.1) (l%4)
  split
  ·rename_i Y
   obtain⟨H,O,d,g,C,S,F⟩:=G Y;have V:=zM (m:=X.s.M) (q:=gE r t) (r:=r) rfl rfl g;have o:=Z.p.vw r t U.1 U.2 R.1;rw[J]at o;refine⟨N',⟨Z.s,Z.z,Z.p.xR U.1 U.2 _ ⟨o.nr,λ_=>rfl,o.p0,o.fp,o.sq,o.s2⟩ (λh=> ?_) (λy k E Q=> ?_)⟩,rfl,λ_=>rfl⟩
   ·rw[J,show(Vw.mk x f ca).x.dh=x.dh from rfl,u]at h
    cases h
   ·have:=Q.fenced R.1 (by rw[J];exact u) (by
     rcases E with rfl|rfl
     ·rw[C,V.1];exact cO _
     ·rw[S,V.1];exact cO _)
    rw[J]at this;exact this
  ·rename_i Y
   exact⟨N',by rw[j];exact Z,rfl,λh=>absurd h Y⟩
theorem Tz{L:List gZ}(h:∀p∈L,OD p):(dL r t 2 (L.map qN)).length<=L.length+1:=by
 rw[(DD h).2];have:=xk r t 2 (L.map (λp=>(⟨r,p.i,p.d⟩:PU)));rwa[qI]at this
theorem WI.log(h:WI X ev I N n T)(E:n<=800000)(A:T<256)(c:Int)(U:0<=r/\r<4)(R:1<=t/\t<18446744073709551616)(J:I r.toNat t=⟨x,f,ca⟩)(y:x.dh=false)(a:x.cS=true)(l:Int):
 ∃N',WI (ms X c r t x l).x ev (gz I r t ⟨(ms X c r t x l).r,f,ca⟩) N' (n+1) T/\(((ms X c r t x l).e=0/\(ms X c r t x l).r.dh=true/\(ms X c r t x l).r.bu=x.bu/\(ms X c r t x l).r.aq.length<=5/\(ms X c r t x l).r.cS=true/\(ms X c r t x l).r.seq<=7)\/((ms X c r t x l).e≠0/\(ms X c r t x l).r=x/\(X.ask c (jH r t) (l%4)).e≠0)):=by
 have j:gz I r t ⟨x,f,ca⟩=I:=by rw[<-J];exact oO I r t
 obtain⟨N',Z,G⟩:=h.ask E A c (uX (r:=r) (t:=t) U oM) (xx rfl) (l%4);unfold ms;by_cases Y:(X.ask c (jH r t) (l%4)).e=0
 ·obtain⟨H,a2,a3,g,C,S,F⟩:=G Y
  rw[iN (λh=>h Y)];rw[mP rfl]at C S;have i:=SK g;rw[F,i];obtain⟨hN,b⟩:=h.s.c.same H;have D:=b.mi;obtain⟨k,Q⟩:=h.p.rm r U.1 U.2;obtain⟨L,w,b0,B⟩:=Q.lg;obtain⟨u,K⟩:=DD (r:=r) (t:=t) (s:=2) B.ok;rw[<-B.lg]at u K;rw[iN (by rw[u];simp)];have E0:L.length<=4:=by
   have:=(D.ok r.toNat).ll;rw[B.lg,qI]at this;exact this
  have O:(dL r t 2 (X.s.M r.toNat).log).length<=5:=by
   have:=Tz (r:=r) (t:=t) B.ok;rw[<-B.lg]at this;omega
  have A0:IntKind.u32.wrap (2+((dL r t 2 (X.s.M r.toNat).log).length:Nat))=2+((dL r t 2 (X.s.M r.toNat).log).length:Nat):=IntWalk.u32_in _ oM;rw[A0];have o:=h.p.vw r t U.1 U.2 R.1;rw[J]at o;obtain⟨v1,q,V⟩:=o.nr y;have V:f=0:=V;have q:x.bu=0:=q;have M:=Fx (r:=r) rfl g;have F0:=Q.fe t R.1 (by rw[J];exact a);have d:(X.s.M r.toNat).ax=t:=by
   have M:(X.s.M r.toNat).ax<=t:=M;omega
  have z:lo r t 2 (dL r t 2 (X.s.M r.toNat).log):=by
   rw[B.lg];refine Tm U oM (λp P=>⟨B.ok p P,λD0 hz=> ?_⟩) oM oM oM;refine D.mb.l r.toNat (qN p) ?_ D0 ?_
   ·rw[B.lg]
    exact um.2 ⟨p,P,rfl⟩
   ·exact Bd _ hz
  refine⟨N',⟨Z.s,Z.z,?_⟩,.inl ⟨rfl,rfl,rfl,O,a,by show 2+((dL r t 2 (X.s.M r.toNat).log).length:Int)<=7;omega⟩⟩;refine Z.p.xR U.1 U.2 _ ⟨λh=>(by cases h),λ_=>a,o.p0,o.fp,?_,λ_=> ?_⟩ (λh=> ?_) (λC0 k' hy W=> ?_)
  ·have e:Vw.s0 ⟨⟨2+((dL r t 2 (X.s.M r.toNat).log).length:Nat),x.cS,true,dL r t 2 (X.s.M r.toNat).log,x.bu⟩,f,ca⟩=2:=by
    show 2+((dL r t 2 (X.s.M r.toNat).log).length:Int)-((dL r t 2 (X.s.M r.toNat).log).length:Nat)=2;omega
   rw[e];exact z
  ·show 2<=2+((dL r t 2 (X.s.M r.toNat).log).length:Int)-((dL r t 2 (X.s.M r.toNat).log).length:Nat)
   omega
  ·rw[J]at h
   rw[show(Vw.mk x f ca).x.dh=x.dh from rfl,y]at h
   cases h
  ·have B0:C0=X.s.M r.toNat:=by
    rcases hy with rfl|rfl
    ·rw[C]
    ·rw[S]
   subst B0;have:=W.ready R.1 (by rw[J];exact y) (by rw[J];exact V) (r:=r) (n:=2+((dL r t 2 (X.s.M r.toNat).log).length:Nat)) d rfl;rw[J]at this;rw[a,q,V];exact this
 ·rw[iP Y]
  exact⟨N',by rw[j];exact Z,.inr ⟨Y,rfl,Y⟩⟩
theorem WI.VH(h:WI X ev I N n T)(W:n<=700000)(A:T<256)(c:Int)(U:0<=r/\r<4)(R:1<=t/\t<18446744073709551616)(J:I r.toNat t=⟨x,f,ca⟩)(y:x.dh=false)(l:Int):
 ∃N',WI (cy X c r t x l).x ev (gz I r t ⟨(cy X c r t x l).r,f,ca⟩) N' (n+2) T/\(cy X c r t x l).r.aq.length<=5/\((cy X c r t x l).r.seq<=x.seq\/(cy X c r t x l).r.seq<=7)/\((cy X c r t x l).e=0->(cy X c r t x l).r.dh=true/\(cy X c r t x l).r.cS=true/\(cy X c r t x l).r.bu=x.bu):=by
 obtain⟨L,Z,G,M⟩:=h.cS oM A c U R J y l;have o:=h.p.vw r t U.1 U.2 R.1;rw[J]at o;have e:x.aq=[]:=(o.nr y).1;unfold cy;by_cases Y:(jL X c r t x l).e=0
 ·rw[iN (λh=>h Y)]
  have i:(jL X c r t x l).r.dh=false:=by rw[G];exact y
  have C:(jL X c r t x l).r.bu=x.bu:=by rw[G]
  have u:(jL X c r t x l).r.aq=[]:=by rw[G];exact e
  obtain⟨z,S,j⟩:=Z.log oM A c U R (aS _ _ _ _) i (M Y) (jL X c r t x l).l;rw[kE]at S;refine⟨z,S,?_,?_,λD=> ?_⟩
  ·rcases j with j|j
   ·exact j.2.2.2.1
   ·rw[j.2.1,u]
    exact iD _
  ·rcases j with j|j
   ·exact .inr j.2.2.2.2.2
   ·rw[j.2.1,G]
    exact .inl (cO _)
  ·rcases j with⟨_,a,b,_,d,_⟩|⟨j,_⟩
   ·exact⟨a,d,b.trans C⟩
   ·exact absurd D j
 ·rw[iP Y]
  exact⟨L,Z.mono oM (cO _),by rw[G,show({x with cS:=(jL X c r t x l).r.cS}:dO).aq=x.aq from rfl,e];exact iD _,.inl (by rw[G];exact cO _),λh=>absurd h Y⟩
theorem WI.Vd(h:WI X ev I N n T)(hn:n<=700000)(A:T<256)(c:Int)(U:0<=r/\r<4)(R:1<=t/\t<18446744073709551616)(u:x.dh=true)(a:x.cS=true){p:List RQ}(J:I r.toNat t=⟨{x with aq:=q::p},f,ca⟩)(l:Int):
 ∃L,WI (X.ask c q l).x ev I L (n+1) T/\((X.ask c q l).e=0->WI (X.ask c q l).x ev (gz I r t ⟨{x with aq:=p},f,ca⟩) L (n+1) T/\(X.ask c q l).x.s.M=gL X.s.M q):=by
 have o:=h.p.vw r t U.1 U.2 R.1;rw[J]at o;obtain⟨M,P,B,e,i⟩:=o.sq 0 q rfl;have b:Cp I q:=λj j0 j4 H _=>by
  have:j=r:=H.symm.trans M;subst this;rw[P,J];exact⟨R.1,.inr ⟨u,.inr rfl⟩⟩
 obtain⟨L,Z,K⟩:=h.ask oM A c e b l;refine⟨L,Z,λY=> ?_⟩;obtain⟨d,w,F,g,C,S,W⟩:=K Y;have V:=zM (m:=X.s.M) (q:=q) (r:=r) i M g;have D:(Vw.mk {x with aq:=q::p} f ca).s0+1=(Vw.mk {x with aq:=p} f ca).s0:=by
  show x.seq-((p.length+1:Nat):Int)+1=x.seq-(p.length:Nat);omega
 refine⟨?_,C⟩;refine⟨Z.s,Z.z,Z.p.xR U.1 U.2 _ ⟨λh=>absurd (u.symm.trans h) dC,λ_=>a,o.p0,o.fp,?_,λ_=> ?_⟩ (λ_=> ?_) (λy k E Q=> ?_)⟩
 ·rw[<-D]
  exact o.sq.tail
 ·rw[<-D]
  have:=o.s2 u;omega
 ·rw[J]
  refine⟨u,oM,λz O=> .inl ?_⟩;obtain rfl:q=z:=by simpa using O
  omega
 ·have G:y.ax=t/\y.seq=q.seq:=by
   rcases E with rfl|rfl
   ·rw[C];exact⟨V.1.trans P,V.2.1⟩
   ·rw[S];exact⟨V.1.trans P,V.2.1⟩
  have:=Q.ack R.1 (q:=q) (qs:=p) (by rw[J];exact u) (by rw[J];exact a) (by rw[J]) (by rw[J,B];omega) (by rw[J];exact o.fp) G.1 G.2;rw[J]at this;exact this
theorem WI.aq(A:T<256)(c:Int)(U:0<=r/\r<4)(R:1<=t/\t<18446744073709551616)(y:x.dh=true)(a:x.cS=true):∀(p:List RQ) (X:dz) (I:Nat->Int->Vw) (N:Nat->Rg) (n:Nat) (l:Int),n+p.length<=700000->WI X ev I N n T->I r.toNat t=⟨{x with aq:=p},f,ca⟩->
 ∃N',WI (eO c p X l).x ev (gz I r t ⟨{x with aq:=(eO c p X l).p},f,ca⟩) N' (n+p.length) T/\((eO c p X l).e=0->(eO c p X l).p=[])/\(eO c p X l).p.length<=p.length
 |[],X,I,N,n,l,_,h,J=>⟨N,by
  show WI X ev (gz I r t ⟨{x with aq:=[]},f,ca⟩) N n T;rw[<-J,oO];exact h,λ_=>rfl,io _⟩
 |q::p,X,I,N,n,l,W,h,J=>by
  rw[qR]at W;obtain⟨L,Z,G⟩:=h.Vd oM A c U R y a J (l%4);unfold eO;by_cases Y:(X.ask c q (l%4)).e=0
  ·rw[iN (λh=>h Y)]
   obtain⟨B,_⟩:=G Y;obtain⟨z,M,S,j⟩:=WI.aq A c U R y a p (X.ask c q (l%4)).x (gz I r t ⟨{x with aq:=p},f,ca⟩) L (n+1) (l/4) oM B (aS _ _ _ _);rw[kE]at M;exact⟨z,by rw[qR,show n+(p.length+1)=n+1+p.length by omega];exact M,S,zcZ j⟩
  ·rw[iP Y]
   refine⟨L,?_,λh=>absurd h Y,io _⟩;show WI (X.ask c q (l%4)).x ev (gz I r t ⟨{x with aq:=q::p},f,ca⟩) L _ T;rw[<-J,oO];exact Z.mono (by rw[qR];omega) (cO _)
end
end
section
theorem Uk(r:Int)(ws:List PU):∀n,(eL (gR r) n ws).filter (ao r)=(ws.filter (ao r)).drop n:=by
 induction ws with
 |nil=>intro n;simp[eL]
 |cons x q K=>
  intro n
  cases U:ao r x with
  |false=>
   have Z:gR r n x=(false,n):=by unfold gR;rw[show(x.region==r)=false from U];rfl
   unfold eL;rw[Z,iN iu,Ef,Ef,U,iN iu,iN iu];exact K n
  |true=>
   cases n with
   |zero=>
    have Z:gR r 0 x=(false,0):=by simp[gR]
    unfold eL;rw[Z,iN iu,Ef,Ef,U,iP rfl,iP rfl,Bg];rw[K 0,Bg]
   |succ n=>
    have Z:gR r (n+1) x=(true,n):=by unfold gR;rw[show(x.region==r)=true from U];rfl
    unfold eL;rw[Z,iP rfl,Ef,U,iP rfl,NC];exact K n
theorem keep_other{r s:Int}(X:r≠s)(ws:List PU):∀n,(eL (gR r) n ws).filter (ao s)=ws.filter (ao s):=by
 induction ws with
 |nil=>intro n;rfl
 |cons x q K=>
  intro n;unfold eL
  split
  ·rename_i h
   have J:x.region=r:=by
    unfold gR at h
    split at h
    ·rename_i G
     simp at G;exact G.1
    ·cases h
   rw[Ef,iN (by simp[ao,J,X])];exact K _
  ·rename_i h
   have G:(gR r n x).2=n:=by
    unfold gR at h⊢
    split
    ·rename_i M
     rw[iP M]at h;exact absurd rfl h
    ·rfl
   rw[Ef,Ef,G,K n]
theorem Aa{j:List PU}{r i:Int}{y:PU}(h:y∈lZ j r i):y∈j:=by
 rcases jW (cF r i) j 0 with⟨Z,G⟩|⟨k,x,Z,G,M⟩
 ·unfold lZ at h
  rw[Z,iN oM]at h;exact h
 ·rw[xS]at Z
  unfold lZ at h;rw[Z,iP oM,rE,G]at h;rcases mem_erase h with h|rfl
  ·exact h
  ·exact qP G
theorem LK{n:Nat}{j ws:List PU}{p y:PU}(o:iz n j ws)(h:y∈mr j ws p):y=p/\li j ws p.region p.index=0\/y∈j/\(keyOf y≠keyOf p\/li j ws p.region p.index≠0):=by
 rcases sw j ws p with⟨K,k,x,Z,G,M⟩|⟨K,⟨S,Z,G⟩|⟨S,_,k,x,Z,G,M⟩|⟨S,_,Z⟩⟩
 ·rw[M]at h
  rcases oc.1 h with h|h
  ·refine .inr ⟨Wo h,.inl λe=> ?_⟩
   have W:=o.nd;rw[Am Z,yu,nG]at W;rw[Wp]at h;have l:=(XB.1 W);rcases oc.1 h with h|h
   ·exact l.2.2 _ (um.2 ⟨y,h,rfl⟩) (keyOf x) abN (e.trans G.symm)
   ·exact(XQ.1 l.2.1).1 (by rw[G,<-e];exact um.2 ⟨y,h,rfl⟩)
  ·exact .inl ⟨by simpa using h,K⟩
 ·rw[G]at h
  rcases oc.1 h with h|h
  ·exact .inr ⟨h,.inl (K y h)⟩
  ·exact .inl ⟨by simpa using h,S⟩
 ·rw[M]at h
  rcases oc.1 h with h|h
  ·exact .inr ⟨Wo h,.inl (K y (Wo h))⟩
  ·exact .inl ⟨by simpa using h,S⟩
 ·rw[Z]at h
  exact .inr ⟨h,.inr (by rw[S];decide)⟩
structure lU(C:aY)(m:Nat):Prop where
 i:iz m C.bl C.wr
 w:∀p∈C.wr,0<=p.region/\p.region<4/\OD (gP p)/\Bytes p.data
 b:∀p∈C.bl,Bytes p.data/\p.data.length<=24
 q:∀k,(C.r k).seq<=300*(m:Int)+10
 p:∀k,(C.r k).aq.length<=300
section
variable {X:dz} {ev:List jZ} {D:Nat->Int->Vw} {N:Nat->Rg} {n m:Nat} {T:Int} {q:RQ} {r t:Int} {x:dO} {f:Nat} {ca ws:List PU}
structure vk(X:dz)(ev:List jZ)(D:Nat->Int->Vw)(n:Nat)(T:Int)(r t:Int)(ca ws:List PU)(b:Int)(y:Cq)(N':Nat->Rg)(f':Nat):Prop where
 w:WI y.x ev (gz D r t ⟨y.r,f',ca⟩) N' n T
 l:(y.ws.filter (ao r)).map gP=(aC r t ev).p.drop f'
 s:y.ws.Sublist ws
 o:∀j,j≠r->y.ws.filter (ao j)=ws.filter (ao j)
 q:y.r.seq<=b
 p:y.r.aq.length<=300
 e:y.e=0->y.r.dh=true/\y.r.cS=true/\y.r.aq=[]/\y.r.bu=0
theorem Dv(h:0<=x.bu)(F:(ws.filter (ao r)).map gP=(aC r t ev).p.drop f)(C:f+x.bu.toNat<=(aC r t ev).p.length):
 WW ws r x.bu=0/\ND ws r x.bu=eL (gR r) x.bu.toNat ws/\((ND ws r x.bu).filter (ao r)).map gP=(aC r t ev).p.drop (f+x.bu.toNat):=by
 have Z:=congrArg List.length F;rw[qI,km]at Z;have W:¬YR ws r x.bu:=by
  unfold YR;omega
 have e:ND ws r x.bu=eL (gR r) x.bu.toNat ws:=iN W;refine⟨iN W,e,?_⟩;rw[e,Uk,WN,F,FI]
theorem WI.mK(h:WI X ev D N n T)(W:n<=600000)(A:T<256)(c:Int)(U:0<=r/\r<4)(R:1<=t/\t<18446744073709551616)(B:D r.toNat t=⟨x,f,ca⟩)(u:x.dh=true)(a:x.cS=true)(P:x.aq.length<=300)(F:(ws.filter (ao r)).map gP=(aC r t ev).p.drop f)(l:Int):
 ∃N' i,vk X ev D (n+300) T r t ca ws x.seq (mK X c r t x ws l) N' i:=by
 have o:=h.p.vw r t U.1 U.2 R.1;rw[B]at o;obtain⟨L,Z,G,M⟩:=WI.aq A c U R u a x.aq X D N n l oM h B;unfold Go.Proofs.YtblpaldggenbaaaGreatDoor.mK;by_cases Y:(eO c x.aq X l).e=0
 ·rw[iN (λh=>h Y)]
  have I:=G Y;rw[I]at Z;obtain⟨f1,f2,f3⟩:=Dv (ev:=ev) (t:=t) o.p0 F o.fp;have g:=Z.p.vw r t U.1 U.2 R.1;rw[aS]at g;refine⟨L,f+x.bu.toNat,?_,f3,LD _ _ _,λj H=>by rw[f2];exact keep_other (λe=>H e.symm) _ _,cO _,iD _,λ_=>⟨u,a,rfl,rfl⟩⟩;have J:WI (eO c x.aq X l).x ev (gz (gz D r t ⟨{x with aq:=[]},f,ca⟩) r t ⟨{x with aq:=[],bu:=0},f+x.bu.toNat,ca⟩) L (n+300) T:=by
   refine⟨(Z.s).mono oM (cO _),Z.z,Z.p.xR U.1 U.2 _ ⟨λh=>absurd (u.symm.trans h) dC,λ_=>a,cO _,o.fp,lo.nil _ _ _,g.s2⟩ (λ_=> ?_) (λy k E Q=> ?_)⟩
   ·rw[aS]
    exact⟨u,cO _,λz O=>by cases O⟩
   ·have:=Q.Sg R.1 (by rw[aS];exact u) (by rw[aS]) (by rw[aS];exact g.fp)
    rw[aS]at this;exact this
  rw[kE]at J;exact J
 ·rw[iP Y]
  exact⟨L,f,Z.mono oM (cO _),F,KQ _,λ_ _=>rfl,cO _,qJ M P,λh=>absurd h Y⟩
theorem WI.cz(h:WI X ev D N n T)(W:n<=500000)(A:T<256)(c:Int)(U:0<=r/\r<4)(R:1<=t/\t<18446744073709551616)(J:D r.toNat t=⟨x,f,ca⟩)(P:x.aq.length<=300)(F:(ws.filter (ao r)).map gP=(aC r t ev).p.drop f){b:Int}(B:x.seq<=b)(K:10<=b)(l:Int):
 ∃N' i,vk X ev D (n+302) T r t ca ws b (cz X c r t x ws l) N' i:=by
 have o:=h.p.vw r t U.1 U.2 R.1;rw[J]at o;unfold Go.Proofs.YtblpaldggenbaaaGreatDoor.cz;by_cases y:x.dh=true
 ·rw[iP y]
  obtain⟨N',i,a⟩:=h.mK oM A c U R J y (o.rf y) P F l;exact⟨N',i,a.w.mono oM (cO _),a.l,a.s,a.o,by have:=a.q;omega,a.p,a.e⟩
 ·have y:x.dh=false:=by simpa using y
  rw[iN (by rw[y];exact iu)];obtain⟨L,Z,G,E,M⟩:=h.VH oM A c U R J y l;have g:=Z.p.vw r t U.1 U.2 R.1;rw[aS]at g;have j:(cy X c r t x l).r.seq<=b:=oM
  by_cases Y:(cy X c r t x l).e=0
  ·rw[iN (λh=>h Y)]
   obtain⟨H,O,d⟩:=M Y;obtain⟨N',i,a⟩:=Z.mK oM A c U R (aS _ _ _ _) H O oM F (cy X c r t x l).l;refine⟨N',i,?_,a.l,a.s,a.o,tU a.q j,a.p,a.e⟩;have:=a.w.mono (m:=n+302) (T':=T) oM (cO _);rwa[kE]at this
  ·rw[iP Y]
   exact⟨L,f,Z.mono oM (cO _),F,KQ _,λ_ _=>rfl,j,(by show(cy X c r t x l).r.aq.length<=300;omega),λh=>absurd h Y⟩
end
end
section
section
variable {M N:Nat->Rg} {b:List (Int×RQ)} {ev:List jZ} {a:Nat->Int->Vw} {e:jZ} {r:Int}
theorem ru(B:e.gO r=false):(λt=>aC r t (ev++[e]))=λt=>aC r t ev:=by rw[Bm,iN (by rw[B];exact iu)]
theorem jE(B:e.gO r=false)(t:Int):aC r t (ev++[e])=aC r t ev:=congrFun (ru B) t
theorem ui(C:e.gO r=true):(λt=>aC r t (ev++[e]))=kc (λt=>aC r t ev) e.t (fo (aC r e.t ev) e):=by rw[Bm,iP C]
theorem po(C:e.gO r=true):aC r e.t (ev++[e])=fo (aC r e.t ev) e:=by
 have:=congrFun (ui (ev:=ev) C) e.t;rwa[fA]at this
theorem wK{t:Int}(R:t≠e.t):aC r t (ev++[e])=aC r t ev:=by
 cases C:e.gO r with
 |false=>exact jE C t
 |true=>
  have:=congrFun (ui (ev:=ev) C) t;rwa[fy _ _ R]at this
theorem Ab(C:e.gO r=true):e.r=r/\e.t≠0/\e.e=0/\5<=e.d/\e.d<=7:=by
 unfold jZ.gO at C;simp only[mf,beq_iff_eq,bne_iff_ne,decide_eq_true_eq]at C;exact⟨C.1.1.1.1,C.1.1.1.2,C.1.1.2,C.1.2,C.2⟩
theorem Jx.bad(h:Jx M N b ev a)(B:∀r:Int,0<=r->r<4->e.gO r=false):Jx M N b (ev++[e]) a:=by
 refine⟨λr K S=> ?_,λr K S=> ?_,λr t K S R=> ?_,h.st⟩
 ·rw[ru (B r K S)];exact h.rm r K S
 ·rw[ru (B r K S)];exact h.rn r K S
 ·rw[jE (B r K S)];exact h.vw r t K S R
theorem Jx.gO(h:Jx M N b ev a)(K:0<=r)(S:r<4)(C:e.gO r=true)(g:Vw)(o:Qu r e.t (fo (aC r e.t ev) e) g)(F:Bh (a r.toNat e.t) g)
 (c:∀x k,x=M r.toNat\/x=N r.toNat->dF (λt=>aC r t ev) (a r.toNat) x k->dF (kc (λt=>aC r t ev) e.t (fo (aC r e.t ev) e)) (kc (a r.toNat) e.t g) x k):Jx M N b (ev++[e]) (gz a r e.t g):=by
 have X:∀j:Int,0<=j->j≠r->j.toNat≠r.toNat:=λj Z G=>oM
 have y:∀j:Int,j≠r->e.gO j=false:=λj H=>by
  cases J:e.gO j with
  |false=>rfl
  |true=>exact absurd ((Ab J).1.symm.trans (Ab C).1) H
 refine⟨λj B O=> ?_,λj B O=> ?_,λj i B O z=> ?_,λp P j B O=> ?_⟩
 ·by_cases d:j=r
  ·subst d
   obtain⟨k,Q⟩:=h.rm j B O;rw[jD,ui C];exact⟨k,c _ _ (.inl rfl) Q⟩
  ·rw[kA _ _ (X j B d),ru (y j d)]
   exact h.rm j B O
 ·by_cases d:j=r
  ·subst d
   obtain⟨k,Q⟩:=h.rn j B O;rw[jD,ui C];exact⟨k,c _ _ (.inr rfl) Q⟩
  ·rw[kA _ _ (X j B d),ru (y j d)]
   exact h.rn j B O
 ·by_cases d:j=r
  ·subst d
   rw[jD];by_cases Y:i=e.t
   ·subst Y
    rw[fA,po C];exact o
   ·rw[fy _ _ Y,wK Y]
    exact h.vw j i B O z
  ·rw[kA _ _ (X j B d),jE (y j d)]
   exact h.vw j i B O z
 ·by_cases d:j=r
  ·subst d
   rw[jD];exact F.toS (h.st p P j B O)
  ·rw[kA _ _ (X j B d)]
   exact h.st p P j B O
end
structure ol(C:aY)(r:Int)(v:Vw)(s:fT):Prop where
 x:v.x=C.r r.toNat
 w:(C.wr.filter (ao r)).map gP=s.p.drop v.f
 c:∀y∈C.bl,y.region=r->y∈v.ca
structure BP(C C':aY)(r:Int):Prop where
 h:C'.h=C.h
 la:C'.la=C.la
 s:C'.a9=C.a9
 sq:C'.seq=C.seq
 ck:C'.iZ=C.iZ
 rg:∀j:Nat,j≠r.toNat->C'.r j=C.r j
 w:∀j,j≠r->C'.wr.filter (ao j)=C.wr.filter (ao j)
 b:∀z∈C'.bl,z.region≠r->z∈C.bl
theorem BP.refl(C:aY)(r:Int):BP C C r:=⟨rfl,rfl,rfl,rfl,rfl,λ_ _=>rfl,λ_ _=>rfl,λ_ h _=>h⟩
theorem lU.le{C:aY}{m m':Nat}(h:lU C m)(p:m<=m'):lU C m':=⟨h.i.le p,h.w,h.b,λk=>by have:=h.q k;omega,h.p⟩
structure ot(X':dz)(ev':List jZ)(gv:Nat->Int->Vw)(n:Nat)(T:Int)(r t:Int)(C C':aY)(m:Nat)(N':Nat->Rg)(v':Vw):Prop where
 w:WI X' ev' (gz gv r t v') N' n T
 l:ol C' r v' (aC r t ev')
 s:BP C C' r
 c:lU C' m
section
variable {X:dz} {ev:List jZ} {A:Nat->Int->Vw} {N:Nat->Rg} {n m:Nat} {T:Int} {r t i:Int} {C:aY}
theorem ot.same{e:jZ}(h:WI X ev A N n T)(F:ol C r (A r.toNat t) (aC r t ev))(D:lU C m)(K:0<=r)(S:r<4)(B:∀r:Int,0<=r->r<4->e.gO r=false):ot X (ev++[e]) A n T r t C C m N (A r.toNat t):=
 ⟨by rw[oO];exact⟨h.s,h.z,h.p.bad B⟩,by rw[jE (B r K S)];exact F,BP.refl _ _,D⟩
theorem s9{e:jZ}(h:e.e≠0)(r:Int):e.gO r=false:=by
 cases J:e.gO r with
 |false=>rfl
 |true=>exact absurd (Ab J).2.2.1 h
theorem KJ{e:jZ}(h:e.d<5\/7<e.d)(r:Int):e.gO r=false:=by
 cases J:e.gO r with
 |false=>rfl
 |true=>
  have:=Ab J;omega
theorem yk{e:jZ}(U:e.r=r)(R:1<=e.t)(Y:e.e=0)(y:5<=e.d/\e.d<=7):e.gO r=true:=by
 unfold jZ.gO;simp only[mf,beq_iff_eq,bne_iff_ne,decide_eq_true_eq];exact⟨⟨⟨⟨U,oM⟩,Y⟩,y.1⟩,y.2⟩
theorem TR{e:jZ}(h:e.d=5):fo s e=⟨s.t,s.p++[⟨e.i,e.b⟩],s.s,s.k⟩:=iP h
theorem Ku{e:jZ}(h:e.d=6):fo s e=⟨s.t,s.p,s.s,s.k++[⟨(s.p.length:Nat),e.i,e.b⟩]⟩:=by
 unfold fo;rw[iN oM,iP h]
theorem Si{e:jZ}(h:e.d=7):fo s e=⟨s.t,s.p,(s.p.length:Nat),s.k⟩:=by
 unfold fo;rw[iN oM,iN oM]
theorem JT(h:WI X ev A N n T)(F:ol C r (A r.toNat t) (aC r t ev))(D:lU C m)(K:0<=r)(S:r<4)(W:1<=t){b:LI}(B:Bytes b){e:jZ}(w:e.d=5)(U:e.r=r)(A0:e.t=t)(g:e.i=i)(I:(dj C r i b).2=0->e.b=b)(G:e.e=(dj C r i b).2):
 ∃v',ot X (ev++[e]) A n T r t C (dj C r i b).1 (m+1) N v':=by
 unfold dj at I G⊢;by_cases Z:C.eI r i=0
 ·rw[iN (λh=>h Z)]at I G⊢
  have Q:0<=i/\i<4:=by
   unfold aY.eI at Z
   split at Z
   ·cases Z
   ·split at Z
    ·cases Z
    ·omega
  by_cases J:Dy C.bl C.wr ⟨r,i,b⟩=0
  ·have I:=I J
   have G:e.e=0:=G.trans J;obtain⟨z1,z2,V⟩:=yS J;have u:e.gO r=true:=yk U oM G oM;subst A0;have c:ya C.bl C.wr ⟨r,i,b⟩=mr C.bl C.wr ⟨r,i,b⟩:=iP z1;have R:Az C.bl C.wr ⟨r,i,b⟩=C.wr++[⟨r,i,b⟩]:=iP J;have q:∀y∈mr C.bl C.wr ⟨r,i,b⟩,y=⟨r,i,b⟩\/(y∈C.bl/\keyOf y≠(r,i)):=λy E=>by
    rcases LK D.i E with⟨a,_⟩|⟨a,O|O⟩
    ·exact .inl a
    ·exact .inr ⟨a,O⟩
    ·exact absurd z2 O
   have L:fo (aC r e.t ev) e=⟨(aC r e.t ev).t,(aC r e.t ev).p++[⟨i,b⟩],(aC r e.t ev).s,(aC r e.t ev).k⟩:=by
    rw[TR w,g,I]
   have o:=h.p.vw r e.t K S W;refine⟨⟨(A r.toNat e.t).x,(A r.toNat e.t).f,(mr C.bl C.wr ⟨r,i,b⟩).filter (ao r)⟩,⟨h.s,h.z,h.p.gO K S u _ ⟨o.nr,o.rf,o.p0,?_,o.sq,o.s2⟩ (Bh.refl _) (λx k _ hk=> ?_)⟩,⟨F.x,?_,λy E B0=> ?_⟩,⟨rfl,rfl,rfl,rfl,rfl,λ_ _=>rfl,λj hj=> ?_,λz l C0=> ?_⟩,⟨D.i.write,λp P=> ?_,λp P=> ?_,λk=>by have:=D.q k;show(C.r k).seq<=_;omega,D.p⟩⟩
   ·rw[L]
    have:=o.fp;show(A r.toNat e.t).g<=((aC r e.t ev).p++[(⟨i,b⟩:gZ)]).length;rw[dB];omega
   ·rw[L]
    refine hk.put W (OV _ _ _) o.fp (p:=⟨i,b⟩) Q (λy E=> ?_);obtain⟨y1,d⟩:=Ea.1 E;have d:y.region=r:=by simpa[ao]using d
    rcases q y y1 with rfl|⟨H,O⟩
    ·exact .inl ⟨rfl,rfl⟩
    ·refine .inr ⟨λY=>O ?_,F.c y H d⟩
     have Y:y.index=i:=Y;unfold keyOf;rw[d,Y]
   ·show((Az C.bl C.wr ⟨r,i,b⟩).filter (ao r)).map gP=(aC r e.t (ev++[e])).p.drop (A r.toNat e.t).f
    rw[R,Xn,yu,F.w,po u,L,show [(⟨r,i,b⟩:PU)].filter (ao r)=[⟨r,i,b⟩]by simp[ao]];have hf:(A r.toNat e.t).f<=(aC r e.t ev).p.length:=by have:=o.fp;unfold Vw.g at this;omega
    exact(Xa hf).symm
   ·have E:y∈ya C.bl C.wr ⟨r,i,b⟩:=E
    rw[c]at E;exact Ea.2 ⟨E,by simp[ao,B0]⟩
   ·show(Az C.bl C.wr ⟨r,i,b⟩).filter (ao j)=_
    rw[R,Xn,show [(⟨r,i,b⟩:PU)].filter (ao j)=[]by simp[ao];exact λh=>hj h.symm,xd]
   ·have l:z∈ya C.bl C.wr ⟨r,i,b⟩:=l
    rw[c]at l;rcases q z l with rfl|⟨H,_⟩
    ·exact absurd rfl C0
    ·exact H
   ·have P:p∈Az C.bl C.wr ⟨r,i,b⟩:=P
    rw[R]at P;rcases oc.1 P with P|P
    ·exact D.w p P
    ·rw[nN.1 P]
     exact⟨K,S,⟨Q.1,Q.2,V⟩,B⟩
   ·have P:p∈ya C.bl C.wr ⟨r,i,b⟩:=P
    rw[c]at P;rcases q p P with rfl|⟨H,_⟩
    ·exact⟨B,by show b.length<=24;have:b.length<=23:=V;omega⟩
    ·exact D.b p H
  ·have c:ya C.bl C.wr ⟨r,i,b⟩=C.bl:=by
    unfold ya
    split
    ·rename_i z
     have M:li C.bl C.wr r i≠0:=by
      intro M;apply J;unfold Dy;rw[iP z];exact M
     rcases sw C.bl C.wr ⟨r,i,b⟩with⟨a,_⟩|⟨_,⟨a,_⟩|⟨a,_⟩|⟨_,_,a⟩⟩
     ·exact absurd a M
     ·exact absurd a M
     ·exact absurd a M
     ·exact a
    ·rfl
   have R:Az C.bl C.wr ⟨r,i,b⟩=C.wr:=iN J;rw[c,R];exact⟨_,ot.same h F (D.le oM) K S (λr _ _=>s9 (by rw[G];exact J) r)⟩
 ·rw[iP Z]at I G⊢
  exact⟨_,ot.same h F (D.le oM) K S (λr _ _=>s9 (by rw[G];exact Z) r)⟩
theorem DJ{y:Cq}{N':Nat->Rg}{i n':Nat}{ca:List PU}(_:0<=r)(D:lU C m)(V:vk X ev A n' T r t ca C.wr (300*(m:Int)+10) y N' i):BP C (C.bR r.toNat y) r/\lU (C.bR r.toNat y) m:=by
 refine⟨⟨rfl,rfl,rfl,rfl,rfl,λj H=>bS _ _ _ _ H,λj H=>V.o j H,λz o _=>o⟩,⟨D.i.less V.s,λp P=>D.w p (V.s.subset P),D.b,λk=> ?_,λk=> ?_⟩⟩
 ·show(aI C.r r.toNat y.r k).seq<=_
  unfold aI
  split
  ·exact V.q
  ·exact D.q k
 ·show(aI C.r r.toNat y.r k).aq.length<=_
  unfold aI
  split
  ·exact V.p
  ·exact D.p k
theorem vk.step{y:Cq}{N':Nat->Rg}{i n':Nat}{ca:List PU}{e:jZ}(V:vk X ev A n' T r t ca C.wr (300*(m:Int)+10) y N' i)(K:0<=r)(S:r<4)(D:lU C m)(n:∀y∈C.bl,y.region=r->y∈ca)(B:∀r:Int,0<=r->r<4->e.gO r=false):
 ot y.x (ev++[e]) A n' T r t C (C.bR r.toNat y) m N' ⟨y.r,i,ca⟩:=by
 obtain⟨Z,G⟩:=DJ K D V;exact⟨⟨V.w.s,V.w.z,V.w.p.bad B⟩,⟨(aT _ _ _).symm,by rw[jE (B r K S)];exact V.l,n⟩,Z,G⟩
theorem nt(h:C.eI r i=0):0<=i/\i<4/\C.wM r=true:=by
 unfold aY.eI at h
 split at h
 ·cases h
 ·rename_i Z
  split at h
  ·cases h
  ·exact⟨oM,oM,by simpa using Z⟩
theorem MO(h:WI X ev A N n T)(hn:n<=400000)(hT:T<256)(F:ol C r (A r.toNat t) (aC r t ev))(D:lU C m)(K:0<=r)(S:r<4)(R:1<=t/\t<18446744073709551616)(O:C.tok r=t)(c l:Int)
 {e:jZ} (C0:e.d=6) (E0:e.r=r) (F0:e.t=t) (D0:e.i=i) (I:e.b=(df X c C r i l).b) (G:e.e=(df X c C r i l).e):
 ∃N' v',ot (df X c C r i l).x (ev++[e]) A (n+303) T r t C (df X c C r i l).c m N' v':=by
 unfold df at I G⊢;by_cases Z:C.eI r i=0
 case neg=>
  rw[iP Z]at I G⊢;exact⟨_,_,ot.same (h.mono oM (cO _)) F D K S (λr _ _=>s9 (by rw[G];exact Z) r)⟩
 rw[iN (λh=>h Z)]at I G⊢;obtain⟨G0,H0,_⟩:=nt Z;by_cases J:0<=gu (cF r i) 0 C.bl
 ·rw[iP J]at I G⊢
  rcases jW (cF r i) C.bl 0 with⟨a,_⟩|⟨k,x,a1,a2,a3⟩
  ·omega
  rw[xS]at a1;obtain⟨x1,x2⟩:x.region=r/\x.index=i:=by
   have:=(sL r i x).1 a3;exact⟨congrArg Prod.fst this,congrArg Prod.snd this⟩
  have hD:rv C.bl r i=x.data:=by
   unfold rv;rw[iP J,a1,rE,a2]
   rfl
  rw[hD]at I;have I:e.b=x.data:=I;have j:e.gO r=true:=yk E0 oM G oM;subst F0;have E:fo (aC r e.t ev) e=⟨(aC r e.t ev).t,(aC r e.t ev).p,(aC r e.t ev).s,(aC r e.t ev).k++[⟨((aC r e.t ev).p.length:Nat),i,x.data⟩]⟩:=by
   rw[Ku C0,D0,I]
  have B:=h.p.vw r e.t K S R.1;have N0:x∈(A r.toNat e.t).ca:=F.c x (qP a2) x1;refine⟨N,A r.toNat e.t,⟨(h.s).mono oM (cO _),h.z,h.p.gO K S j _ ?_ (Bh.refl _) (λy k _ Q=> ?_)⟩,⟨F.x,?_,λy u P0=>F.c y (Aa u) P0⟩,⟨rfl,rfl,rfl,rfl,rfl,λ_ _=>rfl,λ_ _=>rfl,λz o _=>Aa o⟩,⟨D.i.read,D.w,λp P=>D.b p (Aa P),D.q,D.p⟩⟩
  ·rw[E]
   exact aeD
  ·rw[E]
   have U:=Q.ca e.t R.1 x N0;rw[x2]at U;exact Q.look R.1 U (ca:=(A r.toNat e.t).ca) (λy u=> .inr u)
  ·rw[po j,E]
   exact F.w
 rw[iN J]at I G⊢;have O0:A r.toNat t=⟨C.r r.toNat,(A r.toNat t).f,(A r.toNat t).ca⟩:=by rw[<-F.x]
 obtain⟨N1,f1,V⟩:=h.cz (ws:=C.wr) oM hT c ⟨K,S⟩ R O0 (D.p _) F.w (D.q _) oM l;rw[<-O]at V;unfold fU at I G⊢;generalize cz X c r (C.tok r) (C.r r.toNat) C.wr l=y at I G V⊢;rw[O]at V;have L:∀z∈C.bl,z.region=r->z∈(A r.toNat t).ca:=F.c;unfold Au at I G⊢;by_cases M:y.e=0
 case neg=>
  rw[iP M]at I G⊢;have E:=V.step (e:=e) K S D L (λr _ _=>s9 (by rw[G];exact M) r);exact⟨_,_,⟨E.w.mono oM (cO _),E.l,E.s,E.c⟩⟩
 rw[iN (λh=>h M),O]at I G⊢;obtain⟨s1,s2,s3,s4⟩:=V.e M;obtain⟨H,U,h6⟩:=V.w.ask oM hT c (q:=eC r i t) (wD ⟨K,S⟩ ⟨G0,H0⟩ oM) (xx rfl) (y.l%4);have J0:vk X ev A (n+303) T r t (A r.toNat t).ca C.wr (300*(m:Int)+10) {y with x:=(y.x.ask c (eC r i t) (y.l%4)).x} H f1:=⟨U,V.l,V.s,V.o,V.q,V.p,V.e⟩;generalize S0:y.x.ask c (eC r i t) (y.l%4)=a at I G U h6 J0⊢;by_cases Y:a.e=0
 case neg=>
  rw[iP Y]at I G⊢;exact⟨_,_,J0.step (e:=e) K S D L (λr _ _=>s9 (by rw[G];exact Y) r)⟩
 rw[iN (λh=>h Y)]at I G⊢;obtain⟨b1,b2,b3,b4,b5,b6,b7⟩:=h6 Y;rw[RE b4]at b7;rw[mP rfl]at b5 b6;rw[b7]at I⊢;have I:e.b=(y.x.s.M r.toNat).b i.toNat:=I;have G:e.e=0:=G;have j:e.gO r=true:=yk E0 oM G oM;subst F0;generalize hd:(y.x.s.M r.toNat).b i.toNat=d at I;show∃N' v',ot a.x (ev++[e]) A (n+303) T r e.t C {C.bR r.toNat y with bl:=oV C.bl y.ws ⟨r,i,d⟩} m N' v';have E:fo (aC r e.t ev) e=⟨(aC r e.t ev).t,(aC r e.t ev).p,(aC r e.t ev).s,(aC r e.t ev).k++[⟨((aC r e.t ev).p.length:Nat),i,d⟩]⟩:=by
  rw[Ku C0,D0,I]
 have B:=U.p.vw r e.t K S R.1;rw[aS]at B;have hU:=(V.w.s.c.same b1).2;have I0:=hU.mi;have L0:Bytes d/\d.length<=24:=by rw[<-hd];exact⟨I0.mb.b _ _,(I0.ok _).bb _⟩
 obtain⟨c1,b⟩:=DJ K D V;have M0:∀p∈(aC r e.t ev).p.drop f1,p.i≠i:=λp P he=>by
  rw[<-V.l]at P;obtain⟨z,o,rfl⟩:=um.1 P;obtain⟨Q0,A0⟩:=Ea.1 o;have A0:z.region=r:=by simpa[ao]using A0
  obtain⟨R0,hu,Q⟩:=D.i.on z (V.s.subset Q0);have:(C.bl.any (cF r i))=true:=(De _ _ _).2 ⟨R0,hu,Q.trans (by unfold keyOf;rw[A0,show z.index=i from he])⟩;rw[<-yL _ _ 0]at this;exact J (of_decide_eq_true this)
 have g:∀z∈oV C.bl y.ws ⟨r,i,d⟩,z=⟨r,i,d⟩\/z∈C.bl:=λz o=>by
  unfold oV at o
  split at o
  ·exact .inr o
  ·rcases LK (D.i.less V.s) o with⟨z1,_⟩|⟨z1,_⟩
   ·exact .inl z1
   ·exact .inr z1
 have K0:∀x k,x=a.x.s.M r.toNat\/x=H r.toNat->dF (λt=>aC r t ev) (gz A r e.t ⟨y.r,f1,(A r.toNat e.t).ca⟩ r.toNat) x k->mC (λt=>aC r t ev) k x.ax e.t ⟨((aC r e.t ev).p.length:Nat),i,d⟩:=λx k W Q=>by
  have w:x=y.x.s.M r.toNat:=by
   rcases W with rfl|rfl
   ·rw[b5]
   ·rw[b6]
  have h8:=Q.looked R.1 (by rw[aS];exact s1) (by rw[aS];exact s2) (by rw[aS];exact s3) (by rw[aS];exact s4) (by rw[aS];have:=B.fp;unfold Vw.g at this;exact qJ (Yo _ _) this) (by rw[w];exact Fx (r:=r) (q:=eC r i e.t) rfl b4) ⟨G0,H0⟩ (by rw[aS];exact M0);rw[w,hd]at h8;rw[w];exact h8
 have hP:Jx a.x.s.M H a.x.aw (ev++[e]) (gz (gz A r e.t ⟨y.r,f1,(A r.toNat e.t).ca⟩) r e.t ⟨y.r,f1,(A r.toNat e.t).ca++[⟨r,i,d⟩]⟩):=by
  refine U.p.gO K S j _ ?_ (by rw[aS];exact Bh.refl _) (λx k W Q=> ?_)
  ·rw[E]
   exact aeD
  ·rw[E]
   have:=Q.look R.1 (K0 x k W Q) (ca:=(A r.toNat e.t).ca++[⟨r,i,d⟩]) (λz o=>by
    rcases oc.1 o with o|o
    ·rw[aS];exact .inr o
    ·rw[nN.1 o];exact .inl ⟨rfl,rfl⟩)
   rw[aS]at this;exact this
 rw[kE]at hP;refine⟨H,⟨y.r,f1,(A r.toNat e.t).ca++[⟨r,i,d⟩]⟩,⟨U.s,U.z,hP⟩,⟨(aT _ _ _).symm,by rw[po j,E];exact V.l,λz o B0=> ?_⟩,⟨rfl,rfl,rfl,rfl,rfl,c1.rg,c1.w,λz o B0=> ?_⟩,⟨(D.i.less V.s).fill (by show d.length<=_;omega),b.w,λp P=> ?_,b.q,b.p⟩⟩
 ·rcases g z o with rfl|o
  ·exact ZF _ abN
  ·exact XE _ (L z o B0)
 ·rcases g z o with rfl|o
  ·exact absurd rfl B0
  ·exact o
 ·rcases g p P with rfl|P
  ·exact L0
  ·exact D.b p P
theorem JD(h:WI X ev A N n T)(hn:n<=300000)(hm:m<=120)(hT:T<256)(F:ol C r (A r.toNat t) (aC r t ev))(D:lU C m)(K:0<=r)(S:r<4)(R:1<=t/\t<18446744073709551616)(H:C.tok r=t)(c l:Int)
 {e:jZ} (K0:e.d=7) (L0:e.r=r) (M0:e.t=t) (a:e.e=(bz X c C r l).e):
 ∃N' E,ot (bz X c C r l).x (ev++[e]) A (n+604) T r t C (bz X c C r l).c (m+1) N' E:=by
 unfold bz at a⊢;by_cases Z:C.eI r 0=0
 case neg=>
  rw[iP Z]at a⊢;exact⟨_,_,ot.same (h.mono oM (cO _)) F (D.le oM) K S (λr _ _=>s9 (by rw[a];exact Z) r)⟩
 rw[iN (λh=>h Z)]at a⊢;have T0:A r.toNat t=⟨C.r r.toNat,(A r.toNat t).f,(A r.toNat t).ca⟩:=by rw[<-F.x]
 obtain⟨j,f1,V⟩:=h.cz (ws:=C.wr) oM hT c ⟨K,S⟩ R T0 (D.p _) F.w (D.q _) oM l;rw[<-H]at V;unfold fU at a⊢;generalize cz X c r (C.tok r) (C.r r.toNat) C.wr l=y at a V⊢;rw[H]at V;have B0:∀z∈C.bl,z.region=r->z∈(A r.toNat t).ca:=F.c;have q:∀{y:Cq} {N':Nat->Rg} {i n':Nat},vk X ev A n' T r t (A r.toNat t).ca C.wr (300*((m+1:Nat):Int)+10) y N' i->n'<=n+604->(y.e=0->y.ws.filter (ao r)=[])->e.e=y.e->∃N' E,ot y.x (ev++[e]) A (n+604) T r t C (C.bR r.toNat y) (m+1) N' E:=by
  intro y N' i n' V C0 hd Y;have A0:=D.le (Nat.le_succ m);by_cases M:y.e=0
  case neg=>
   have G:=V.step (e:=e) K S A0 B0 (λr _ _=>s9 (by rw[Y];exact M) r);exact⟨_,_,⟨G.w.mono C0 (cO _),G.l,G.s,G.c⟩⟩
  obtain⟨d,g,I,s4⟩:=V.e M;have hg:e.gO r=true:=yk L0 oM oM oM;subst M0;have G:fo (aC r e.t ev) e=⟨(aC r e.t ev).t,(aC r e.t ev).p,((aC r e.t ev).p.length:Nat),(aC r e.t ev).k⟩:=Si K0;have B:=V.w.p.vw r e.t K S R.1;rw[aS]at B;obtain⟨c1,c2⟩:=DJ K A0 V;have hf:i=(aC r e.t ev).p.length:=by
   have h8:=V.l;rw[hd M]at h8;have P:=congrArg List.length h8;rw[km]at P;have P:0=(aC r e.t ev).p.length-i:=P;have:=B.fp;unfold Vw.g at this;have:i+y.r.bu.toNat<=(aC r e.t ev).p.length:=this;omega
  have hP:Jx y.x.s.M N' y.x.aw (ev++[e]) (gz (gz A r e.t ⟨y.r,i,(A r.toNat e.t).ca⟩) r e.t ⟨y.r,i,(A r.toNat e.t).ca⟩):=by
   refine V.w.p.gO K S hg _ ?_ (by rw[aS];exact Bh.refl _) (λx k hx Q=> ?_)
   ·rw[G]
    exact aeD
   ·rw[G]
    have:=Q.sure R.1 (by rw[aS];exact d) (by rw[aS];exact g) (by rw[aS];exact hf);rw[<-sD (gz A r e.t ⟨y.r,i,(A r.toNat e.t).ca⟩ r.toNat) e.t]at this;rw[aS]at this;exact this
  rw[kE]at hP;exact⟨N',⟨y.r,i,(A r.toNat e.t).ca⟩,⟨(V.w.s).mono C0 (cO _),V.w.z,hP⟩,⟨(aT _ _ _).symm,by rw[po hg,G];exact V.l,B0⟩,c1,c2⟩
 have G0:vk X ev A (n+302) T r t (A r.toNat t).ca C.wr (300*((m+1:Nat):Int)+10) y j f1:=⟨V.w,V.l,V.s,V.o,by have:=V.q;omega,V.p,V.e⟩;unfold mX at a⊢;by_cases M:y.e=0
 case neg=>
  rw[iP M]at a⊢;exact q G0 oM (λh=>absurd h M) a
 rw[iN (λh=>h M)]at a⊢;by_cases U:y.ws.filter (ao r)=[]
 ·rw[iP U]at a⊢
  exact q G0 oM (λ_=>U) (a.trans M.symm)
 rw[iN U,H]at a⊢;have O:∀p∈y.ws.filter (ao r),Ks r p/\Bytes p.data:=λp W=>by
  obtain⟨p1,p2⟩:=Ea.1 W;have:=D.w p (V.s.subset p1);exact⟨⟨by simpa[ao]using p2,this.2.2.1⟩,this.2.2.2⟩
 have D0:=uG (λp W=>(O p W).1);rw[iN (λh=>h D0)]at a⊢;obtain⟨d,g,I,s4⟩:=V.e M;have X0:(y.ws.filter (ao r)).length<=m:=qJ (Xd _ _) (qJ V.s.length_le D.i.wl);have B:=V.w.p.vw r t K S R.1;rw[aS]at B;have R0:(Vw.mk y.r f1 (A r.toNat t).ca).s0=y.r.seq:=by
  show y.r.seq-(y.r.aq.length:Nat)=y.r.seq;rw[I];exact Int.sub_zero _
 have S0:2<=y.r.seq:=by have:=B.s2 d;omega
 have E0:(dg r t y.r.seq (y.ws.filter (ao r))).length<=300:=by
  unfold dg;rw[iP D0];have:=o9 r t y.r.seq (y.ws.filter (ao r)) (((y.ws.filter (ao r)).length+3)/4);omega
 have hq:=V.q;have I0:IntKind.u32.wrap (y.r.seq+((dg r t y.r.seq (y.ws.filter (ao r))).length:Nat))=y.r.seq+((dg r t y.r.seq (y.ws.filter (ao r))).length:Nat):=IntWalk.u32_in _ oM;rw[I0]at a⊢;have H0:=Ev (s:=y.r.seq) ⟨K,S⟩ oM O oM oM oM (t:=t);generalize F0:dg r t y.r.seq (y.ws.filter (ao r))=pq at a E0 I0 H0⊢;have O0:f1<=(aC r t ev).p.length:=by have:=B.fp;unfold Vw.g at this;exact qJ (Yo _ _) this
 have V0:(y.ws.filter (ao r)).length=(aC r t ev).p.length-f1:=by
  have:=congrArg List.length V.l;rwa[qI,km]at this
 have J:WI y.x ev (gz A r t ⟨{y.r with aq:=pq,bu:=((y.ws.filter (ao r)).length:Nat),seq:=y.r.seq+(pq.length:Nat)},f1,(A r.toNat t).ca⟩) j (n+302) T:=by
  have J:WI y.x ev (gz (gz A r t ⟨y.r,f1,(A r.toNat t).ca⟩) r t ⟨{y.r with aq:=pq,bu:=((y.ws.filter (ao r)).length:Nat),seq:=y.r.seq+(pq.length:Nat)},f1,(A r.toNat t).ca⟩) j (n+302) T:=by
   have w:(Vw.mk {y.r with aq:=pq,bu:=((y.ws.filter (ao r)).length:Nat),seq:=y.r.seq+(pq.length:Nat)} f1 (A r.toNat t).ca).s0=y.r.seq:=by
    exact aeU
   refine⟨V.w.s,V.w.z,V.w.p.xR K S _ ⟨λh=>absurd (d.symm.trans h) dC,λ_=>g,by show(0:Int)<=((y.ws.filter (ao r)).length:Nat);omega,?_,by rw[w];exact H0,λ_=>by rw[w];exact S0⟩ (λ_=> ?_) (λx k _ Q=> ?_)⟩
   ·show f1+(((y.ws.filter (ao r)).length:Nat):Int).toNat<=_
    rw[rE];omega
   ·rw[aS,R0,w]
    refine⟨d,cO _,λz o=> ?_⟩;have o:y.r.aq.head? =some z:=o;rw[I]at o
    cases o
   ·have:=Q.Kc (r:=r) (n:=y.r.seq+(pq.length:Nat)) (l:=y.ws.filter (ao r)) R.1 (by rw[aS];exact d) (by rw[aS];exact I) (by rw[aS];exact s4) (by rw[aS];exact V.l) (λp W=>(O p W).1) (by rw[aS];exact O0) (by rw[aS,F0])
    rw[aS,F0]at this;exact this
  rwa[kE]at J
 obtain⟨N2,f2,o⟩:=J.cz (ws:=y.ws) oM hT c ⟨K,S⟩ R (aS _ _ _ _) E0 V.l (b:=300*((m+1:Nat):Int)+10) (by show y.r.seq+(pq.length:Int)<=_;omega) oM y.l;have W0:=o.e;have N0:∀z:Cq,z=cz y.x c r t {y.r with aq:=pq,bu:=((y.ws.filter (ao r)).length:Nat),seq:=y.r.seq+(pq.length:Nat)} y.ws y.l->z.e=0->z.ws.filter (ao r)=[]:=by
  intro z u Y;have Q0:({y.r with aq:=pq,bu:=((y.ws.filter (ao r)).length:Nat),seq:=y.r.seq+(pq.length:Nat)}:dO).dh=true:=d;unfold cz at u;rw[iP Q0]at u;unfold Go.Proofs.YtblpaldggenbaaaGreatDoor.mK at u
  split at u
  ·rename_i P0
   rw[u]at Y;exact absurd Y P0
  ·have P:=(Dv (r:=r) (t:=t) (ev:=ev) (f:=f1) (ws:=y.ws) (x:={y.r with aq:=pq,bu:=((y.ws.filter (ao r)).length:Nat),seq:=y.r.seq+(pq.length:Nat)}) (by show(0:Int)<=((y.ws.filter (ao r)).length:Nat);omega) V.l (by show f1+(((y.ws.filter (ao r)).length:Nat):Int).toNat<=_;rw[rE];omega)).2.2
   have L:=congrArg List.length P;rw[qI,km]at L;have L:((ND y.ws r ((y.ws.filter (ao r)).length:Nat)).filter (ao r)).length=(aC r t ev).p.length-(f1+(((y.ws.filter (ao r)).length:Nat):Int).toNat):=L;rw[rE]at L;rw[u];exact Xz.1 (by show((ND y.ws r ((y.ws.filter (ao r)).length:Nat)).filter (ao r)).length=0;omega)
 have U0:vk X ev A (n+604) T r t (A r.toNat t).ca C.wr (300*((m+1:Nat):Int)+10) (cz y.x c r t {y.r with aq:=pq,bu:=((y.ws.filter (ao r)).length:Nat),seq:=y.r.seq+(pq.length:Nat)} y.ws y.l) N2 f2:=by
  refine⟨?_,o.l,o.s.trans V.s,λJ0 hj=>(o.o J0 hj).trans (V.o J0 hj),o.q,o.p,o.e⟩;have:=o.w;rwa[kE]at this
 exact q U0 oM (N0 _ rfl) a
end
end
section
structure GI(X:WM)(gv:Nat->Int->Vw)(own:cU)(N:Nat->Rg)(n m:Nat)(T:Int):Prop where
 w:WI X.st X.ev gv N n T
 ci:∀c:Int,0<=c->c<3->lU (X.c c.toNat) m
 lk:∀c r:Int,0<=c->c<3->0<=r->r<4->1<=(X.c c.toNat).tok r->ol (X.c c.toNat) r (gv r.toNat ((X.c c.toNat).tok r)) (aC r ((X.c c.toNat).tok r) X.ev)/\own ((X.c c.toNat).tok r)=(r,c)
 tk:∀c r:Int,0<=c->c<3->0<=(X.c c.toNat).tok r/\(X.c c.toNat).tok r<=X.sv.be.last
 pr:∀r t:Int,0<=r->r<4->X.sv.be.last<t->gv r.toNat t=Vw.zero/\aC r t X.ev=jB t
 tb:kK X.sv.be own
 lb:X.sv.be.last<=20*(m:Int)
 hc:∀i,i<4->∀h∈(X.sv.be.r i).h,0<=h.c/\h.c<3/\(aP X.sv.a9 h.c).isSome=true
 wc:∀i,i<4->∀w∈(X.sv.be.r i).w,0<=w.c/\w.c<3/\(aP X.sv.a9 w.c).isSome=true
 fr:∀r:Int,0<=r->r<4->∀h∈(X.sv.be.r r.toNat).h,(X.c h.c.toNat).a9=true->h.t=(X.c h.c.toNat).tok r\/(gv r.toNat h.t=Vw.zero/\aC r h.t X.ev=jB h.t)
 la:∀r:Int,0<=r->r<4->∀h∈(X.sv.be.r r.toNat).h,(X.c h.c.toNat).la r.toNat<=h.t
 ll:∀c r:Int,0<=c->c<3->0<=r->r<4->(X.c c.toNat).la r.toNat<=X.sv.be.last
 ss:∀c:Int,0<=c->c<3->(X.c c.toNat).a9=true->(aP X.sv.a9 c).isSome=true
 s0:∀c:Int,0<=c->c<3->(X.c c.toNat).a9=false->∀r,(X.c c.toNat).tok r=0
 ev:∀e∈X.ev,∀r,e.gO r=true->1<=e.t/\e.t<=X.sv.be.last
 ed:∀e∈X.ev,e.d=5->e.e=0->e.b.length<=23
 hz:∀c:Int,0<=c->c<3->∀k:Nat,(X.c c.toNat).h k=qO.zero\/1<=((X.c c.toNat).h k).t
section
variable {X:WM} {P:Nat->Int->Vw} {own g:cU} {N Z:Nat->Rg} {n n' m m':Nat} {T T':Int}
theorem GI.mono(h:GI X P own N n m T)(W:n<=n')(p:m<=m')(A:T<=T'):GI X P own N n' m' T':=
 ⟨h.w.mono W A,λc K M=>(h.ci c K M).le p,h.lk,h.tk,h.pr,h.tb,by have:=h.lb;omega,h.hc,h.wc,h.fr,h.la,h.ll,h.ss,h.s0,h.ev,h.ed,h.hz⟩
theorem GI.bad(h:GI X P own N n m T){e:jZ}(B:∀r,e.gO r=false)(y:e.d=5->e.e=0->e.b.length<=23):GI ⟨X.sv,X.st,X.c,X.ev++[e]⟩ P own N n m T:=by
 refine⟨⟨h.w.s,h.w.z,h.w.p.bad (λr _ _=>B r)⟩,h.ci,λc r K M Q L R=> ?_,h.tk,λr t Q L R=> ?_,h.tb,h.lb,h.hc,h.wc,λr Q L x J V=> ?_,h.la,h.ll,h.ss,h.s0,λx J r C=> ?_,λx J=> ?_,h.hz⟩
 ·rw[jE (B r)];exact h.lk c r K M Q L R
 ·rw[jE (B r)];exact h.pr r t Q L R
 ·rw[jE (B r)];exact h.fr r Q L x J V
 ·rcases oc.1 J with J|J
  ·exact h.ev x J r C
  ·rw[nN.1 J,B]at C;cases C
 ·rcases oc.1 J with J|J
  ·exact h.ed x J
  ·rw[nN.1 J];exact y
theorem GI.store(h:GI X P own N n m T){p:dz}(M:WI p X.ev P Z n' T'):GI ⟨X.sv,p,X.c,X.ev⟩ P own Z n' m T':=
 ⟨M,h.ci,h.lk,h.tk,h.pr,h.tb,h.lb,h.hc,h.wc,h.fr,h.la,h.ll,h.ss,h.s0,h.ev,h.ed,h.hz⟩
theorem cK(f:Nat->aY){c r:Int}(C:aY)(K:0<=c)(l:0<=r):(r=c/\aI f c.toNat C r.toNat=C)\/(r≠c/\aI f c.toNat C r.toNat=f r.toNat):=by
 rcases cL f c.toNat r.toNat C with⟨e,h⟩|⟨e,h⟩
 ·exact .inl ⟨oM,h⟩
 ·exact .inr ⟨λY=>e (by rw[Y]),h⟩
theorem ol.same{C I:aY}{r j:Int}{v:Vw}(h:ol C j v s)(V:BP C I r)(H:j≠r)(W:j.toNat≠r.toNat):ol I j v s:=
 ⟨h.x.trans (V.rg _ W).symm,by rw[V.w j H];exact h.w,λy E w=>h.c y (V.b y E (by rw[w];exact H)) w⟩
theorem xa{C I:aY}(h:I.h=C.h)(r:Int):I.tok r=C.tok r:=by unfold aY.tok;rw[h]
theorem GI.block(h:GI X P own N n m T){c r:Int}(K:0<=c)(M:c<3)(r0:0<=r)(r4:r<4)(Q:1<=(X.c c.toNat).tok r){e:jZ}(C0:e.r=r)(L:e.t=(X.c c.toNat).tok r)(B0:e.d=5->e.e=0->e.b.length<=23){R:dz}{I:aY}{g:Vw}(hm:m<=m')
 (V:ot R (X.ev++[e]) P n' T r ((X.c c.toNat).tok r) (X.c c.toNat) I m' Z g):
 GI ⟨X.sv,R,aI X.c c.toNat I,X.ev++[e]⟩ (gz P r ((X.c c.toNat).tok r) g) own Z n' m' T:=by
 have C:=(h.lk c r K M r0 r4 Q).2;have A:∀j:Int,0<=j->j≠r->j.toNat≠r.toNat:=λj h1 h2=>oM
 have E:∀j:Int,j≠r->e.gO j=false:=λj H=>by
  cases J:e.gO j with
  |false=>rfl
  |true=>exact absurd ((Ab J).1.symm.trans C0) H
 have E0:=h.tk c r K M;have S:∀j i:Int,0<=j->j<4->(j=r->i≠(X.c c.toNat).tok r)->P j.toNat i=Vw.zero/\aC j i X.ev=jB i->gz P r ((X.c c.toNat).tok r) g j.toNat i=Vw.zero/\aC j i (X.ev++[e])=jB i:=λj i B O z hz=>by
  by_cases d:j=r
  ·subst d
   rw[jD,fy _ _ (z rfl),wK (by rw[L];exact z rfl)];exact hz
  ·rw[kA _ _ (A j B d),jE (E j d)]
   exact hz
 refine⟨V.w,λy l t=> ?_,λy w l t D A0 o=> ?_,λy w l t=> ?_,λj i B O z=> ?_,h.tb,by show X.sv.be.last<=20*(m':Int);have:=h.lb;omega,h.hc,h.wc,λj B O x J W=> ?_,λj B O x J=> ?_,λy j l t B O=> ?_,λy l t W=> ?_,λy l t W j=> ?_,λx J j hg=> ?_,λx J=> ?_,λy l t k=> ?_⟩
 ·show lU (aI X.c c.toNat I y.toNat) m'
  rcases cK X.c I K l with⟨_,Y⟩|⟨_,Y⟩
  ·rw[Y];exact V.c
  ·rw[Y];exact(h.ci y l t).le hm
 ·show ol (aI X.c c.toNat I y.toNat) w (gz P r ((X.c c.toNat).tok r) g w.toNat ((aI X.c c.toNat I y.toNat).tok w)) (aC w ((aI X.c c.toNat I y.toNat).tok w) (X.ev++[e]))/\own ((aI X.c c.toNat I y.toNat).tok w)=(w,y)
  have o:1<=(aI X.c c.toNat I y.toNat).tok w:=o;rcases cK X.c I K l with⟨q,Y⟩|⟨q,Y⟩
  ·rw[Y]at o⊢
   rw[xa V.s.h]at o⊢;subst q;by_cases d:w=r
   ·subst d
    rw[jD,fA];exact⟨V.l,C⟩
   ·obtain⟨a,b⟩:=h.lk y w l t D A0 o
    rw[kA _ _ (A w D d),jE (E w d)];exact⟨a.same V.s d (A w D d),b⟩
  ·rw[Y]at o⊢
   obtain⟨a,b⟩:=h.lk y w l t D A0 o;refine⟨?_,b⟩;by_cases d:w=r
   ·subst d
    have p:(X.c y.toNat).tok w≠(X.c c.toNat).tok w:=λF=>by
     rw[F,C]at b;exact q (congrArg Prod.snd b).symm
    rw[jD,fy _ _ p,wK (by rw[L];exact p)];exact a
   ·rw[kA _ _ (A w D d),jE (E w d)]
    exact a
 ·show 0<=(aI X.c c.toNat I y.toNat).tok w/\(aI X.c c.toNat I y.toNat).tok w<=_
  rcases cK X.c I K l with⟨q,Y⟩|⟨_,Y⟩
  ·rw[Y,xa V.s.h];exact h.tk c w K M
  ·rw[Y];exact h.tk y w l t
 ·refine S j i B O (λd=> ?_) (h.pr j i B O z)
  have:X.sv.be.last<i:=z;omega
 ·have G:=h.hc _ oM x J
  show x.t=(aI X.c c.toNat I x.c.toNat).tok j\/_;have W:(aI X.c c.toNat I x.c.toNat).a9=true:=W;have U:x.t=(X.c x.c.toNat).tok j\/(P j.toNat x.t=Vw.zero/\aC j x.t X.ev=jB x.t):=by
   refine h.fr j B O x J ?_;rcases cK X.c I K G.1 with⟨q,Y⟩|⟨_,Y⟩
   ·rw[Y,V.s.s]at W
    rw[q];exact W
   ·rw[Y]at W;exact W
  have D0:(aI X.c c.toNat I x.c.toNat).tok j=(X.c x.c.toNat).tok j:=by
   rcases cK X.c I K G.1 with⟨q,Y⟩|⟨_,Y⟩
   ·rw[Y,xa V.s.h,q]
   ·rw[Y]
  rw[D0];rcases U with U|U
  ·exact .inl U
  ·by_cases H:j=r/\x.t=(X.c c.toNat).tok r
   ·left
    have u:=(h.tb.own _ oM x J).1;rw[H.2,C]at u;have Y:c=x.c:=congrArg Prod.snd u;rw[H.2,<-Y,H.1]
   ·exact .inr (S j x.t B O (λd F=>H ⟨d,F⟩) U)
 ·have G:=h.hc _ oM x J
  show(aI X.c c.toNat I x.c.toNat).la j.toNat<=x.t;rcases cK X.c I K G.1 with⟨q,Y⟩|⟨_,Y⟩
  ·rw[Y,V.s.la,<-q];exact h.la j B O x J
  ·rw[Y];exact h.la j B O x J
 ·show(aI X.c c.toNat I y.toNat).la j.toNat<=_
  rcases cK X.c I K l with⟨q,Y⟩|⟨_,Y⟩
  ·rw[Y,V.s.la];exact h.ll c j K M B O
  ·rw[Y];exact h.ll y j l t B O
 ·have W:(aI X.c c.toNat I y.toNat).a9=true:=W
  rcases cK X.c I K l with⟨q,Y⟩|⟨_,Y⟩
  ·rw[Y,V.s.s]at W;rw[q];exact h.ss c K M W
  ·rw[Y]at W;exact h.ss y l t W
 ·have W:(aI X.c c.toNat I y.toNat).a9=false:=W
  show(aI X.c c.toNat I y.toNat).tok j=0;rcases cK X.c I K l with⟨q,Y⟩|⟨_,Y⟩
  ·rw[Y,V.s.s]at W;rw[Y,xa V.s.h];exact h.s0 c K M W j
  ·rw[Y]at W⊢;exact h.s0 y l t W j
 ·rcases oc.1 J with J|J
  ·exact h.ev x J j hg
  ·rw[nN.1 J,L]
   exact⟨Q,E0.2⟩
 ·rcases oc.1 J with J|J
  ·exact h.ed x J
  ·rw[nN.1 J];exact B0
 ·show(aI X.c c.toNat I y.toNat).h k=qO.zero\/1<=((aI X.c c.toNat I y.toNat).h k).t
  rcases cK X.c I K l with⟨q,Y⟩|⟨_,Y⟩
  ·rw[Y,V.s.h];exact h.hz c K M k
  ·rw[Y];exact h.hz y l t k
theorem GI.serve(h:GI X P own N n m T){S:gD}{c:Int}{q:Int}(C:Mw q X.sv.be own S.be g c)(o:q<=20*((m':Int)-(m:Int)))(k:0<=c/\c<3)(p:m<=m')
 (l:∀i,i<4->∀x∈(S.be.r i).h,(aP S.a9 x.c).isSome=true) (V:∀i,i<4->∀x∈(S.be.r i).w,(aP S.a9 x.c).isSome=true) (d:∀c:Int,0<=c->c<3->(X.c c.toNat).a9=true->(aP S.a9 c).isSome=true):
 GI ⟨S,X.st,X.c,X.ev⟩ P g N n m' T:=by
 have F:=C.last;have B:∀i,i<4->∀x∈(S.be.r i).h,0<=x.c/\x.c<3:=λi z x J=>by
  rcases C.h i z x J with⟨_,e|⟨w,V,e⟩⟩|⟨y,E,e,_⟩
  ·rw[e];exact k
  ·have:=h.wc i z w V;rw[<-e];exact⟨this.1,this.2.1⟩
  ·have:=h.hc i z y E;rw[<-e];exact⟨this.1,this.2.1⟩
 refine⟨h.w,λc K M=>(h.ci c K M).le p,λj r K M Q L R=> ?_,λj r K M=> ?_,λr t Q L R=> ?_,C.i,?_,λi z x J=>⟨(B i z x J).1,(B i z x J).2,l i z x J⟩,λi z x J=> ?_,λr Q L x J W=> ?_,λr Q L x J=> ?_,λj r K M Q L=> ?_,d,h.s0,λx J r A=> ?_,h.ed,h.hz⟩
 ·obtain⟨a,b⟩:=h.lk j r K M Q L R
  exact⟨a,(C.vf _ (h.tk j r K M).2).trans b⟩
 ·have:=h.tk j r K M
  exact⟨this.1,tU this.2 F⟩
 ·exact h.pr r t Q L (zcV F R)
 ·have:=h.lb
  have:=C.up;show S.be.last<=_;omega
 ·rcases C.w i z x J with e|G
  ·exact⟨by rw[e];exact k.1,by rw[e];exact k.2,V i z x J⟩
  ·have:=h.wc i z x G
   exact⟨this.1,this.2.1,V i z x J⟩
 ·rcases C.h _ oM x J with⟨a,_⟩|⟨y,E,u,Y⟩
  ·exact .inr (h.pr r x.t Q L a)
  ·have W:(X.c x.c.toNat).a9=true:=W
   rw[<-u]at W⊢;rw[<-Y];exact h.fr r Q L y E W
 ·show(X.c x.c.toNat).la r.toNat<=x.t
  rcases C.h _ oM x J with⟨a,_⟩|⟨y,E,u,Y⟩
  ·have:=B _ oM x J
   have:=h.ll x.c r this.1 this.2 Q L;omega
  ·rw[<-u,<-Y]
   exact h.la r Q L y E
 ·exact tU (h.ll j r K M Q L) F
 ·have:=h.ev x J r A
  exact⟨this.1,tU this.2 F⟩
def CTo(X:WM)(P:Nat->Int->Vw)(own:cU)(c:Int)(I:aY)(r:Int):Prop:=
 (I.tok r=(X.c c.toNat).tok r/\I.r r.toNat=(X.c c.toNat).r r.toNat/\I.wr.filter (ao r)=(X.c c.toNat).wr.filter (ao r)/\∀y∈I.bl,y.region=r->y∈(X.c c.toNat).bl)\/I.tok r=0\/
 (1<=I.tok r/\I.tok r<=X.sv.be.last/\own (I.tok r)=(r,c)/\P r.toNat (I.tok r)=Vw.zero/\aC r (I.tok r) X.ev=jB (I.tok r)/\I.r r.toNat=dO.zero/\I.wr.filter (ao r)=[]/\∀y∈I.bl,y.region≠r)
theorem oy{C:aY}{r:Int}(h:¬(0<=r/\r<4)):C.tok r=0:=by
 unfold aY.tok;rw[iN];intro R;exact h (qZ R)
theorem GI.wR(h:GI X P own N n m T){c:Int}(K:0<=c)(M:c<3){I:aY}(D:lU I m)(b:∀r:Int,0<=r->r<4->CTo X P own c I r)
 (i:∀r:Int,0<=r->r<4->∀x∈(X.sv.be.r r.toNat).h,x.c=c->I.a9=true->x.t=I.tok r\/(P r.toNat x.t=Vw.zero/\aC r x.t X.ev=jB x.t)) (p:∀r:Int,0<=r->r<4->I.la r.toNat<=X.sv.be.last/\∀x∈(X.sv.be.r r.toNat).h,x.c=c->I.la r.toNat<=x.t)
 (o:I.a9=true->(aP X.sv.a9 c).isSome=true) (Z:I.a9=false->∀r,I.tok r=0) (e:∀k,I.h k=qO.zero\/1<=(I.h k).t):GI ⟨X.sv,X.st,aI X.c c.toNat I,X.ev⟩ P own N n m T:=by
 refine⟨h.w,λj l t=> ?_,λj r l t Q L R=> ?_,λj r l t=> ?_,h.pr,h.tb,h.lb,h.hc,h.wc,λr Q L x J W=> ?_,λr Q L x J=> ?_,λj r l t Q L=> ?_,λj l t W=> ?_,λj l t W r=> ?_,h.ev,h.ed,λj l t k=> ?_⟩
 ·show lU (aI X.c c.toNat I j.toNat) m
  rcases cK X.c I K l with⟨_,Y⟩|⟨_,Y⟩
  ·rw[Y];exact D
  ·rw[Y];exact h.ci j l t
 ·show ol (aI X.c c.toNat I j.toNat) r (P r.toNat ((aI X.c c.toNat I j.toNat).tok r)) (aC r ((aI X.c c.toNat I j.toNat).tok r) X.ev)/\own ((aI X.c c.toNat I j.toNat).tok r)=(r,j)
  have z:1<=(aI X.c c.toNat I j.toNat).tok r:=R;clear R;rcases cK X.c I K l with⟨q,Y⟩|⟨_,Y⟩
  ·rw[Y]at z⊢
   subst q;rcases b r Q L with⟨H,O,d,g⟩|a|⟨_,_,H,O,d,g,C,S⟩
   ·rw[H]at z⊢
    obtain⟨u,F⟩:=h.lk j r l t Q L z;exact⟨⟨u.x.trans O.symm,by rw[d];exact u.w,λy E w=>u.c y (g y E w) w⟩,F⟩
   ·omega
   ·rw[O,d]
    exact⟨⟨g.symm,by rw[C];rfl,λy E w=>absurd w (S y E)⟩,H⟩
  ·rw[Y]at z⊢
   exact h.lk j r l t Q L z
 ·show 0<=(aI X.c c.toNat I j.toNat).tok r/\(aI X.c c.toNat I j.toNat).tok r<=_
  have A:=h.tb.last;rcases cK X.c I K l with⟨q,Y⟩|⟨_,Y⟩
  ·rw[Y]
   by_cases U:0<=r/\r<4
   ·rcases b r U.1 U.2 with⟨H,_⟩|a|⟨H,O,_⟩
    ·rw[H];exact h.tk c r K M
    ·rw[a];exact⟨cO _,A⟩
    ·exact⟨oM,O⟩
   ·rw[oy U];exact⟨cO _,A⟩
  ·rw[Y];exact h.tk j r l t
 ·have G:=h.hc _ oM x J
  show x.t=(aI X.c c.toNat I x.c.toNat).tok r\/_;have W:(aI X.c c.toNat I x.c.toNat).a9=true:=W;rcases cK X.c I K G.1 with⟨q,Y⟩|⟨_,Y⟩
  ·rw[Y]at W⊢;exact i r Q L x J q W
  ·rw[Y]at W⊢;exact h.fr r Q L x J W
 ·have G:=h.hc _ oM x J
  show(aI X.c c.toNat I x.c.toNat).la r.toNat<=x.t;rcases cK X.c I K G.1 with⟨q,Y⟩|⟨_,Y⟩
  ·rw[Y];exact(p r Q L).2 x J q
  ·rw[Y];exact h.la r Q L x J
 ·show(aI X.c c.toNat I j.toNat).la r.toNat<=_
  rcases cK X.c I K l with⟨q,Y⟩|⟨_,Y⟩
  ·rw[Y];exact(p r Q L).1
  ·rw[Y];exact h.ll j r l t Q L
 ·have W:(aI X.c c.toNat I j.toNat).a9=true:=W
  rcases cK X.c I K l with⟨q,Y⟩|⟨_,Y⟩
  ·rw[Y]at W;rw[q];exact o W
  ·rw[Y]at W;exact h.ss j l t W
 ·have W:(aI X.c c.toNat I j.toNat).a9=false:=W
  show(aI X.c c.toNat I j.toNat).tok r=0;rcases cK X.c I K l with⟨q,Y⟩|⟨_,Y⟩
  ·rw[Y]at W⊢;exact Z W r
  ·rw[Y]at W⊢;exact h.s0 j l t W r
 ·show(aI X.c c.toNat I j.toNat).h k=qO.zero\/1<=((aI X.c c.toNat I j.toNat).h k).t
  rcases cK X.c I K l with⟨q,Y⟩|⟨_,Y⟩
  ·rw[Y];exact e k
  ·rw[Y];exact h.hz j l t k
end
end
end Go.Proofs.YtblpaldggenbaaaGreatDoor
