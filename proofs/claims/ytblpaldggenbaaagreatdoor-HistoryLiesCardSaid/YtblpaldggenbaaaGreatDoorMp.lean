/- A part. -/
import Derived.Test.YtblpaldggenbaaaGreatDoorMo
namespace Go.Proofs.YtblpaldggenbaaaGreatDoor
open Go.RowKit
set_option maxRecDepth 100000
set_option maxHeartbeats 64000000
variable{T:aI}{α:Type}{s:bp}{S:gy}{x:be}
section
section
variable {M N:Nat->Rg} {b:List (Int×RQ)} {ev:List eW} {a:Nat->Int->Vw} {e:eW} {r:Int}
theorem ra(B:e.cX r=false):(λt=>aG r t (ev++[e]))=λt=>aG r t ev:=by rw[Bd,iN (by rw[B];exact gV)]
theorem kH(B:e.cX r=false)(t:Int):aG r t (ev++[e])=aG r t ev:=congrFun (ra B) t
theorem ui(u:e.cX r=true):(λt=>aG r t (ev++[e]))=j9 (λt=>aG r t ev) e.t (bH (aG r e.t ev) e):=by rw[Bd,iP u]
theorem ph(u:e.cX r=true):aG r e.t (ev++[e])=bH (aG r e.t ev) e:=by
 have:=congrFun (ui (ev:=ev) u) e.t;rwa[fA]at this
theorem wB{t:Int}(R:t≠e.t):aG r t (ev++[e])=aG r t ev:=by
 cases u:e.cX r with
 |false=>exact kH u t
 |true=>
  have:=congrFun (ui (ev:=ev) u) t;rwa[fy _ _ R]at this
theorem zV(u:e.cX r=true):e.r=r/\e.t≠0/\e.e=0/\5<=e.d/\e.d<=7:=by
 unfold eW.cX at u;simp only[mq,beq_iff_eq,bne_iff_ne,decide_eq_true_eq]at u;exact⟨u.1.1.1.1,u.1.1.1.2,u.1.1.2,u.1.2,u.2⟩
theorem JT.bad(h:JT M N b ev a)(B:∀r:Int,0<=r->r<4->e.cX r=false):JT M N b (ev++[e]) a:=by
 refine⟨λr K Q=> ?_,λr K Q=> ?_,λr t K Q R=> ?_,h.st⟩
 ·rw[ra (B r K Q)];exact h.rm r K Q
 ·rw[ra (B r K Q)];exact h.rn r K Q
 ·rw[kH (B r K Q)];exact h.vw r t K Q R
theorem JT.cX(h:JT M N b ev a)(W:0<=r)(Q:r<4)(u:e.cX r=true)(g:Vw)(K:QS r e.t (bH (aG r e.t ev) e) g)(C:Ba (a r.toNat e.t) g)
 (c:∀x k,x=M r.toNat\/x=N r.toNat->dw (λt=>aG r t ev) (a r.toNat) x k->dw (j9 (λt=>aG r t ev) e.t (bH (aG r e.t ev) e)) (j9 (a r.toNat) e.t g) x k):JT M N b (ev++[e]) (gg a r e.t g):=by
 have I:∀j:Int,0<=j->j≠r->j.toNat≠r.toNat:=λj Z V=>oM
 have w:∀j:Int,j≠r->e.cX j=false:=λj S=>by
  cases J:e.cX j with
  |false=>rfl
  |true=>exact absurd ((zV J).1.symm.trans (zV u).1) S
 refine⟨λj q O=> ?_,λj q O=> ?_,λj i q O z=> ?_,λp o j q O=> ?_⟩
 ·by_cases d:j=r
  ·subst d
   obtain⟨k,F⟩:=h.rm j q O;rw[jx,ui u];exact⟨k,c _ _ (.inl rfl) F⟩
  ·rw[kD _ _ (I j q d),ra (w j d)]
   exact h.rm j q O
 ·by_cases d:j=r
  ·subst d
   obtain⟨k,F⟩:=h.rn j q O;rw[jx,ui u];exact⟨k,c _ _ (.inr rfl) F⟩
  ·rw[kD _ _ (I j q d),ra (w j d)]
   exact h.rn j q O
 ·by_cases d:j=r
  ·subst d
   rw[jx];by_cases P:i=e.t
   ·subst P
    rw[fA,ph u];exact K
   ·rw[fy _ _ P,wB P]
    exact h.vw j i q O z
  ·rw[kD _ _ (I j q d),kH (w j d)]
   exact h.vw j i q O z
 ·by_cases d:j=r
  ·subst d
   rw[jx];exact C.toS (h.st p o j q O)
  ·rw[kD _ _ (I j q d)]
   exact h.st p o j q O
end
structure qE(C:bq)(r:Int)(v:Vw)(s:bp):Prop where
 x:v.x=C.r r.toNat
 w:(C.wr.filter (ao r)).map iC=s.p.drop v.f
 c:∀y∈C.bl,y.region=r->y∈v.ca
structure BF(C C':bq)(r:Int):Prop where
 h:C'.h=C.h
 la:C'.la=C.la
 s:C'.bi=C.bi
 sq:C'.seq=C.seq
 ck:C'.jg=C.jg
 rg:∀j:Nat,j≠r.toNat->C'.r j=C.r j
 w:∀j,j≠r->C'.wr.filter (ao j)=C.wr.filter (ao j)
 b:∀z∈C'.bl,z.region≠r->z∈C.bl
theorem BF.refl(C:bq)(r:Int):BF C C r:=⟨rfl,rfl,rfl,rfl,rfl,λ_ _=>rfl,λ_ _=>rfl,λ_ h _=>h⟩
theorem nw.le{C:bq}{m m':Nat}(h:nw C m)(y:m<=m'):nw C m':=⟨h.i.le y,h.w,h.b,λk=>by have:=h.q k;omega,h.p⟩
structure ow(X':eu)(ev':List eW)(gv:Nat->Int->Vw)(n:Nat)(T:Int)(r t:Int)(C C':bq)(m:Nat)(N':Nat->Rg)(v':Vw):Prop where
 w:WI X' ev' (gg gv r t v') N' n T
 l:qE C' r v' (aG r t ev')
 s:BF C C' r
 c:nw C' m
section
variable {X:eu} {ev:List eW} {P:Nat->Int->Vw} {N:Nat->Rg} {n m:Nat} {T:Int} {r t i:Int} {C:bq}
theorem ow.same{e:eW}(h:WI X ev P N n T)(o:qE C r (P r.toNat t) (aG r t ev))(D:nw C m)(K:0<=r)(Q:r<4)(B:∀r:Int,0<=r->r<4->e.cX r=false):ow X (ev++[e]) P n T r t C C m N (P r.toNat t):=
 ⟨by rw[oV];exact⟨h.s,h.z,h.p.bad B⟩,by rw[kH (B r K Q)];exact o,BF.refl _ _,D⟩
theorem s8{e:eW}(h:e.e≠0)(r:Int):e.cX r=false:=by
 cases J:e.cX r with
 |false=>rfl
 |true=>exact absurd (zV J).2.2.1 h
theorem VK{e:eW}(h:e.d<5\/7<e.d)(r:Int):e.cX r=false:=by
 cases J:e.cX r with
 |false=>rfl
 |true=>
  have:=zV J;omega
theorem xY{e:eW}(G:e.r=r)(R:1<=e.t)(Y:e.e=0)(q:5<=e.d/\e.d<=7):e.cX r=true:=by
 unfold eW.cX;simp only[mq,beq_iff_eq,bne_iff_ne,decide_eq_true_eq];exact⟨⟨⟨⟨G,oM⟩,Y⟩,q.1⟩,q.2⟩
theorem Un{e:eW}(h:e.d=5):bH s e=⟨s.t,s.p++[⟨e.i,e.b⟩],s.s,s.k⟩:=iP h
theorem KO{e:eW}(h:e.d=6):bH s e=⟨s.t,s.p,s.s,s.k++[⟨(s.p.length:Nat),e.i,e.b⟩]⟩:=by
 unfold bH;rw[iN oM,iP h]
theorem SK{e:eW}(h:e.d=7):bH s e=⟨s.t,s.p,(s.p.length:Nat),s.k⟩:=by
 unfold bH;rw[iN oM,iN oM]
theorem Kq(h:WI X ev P N n T)(R:qE C r (P r.toNat t) (aG r t ev))(D:nw C m)(W:0<=r)(Q:r<4)(O:1<=t){b:LI}(B:Bytes b){e:eW}(q:e.d=5)(F:e.r=r)(A0:e.t=t)(w:e.i=i)(I:(dO C r i b).2=0->e.b=b)(U:e.e=(dO C r i b).2):
 ∃v',ow X (ev++[e]) P n T r t C (dO C r i b).1 (m+1) N v':=by
 unfold dO at I U⊢;by_cases Z:C.iQ r i=0
 ·rw[iN (λh=>h Z)]at I U⊢
  have S:0<=i/\i<4:=by
   unfold bq.iQ at Z
   split at Z
   ·cases Z
   ·split at Z
    ·cases Z
    ·omega
  by_cases V:Dy C.bl C.wr ⟨r,i,b⟩=0
  ·have I:=I V
   have U:e.e=0:=U.trans V;obtain⟨z1,z2,c⟩:=yL V;have u:e.cX r=true:=xY F oM U oM;subst A0;have A:za C.bl C.wr ⟨r,i,b⟩=mz C.bl C.wr ⟨r,i,b⟩:=iP z1;have J:AL C.bl C.wr ⟨r,i,b⟩=C.wr++[⟨r,i,b⟩]:=iP V;have H:∀y∈mz C.bl C.wr ⟨r,i,b⟩,y=⟨r,i,b⟩\/(y∈C.bl/\keyOf y≠(r,i)):=λy E=>by
    rcases LY D.i E with⟨a,_⟩|⟨a,g|g⟩
    ·exact .inl a
    ·exact .inr ⟨a,g⟩
    ·exact absurd z2 g
   have L:bH (aG r e.t ev) e=⟨(aG r e.t ev).t,(aG r e.t ev).p++[⟨i,b⟩],(aG r e.t ev).s,(aG r e.t ev).k⟩:=by
    rw[Un q,w,I]
   have K:=h.p.vw r e.t W Q O;refine⟨⟨(P r.toNat e.t).x,(P r.toNat e.t).f,(mz C.bl C.wr ⟨r,i,b⟩).filter (ao r)⟩,⟨h.s,h.z,h.p.cX W Q u _ ⟨K.nr,K.rf,K.p0,?_,K.sq,K.s2⟩ (Ba.refl _) (λx k _ hk=> ?_)⟩,⟨R.x,?_,λy E B0=> ?_⟩,⟨rfl,rfl,rfl,rfl,rfl,λ_ _=>rfl,λj hj=> ?_,λz G C0=> ?_⟩,⟨D.i.write,λp o=> ?_,λp o=> ?_,λk=>by have:=D.q k;show(C.r k).seq<=_;omega,D.p⟩⟩
   ·rw[L]
    have:=K.fp;show(P r.toNat e.t).g<=((aG r e.t ev).p++[(⟨i,b⟩:fj)]).length;rw[eG];omega
   ·rw[L]
    refine hk.put O (Es _ _ _) K.fp (p:=⟨i,b⟩) S (λy E=> ?_);obtain⟨y1,l⟩:=zk.1 E;have l:y.region=r:=by simpa[ao]using l
    rcases H y y1 with rfl|⟨d,g⟩
    ·exact .inl ⟨rfl,rfl⟩
    ·refine .inr ⟨λY=>g ?_,R.c y d l⟩
     have Y:y.index=i:=Y;unfold keyOf;rw[l,Y]
   ·show((AL C.bl C.wr ⟨r,i,b⟩).filter (ao r)).map iC=(aG r e.t (ev++[e])).p.drop (P r.toNat e.t).f
    rw[J,Yo,xd,R.w,ph u,L,show [(⟨r,i,b⟩:PU)].filter (ao r)=[⟨r,i,b⟩]by simp[ao]];have hf:(P r.toNat e.t).f<=(aG r e.t ev).p.length:=by have:=K.fp;unfold Vw.g at this;omega
    exact(Wi hf).symm
   ·have E:y∈za C.bl C.wr ⟨r,i,b⟩:=E
    rw[A]at E;exact zk.2 ⟨E,by simp[ao,B0]⟩
   ·show(AL C.bl C.wr ⟨r,i,b⟩).filter (ao j)=_
    rw[J,Yo,show [(⟨r,i,b⟩:PU)].filter (ao j)=[]by simp[ao];exact λh=>hj h.symm,rX]
   ·have G:z∈za C.bl C.wr ⟨r,i,b⟩:=G
    rw[A]at G;rcases H z G with rfl|⟨d,_⟩
    ·exact absurd rfl C0
    ·exact d
   ·have o:p∈AL C.bl C.wr ⟨r,i,b⟩:=o
    rw[J]at o;rcases lU.1 o with o|o
    ·exact D.w p o
    ·rw[lA.1 o]
     exact⟨W,Q,⟨S.1,S.2,c⟩,B⟩
   ·have o:p∈za C.bl C.wr ⟨r,i,b⟩:=o
    rw[A]at o;rcases H p o with rfl|⟨d,_⟩
    ·exact⟨B,by show b.length<=24;have:b.length<=23:=c;omega⟩
    ·exact D.b p d
  ·have A:za C.bl C.wr ⟨r,i,b⟩=C.bl:=by
    unfold za
    split
    ·rename_i z
     have M:lh C.bl C.wr r i≠0:=by
      intro M;apply V;unfold Dy;rw[iP z];exact M
     rcases sc C.bl C.wr ⟨r,i,b⟩with⟨a,_⟩|⟨_,⟨a,_⟩|⟨a,_⟩|⟨_,_,a⟩⟩
     ·exact absurd a M
     ·exact absurd a M
     ·exact absurd a M
     ·exact a
    ·rfl
   have J:AL C.bl C.wr ⟨r,i,b⟩=C.wr:=iN V;rw[A,J];exact⟨_,ow.same h R (D.le oM) W Q (λr _ _=>s8 (by rw[U];exact V) r)⟩
 ·rw[iP Z]at I U⊢
  exact⟨_,ow.same h R (D.le oM) W Q (λr _ _=>s8 (by rw[U];exact Z) r)⟩
theorem DH{y:AK}{N':Nat->Rg}{E n':Nat}{d:List PU}(_:0<=r)(D:nw C m)(U:vf X ev P n' T r t d C.wr (300*(m:Int)+10) y N' E):BF C (C.bR r.toNat y) r/\nw (C.bR r.toNat y) m:=by
 refine⟨⟨rfl,rfl,rfl,rfl,rfl,λj N=>cm _ _ _ _ N,λj N=>U.o j N,λz H _=>H⟩,⟨D.i.less U.s,λp o=>D.w p (U.s.subset o),D.b,λk=> ?_,λk=> ?_⟩⟩
 ·show(aJ C.r r.toNat y.r k).seq<=_
  unfold aJ
  split
  ·exact U.q
  ·exact D.q k
 ·show(aJ C.r r.toNat y.r k).au.length<=_
  unfold aJ
  split
  ·exact U.p
  ·exact D.p k
theorem vf.step{y:AK}{N':Nat->Rg}{E n':Nat}{d:List PU}{e:eW}(U:vf X ev P n' T r t d C.wr (300*(m:Int)+10) y N' E)(K:0<=r)(Q:r<4)(D:nw C m)(l:∀y∈C.bl,y.region=r->y∈d)(B:∀r:Int,0<=r->r<4->e.cX r=false):
 ow y.x (ev++[e]) P n' T r t C (C.bR r.toNat y) m N' ⟨y.r,E,d⟩:=by
 obtain⟨Z,V⟩:=DH K D U;exact⟨⟨U.w.s,U.w.z,U.w.p.bad B⟩,⟨(aW _ _ _).symm,by rw[kH (B r K Q)];exact U.l,l⟩,Z,V⟩
theorem zF(h:C.iQ r i=0):0<=i/\i<4/\C.GK r=true:=by
 unfold bq.iQ at h
 split at h
 ·cases h
 ·rename_i Z
  split at h
  ·cases h
  ·exact⟨oM,oM,by simpa using Z⟩
theorem MZ(h:WI X ev P N n T)(hn:n<=400000)(hT:T<256)(o:qE C r (P r.toNat t) (aG r t ev))(D:nw C m)(W:0<=r)(Q:r<4)(A:1<=t/\t<18446744073709551616)(B:C.tok r=t)(c l:Int)
 {e:eW} (C0:e.d=6) (E0:e.r=r) (F0:e.t=t) (D0:e.i=i) (I:e.b=(gX X c C r i l).b) (U:e.e=(gX X c C r i l).e):
 ∃N' v',ow (gX X c C r i l).x (ev++[e]) P (n+303) T r t C (gX X c C r i l).c m N' v':=by
 unfold gX at I U⊢;by_cases Z:C.iQ r i=0
 case neg=>
  rw[iP Z]at I U⊢;exact⟨_,_,ow.same (h.mono oM (ef _)) o D W Q (λr _ _=>s8 (by rw[U];exact Z) r)⟩
 rw[iN (λh=>h Z)]at I U⊢;obtain⟨G0,H0,_⟩:=zF Z;by_cases J:0<=fW (cC r i) 0 C.bl
 ·rw[iP J]at I U⊢
  rcases jU (cC r i) C.bl 0 with⟨a,_⟩|⟨k,x,a1,a2,a3⟩
  ·omega
  rw[s7]at a1;obtain⟨x1,x2⟩:x.region=r/\x.index=i:=by
   have:=(sE r i x).1 a3;exact⟨congrArg Prod.fst this,congrArg Prod.snd this⟩
  have hD:rh C.bl r i=x.data:=by
   unfold rh;rw[iP J,a1,qG,a2]
   rfl
  rw[hD]at I;have I:e.b=x.data:=I;have H:e.cX r=true:=xY E0 oM U oM;subst F0;have V:bH (aG r e.t ev) e=⟨(aG r e.t ev).t,(aG r e.t ev).p,(aG r e.t ev).s,(aG r e.t ev).k++[⟨((aG r e.t ev).p.length:Nat),i,x.data⟩]⟩:=by
   rw[KO C0,D0,I]
  have S:=h.p.vw r e.t W Q A.1;have N0:x∈(P r.toNat e.t).ca:=o.c x (pJ a2) x1;refine⟨N,P r.toNat e.t,⟨(h.s).mono oM (ef _),h.z,h.p.cX W Q H _ ?_ (Ba.refl _) (λy k _ R=> ?_)⟩,⟨o.x,?_,λy O P0=>o.c y (zU O) P0⟩,⟨rfl,rfl,rfl,rfl,rfl,λ_ _=>rfl,λ_ _=>rfl,λz G _=>zU G⟩,⟨D.i.read,D.w,λp u=>D.b p (zU u),D.q,D.p⟩⟩
  ·rw[V]
   exact⟨S.nr,S.rf,S.p0,S.fp,S.sq,S.s2⟩
  ·rw[V]
   have F:=R.ca e.t A.1 x N0;rw[x2]at F;exact R.look A.1 F (ca:=(P r.toNat e.t).ca) (λy O=> .inr O)
  ·rw[ph H,V]
   exact o.w
 rw[iN J]at I U⊢;have O0:P r.toNat t=⟨C.r r.toNat,(P r.toNat t).f,(P r.toNat t).ca⟩:=by rw[<-o.x]
 obtain⟨N1,f1,K⟩:=h.cY (ws:=C.wr) oM hT c ⟨W,Q⟩ A O0 (D.p _) o.w (D.q _) oM l;rw[<-B]at K;unfold lG at I U⊢;generalize cY X c r (C.tok r) (C.r r.toNat) C.wr l=y at I U K⊢;rw[B]at K;have w:∀z∈C.bl,z.region=r->z∈(P r.toNat t).ca:=o.c;unfold An at I U⊢;by_cases M:y.e=0
 case neg=>
  rw[iP M]at I U⊢;have V:=K.step (e:=e) W Q D w (λr _ _=>s8 (by rw[U];exact M) r);exact⟨_,_,⟨V.w.mono oM (ef _),V.l,V.s,V.c⟩⟩
 rw[iN (λh=>h M),B]at I U⊢;obtain⟨s1,s2,s3,s4⟩:=K.e M;obtain⟨j,F,h6⟩:=K.w.ask oM hT c (q:=eL r i t) (BT ⟨W,Q⟩ ⟨G0,H0⟩ oM) (xh rfl) (y.l%4);have J0:vf X ev P (n+303) T r t (P r.toNat t).ca C.wr (300*(m:Int)+10) {y with x:=(y.x.ask c (eL r i t) (y.l%4)).x} j f1:=⟨F,K.l,K.s,K.o,K.q,K.p,K.e⟩;generalize S0:y.x.ask c (eL r i t) (y.l%4)=a at I U F h6 J0⊢;by_cases Y:a.e=0
 case neg=>
  rw[iP Y]at I U⊢;exact⟨_,_,J0.step (e:=e) W Q D w (λr _ _=>s8 (by rw[U];exact Y) r)⟩
 rw[iN (λh=>h Y)]at I U⊢;obtain⟨b1,b2,b3,b4,b5,b6,b7⟩:=h6 Y;rw[Sa b4]at b7;rw[sB rfl]at b5 b6;rw[b7]at I⊢;have I:e.b=(y.x.s.M r.toNat).b i.toNat:=I;have U:e.e=0:=U;have H:e.cX r=true:=xY E0 oM U oM;subst F0;generalize hd:(y.x.s.M r.toNat).b i.toNat=d at I;show∃N' v',ow a.x (ev++[e]) P (n+303) T r e.t C {C.bR r.toNat y with bl:=oX C.bl y.ws ⟨r,i,d⟩} m N' v';have V:bH (aG r e.t ev) e=⟨(aG r e.t ev).t,(aG r e.t ev).p,(aG r e.t ev).s,(aG r e.t ev).k++[⟨((aG r e.t ev).p.length:Nat),i,d⟩]⟩:=by
  rw[KO C0,D0,I]
 have S:=F.p.vw r e.t W Q A.1;rw[aV]at S;have hU:=(K.w.s.c.same b1).2;have I0:=hU.mi;have L0:Bytes d/\d.length<=24:=by rw[<-hd];exact⟨I0.mb.b _ _,(I0.ok _).bb _⟩
 obtain⟨c1,E⟩:=DH W D K;have M0:∀p∈(aG r e.t ev).p.drop f1,p.i≠i:=λp u he=>by
  rw[<-K.l]at u;obtain⟨z,G,rfl⟩:=oK.1 u;obtain⟨Q0,A0⟩:=zk.1 G;have A0:z.region=r:=by simpa[ao]using A0
  obtain⟨R0,hu,R⟩:=D.i.on z (K.s.subset Q0);have:(C.bl.any (cC r i))=true:=(Db _ _ _).2 ⟨R0,hu,R.trans (by unfold keyOf;rw[A0,show z.index=i from he])⟩;rw[<-yE _ _ 0]at this;exact J (of_decide_eq_true this)
 have b:∀z∈oX C.bl y.ws ⟨r,i,d⟩,z=⟨r,i,d⟩\/z∈C.bl:=λz G=>by
  unfold oX at G
  split at G
  ·exact .inr G
  ·rcases LY (D.i.less K.s) G with⟨z1,_⟩|⟨z1,_⟩
   ·exact .inl z1
   ·exact .inr z1
 have K0:∀x k,x=a.x.s.M r.toNat\/x=j r.toNat->dw (λt=>aG r t ev) (gg P r e.t ⟨y.r,f1,(P r.toNat e.t).ca⟩ r.toNat) x k->mH (λt=>aG r t ev) k x.aE e.t ⟨((aG r e.t ev).p.length:Nat),i,d⟩:=λx k g R=>by
  have L:x=y.x.s.M r.toNat:=by
   rcases g with rfl|rfl
   ·rw[b5]
   ·rw[b6]
  have h8:=R.looked A.1 (by rw[aV];exact s1) (by rw[aV];exact s2) (by rw[aV];exact s3) (by rw[aV];exact s4) (by rw[aV];have:=S.fp;unfold Vw.g at this;exact qJ (ZB _ _) this) (by rw[L];exact Fz (r:=r) (q:=eL r i e.t) rfl b4) ⟨G0,H0⟩ (by rw[aV];exact M0);rw[L,hd]at h8;rw[L];exact h8
 have hP:JT a.x.s.M j a.x.az (ev++[e]) (gg (gg P r e.t ⟨y.r,f1,(P r.toNat e.t).ca⟩) r e.t ⟨y.r,f1,(P r.toNat e.t).ca++[⟨r,i,d⟩]⟩):=by
  refine F.p.cX W Q H _ ?_ (by rw[aV];exact Ba.refl _) (λx k g R=> ?_)
  ·rw[V]
   exact⟨S.nr,S.rf,S.p0,S.fp,S.sq,S.s2⟩
  ·rw[V]
   have:=R.look A.1 (K0 x k g R) (ca:=(P r.toNat e.t).ca++[⟨r,i,d⟩]) (λz G=>by
    rcases lU.1 G with G|G
    ·rw[aV];exact .inr G
    ·rw[lA.1 G];exact .inl ⟨rfl,rfl⟩)
   rw[aV]at this;exact this
 rw[kJ]at hP;refine⟨j,⟨y.r,f1,(P r.toNat e.t).ca++[⟨r,i,d⟩]⟩,⟨F.s,F.z,hP⟩,⟨(aW _ _ _).symm,by rw[ph H,V];exact K.l,λz G B0=> ?_⟩,⟨rfl,rfl,rfl,rfl,rfl,c1.rg,c1.w,λz G B0=> ?_⟩,⟨(D.i.less K.s).fill (by show d.length<=_;omega),E.w,λp u=> ?_,E.q,E.p⟩⟩
 ·rcases b z G with rfl|G
  ·exact zcN _ acy
  ·exact Wd _ (w z G B0)
 ·rcases b z G with rfl|G
  ·exact absurd rfl B0
  ·exact G
 ·rcases b p u with rfl|u
  ·exact L0
  ·exact D.b p u
theorem Kb(h:WI X ev P N n T)(hn:n<=300000)(hm:m<=120)(hT:T<256)(S:qE C r (P r.toNat t) (aG r t ev))(D:nw C m)(d:0<=r)(Q:r<4)(R:1<=t/\t<18446744073709551616)(g:C.tok r=t)(c l:Int)
 {e:eW} (K0:e.d=7) (L0:e.r=r) (M0:e.t=t) (W:e.e=(eJ X c C r l).e):
 ∃N' u,ow (eJ X c C r l).x (ev++[e]) P (n+604) T r t C (eJ X c C r l).c (m+1) N' u:=by
 unfold eJ at W⊢;by_cases Z:C.iQ r 0=0
 case neg=>
  rw[iP Z]at W⊢;exact⟨_,_,ow.same (h.mono oM (ef _)) S (D.le oM) d Q (λr _ _=>s8 (by rw[W];exact Z) r)⟩
 rw[iN (λh=>h Z)]at W⊢;have T0:P r.toNat t=⟨C.r r.toNat,(P r.toNat t).f,(P r.toNat t).ca⟩:=by rw[<-S.x]
 obtain⟨I,f1,U⟩:=h.cY (ws:=C.wr) oM hT c ⟨d,Q⟩ R T0 (D.p _) S.w (D.q _) oM l;rw[<-g]at U;unfold lG at W⊢;generalize cY X c r (C.tok r) (C.r r.toNat) C.wr l=y at W U⊢;rw[g]at U;have B0:∀z∈C.bl,z.region=r->z∈(P r.toNat t).ca:=S.c;have A:∀{y:AK} {N':Nat->Rg} {E n':Nat},vf X ev P n' T r t (P r.toNat t).ca C.wr (300*((m+1:Nat):Int)+10) y N' E->n'<=n+604->(y.e=0->y.ws.filter (ao r)=[])->e.e=y.e->∃N' u,ow y.x (ev++[e]) P (n+604) T r t C (C.bR r.toNat y) (m+1) N' u:=by
  intro y N' E n' U C0 hd Y;have A0:=D.le (Nat.le_succ m);by_cases M:y.e=0
  case neg=>
   have V:=U.step (e:=e) d Q A0 B0 (λr _ _=>s8 (by rw[Y];exact M) r);exact⟨_,_,⟨V.w.mono C0 (ef _),V.l,V.s,V.c⟩⟩
  obtain⟨O,w,L,s4⟩:=U.e M;have hg:e.cX r=true:=xY L0 oM oM oM;subst M0;have V:bH (aG r e.t ev) e=⟨(aG r e.t ev).t,(aG r e.t ev).p,((aG r e.t ev).p.length:Nat),(aG r e.t ev).k⟩:=SK K0;have K:=U.w.p.vw r e.t d Q R.1;rw[aV]at K;obtain⟨c1,c2⟩:=DH d A0 U;have hf:E=(aG r e.t ev).p.length:=by
   have h8:=U.l;rw[hd M]at h8;have B:=congrArg List.length h8;rw[km]at B;have B:0=(aG r e.t ev).p.length-E:=B;have:=K.fp;unfold Vw.g at this;have:E+y.r.bS.toNat<=(aG r e.t ev).p.length:=this;omega
  have hP:JT y.x.s.M N' y.x.az (ev++[e]) (gg (gg P r e.t ⟨y.r,E,(P r.toNat e.t).ca⟩) r e.t ⟨y.r,E,(P r.toNat e.t).ca⟩):=by
   refine U.w.p.cX d Q hg _ ?_ (by rw[aV];exact Ba.refl _) (λx k hx q=> ?_)
   ·rw[V]
    exact⟨K.nr,K.rf,K.p0,K.fp,K.sq,K.s2⟩
   ·rw[V]
    have:=q.sure R.1 (by rw[aV];exact O) (by rw[aV];exact w) (by rw[aV];exact hf);rw[<-sk (gg P r e.t ⟨y.r,E,(P r.toNat e.t).ca⟩ r.toNat) e.t]at this;rw[aV]at this;exact this
  rw[kJ]at hP;exact⟨N',⟨y.r,E,(P r.toNat e.t).ca⟩,⟨(U.w.s).mono C0 (ef _),U.w.z,hP⟩,⟨(aW _ _ _).symm,by rw[ph hg,V];exact U.l,B0⟩,c1,c2⟩
 have G0:vf X ev P (n+302) T r t (P r.toNat t).ca C.wr (300*((m+1:Nat):Int)+10) y I f1:=⟨U.w,U.l,U.s,U.o,by have:=U.q;omega,U.p,U.e⟩;unfold oI at W⊢;by_cases M:y.e=0
 case neg=>
  rw[iP M]at W⊢;exact A G0 oM (λh=>absurd h M) W
 rw[iN (λh=>h M)]at W⊢;by_cases F:y.ws.filter (ao r)=[]
 ·rw[iP F]at W⊢
  exact A G0 oM (λ_=>F) (W.trans M.symm)
 rw[iN F,g]at W⊢;have j:∀p∈y.ws.filter (ao r),KM r p/\Bytes p.data:=λp o=>by
  obtain⟨p1,p2⟩:=zk.1 o;have:=D.w p (U.s.subset p1);exact⟨⟨by simpa[ao]using p2,this.2.2.1⟩,this.2.2.2⟩
 have D0:=uG (λp o=>(j p o).1);rw[iN (λh=>h D0)]at W⊢;obtain⟨O,w,L,s4⟩:=U.e M;have X0:(y.ws.filter (ao r)).length<=m:=qJ (VP _ _) (qJ U.s.length_le D.i.wl);have K:=U.w.p.vw r t d Q R.1;rw[aV]at K;have R0:(Vw.mk y.r f1 (P r.toNat t).ca).s0=y.r.seq:=by
  show y.r.seq-(y.r.au.length:Nat)=y.r.seq;rw[L];exact Int.sub_zero _
 have S0:2<=y.r.seq:=by have:=K.s2 O;omega
 have E0:(di r t y.r.seq (y.ws.filter (ao r))).length<=300:=by
  unfold di;rw[iP D0];have:=o7 r t y.r.seq (y.ws.filter (ao r)) (((y.ws.filter (ao r)).length+3)/4);omega
 have hq:=U.q;have I0:IntKind.u32.wrap (y.r.seq+((di r t y.r.seq (y.ws.filter (ao r))).length:Nat))=y.r.seq+((di r t y.r.seq (y.ws.filter (ao r))).length:Nat):=IntWalk.u32_in _ oM;rw[I0]at W⊢;have H0:=Er (s:=y.r.seq) ⟨d,Q⟩ oM j oM oM oM (t:=t);generalize F0:di r t y.r.seq (y.ws.filter (ao r))=pq at W E0 I0 H0⊢;have O0:f1<=(aG r t ev).p.length:=by have:=K.fp;unfold Vw.g at this;exact qJ (ZB _ _) this
 have V0:(y.ws.filter (ao r)).length=(aG r t ev).p.length-f1:=by
  have:=congrArg List.length U.l;rwa[nL,km]at this
 have J:WI y.x ev (gg P r t ⟨{y.r with au:=pq,bS:=((y.ws.filter (ao r)).length:Nat),seq:=y.r.seq+(pq.length:Nat)},f1,(P r.toNat t).ca⟩) I (n+302) T:=by
  have J:WI y.x ev (gg (gg P r t ⟨y.r,f1,(P r.toNat t).ca⟩) r t ⟨{y.r with au:=pq,bS:=((y.ws.filter (ao r)).length:Nat),seq:=y.r.seq+(pq.length:Nat)},f1,(P r.toNat t).ca⟩) I (n+302) T:=by
   have a:(Vw.mk {y.r with au:=pq,bS:=((y.ws.filter (ao r)).length:Nat),seq:=y.r.seq+(pq.length:Nat)} f1 (P r.toNat t).ca).s0=y.r.seq:=by
    exact afG
   refine⟨U.w.s,U.w.z,U.w.p.xI d Q _ ⟨λh=>absurd (O.symm.trans h) dC,λ_=>w,by show(0:Int)<=((y.ws.filter (ao r)).length:Nat);omega,?_,by rw[a];exact H0,λ_=>by rw[a];exact S0⟩ (λ_=> ?_) (λx k _ q=> ?_)⟩
   ·show f1+(((y.ws.filter (ao r)).length:Nat):Int).toNat<=_
    rw[qG];omega
   ·rw[aV,R0,a]
    refine⟨O,ef _,λz G=> ?_⟩;have G:y.r.au.head? =some z:=G;rw[L]at G
    cases G
   ·have:=q.Kz (r:=r) (n:=y.r.seq+(pq.length:Nat)) (l:=y.ws.filter (ao r)) R.1 (by rw[aV];exact O) (by rw[aV];exact L) (by rw[aV];exact s4) (by rw[aV];exact U.l) (λp o=>(j p o).1) (by rw[aV];exact O0) (by rw[aV,F0])
    rw[aV,F0]at this;exact this
  rwa[kJ]at J
 obtain⟨N2,f2,G⟩:=J.cY (ws:=y.ws) oM hT c ⟨d,Q⟩ R (aV _ _ _ _) E0 U.l (b:=300*((m+1:Nat):Int)+10) (by show y.r.seq+(pq.length:Int)<=_;omega) oM y.l;have W0:=G.e;have N0:∀z:AK,z=cY y.x c r t {y.r with au:=pq,bS:=((y.ws.filter (ao r)).length:Nat),seq:=y.r.seq+(pq.length:Nat)} y.ws y.l->z.e=0->z.ws.filter (ao r)=[]:=by
  intro z i Y;have Q0:({y.r with au:=pq,bS:=((y.ws.filter (ao r)).length:Nat),seq:=y.r.seq+(pq.length:Nat)}:jc).eY=true:=O;unfold cY at i;rw[iP Q0]at i;unfold Go.Proofs.YtblpaldggenbaaaGreatDoor.sS at i
  split at i
  ·rename_i P0
   rw[i]at Y;exact absurd Y P0
  ·have B:=(Jv (r:=r) (t:=t) (ev:=ev) (f:=f1) (ws:=y.ws) (x:={y.r with au:=pq,bS:=((y.ws.filter (ao r)).length:Nat),seq:=y.r.seq+(pq.length:Nat)}) (by show(0:Int)<=((y.ws.filter (ao r)).length:Nat);omega) U.l (by show f1+(((y.ws.filter (ao r)).length:Nat):Int).toNat<=_;rw[qG];omega)).2.2
   have H:=congrArg List.length B;rw[nL,km]at H;have H:((OX y.ws r ((y.ws.filter (ao r)).length:Nat)).filter (ao r)).length=(aG r t ev).p.length-(f1+(((y.ws.filter (ao r)).length:Nat):Int).toNat):=H;rw[qG]at H;rw[i];exact Yl.1 (by show((OX y.ws r ((y.ws.filter (ao r)).length:Nat)).filter (ao r)).length=0;omega)
 have U0:vf X ev P (n+604) T r t (P r.toNat t).ca C.wr (300*((m+1:Nat):Int)+10) (cY y.x c r t {y.r with au:=pq,bS:=((y.ws.filter (ao r)).length:Nat),seq:=y.r.seq+(pq.length:Nat)} y.ws y.l) N2 f2:=by
  refine⟨?_,G.l,G.s.trans U.s,λJ0 hj=>(G.o J0 hj).trans (U.o J0 hj),G.q,G.p,G.e⟩;have:=G.w;rwa[kJ]at this
 exact A U0 oM (N0 _ rfl) W
end
end
theorem Ab(f:Nat->α)(i:Nat):aJ f i (f i)=f:=by
 funext j
 unfold aJ
 split
 ·exact aep
 ·rfl
abbrev dj:=Int->Int×Int
structure lo(T:aI)(own:dj):Prop where
 last:0<=T.last
 one:∀i,i<4->(T.r i).h.length<=1
 m:∀i,i<4->∀h∈(T.r i).h,h.m=2
 w:∀i,i<4->∀w∈(T.r i).w,w.m=2
 own:∀i,i<4->∀h∈(T.r i).h,own h.t=((i:Int),h.c)/\1<=h.t/\h.t<=T.last
 nd:∀i,i<4->((T.r i).h.map be.c++(T.r i).w.map cS.c).Nodup
structure cK(q:Int)(T:aI)(own:dj)(T':aI)(own':dj):Prop where
 i:lo T' own'
 last:T.last<=T'.last
 up:T'.last<=T.last+q
 vr:∀t,t<=T.last->own' t=own t
 h:∀i,i<4->∀h'∈(T'.r i).h,(T.last<h'.t/\∃w∈(T.r i).w,w.c=h'.c)\/∃h∈(T.r i).h,h.c=h'.c/\h.t=h'.t
 w:∀i,i<4->∀w∈(T'.r i).w,w∈(T.r i).w
theorem cK.refl{q:Int}(d:0<=q){own:dj}(h:lo T own):cK q T own T own:=⟨h,ef _,oM,λ_ _=>rfl,λ_ _ E H=> .inr ⟨E,H,rfl,rfl⟩,λ_ _ _ h=>h⟩
theorem cK.trans{p q:Int}{T l u:aI}{o X G:dj}(h:cK p T o l X)(k:cK q l X u G):cK (p+q) T o u G:=by
 refine⟨k.i,xK h.last k.last,by have:=h.up;have:=k.up;omega,λt R=>(k.vr t (xK R h.last)).trans (h.vr t R),λi z E H=> ?_,λi z w U=>h.w i z w (k.w i z w U)⟩;rcases k.h i z E H with⟨a,w,U,e⟩|⟨Z,b,S,P⟩
 ·exact .inl ⟨zc5 h.last a,w,h.w i z w U,e⟩
 ·rcases h.h i z Z b with⟨a,w,U,e⟩|⟨V,c,j,g⟩
  ·exact .inl ⟨by rw[<-P];exact a,w,U,e.trans S⟩
  ·exact .inr ⟨V,c,j.trans S,g.trans P⟩
theorem UI(f:Nat->α)(i:Nat)(x:α):aJ f i x i=x:=iP rfl
theorem cK.mono{p q:Int}(d:p<=q){T T':aI}{o g:dj}(h:cK p T o T' g):cK q T o T' g:=⟨h.i,h.last,by have:=h.up;omega,h.vr,h.h,h.w⟩
theorem cK.less{own:dj}(h:lo T own){T':aI}(C:T'.last=T.last)(H:∀i,i<4->∀x∈(T'.r i).h,∃y∈(T.r i).h,y.c=x.c/\y.t=x.t/\y.m=x.m)(D:∀i,i<4->((T'.r i).h.map be.c).Sublist ((T.r i).h.map be.c))(a:∀i,i<4->(T'.r i).w.Sublist (T.r i).w):cK 0 T own T' own:=by
 have W:∀i,i<4->(T'.r i).h.length<=1:=λi z=>by
  have:=(D i z).length_le;rw[nL,nL]at this;exact qJ this (h.one i z)
 have U:∀i,i<4->∀x∈(T'.r i).w,x∈(T.r i).w:=λi z x J=>(a i z).subset J;refine⟨⟨by rw[C];exact h.last,W,λi z x J=> ?_,λi z x J=>h.w i z x (U i z x J),λi z x J=> ?_,λi z=>(h.nd i z).sublist ((D i z).append ((a i z).map _))⟩,by rw[C];exact ef _,by rw[C];omega,λ_ _=>rfl,λi z x J=> ?_,U⟩
 ·obtain⟨y,E,_,_,e⟩:=H i z x J
  rw[<-e];exact h.m i z y E
 ·obtain⟨y,E,S,P,_⟩:=H i z x J
  rw[<-S,<-P,C];exact h.own i z y E
 ·obtain⟨y,E,S,P,_⟩:=H i z x J
  exact .inr ⟨y,E,S,P⟩
theorem Ac(q:Int)(u:List cS)(h:be)(last:Int)(y:h.m=2):fF q u [h] last=(u,[h],last):=by
 cases u with
 |nil=>rfl
 |cons x u=>
  unfold fF;rw[iN];intro D;have:=D.2.1;unfold rj at this;simp[y]at this
theorem JL(q:Int)(u:List cS)(U:List be)(last:Int)(Z:U.length<=1)(y:∀h∈U,h.m=2)(M:∀w∈u,w.m=2):
 fF q u U last=(u,U,last)\/∃x r,U=[]/\u=x::r/\last<18446744073709551615/\fF q u U last=(r,[⟨x.c,x.m,last+1,fH q⟩],last+1):=by
 cases U with
 |cons h r=>
  have:r=[]:=Yl.1 (by rw[oO]at Z;omega);subst this;exact .inl (Ac q u h last (y h acy))
 |nil=>
  cases u with
  |nil=>exact aes
  |cons x r=>
   unfold fF
   split
   ·rename_i D
    refine .inr ⟨x,r,rfl,rfl,D.2.2,?_⟩;exact Ac q r _ _ (M x acy)
   ·exact aes
theorem lo.fh{own:dj}(h:lo T own){i:Nat}(z:i<4):∃own',cK 1 T own (T.fh i) own':=by
 have e:T.fh i=⟨T.now,(fF T.now (T.r i).w (T.r i).h T.last).2.2,aJ T.r i ⟨(fF T.now (T.r i).w (T.r i).h T.last).2.1,(fF T.now (T.r i).w (T.r i).h T.last).1⟩⟩:=rfl;rcases JL T.now (T.r i).w (T.r i).h T.last (h.one i z) (h.m i z) (h.w i z)with g|⟨x,r,L,A,X,D⟩
 ·rw[g]at e
  refine⟨own,?_⟩;have P:T.fh i=T:=by
   rw[e];show aI.mk T.now T.last (aJ T.r i (T.r i))=T;rw[Ab]
  rw[P];exact cK.refl oM h
 ·rw[D]at e
  have C:=h.last;have J:x∈(T.r i).w:=by rw[A];simp
  obtain⟨own',H⟩:∃own':dj,own'=λt=>if t=T.last+1 then((i:Int),x.c)else own t:=⟨_,rfl⟩;have n:own' (T.last+1)=((i:Int),x.c):=by rw[H];exact iP rfl
  have l:∀t,t<=T.last->own' t=own t:=λt R=>by rw[H];exact iN oM
  have G:∀j,j≠i->(T.fh i).r j=T.r j:=λj N=>by rw[e];exact iN N
  have Q:(T.fh i).r i=⟨[⟨x.c,x.m,T.last+1,fH T.now⟩],r⟩:=by rw[e];exact iP rfl
  have S:(T.fh i).last=T.last+1:=by rw[e]
  refine⟨own',⟨by rw[S];omega,λj N=> ?_,λj N y E=> ?_,λj N y E=> ?_,λj N y E=> ?_,λj N=> ?_⟩,by rw[S];omega,by rw[S];omega,l,λj N y E=> ?_,λj N y E=> ?_⟩
  ·by_cases d:j=i
   ·rw[d,Q];exact g9 _
   ·rw[G j d];exact h.one j N
  ·by_cases d:j=i
   ·rw[d,Q]at E
    rw[lA.1 E];exact h.w i z x J
   ·rw[G j d]at E;exact h.m j N y E
  ·by_cases d:j=i
   ·rw[d,Q]at E
    exact h.w i z y (by rw[A];exact Dl _ E)
   ·rw[G j d]at E;exact h.w j N y E
  ·rw[S]
   by_cases d:j=i
   ·rw[d,Q]at E
    rw[lA.1 E,d];exact⟨n,by show 1<=T.last+1;omega,ef _⟩
   ·rw[G j d]at E
    obtain⟨a,b,c⟩:=h.own j N y E;exact⟨by rw[l _ c];exact a,b,oM⟩
  ·by_cases d:j=i
   ·rw[d,Q]
    have:=h.nd i z;rw[L,A]at this;exact this
   ·rw[G j d];exact h.nd j N
  ·by_cases d:j=i
   ·rw[d,Q]at E
    rw[lA.1 E,d];exact .inl ⟨by show T.last<T.last+1;omega,x,J,rfl⟩
   ·rw[G j d]at E
    exact .inr ⟨y,E,rfl,rfl⟩
  ·by_cases d:j=i
   ·rw[d,Q]at E
    rw[d,A];exact Dl _ E
   ·rw[G j d]at E;exact E
theorem Mh{U:List be}{c:Int}(h:x∈xo U c):x∈U:=List.mem_of_mem_eraseP h
theorem cz(f:Nat->α)(i j:Nat)(x:α):(j=i/\aJ f i x j=x)\/(j≠i/\aJ f i x j=f j):=by
 by_cases h:j=i
 ·exact .inl ⟨h,iP h⟩
 ·exact .inr ⟨h,iN h⟩
theorem qV{r:Int}(h:cD r=true):0<=r/\r<4:=by
 unfold cD at h;exact acX
theorem sw{c r:Int}(h:¬cO c r≠0):0<=r/\r<4:=by
 have:=jZ (c:=c) (r:=r) oM;omega
theorem vY{own:dj}(h:lo T own){i:Nat}{hs:List be}(W:(hs.map be.c).Sublist ((T.r i).h.map be.c))(H:∀x∈hs,∃y∈(T.r i).h,y.c=x.c/\y.t=x.t/\y.m=x.m):cK 0 T own (T.vS i hs) own:=by
 refine cK.less h rfl (λj N x J=> ?_) (λj N=> ?_) (λj N=> ?_)
 ·have J:x∈(aJ T.r i ⟨hs,(T.r i).w⟩ j).h:=J
  rcases cz T.r i j ⟨hs,(T.r i).w⟩with⟨e,P⟩|⟨_,P⟩
  ·rw[P]at J
   rw[e];exact H x J
  ·rw[P]at J
   exact⟨x,J,rfl,rfl,rfl⟩
 ·show((aJ T.r i ⟨hs,(T.r i).w⟩ j).h.map be.c).Sublist _
  rcases cz T.r i j ⟨hs,(T.r i).w⟩with⟨e,P⟩|⟨_,P⟩
  ·rw[P,e];exact W
  ·rw[P];exact KL _
 ·show(aJ T.r i ⟨hs,(T.r i).w⟩ j).w.Sublist _
  rcases cz T.r i j ⟨hs,(T.r i).w⟩with⟨e,P⟩|⟨_,P⟩
  ·rw[P,e];exact KL _
  ·rw[P];exact KL _
theorem Cf{own:dj}(h:lo T own){i:Nat}{ws:List cS}(U:ws.Sublist (T.r i).w):cK 0 T own (T.cY i ws) own:=by
 refine cK.less h rfl (λj N x J=> ?_) (λj N=> ?_) (λj N=> ?_)
 ·have J:x∈(aJ T.r i ⟨(T.r i).h,ws⟩ j).h:=J
  rcases cz T.r i j ⟨(T.r i).h,ws⟩with⟨e,P⟩|⟨_,P⟩
  ·rw[P]at J;rw[e];exact⟨x,J,rfl,rfl,rfl⟩
  ·rw[P]at J;exact⟨x,J,rfl,rfl,rfl⟩
 ·show((aJ T.r i ⟨(T.r i).h,ws⟩ j).h.map be.c).Sublist _
  rcases cz T.r i j ⟨(T.r i).h,ws⟩with⟨e,P⟩|⟨_,P⟩
  ·rw[P,e];exact KL _
  ·rw[P];exact KL _
 ·show(aJ T.r i ⟨(T.r i).h,ws⟩ j).w.Sublist _
  rcases cz T.r i j ⟨(T.r i).h,ws⟩with⟨e,P⟩|⟨_,P⟩
  ·rw[P,e];exact U
  ·rw[P];exact KL _
theorem lo.release{own:dj}(h:lo T own)(c r t:Int):∃own',cK 1 T own (T.release c r t).1 own':=by
 unfold aI.release
 split
 ·exact afq
 ·rename_i D
  have G:0<=r/\r<4:=by
   exact afI
  have Z:=vY h (i:=r.toNat) (hs:=xo (T.r r.toNat).h c) ((zcX ..).map _) (λx J=>⟨x,Mh J,rfl,rfl,rfl⟩);exact afy
theorem Ai:∀{U:List be} {c u:Int} {x:be},x∈iD U c u->∃y∈U,y.c=x.c/\y.t=x.t/\y.m=x.m
 |[],_,_,_,h=>by cases h
 |h::r,c,u,x,J=>by
  unfold iD at J
  split at J
  ·rcases nO.1 J with rfl|J
   ·exact⟨h,by simp,rfl,rfl,rfl⟩
   ·exact⟨x,by simp[J],rfl,rfl,rfl⟩
  ·rcases nO.1 J with rfl|J
   ·exact⟨x,by simp,rfl,rfl,rfl⟩
   ·obtain⟨y,E,e⟩:=Ai J
    exact⟨y,by simp[E],e⟩
theorem FO:∀(U:List be) (c u:Int),(iD U c u).map be.c=U.map be.c
 |[],_,_=>rfl
 |h::r,c,u=>by
  unfold iD
  split
  ·rfl
  ·rw[li,FO r c u]
   rfl
theorem lo.renew{own:dj}(h:lo T own)(c r t:Int):cK 0 T own (T.renew c r t).1 own:=by
 unfold aI.renew
 split
 ·exact cK.refl oM h
 ·rename_i D
  have G:0<=r/\r<4:=by
   exact afI
  exact vY h (by rw[FO];exact KL _) (λx J=>Ai J)
theorem lo.cancel{own:dj}(h:lo T own)(c r:Int):∃own',cK 1 T own (T.cancel c r).1 own':=by
 unfold aI.cancel
 split
 ·exact afq
 ·rename_i D
  have G:=sw D
  split
  ·have Z:=Cf h (i:=r.toNat) (ws:=qF (T.r r.toNat).w c) (zcX ..)
   exact afy
  ·exact afq
theorem lo.time{own:dj}(h:lo T own)(q:Int):∃own',cK 4 T own (T.time q) own':=by
 unfold aI.time
 split
 ·exact afq
 ·have Z:cK 0 T own (aI.mk q T.last (λi=>⟨(T.r i).h.filter (λh=> !decide (h.u<=q)),(T.r i).w⟩)) own:=by
   refine cK.less h rfl (λj N x J=>⟨x,(zk.1 J).1,rfl,rfl,rfl⟩) (λj N=>zcW.map _) (λj N=>KL _)
  obtain⟨X,V⟩:=Z.i.fh (i:=0) oM;obtain⟨G,M⟩:=V.i.fh (i:=1) oM;obtain⟨l,Q⟩:=M.i.fh (i:=2) oM;obtain⟨p,F⟩:=Q.i.fh (i:=3) oM;exact⟨p,((((Z.trans V).trans M).trans Q).trans F).mono oM⟩
theorem tR{U:List be}{c:Int}{h:be}(e:lK U c=some h):h∈U/\h.c=c:=by
 unfold lK at e;exact⟨List.mem_of_find?_eq_some e,by have:=List.find?_some e;simpa using this⟩
theorem Jq{U:List be}{c:Int}(e:lK U c=none):∀h∈U,h.c≠c:=by
 unfold lK at e;rw[Zr]at e;intro h H D;exact e h H (by simp[D])
theorem zN{U:List cS}{c:Int}(e:vk U c=none):∀h∈U,h.c≠c:=by
 unfold vk at e;rw[Zr]at e;intro h H D;exact e h H (by simp[D])
structure MG(q:Int)(T:aI)(own:dj)(T':aI)(own':dj)(c:Int):Prop where
 i:lo T' own'
 last:T.last<=T'.last
 up:T'.last<=T.last+q
 vr:∀t,t<=T.last->own' t=own t
 h:∀i,i<4->∀h'∈(T'.r i).h,(T.last<h'.t/\(h'.c=c\/∃w∈(T.r i).w,w.c=h'.c))\/∃h∈(T.r i).h,h.c=h'.c/\h.t=h'.t
 w:∀i,i<4->∀w∈(T'.r i).w,w.c=c\/w∈(T.r i).w
theorem cK.Sv{q:Int}{T T':aI}{own own':dj}(h:cK q T own T' own')(c:Int):MG q T own T' own' c:=
 ⟨h.i,h.last,h.up,h.vr,λi z x J=>(h.h i z x J).imp (λ⟨a,b⟩=>⟨a,.inr b⟩) (λx=>x),λi z x J=> .inr (h.w i z x J)⟩
theorem lo.acquire{own:dj}(h:lo T own)(c r:Int):∃own',MG 1 T own (T.acquire c r 2).1 own' c/\((T.acquire c r 2).2.2=0->0<=r/\r<4/\∃x∈((T.acquire c r 2).1.r r.toNat).h,x.c=c/\x.t=(T.acquire c r 2).2.1):=by
 unfold aI.acquire
 split
 ·rename_i D
  exact⟨own,(cK.refl oM h).Sv c,λY=>absurd Y D⟩
 ·rename_i D
  have G:=sw D;rw[iN dC];unfold aI.oE
  split
  ·rename_i x J
   obtain⟨Z,V⟩:=tR J;rw[iP (h.m _ oM x Z)];exact⟨own,(cK.refl oM h).Sv c,λ_=>⟨G.1,G.2,x,Z,V,rfl⟩⟩
  ·rename_i g
   split
   ·split
    ·exact aeY
    ·exact aeY
   ·rename_i l
    split
    ·exact aeY
    ·have Z:lo (T.cY r.toNat ((T.r r.toNat).w++[⟨c,2⟩])) own:=by
      refine⟨h.last,λj N=> ?_,λj N x J=> ?_,λj N x J=> ?_,λj N x J=> ?_,λj N=> ?_⟩
      case refine_5=>
       show((aJ T.r r.toNat ⟨(T.r r.toNat).h,(T.r r.toNat).w++[⟨c,2⟩]⟩ j).h.map be.c++(aJ T.r r.toNat ⟨(T.r r.toNat).h,(T.r r.toNat).w++[⟨c,2⟩]⟩ j).w.map cS.c).Nodup;rcases cz T.r r.toNat j ⟨(T.r r.toNat).h,(T.r r.toNat).w++[⟨c,2⟩]⟩with⟨e,P⟩|⟨_,P⟩
       ·rw[P]
        show((T.r r.toNat).h.map be.c++((T.r r.toNat).w++[(⟨c,2⟩:cS)]).map cS.c).Nodup;rw[xd,<-nX,Wo];refine⟨h.nd _ oM,by simp,λa Q b B d=> ?_⟩;have B:b=c:=by simpa using B
        rcases lU.1 Q with Q|Q
        ·obtain⟨z,H,rfl⟩:=oK.1 Q
         exact Jq g z H (d.trans B)
        ·obtain⟨z,H,rfl⟩:=oK.1 Q
         exact zN l z H (d.trans B)
       ·rw[P];exact h.nd j N
      ·show(aJ T.r r.toNat ⟨(T.r r.toNat).h,_⟩ j).h.length<=1
       rcases cz T.r r.toNat j ⟨(T.r r.toNat).h,(T.r r.toNat).w++[⟨c,2⟩]⟩with⟨e,P⟩|⟨_,P⟩
       ·rw[P];exact h.one _ oM
       ·rw[P];exact h.one j N
      ·have J:x∈(aJ T.r r.toNat ⟨(T.r r.toNat).h,(T.r r.toNat).w++[⟨c,2⟩]⟩ j).h:=J
       rcases cz T.r r.toNat j ⟨(T.r r.toNat).h,(T.r r.toNat).w++[⟨c,2⟩]⟩with⟨e,P⟩|⟨_,P⟩
       ·rw[P]at J;exact h.m _ oM x J
       ·rw[P]at J;exact h.m j N x J
      ·have J:x∈(aJ T.r r.toNat ⟨(T.r r.toNat).h,(T.r r.toNat).w++[⟨c,2⟩]⟩ j).w:=J
       rcases cz T.r r.toNat j ⟨(T.r r.toNat).h,(T.r r.toNat).w++[⟨c,2⟩]⟩with⟨e,P⟩|⟨_,P⟩
       ·rw[P]at J
        rcases lU.1 J with J|J
        ·exact h.w _ oM x J
        ·rw[lA.1 J]
       ·rw[P]at J;exact h.w j N x J
      ·have J:x∈(aJ T.r r.toNat ⟨(T.r r.toNat).h,(T.r r.toNat).w++[⟨c,2⟩]⟩ j).h:=J
       rcases cz T.r r.toNat j ⟨(T.r r.toNat).h,(T.r r.toNat).w++[⟨c,2⟩]⟩with⟨e,P⟩|⟨_,P⟩
       ·rw[P]at J;rw[e];exact h.own _ oM x J
       ·rw[P]at J;exact h.own j N x J
     obtain⟨own',V⟩:=Z.fh (i:=r.toNat) oM;have u:MG 1 T own ((T.cY r.toNat ((T.r r.toNat).w++[⟨c,2⟩])).fh r.toNat) own' c:=by
      refine⟨V.i,V.last,V.up,V.vr,λj N x J=> ?_,λj N x J=> ?_⟩
      ·rcases V.h j N x J with⟨a,w,U,e⟩|⟨y,E,S,P⟩
       ·refine .inl ⟨a,?_⟩
        have U:w∈(aJ T.r r.toNat ⟨(T.r r.toNat).h,(T.r r.toNat).w++[⟨c,2⟩]⟩ j).w:=U;rcases cz T.r r.toNat j ⟨(T.r r.toNat).h,(T.r r.toNat).w++[⟨c,2⟩]⟩with⟨t,P⟩|⟨_,P⟩
        ·rw[P]at U
         rcases lU.1 U with U|U
         ·rw[t];exact .inr ⟨w,U,e⟩
         ·rw[lA.1 U]at e;exact .inl e.symm
        ·rw[P]at U;exact .inr ⟨w,U,e⟩
       ·have E:y∈(aJ T.r r.toNat ⟨(T.r r.toNat).h,(T.r r.toNat).w++[⟨c,2⟩]⟩ j).h:=E
        rcases cz T.r r.toNat j ⟨(T.r r.toNat).h,(T.r r.toNat).w++[⟨c,2⟩]⟩with⟨t,p⟩|⟨_,p⟩
        ·rw[p]at E;rw[t];exact .inr ⟨y,E,S,P⟩
        ·rw[p]at E;exact .inr ⟨y,E,S,P⟩
      ·have J:=V.w j N x J
       have J:x∈(aJ T.r r.toNat ⟨(T.r r.toNat).h,(T.r r.toNat).w++[⟨c,2⟩]⟩ j).w:=J;rcases cz T.r r.toNat j ⟨(T.r r.toNat).h,(T.r r.toNat).w++[⟨c,2⟩]⟩with⟨t,P⟩|⟨_,P⟩
       ·rw[P]at J
        rcases lU.1 J with J|J
        ·rw[t];exact .inr J
        ·rw[lA.1 J];exact aes
       ·rw[P]at J;exact .inr J
     unfold aI.Al
     split
     ·rename_i x J
      obtain⟨M,F⟩:=tR J;exact⟨own',u,λ_=>⟨G.1,G.2,x,M,F,rfl⟩⟩
     ·exact⟨own',u,λY=>by cases Y⟩
theorem Pk{own:dj}(h:lo T own){c r:Int}(D:0<=c/\c<16)(G:0<=r/\r<4)(J:x∈(T.r r.toNat).h)(B:x.c=c):(T.renew c r x.t).2.2=0/\(T.renew c r x.t).2.1=fH T.now/\∃y∈((T.renew c r x.t).1.r r.toNat).h,y.c=c/\y.t=x.t:=by
 have Z:=h.one r.toNat oM;obtain⟨e⟩:Nonempty ((T.r r.toNat).h=[x]):=by
  cases H:(T.r r.toNat).h with
  |nil=>rw[H]at J;cases J
  |cons y q=>
   rw[H]at Z J;have:q=[]:=Yl.1 (by rw[oO]at Z;omega);subst this;rw[lA.1 J];exact⟨rfl⟩
 have C:cO c r=0:=by
  exact afx
 have d:T.fY c r x.t=0:=by
  unfold aI.fY;rw[iN (λh=>h C),e];unfold lK;simp[B]
 unfold aI.renew;rw[iN (λh=>h d)];refine⟨rfl,rfl,⟨x.c,x.m,x.t,fH T.now⟩,?_,B,rfl⟩;show _∈(aJ T.r r.toNat ⟨iD (T.r r.toNat).h c (fH T.now),(T.r r.toNat).w⟩ r.toNat).h;rw[UI,e];show _∈iD [x] c (fH T.now);unfold iD;rw[iP (by simp[B])];exact acy
theorem JK{U:List be}(Z:U.length<=1):U=[]\/∃x,U=[x]:=by
 cases U with
 |nil=>exact aes
 |cons x r=>
  have:r=[]:=Yl.1 (by rw[oO]at Z;omega);subst this;exact .inr ⟨x,rfl⟩
theorem RH(T:aI){i j:Nat}(h:j≠i):(T.fh i).r j=T.r j:=iN h
theorem WO(T:aI){i j:Nat}(U:List be)(h:j≠i):(T.vS i U).r j=T.r j:=iN h
theorem WV(T:aI){i j:Nat}(u:List cS)(h:j≠i):(T.cY i u).r j=T.r j:=iN h
theorem LJ{own:dj}(h:lo T own){i:Nat}(z:i<4){c:Int}(H:∀x∈(T.r i).h,x.c≠c)(U:∀x∈(T.r i).w,x.c≠c):(∀x∈((T.fh i).r i).h,x.c≠c)/\∀x∈((T.fh i).r i).w,x.c≠c:=by
 obtain⟨o,k⟩:=h.fh z;refine⟨λx J D=> ?_,λx J=>U x (k.w i z x J)⟩;rcases k.h i z x J with⟨_,w,Z,V⟩|⟨y,Z,V,_⟩
 ·exact U w Z (V.trans D)
 ·exact H y Z (V.trans D)
theorem Ga{own:dj}(h:lo T own){i:Nat}(z:i<4):((T.r i).w.map cS.c).Nodup/\∀x∈(T.r i).h,∀y∈(T.r i).w,x.c≠y.c:=by
 have:=Wo.1 (h.nd i z);exact⟨this.2.1,λx J y E=>this.2.2 _ (oK.2 ⟨x,J,rfl⟩) _ (oK.2 ⟨y,E,rfl⟩)⟩
theorem FK:∀{u:List cS} {c:Int},(u.map cS.c).Nodup->∀x∈qF u c,x.c≠c
 |[],c,_,x,J=>by cases J
 |w::u,c,W,x,J=>by
  rw[li,XZ]at W;unfold qF at J;by_cases U:w.c=c
  ·rw[VV (by simp[U])]at J
   intro D;exact W.1 (oK.2 ⟨x,J,D.trans U.symm⟩)
  ·rw[WE (by simp[U])]at J
   rcases nO.1 J with rfl|J
   ·exact U
   ·exact FK W.2 x J
theorem Of{own:dj}(h:lo T own){c r:Int}(D:0<=c/\c<16)(G:0<=r/\r<4)(H:∀x∈(T.r r.toNat).h,x.c≠c):
 (∀x∈((T.cancel c r).1.r r.toNat).h,x.c≠c)/\(∀x∈((T.cancel c r).1.r r.toNat).w,x.c≠c)/\∀j,j≠r.toNat->(T.cancel c r).1.r j=T.r j:=by
 have q:cO c r=0:=by
  exact afx
 unfold aI.cancel;rw[iN (λh=>h q)]
 split
 ·have Z:=Cf h (i:=r.toNat) (ws:=qF (T.r r.toNat).w c) (zcX ..)
  have e:(T.cY r.toNat (qF (T.r r.toNat).w c)).r r.toNat=⟨(T.r r.toNat).h,qF (T.r r.toNat).w c⟩:=iP rfl;obtain⟨a,b⟩:=LJ Z.i (i:=r.toNat) oM (c:=c) (by rw[e];exact H) (by rw[e];exact FK (Ga h oM).1);exact⟨a,b,λj N=>(RH _ N).trans (WV _ _ N)⟩
 ·rename_i W
  exact⟨H,zN W,λ_ _=>rfl⟩
theorem zf{own:dj}(h:lo T own){r:Int}(G:0<=r/\r<4)(J:(T.r r.toNat).h=[x])(D:0<=x.c/\x.c<16):
 (∀y∈((T.release x.c r x.t).1.r r.toNat).h,y.c≠x.c)/\(∀y∈((T.release x.c r x.t).1.r r.toNat).w,y.c≠x.c)/\∀j,j≠r.toNat->(T.release x.c r x.t).1.r j=T.r j:=by
 have q:cO x.c r=0:=by
  exact afx
 have d:T.fY x.c r x.t=0:=by
  unfold aI.fY;rw[iN (λh=>h q),J];unfold lK;exact acy
 have H:xo (T.r r.toNat).h x.c=[]:=by
  rw[J];unfold xo;rw[VV acy]
 unfold aI.release;rw[iN (λh=>h d),H];have Z:=vY h (i:=r.toNat) (hs:=[]) (List.nil_sublist _) (λx J=>by cases J);have e:(T.vS r.toNat []).r r.toNat=⟨[],(T.r r.toNat).w⟩:=iP rfl;have o:=(Ga h (i:=r.toNat) oM).2 x (by rw[J];simp);obtain⟨a,b⟩:=LJ Z.i (i:=r.toNat) oM (c:=x.c) (by rw[e];intro y E;cases E) (by rw[e];exact λy E=>(o y E).symm);exact⟨a,b,λj N=>(RH _ N).trans (WO _ _ N)⟩
theorem sD{own:dj}(h:lo T own){c r:Int}(D:0<=c/\c<16)(G:0<=r/\r<4):
 ∃own',cK 2 T own (ie c T r) own'/\(∀x∈((ie c T r).r r.toNat).h,x.c≠c)/\(∀x∈((ie c T r).r r.toNat).w,x.c≠c)/\∀j,j≠r.toNat->(ie c T r).r j=T.r j:=by
 have R:cD r=true:=by unfold cD;simp;omega
 have i:T.ly r=(T.r r.toNat).h:=iP R;unfold ie;rw[i];have key:∀l g,cK 1 T own l g->(∀x∈(l.r r.toNat).h,x.c≠c)->(∀j,j≠r.toNat->l.r j=T.r j)->∃own',cK 2 T own (l.cancel c r).1 own'/\(∀x∈((l.cancel c r).1.r r.toNat).h,x.c≠c)/\(∀x∈((l.cancel c r).1.r r.toNat).w,x.c≠c)/\∀j,j≠r.toNat->(l.cancel c r).1.r j=T.r j:=by
  intro l g Z V M;obtain⟨a,b,d⟩:=Of Z.i D G V;obtain⟨o,Q⟩:=Z.i.cancel c r;exact⟨o,Z.trans Q,a,b,λj N=>(d j N).trans (M j N)⟩
 rcases JK (h.one r.toNat oM)with e|⟨x,e⟩
 ·rw[e]
  exact key T own (cK.refl oM h) (by rw[e];intro x J;cases J) (λ_ _=>rfl)
 ·rw[e]
  show∃own',cK 2 T own ((if x.c==c then(T.release c r x.t).1 else T).cancel c r).1 own'/\(∀y∈(((if x.c==c then(T.release c r x.t).1 else T).cancel c r).1.r r.toNat).h,y.c≠c)/\(∀y∈(((if x.c==c then(T.release c r x.t).1 else T).cancel c r).1.r r.toNat).w,y.c≠c)/\∀j,j≠r.toNat->((if x.c==c then(T.release c r x.t).1 else T).cancel c r).1.r j=T.r j;by_cases B:x.c=c
  ·rw[iP (by simp[B])]
   subst B;obtain⟨a,_,d⟩:=zf h G e D;obtain⟨o,V⟩:=h.release x.c r x.t;exact key _ o V a d
  ·rw[iN (by simp[B])]
   exact key T own (cK.refl oM h) (by rw[e];intro y E;rw[lA.1 E];exact B) (λ_ _=>rfl)
theorem QA{own:dj}(h:lo T own){c:Int}(D:0<=c/\c<16):
 ∃own',cK 8 T own (pT T c) own'/\∀i,i<4->(∀x∈((pT T c).r i).h,x.c≠c)/\∀x∈((pT T c).r i).w,x.c≠c:=by
 obtain⟨a,N,j,G,d0⟩:=sD h D (r:=0) oM;obtain⟨X,d,O,Y,d1⟩:=sD N.i D (r:=1) oM;obtain⟨I,g,J,o,d2⟩:=sD d.i D (r:=2) oM;obtain⟨l,Q,E,R,d3⟩:=sD g.i D (r:=3) oM;refine⟨l,((N.trans d).trans g).trans Q,λi z=> ?_⟩;show(∀x∈((ie c (ie c (ie c (ie c T 0) 1) 2) 3).r i).h,x.c≠c)/\∀x∈((ie c (ie c (ie c (ie c T 0) 1) 2) 3).r i).w,x.c≠c;have z:i=0\/i=1\/i=2\/i=3:=oM
 rcases z with rfl|rfl|rfl|rfl
 ·rw[d3 0 dC,d2 0 dC,d1 0 dC]
  exact⟨j,G⟩
 ·rw[d3 1 dC,d2 1 dC]
  exact⟨O,Y⟩
 ·rw[d3 2 dC]
  exact⟨J,o⟩
 ·exact⟨E,R⟩
section
structure GI(X:WM)(gv:Nat->Int->Vw)(own:dj)(N:Nat->Rg)(n m:Nat)(T:Int):Prop where
 w:WI X.st X.ev gv N n T
 ci:∀c:Int,0<=c->c<3->nw (X.c c.toNat) m
 lk:∀c r:Int,0<=c->c<3->0<=r->r<4->1<=(X.c c.toNat).tok r->qE (X.c c.toNat) r (gv r.toNat ((X.c c.toNat).tok r)) (aG r ((X.c c.toNat).tok r) X.ev)/\own ((X.c c.toNat).tok r)=(r,c)
 tk:∀c r:Int,0<=c->c<3->0<=(X.c c.toNat).tok r/\(X.c c.toNat).tok r<=X.sv.bB.last
 pr:∀r t:Int,0<=r->r<4->X.sv.bB.last<t->gv r.toNat t=Vw.zero/\aG r t X.ev=gI t
 tb:lo X.sv.bB own
 lb:X.sv.bB.last<=20*(m:Int)
 hc:∀i,i<4->∀h∈(X.sv.bB.r i).h,0<=h.c/\h.c<3/\(aQ X.sv.bi h.c).isSome=true
 wc:∀i,i<4->∀w∈(X.sv.bB.r i).w,0<=w.c/\w.c<3/\(aQ X.sv.bi w.c).isSome=true
 fr:∀r:Int,0<=r->r<4->∀h∈(X.sv.bB.r r.toNat).h,(X.c h.c.toNat).bi=true->h.t=(X.c h.c.toNat).tok r\/(gv r.toNat h.t=Vw.zero/\aG r h.t X.ev=gI h.t)
 la:∀r:Int,0<=r->r<4->∀h∈(X.sv.bB.r r.toNat).h,(X.c h.c.toNat).la r.toNat<=h.t
 ll:∀c r:Int,0<=c->c<3->0<=r->r<4->(X.c c.toNat).la r.toNat<=X.sv.bB.last
 ss:∀c:Int,0<=c->c<3->(X.c c.toNat).bi=true->(aQ X.sv.bi c).isSome=true
 s0:∀c:Int,0<=c->c<3->(X.c c.toNat).bi=false->∀r,(X.c c.toNat).tok r=0
 ev:∀e∈X.ev,∀r,e.cX r=true->1<=e.t/\e.t<=X.sv.bB.last
 ed:∀e∈X.ev,e.d=5->e.e=0->e.b.length<=23
 hz:∀c:Int,0<=c->c<3->∀k:Nat,(X.c c.toNat).h k=qx.zero\/1<=((X.c c.toNat).h k).t
section
variable {X:WM} {V:Nat->Int->Vw} {own D:dj} {N z:Nat->Rg} {n n' m m':Nat} {T T':Int}
theorem GI.mono(h:GI X V own N n m T)(W:n<=n')(y:m<=m')(A:T<=T'):GI X V own N n' m' T':=
 ⟨h.w.mono W A,λc K M=>(h.ci c K M).le y,h.lk,h.tk,h.pr,h.tb,by have:=h.lb;omega,h.hc,h.wc,h.fr,h.la,h.ll,h.ss,h.s0,h.ev,h.ed,h.hz⟩
theorem GI.bad(h:GI X V own N n m T){e:eW}(B:∀r,e.cX r=false)(q:e.d=5->e.e=0->e.b.length<=23):GI ⟨X.sv,X.st,X.c,X.ev++[e]⟩ V own N n m T:=by
 refine⟨⟨h.w.s,h.w.z,h.w.p.bad (λr _ _=>B r)⟩,h.ci,λc r K M F L R=> ?_,h.tk,λr t F L R=> ?_,h.tb,h.lb,h.hc,h.wc,λr F L x J U=> ?_,h.la,h.ll,h.ss,h.s0,λx J r u=> ?_,λx J=> ?_,h.hz⟩
 ·rw[kH (B r)];exact h.lk c r K M F L R
 ·rw[kH (B r)];exact h.pr r t F L R
 ·rw[kH (B r)];exact h.fr r F L x J U
 ·rcases lU.1 J with J|J
  ·exact h.ev x J r u
  ·rw[lA.1 J,B]at u;cases u
 ·rcases lU.1 J with J|J
  ·exact h.ed x J
  ·rw[lA.1 J];exact q
theorem GI.store(h:GI X V own N n m T){p:eu}(U:WI p X.ev V z n' T'):GI ⟨X.sv,p,X.c,X.ev⟩ V own z n' m T':=
 ⟨U,h.ci,h.lk,h.tk,h.pr,h.tb,h.lb,h.hc,h.wc,h.fr,h.la,h.ll,h.ss,h.s0,h.ev,h.ed,h.hz⟩
theorem cH(f:Nat->bq){c p:Int}(C:bq)(K:0<=c)(o:0<=p):(p=c/\aJ f c.toNat C p.toNat=C)\/(p≠c/\aJ f c.toNat C p.toNat=f p.toNat):=by
 rcases cz f c.toNat p.toNat C with⟨e,h⟩|⟨e,h⟩
 ·exact .inl ⟨oM,h⟩
 ·exact .inr ⟨λY=>e (by rw[Y]),h⟩
theorem qE.same{C l:bq}{r j:Int}{v:Vw}(h:qE C j v s)(U:BF C l r)(N:j≠r)(W:j.toNat≠r.toNat):qE l j v s:=
 ⟨h.x.trans (U.rg _ W).symm,by rw[U.w j N];exact h.w,λy E w=>h.c y (U.b y E (by rw[w];exact N)) w⟩
theorem ua{C l:bq}(h:l.h=C.h)(r:Int):l.tok r=C.tok r:=by unfold bq.tok;rw[h]
theorem GI.block(h:GI X V own N n m T){c r:Int}(K:0<=c)(M:c<3)(r0:0<=r)(r4:r<4)(W:1<=(X.c c.toNat).tok r){e:eW}(C0:e.r=r)(L:e.t=(X.c c.toNat).tok r)(B0:e.d=5->e.e=0->e.b.length<=23){D:eu}{l:bq}{E:Vw}(hm:m<=m')
 (U:ow D (X.ev++[e]) V n' T r ((X.c c.toNat).tok r) (X.c c.toNat) l m' z E):
 GI ⟨X.sv,D,aJ X.c c.toNat l,X.ev++[e]⟩ (gg V r ((X.c c.toNat).tok r) E) own z n' m' T:=by
 have G:=(h.lk c r K M r0 r4 W).2;have I:∀j:Int,0<=j->j≠r->j.toNat≠r.toNat:=λj h1 h2=>oM
 have F:∀j:Int,j≠r->e.cX j=false:=λj S=>by
  cases J:e.cX j with
  |false=>rfl
  |true=>exact absurd ((zV J).1.symm.trans C0) S
 have E0:=h.tk c r K M;have y:∀j i:Int,0<=j->j<4->(j=r->i≠(X.c c.toNat).tok r)->V j.toNat i=Vw.zero/\aG j i X.ev=gI i->gg V r ((X.c c.toNat).tok r) E j.toNat i=Vw.zero/\aG j i (X.ev++[e])=gI i:=λj i q O Y hz=>by
  by_cases d:j=r
  ·subst d
   rw[jx,fy _ _ (Y rfl),wB (by rw[L];exact Y rfl)];exact hz
  ·rw[kD _ _ (I j q d),kH (F j d)]
   exact hz
 refine⟨U.w,λp o A=> ?_,λp t o A C A0 w=> ?_,λp t o A=> ?_,λj i q O Y=> ?_,h.tb,by show X.sv.bB.last<=20*(m':Int);have:=h.lb;omega,h.hc,h.wc,λj q O x J B=> ?_,λj q O x J=> ?_,λp j o A q O=> ?_,λp o A B=> ?_,λp o A B j=> ?_,λx J j hg=> ?_,λx J=> ?_,λp o A k=> ?_⟩
 ·show nw (aJ X.c c.toNat l p.toNat) m'
  rcases cH X.c l K o with⟨_,P⟩|⟨_,P⟩
  ·rw[P];exact U.c
  ·rw[P];exact(h.ci p o A).le hm
 ·show qE (aJ X.c c.toNat l p.toNat) t (gg V r ((X.c c.toNat).tok r) E t.toNat ((aJ X.c c.toNat l p.toNat).tok t)) (aG t ((aJ X.c c.toNat l p.toNat).tok t) (X.ev++[e]))/\own ((aJ X.c c.toNat l p.toNat).tok t)=(t,p)
  have w:1<=(aJ X.c c.toNat l p.toNat).tok t:=w;rcases cH X.c l K o with⟨g,P⟩|⟨g,P⟩
  ·rw[P]at w⊢
   rw[ua U.s.h]at w⊢;subst g;by_cases d:t=r
   ·subst d
    rw[jx,fA];exact⟨U.l,G⟩
   ·obtain⟨a,b⟩:=h.lk p t o A C A0 w
    rw[kD _ _ (I t C d),kH (F t d)];exact⟨a.same U.s d (I t C d),b⟩
  ·rw[P]at w⊢
   obtain⟨a,b⟩:=h.lk p t o A C A0 w;refine⟨?_,b⟩;by_cases d:t=r
   ·subst d
    have Z:(X.c p.toNat).tok t≠(X.c c.toNat).tok t:=λR=>by
     rw[R,G]at b;exact g (congrArg Prod.snd b).symm
    rw[jx,fy _ _ Z,wB (by rw[L];exact Z)];exact a
   ·rw[kD _ _ (I t C d),kH (F t d)]
    exact a
 ·show 0<=(aJ X.c c.toNat l p.toNat).tok t/\(aJ X.c c.toNat l p.toNat).tok t<=_
  rcases cH X.c l K o with⟨g,P⟩|⟨_,P⟩
  ·rw[P,ua U.s.h];exact h.tk c t K M
  ·rw[P];exact h.tk p t o A
 ·refine y j i q O (λd=> ?_) (h.pr j i q O Y)
  have:X.sv.bB.last<i:=Y;omega
 ·have Q:=h.hc _ oM x J
  show x.t=(aJ X.c c.toNat l x.c.toNat).tok j\/_;have B:(aJ X.c c.toNat l x.c.toNat).bi=true:=B;have H:x.t=(X.c x.c.toNat).tok j\/(V j.toNat x.t=Vw.zero/\aG j x.t X.ev=gI x.t):=by
   refine h.fr j q O x J ?_;rcases cH X.c l K Q.1 with⟨g,P⟩|⟨_,P⟩
   ·rw[P,U.s.s]at B
    rw[g];exact B
   ·rw[P]at B;exact B
  have D0:(aJ X.c c.toNat l x.c.toNat).tok j=(X.c x.c.toNat).tok j:=by
   rcases cH X.c l K Q.1 with⟨g,P⟩|⟨_,P⟩
   ·rw[P,ua U.s.h,g]
   ·rw[P]
  rw[D0];rcases H with H|H
  ·exact .inl H
  ·by_cases S:j=r/\x.t=(X.c c.toNat).tok r
   ·left
    have u:=(h.tb.own _ oM x J).1;rw[S.2,G]at u;have P:c=x.c:=congrArg Prod.snd u;rw[S.2,<-P,S.1]
   ·exact .inr (y j x.t q O (λd R=>S ⟨d,R⟩) H)
 ·have Q:=h.hc _ oM x J
  show(aJ X.c c.toNat l x.c.toNat).la j.toNat<=x.t;rcases cH X.c l K Q.1 with⟨g,P⟩|⟨_,P⟩
  ·rw[P,U.s.la,<-g];exact h.la j q O x J
  ·rw[P];exact h.la j q O x J
 ·show(aJ X.c c.toNat l p.toNat).la j.toNat<=_
  rcases cH X.c l K o with⟨g,P⟩|⟨_,P⟩
  ·rw[P,U.s.la];exact h.ll c j K M q O
  ·rw[P];exact h.ll p j o A q O
 ·have B:(aJ X.c c.toNat l p.toNat).bi=true:=B
  rcases cH X.c l K o with⟨g,P⟩|⟨_,P⟩
  ·rw[P,U.s.s]at B;rw[g];exact h.ss c K M B
  ·rw[P]at B;exact h.ss p o A B
 ·have B:(aJ X.c c.toNat l p.toNat).bi=false:=B
  show(aJ X.c c.toNat l p.toNat).tok j=0;rcases cH X.c l K o with⟨g,P⟩|⟨_,P⟩
  ·rw[P,U.s.s]at B;rw[P,ua U.s.h];exact h.s0 c K M B j
  ·rw[P]at B⊢;exact h.s0 p o A B j
 ·rcases lU.1 J with J|J
  ·exact h.ev x J j hg
  ·rw[lA.1 J,L]
   exact⟨W,E0.2⟩
 ·rcases lU.1 J with J|J
  ·exact h.ed x J
  ·rw[lA.1 J];exact B0
 ·show(aJ X.c c.toNat l p.toNat).h k=qx.zero\/1<=((aJ X.c c.toNat l p.toNat).h k).t
  rcases cH X.c l K o with⟨g,P⟩|⟨_,P⟩
  ·rw[P,U.s.h];exact h.hz c K M k
  ·rw[P];exact h.hz p o A k
theorem GI.serve(h:GI X V own N n m T){c:Int}{q:Int}(u:MG q X.sv.bB own S.bB D c)(j:q<=20*((m':Int)-(m:Int)))(g:0<=c/\c<3)(G:m<=m')
 (H:∀i,i<4->∀x∈(S.bB.r i).h,(aQ S.bi x.c).isSome=true) (U:∀i,i<4->∀x∈(S.bB.r i).w,(aQ S.bi x.c).isSome=true) (W:∀c:Int,0<=c->c<3->(X.c c.toNat).bi=true->(aQ S.bi c).isSome=true):
 GI ⟨S,X.st,X.c,X.ev⟩ V D N n m' T:=by
 have C:=u.last;have O:∀i,i<4->∀x∈(S.bB.r i).h,0<=x.c/\x.c<3:=λi z x J=>by
  rcases u.h i z x J with⟨_,e|⟨w,U,e⟩⟩|⟨y,E,e,_⟩
  ·rw[e];exact g
  ·have:=h.wc i z w U;rw[<-e];exact⟨this.1,this.2.1⟩
  ·have:=h.hc i z y E;rw[<-e];exact⟨this.1,this.2.1⟩
 refine⟨h.w,λc K M=>(h.ci c K M).le G,λp r K M F L R=> ?_,λp r K M=> ?_,λr t F L R=> ?_,u.i,?_,λi z x J=>⟨(O i z x J).1,(O i z x J).2,H i z x J⟩,λi z x J=> ?_,λr F L x J B=> ?_,λr F L x J=> ?_,λp r K M F L=> ?_,W,h.s0,λx J r d=> ?_,h.ed,h.hz⟩
 ·obtain⟨a,b⟩:=h.lk p r K M F L R
  exact⟨a,(u.vr _ (h.tk p r K M).2).trans b⟩
 ·have:=h.tk p r K M
  exact⟨this.1,xK this.2 C⟩
 ·exact h.pr r t F L (zc5 C R)
 ·have:=h.lb
  have:=u.up;show S.bB.last<=_;omega
 ·rcases u.w i z x J with e|Q
  ·exact⟨by rw[e];exact g.1,by rw[e];exact g.2,U i z x J⟩
  ·have:=h.wc i z x Q
   exact⟨this.1,this.2.1,U i z x J⟩
 ·rcases u.h _ oM x J with⟨a,_⟩|⟨y,E,Y,P⟩
  ·exact .inr (h.pr r x.t F L a)
  ·have B:(X.c x.c.toNat).bi=true:=B
   rw[<-Y]at B⊢;rw[<-P];exact h.fr r F L y E B
 ·show(X.c x.c.toNat).la r.toNat<=x.t
  rcases u.h _ oM x J with⟨a,_⟩|⟨y,E,Y,P⟩
  ·have:=O _ oM x J
   have:=h.ll x.c r this.1 this.2 F L;omega
  ·rw[<-Y,<-P]
   exact h.la r F L y E
 ·exact xK (h.ll p r K M F L) C
 ·have:=h.ev x J r d
  exact⟨this.1,xK this.2 C⟩
def CTo(X:WM)(V:Nat->Int->Vw)(own:dj)(c:Int)(l:bq)(r:Int):Prop:=
 (l.tok r=(X.c c.toNat).tok r/\l.r r.toNat=(X.c c.toNat).r r.toNat/\l.wr.filter (ao r)=(X.c c.toNat).wr.filter (ao r)/\∀y∈l.bl,y.region=r->y∈(X.c c.toNat).bl)\/l.tok r=0\/
 (1<=l.tok r/\l.tok r<=X.sv.bB.last/\own (l.tok r)=(r,c)/\V r.toNat (l.tok r)=Vw.zero/\aG r (l.tok r) X.ev=gI (l.tok r)/\l.r r.toNat=jc.zero/\l.wr.filter (ao r)=[]/\∀y∈l.bl,y.region≠r)
theorem lF{C:bq}{r:Int}(h:¬(0<=r/\r<4)):C.tok r=0:=by
 unfold bq.tok;rw[iN];intro R;exact h (qV R)
theorem GI.wG(h:GI X V own N n m T){c:Int}(K:0<=c)(M:c<3){l:bq}(D:nw l m)(b:∀r:Int,0<=r->r<4->CTo X V own c l r)
 (Z:∀r:Int,0<=r->r<4->∀x∈(X.sv.bB.r r.toNat).h,x.c=c->l.bi=true->x.t=l.tok r\/(V r.toNat x.t=Vw.zero/\aG r x.t X.ev=gI x.t)) (S:∀r:Int,0<=r->r<4->l.la r.toNat<=X.sv.bB.last/\∀x∈(X.sv.bB.r r.toNat).h,x.c=c->l.la r.toNat<=x.t)
 (t:l.bi=true->(aQ X.sv.bi c).isSome=true) (Y:l.bi=false->∀r,l.tok r=0) (q:∀k,l.h k=qx.zero\/1<=(l.h k).t):GI ⟨X.sv,X.st,aJ X.c c.toNat l,X.ev⟩ V own N n m T:=by
 refine⟨h.w,λp o A=> ?_,λp r o A F L R=> ?_,λp r o A=> ?_,h.pr,h.tb,h.lb,h.hc,h.wc,λr F L x J i=> ?_,λr F L x J=> ?_,λp r o A F L=> ?_,λp o A i=> ?_,λp o A i r=> ?_,h.ev,h.ed,λp o A k=> ?_⟩
 ·show nw (aJ X.c c.toNat l p.toNat) m
  rcases cH X.c l K o with⟨_,P⟩|⟨_,P⟩
  ·rw[P];exact D
  ·rw[P];exact h.ci p o A
 ·show qE (aJ X.c c.toNat l p.toNat) r (V r.toNat ((aJ X.c c.toNat l p.toNat).tok r)) (aG r ((aJ X.c c.toNat l p.toNat).tok r) X.ev)/\own ((aJ X.c c.toNat l p.toNat).tok r)=(r,p)
  have W:1<=(aJ X.c c.toNat l p.toNat).tok r:=R;clear R;rcases cH X.c l K o with⟨g,P⟩|⟨_,P⟩
  ·rw[P]at W⊢
   subst g;rcases b r F L with⟨d,H,Q,C⟩|a|⟨_,_,d,H,Q,C,I,j⟩
   ·rw[d]at W⊢
    obtain⟨O,B⟩:=h.lk p r o A F L W;exact⟨⟨O.x.trans H.symm,by rw[Q];exact O.w,λy E w=>O.c y (C y E w) w⟩,B⟩
   ·omega
   ·rw[H,Q]
    exact⟨⟨C.symm,by rw[I];rfl,λy E w=>absurd w (j y E)⟩,d⟩
  ·rw[P]at W⊢
   exact h.lk p r o A F L W
 ·show 0<=(aJ X.c c.toNat l p.toNat).tok r/\(aJ X.c c.toNat l p.toNat).tok r<=_
  have u:=h.tb.last;rcases cH X.c l K o with⟨g,P⟩|⟨_,P⟩
  ·rw[P]
   by_cases G:0<=r/\r<4
   ·rcases b r G.1 G.2 with⟨d,_⟩|a|⟨d,H,_⟩
    ·rw[d];exact h.tk c r K M
    ·rw[a];exact⟨ef _,u⟩
    ·exact⟨oM,H⟩
   ·rw[lF G];exact⟨ef _,u⟩
  ·rw[P];exact h.tk p r o A
 ·have e:=h.hc _ oM x J
  show x.t=(aJ X.c c.toNat l x.c.toNat).tok r\/_;have i:(aJ X.c c.toNat l x.c.toNat).bi=true:=i;rcases cH X.c l K e.1 with⟨g,P⟩|⟨_,P⟩
  ·rw[P]at i⊢;exact Z r F L x J g i
  ·rw[P]at i⊢;exact h.fr r F L x J i
 ·have e:=h.hc _ oM x J
  show(aJ X.c c.toNat l x.c.toNat).la r.toNat<=x.t;rcases cH X.c l K e.1 with⟨g,P⟩|⟨_,P⟩
  ·rw[P];exact(S r F L).2 x J g
  ·rw[P];exact h.la r F L x J
 ·show(aJ X.c c.toNat l p.toNat).la r.toNat<=_
  rcases cH X.c l K o with⟨g,P⟩|⟨_,P⟩
  ·rw[P];exact(S r F L).1
  ·rw[P];exact h.ll p r o A F L
 ·have i:(aJ X.c c.toNat l p.toNat).bi=true:=i
  rcases cH X.c l K o with⟨g,P⟩|⟨_,P⟩
  ·rw[P]at i;rw[g];exact t i
  ·rw[P]at i;exact h.ss p o A i
 ·have i:(aJ X.c c.toNat l p.toNat).bi=false:=i
  show(aJ X.c c.toNat l p.toNat).tok r=0;rcases cH X.c l K o with⟨g,P⟩|⟨_,P⟩
  ·rw[P]at i⊢;exact Y i r
  ·rw[P]at i⊢;exact h.s0 p o A i r
 ·show(aJ X.c c.toNat l p.toNat).h k=qx.zero\/1<=((aJ X.c c.toNat l p.toNat).h k).t
  rcases cH X.c l K o with⟨g,P⟩|⟨_,P⟩
  ·rw[P];exact q k
  ·rw[P];exact h.hz p o A k
end
end
section
theorem dK{y:Int×Int}{l:List (Int×Int)}{x:Int}(h:(y.1==x)=false):aQ (y::l) x=aQ l x:=by
 unfold aQ;rw[UJ,h]
theorem fL{y:Int×Int}{l:List (Int×Int)}{x:Int}(h:(y.1==x)=true):aQ (y::l) x=some y:=by
 unfold aQ;rw[UJ,h]
theorem jK(l:List (Int×Int))(c n x:Int):(aQ (bR l c n) x).isSome=(aQ l x).isSome:=by
 induction l with
 |nil=>rfl
 |cons y l K=>
  unfold bR
  split
  ·cases E:y.1==x with
   |true=>rw[fL (y:=(y.1,n)) E,fL E];rfl
   |false=>rw[dK (y:=(y.1,n)) E,dK E]
  ·cases E:y.1==x with
   |true=>rw[fL E,fL E]
   |false=>rw[dK E,dK E];exact K
theorem rP{l:List (Int×Int)}{c x:Int}(h:x≠c):(aQ (kB l c) x).isSome=(aQ l x).isSome:=by
 induction l with
 |nil=>rfl
 |cons y l K=>
  unfold kB at K⊢
  cases D:y.1==c with
  |true=>
   have E:(y.1==x)=false:=by
    have:y.1=c:=by simpa using D
    simp[this,VS h]
   rw[VV (p:=λx:Int×Int=>x.1==c) D,dK E]
  |false=>
   rw[WE (p:=λx:Int×Int=>x.1==c) (by rw[D];exact gV)]
   cases E:y.1==x with
   |true=>rw[fL E,fL E]
   |false=>rw[dK E,dK E];exact K
theorem Me{l r:List (Int×Int)}{x:Int}(h:(aQ l x).isSome=true):(aQ (l++r) x).isSome=true:=by
 unfold aQ at h⊢;rw[zcI]
 cases Y:l.find? (λy=>y.1==x)with
 |none=>rw[Y]at h;cases h
 |some _=>rfl
theorem MP(l:List (Int×Int))(c n:Int):(aQ (l++[(c,n)]) c).isSome=true:=by
 unfold aQ;rw[zcI]
 cases Y:l.find? (λy=>y.1==c)with
 |none=>exact acy
 |some _=>rfl
theorem wW{l:List PU}{r j:Int}(h:j≠r):(l.filter (λx=> !ao r x)).filter (ao j)=l.filter (ao j):=by
 rw[List.filter_filter];refine List.filter_congr (λx _=> ?_);unfold ao;by_cases J:x.region=j
 ·simp[J,h]
 ·simp[J]
theorem FX{l:List PU}{r:Int}:(l.filter (λx=> !ao r x)).filter (ao r)=[]:=by
 rw[List.filter_filter,zcL];intro x _;exact acy
theorem yH{r:Int}(K:0<=r)(Q:r<4):cD r=true:=by unfold cD;simp;omega
theorem mx{C:bq}{r:Int}(K:0<=r)(Q:r<4):C.tok r=(C.h r.toNat).t:=by unfold bq.tok;rw[iP (yH K Q)]
theorem DM{C l:bq}{r j t u:Int}(K:0<=r)(q:0<=j)(O:j<4)(H:l.h=aJ C.h r.toNat ⟨2,t,u⟩):l.tok j=if j=r then t else C.tok j:=by
 rw[mx q O,mx q O,H];by_cases h:j=r
 ·rw[iP h,h,aW]
 ·rw[iN h,cm _ _ _ _ oM]
section
variable {X:WM} {o:Nat->Int->Vw} {own A:dj} {N N':Nat->Rg} {n n' m m':Nat} {T T':Int}
theorem GI.Gt(h:GI X o own N n m T){q:Int}(u:cK q X.sv.bB own S.bB A)(d:q<=20*((m':Int)-(m:Int)))(p:m<=m')(U:∀x:Int,(aQ X.sv.bi x).isSome=true->(aQ S.bi x).isSome=true):GI ⟨S,X.st,X.c,X.ev⟩ o A N n m' T:=by
 refine h.serve (u.Sv 0) d ⟨ef _,dC⟩ p (λi z x J=> ?_) (λi z x J=>U _ (h.wc i z x (u.w i z x J)).2.2) (λc K M D=>U _ (h.ss c K M D));rcases u.h i z x J with⟨_,w,F,e⟩|⟨y,E,e,_⟩
 ·rw[<-e];exact U _ (h.wc i z w F).2.2
 ·rw[<-e];exact U _ (h.hc i z y E).2.2
theorem GI.numbers(h:GI X o own N n m T){c:Int}(K:0<=c)(M:c<3){l:bq}(S:l.h=(X.c c.toNat).h)(P:l.la=(X.c c.toNat).la)(t:l.bi=(X.c c.toNat).bi)(p:l.r=(X.c c.toNat).r)(u:l.wr=(X.c c.toNat).wr)(b:l.bl=(X.c c.toNat).bl):GI ⟨X.sv,X.st,aJ X.c c.toNat l,X.ev⟩ o own N n m T:=by
 have D:=h.ci c K M;refine h.wG K M ⟨by rw[u,b];exact D.i,by rw[u];exact D.w,by rw[b];exact D.b,by rw[p];exact D.q,by rw[p];exact D.p⟩ (λr F L=> .inl ⟨ua S r,by rw[p],by rw[u],by rw[b];exact λy E _=>E⟩) (λr F L x J B U=> ?_) (λr F L=>⟨by rw[P];exact h.ll c r K M F L,λx J B=> ?_⟩) (λU=>h.ss c K M (by rw[<-t];exact U)) (λU r=>by rw[ua S];exact h.s0 c K M (by rw[<-t];exact U) r) (λk=>by rw[S];exact h.hz c K M k)
 ·rw[ua S,<-B]
  exact h.fr r F L x J (by rw[B,<-t];exact U)
 ·rw[P,<-B]
  exact h.la r F L x J
theorem VJ(d:aI)(c s r a t x:Int):FJ d ⟨3,c,s,r,a,t,x⟩=d.acquire c r a:=iP rfl
theorem YZ(d:aI)(c s r a t x:Int):FJ d ⟨4,c,s,r,a,t,x⟩=((d.release c r t).1,0,(d.release c r t).2):=(iN (by show¬(4:Int)=3;decide)).trans (iP rfl)
theorem KQ(d:aI)(c s r a t x:Int):FJ d ⟨5,c,s,r,a,t,x⟩=d.renew c r t:=(iN (by show¬(5:Int)=3;decide)).trans ((iN (by show¬(5:Int)=4;decide)).trans (iP rfl))
theorem j7{q:dD}(M:q.op=3\/q.op=4\/q.op=5)(U:(aQ S.bi q.c).isSome=true):S.apply q=⟨⟨bR S.bi q.c q.seq,(FJ S.bB q).1⟩,(FJ S.bB q).2.2,(FJ S.bB q).2.1⟩:=by
 unfold gy.apply;rw[iN oM,iN oM,iN oM,iP U]
theorem sI{q:dD}(M:q.op=3\/q.op=4\/q.op=5)(U:¬(aQ S.bi q.c).isSome=true):S.apply q=⟨S,81,0⟩:=by
 unfold gy.apply;rw[iN oM,iN oM,iN oM,iN U]
theorem JP{U:List be}(Z:U.length<=1){x y:be}(J:x∈U)(E:y∈U):x=y:=by
 rcases JK Z with e|⟨z,e⟩
 ·rw[e]at J;cases J
 ·rw[e]at J E;rw[lA.1 J,lA.1 E]
theorem Kk{d:aI}{c r t:Int}(h:(d.renew c r t).2.2=0):∃x∈(d.r r.toNat).h,x.c=c/\x.t=t:=by
 unfold aI.renew at h
 split at h
 ·exact afa
 ·rename_i Z
  have Z:d.fY c r t=0:=by simpa using Z
  unfold aI.fY at Z
  split at Z
  ·rename_i V;exact absurd Z V
  ·split at Z
   ·rename_i x J
    obtain⟨a,b⟩:=tR J;refine⟨x,a,b,?_⟩
    split at Z
    ·assumption
    ·cases Z
   ·cases Z
theorem Gl(f:Nat->α)(i:Nat)(x y:α):aJ (aJ f i x) i y=aJ f i y:=by
 funext j
 unfold aJ
 split<;>rfl
theorem GI.ren(h:GI X o own N n m T){c r:Int}(K:0<=c)(M:c<3)(F:0<=r)(L:r<4)(R:1<=(X.c c.toNat).tok r):
 GI ⟨(gH X.sv c (X.c c.toNat) r ((X.c c.toNat).tok r)).s,X.st,aJ X.c c.toNat (gH X.sv c (X.c c.toNat) r ((X.c c.toNat).tok r)).c,X.ev⟩ o own N n m T:=by
 generalize D:X.c c.toNat=C at R;generalize W:C.tok r=t at R;unfold gH;by_cases U:(aQ X.sv.bi c).isSome=true
 ·rw[j7 (.inr (.inr rfl)) U,KQ]
  have Z:=h.Gt (S:=⟨bR X.sv.bi c (dX C.seq),(X.sv.bB.renew c r t).1⟩) (m':=m) (h.tb.renew c r t) oM (g9 _) (λx J=>by rw[jK];exact J);by_cases Y:(X.sv.bB.renew c r t).2.2=0
  ·show GI ⟨(if(X.sv.bB.renew c r t).2.2≠0 then _ else _:sZ).s,X.st,aJ X.c c.toNat (if(X.sv.bB.renew c r t).2.2≠0 then _ else _:sZ).c,X.ev⟩ o own N n m T
   rw[iN (λh=>h Y)];show GI ⟨⟨bR X.sv.bi c (dX C.seq),(X.sv.bB.renew c r t).1⟩,X.st,aJ X.c c.toNat (({C with seq:=dX C.seq}:bq).nT r t (X.sv.bB.renew c r t).2.1),X.ev⟩ o own N n m T;unfold bq.nT
   split
   ·obtain⟨x,J,B,l⟩:=Kk Y
    have I:=h.ci c K M;have P:=λj q O=>h.ll c j K M q O;have d:=h.tk c r K M;rw[D]at I P d;have u:X.sv.bB.last<=(X.sv.bB.renew c r t).1.last:=(h.tb.renew c r t).last;have b:∀j,0<=j->j<4->bq.tok {C with seq:=dX C.seq,h:=aJ C.h r.toNat ⟨2,t,(X.sv.bB.renew c r t).2.1⟩,la:=aJ C.la r.toNat t} j=C.tok j:=λj q O=>by
     rw[DM (C:=C) F q O rfl]
     split
     ·rename_i e;rw[e,W]
     ·rfl
    have g:∀j,bq.tok {C with seq:=dX C.seq,h:=aJ C.h r.toNat ⟨2,t,(X.sv.bB.renew c r t).2.1⟩,la:=aJ C.la r.toNat t} j=C.tok j:=λj=>by
     by_cases H:0<=j/\j<4
     ·exact b j H.1 H.2
     ·rw[lF H,lF H]
    refine Z.wG K M ⟨I.i,I.w,I.b,I.q,I.p⟩ (λj q O=> .inl ⟨?_,?_,?_,?_⟩) (λj q O y E Q i=> ?_) (λj q O=> ?_) (λi=> ?_) (λi j=> ?_) (λk=> ?_)
    ·show _=(X.c c.toNat).tok j
     rw[b j q O,D]
    ·show C.r j.toNat=(X.c c.toNat).r j.toNat
     rw[D]
    ·show C.wr.filter (ao j)=(X.c c.toNat).wr.filter (ao j)
     rw[D]
    ·show∀y∈C.bl,y.region=j->y∈(X.c c.toNat).bl
     rw[D];exact λy E _=>E
    ·rw[b j q O]
     have:=Z.fr j q O y E (by show(X.c y.c.toNat).bi=true;rw[Q,D];exact i);have:y.t=(X.c y.c.toNat).tok j\/_:=this;rw[Q,D]at this;exact this
    ·show aJ C.la r.toNat t j.toNat<=(X.sv.bB.renew c r t).1.last/\∀y∈((X.sv.bB.renew c r t).1.r j.toNat).h,y.c=c->aJ C.la r.toNat t j.toNat<=y.t
     by_cases H:j=r
     ·subst H
      rw[aW];refine⟨?_,λy E _=> ?_⟩
      ·have:t<=X.sv.bB.last:=by rw[<-W];exact d.2
       exact xK this u
      ·rcases(h.tb.renew c j t).h j.toNat oM y E with⟨a,w,A,e⟩|⟨z,G,_,e⟩
       ·have:=h.tk c j K M
        rw[D,W]at this;omega
       ·rw[<-e,JP (h.tb.one _ oM) G J,l]
        exact ef _
     ·rw[cm _ _ _ _ oM]
      refine⟨xK (P j q O) u,λy E Q=> ?_⟩;have:=Z.la j q O y E;have:(X.c y.c.toNat).la j.toNat<=y.t:=this;rw[Q,D]at this;exact this
    ·exact Z.ss c K M (by show(X.c c.toNat).bi=true;rw[D];exact i)
    ·rw[g]
     have:=h.s0 c K M (by rw[D];exact i) j;rw[D]at this;exact this
    ·show aJ C.h r.toNat ⟨2,t,(X.sv.bB.renew c r t).2.1⟩ k=qx.zero\/1<=(aJ C.h r.toNat ⟨2,t,(X.sv.bB.renew c r t).2.1⟩ k).t
     rcases cz C.h r.toNat k ⟨2,t,(X.sv.bB.renew c r t).2.1⟩with⟨_,e⟩|⟨_,e⟩
     ·rw[e];exact .inr R
     ·rw[e,<-D];exact h.hz c K M k
   ·exact Z.numbers K M ac3 acY acZ ac4 ac0 ac1
  ·show GI ⟨(if(X.sv.bB.renew c r t).2.2≠0 then _ else _:sZ).s,X.st,aJ X.c c.toNat (if(X.sv.bB.renew c r t).2.2≠0 then _ else _:sZ).c,X.ev⟩ o own N n m T
   rw[iP Y];exact Z.numbers K M ac3 acY acZ ac4 ac0 ac1
 ·rw[sI (.inr (.inr rfl)) U]
  exact h.numbers K M ac3 acY acZ ac4 ac0 ac1
end
end
section
structure pH(T:aI)(own:dj)(T':aI)(own':dj):Prop where
 last:T.last<=T'.last
 vr:∀t,t<=T.last->own' t=own t
 h:∀i,i<4->∀h'∈(T'.r i).h,T.last<h'.t\/∃h∈(T.r i).h,h.c=h'.c/\h.t=h'.t
theorem pH.refl(T:aI)(own:dj):pH T own T own:=⟨ef _,λ_ _=>rfl,λ_ _ E H=> .inr ⟨E,H,rfl,rfl⟩⟩
theorem pH.trans{T l u:aI}{o X G:dj}(h:pH T o l X)(k:pH l X u G):pH T o u G:=by
 refine⟨xK h.last k.last,λt R=>(k.vr t (xK R h.last)).trans (h.vr t R),λi z E H=> ?_⟩;rcases k.h i z E H with a|⟨Z,b,S,P⟩
 ·exact .inl (zc5 h.last a)
 ·rcases h.h i z Z b with a|⟨V,c,j,p⟩
  ·exact .inl (by rw[<-P];exact a)
  ·exact .inr ⟨V,c,j.trans S,p.trans P⟩
theorem MG.nx{q c:Int}{T T':aI}{o g:dj}(h:MG q T o T' g c):pH T o T' g:=⟨h.last,h.vr,λi z x J=>(h.h i z x J).imp (λa=>a.1) (λa=>a)⟩
theorem cK.nx{q:Int}{T T':aI}{o g:dj}(h:cK q T o T' g):pH T o T' g:=(h.Sv 0).nx
section
variable {X:WM} {G:Nat->Int->Vw} {own O:dj} {N N':Nat->Rg} {n n' m m':Nat} {T T':Int}
theorem nG(k r:Int):(bq.zero k).tok r=0:=by
 unfold bq.tok bq.zero
 split<;>rfl
theorem nw.zero(k:Int)(m:Nat):nw (bq.zero k) m:=by
 refine⟨io.init.le (jG _),λp o=>(by cases o),λp o=>(by cases o),λk=> ?_,λk=>jG _⟩;show(0:Int)<=_;omega
theorem GI.die(h:GI X G own N n m T){c:Int}(K:0<=c)(M:c<3)(k:Int):GI ⟨X.sv,X.st,aJ X.c c.toNat (bq.zero k),X.ev⟩ G own N n m T:=by
 refine h.wG K M (nw.zero _ _) (λr _ _=> .inr (.inl (nG _ _))) (λr _ _ x _ _ U=>by cases U) (λr F L=>⟨h.tb.last,λx J _=> ?_⟩) (λU=>by cases U) (λ_ r=>nG _ _) (λ_=> .inl rfl);have:=(h.tb.own _ oM x J).2.1;show(0:Int)<=x.t;omega
theorem GI.ZZ(h:GI X G own N n m T){c:Int}(K:0<=c)(M:c<3)(p:m<=m')(d:8<=20*((m':Int)-(m:Int))):
 ∃O,GI ⟨(iV X.sv c (X.c c.toNat)).s,X.st,aJ X.c c.toNat (iV X.sv c (X.c c.toNat)).c,X.ev⟩ G O N n m' T/\((iV X.sv c (X.c c.toNat)).e=0->(iV X.sv c (X.c c.toNat)).c.bi=true)/\(∀r,(iV X.sv c (X.c c.toNat)).c.tok r=(X.c c.toNat).tok r)/\pH X.sv.bB own (iV X.sv c (X.c c.toNat)).s.bB O:=by
 have j:aJ X.c c.toNat (X.c c.toNat)=X.c:=Ab _ _;unfold iV;by_cases U:(X.c c.toNat).bi=true
 ·rw[iP U]
  refine⟨own,?_,λ_=>U,λ_=>rfl,pH.refl _ _⟩;show GI ⟨X.sv,X.st,aJ X.c c.toNat (X.c c.toNat),X.ev⟩ G own N n m' T;rw[j];exact h.mono (g9 _) p (ef _)
 ·rw[iN U]
  have U:(X.c c.toNat).bi=false:=by simpa using U
  have Q:∃g l,(X.sv.apply ⟨2,c,0,0,0,0,0⟩).s=l/\pH X.sv.bB own l.bB g/\GI ⟨l,X.st,X.c,X.ev⟩ G g N n m' T/\(∀i,i<4->(∀x∈(l.bB.r i).h,x.c≠c)/\∀x∈(l.bB.r i).w,x.c≠c):=by
   unfold gy.apply;rw[iN (by show¬(2:Int)=7;decide),iN (by show¬(2:Int)=1;decide),iP rfl];show∃g l,(if(aQ X.sv.bi c).isSome=true then(⟨⟨kB X.sv.bi c,pT X.sv.bB c⟩,0,0⟩:wH)else⟨X.sv,81,0⟩).s=l/\_;by_cases a:(aQ X.sv.bi c).isSome=true
   ·rw[iP a]
    obtain⟨g,Z,V⟩:=QA h.tb (c:=c) ⟨K,oM⟩;refine⟨g,_,rfl,Z.nx,?_,V⟩;refine h.serve (Z.Sv c) d ⟨K,M⟩ p (λi z x J=> ?_) (λi z x J=> ?_) (λo H A W=> ?_)
    ·show(aQ (kB X.sv.bi c) x.c).isSome=true
     rw[rP ((V i z).1 x J)];rcases Z.h i z x J with⟨_,w,hw,e⟩|⟨y,E,e,_⟩
     ·rw[<-e];exact(h.wc i z w hw).2.2
     ·rw[<-e];exact(h.hc i z y E).2.2
    ·show(aQ (kB X.sv.bi c) x.c).isSome=true
     rw[rP ((V i z).2 x J)];exact(h.wc i z x (Z.w i z x J)).2.2
    ·show(aQ (kB X.sv.bi c) o).isSome=true
     rw[rP (λe=>by rw[e,U]at W;cases W)];exact h.ss o H A W
   ·rw[iN a]
    refine⟨own,_,rfl,pH.refl _ _,h.mono (g9 _) p (ef _),λi z=>⟨λx J B=>a ?_,λx J B=>a ?_⟩⟩
    ·rw[<-B];exact(h.hc i z x J).2.2
    ·rw[<-B];exact(h.wc i z x J).2.2
  obtain⟨g,l,S,D,Z,V⟩:=Q;rw[S];have R:∃b e,l.apply ⟨1,c,0,0,0,0,0⟩=⟨b,e,0⟩/\b.bB=l.bB/\(e=0->(aQ b.bi c).isSome=true)/\∀x,(aQ l.bi x).isSome=true->(aQ b.bi x).isSome=true:=by
   unfold gy.apply;rw[iN (by show¬(1:Int)=7;decide),iP rfl]
   split
   ·exact⟨_,_,rfl,rfl,λh=>(by cases h),λ_ h=>h⟩
   ·split
    ·exact⟨_,_,rfl,rfl,λh=>(by cases h),λ_ h=>h⟩
    ·exact⟨_,_,rfl,rfl,λ_=>MP _ _ _,λ_ h=>Me h⟩
  obtain⟨b,e,P,t,C,u⟩:=R;rw[P];have A:GI ⟨b,X.st,X.c,X.ev⟩ G g N n m' T:=by
   have k:cK 0 l.bB g b.bB g:=by rw[t];exact cK.refl oM Z.tb
   exact Z.Gt k oM (g9 _) u
  by_cases Y:e=0
  ·subst Y
   refine⟨g,?_,λ_=>rfl,λ_=>rfl,by show pH X.sv.bB own b.bB g;rw[t];exact D⟩;show GI ⟨b,X.st,aJ X.c c.toNat {X.c c.toNat with bi:=true,seq:=0},X.ev⟩ G g N n m' T;have I:=A.ci c K M;refine A.wG K M ⟨I.i,I.w,I.b,I.q,I.p⟩ (λr F L=> .inl ⟨rfl,rfl,rfl,λy E _=>E⟩) (λr F L x J B _=> ?_) (λr F L=>⟨A.ll c r K M F L,λx J B=> ?_⟩) (λ_=>C rfl) (λU=>by cases U) (A.hz c K M)
   ·exact afl
   ·exact afl
  ·have q:(if(wH.mk b e 0).e≠0 then(⟨(wH.mk b e 0).s,X.c c.toNat,(wH.mk b e 0).e⟩:sZ)else⟨(wH.mk b e 0).s,{X.c c.toNat with bi:=true,seq:=0},0⟩)=⟨b,X.c c.toNat,e⟩:=iP Y
   refine⟨g,?_,λh=> ?_,λr=> ?_,?_⟩
   ·show GI ⟨(if(wH.mk b e 0).e≠0 then(⟨(wH.mk b e 0).s,X.c c.toNat,(wH.mk b e 0).e⟩:sZ)else⟨(wH.mk b e 0).s,{X.c c.toNat with bi:=true,seq:=0},0⟩).s,X.st,aJ X.c c.toNat (if(wH.mk b e 0).e≠0 then(⟨(wH.mk b e 0).s,X.c c.toNat,(wH.mk b e 0).e⟩:sZ)else⟨(wH.mk b e 0).s,{X.c c.toNat with bi:=true,seq:=0},0⟩).c,X.ev⟩ G g N n m' T
    rw[q,j];exact A
   ·have h:(if(wH.mk b e 0).e≠0 then(⟨(wH.mk b e 0).s,X.c c.toNat,(wH.mk b e 0).e⟩:sZ)else⟨(wH.mk b e 0).s,{X.c c.toNat with bi:=true,seq:=0},0⟩).e=0:=h
    rw[q]at h;exact absurd h Y
   ·show(if(wH.mk b e 0).e≠0 then(⟨(wH.mk b e 0).s,X.c c.toNat,(wH.mk b e 0).e⟩:sZ)else⟨(wH.mk b e 0).s,{X.c c.toNat with bi:=true,seq:=0},0⟩).c.tok r=_
    rw[q]
   ·show pH X.sv.bB own (if(wH.mk b e 0).e≠0 then(⟨(wH.mk b e 0).s,X.c c.toNat,(wH.mk b e 0).e⟩:sZ)else⟨(wH.mk b e 0).s,{X.c c.toNat with bi:=true,seq:=0},0⟩).s.bB g
    rw[q];show pH X.sv.bB own b.bB g;rw[t];exact D
def jr(a:wH)(c:Int)(C:bq)(r:Int):sZ:=
 let b:bq:={C with seq:=dX C.seq}
 if a.e≠0 then⟨a.s,b,a.e⟩else if a.v=C.tok r then gH a.s c b r a.v else gH a.s c ((b.drop r).tQ r.toNat jc.zero) r a.v
theorem Yc(S:gy)(c:Int)(C:bq)(r:Int):mI S c C r=jr (S.apply ⟨3,c,dX C.seq,r,2,0,0⟩) c C r:=rfl
theorem GI.get(h:GI X G own N n m T){c r:Int}(K:0<=c)(M:c<3)(F:0<=r)(W:r<4)(p:(X.c c.toNat).bi=true)(hm:m<=m')(hq:1<=20*((m':Int)-(m:Int))):
 ∃O,GI ⟨(mI X.sv c (X.c c.toNat) r).s,X.st,aJ X.c c.toNat (mI X.sv c (X.c c.toNat) r).c,X.ev⟩ G O N n m' T/\
  ((mI X.sv c (X.c c.toNat) r).e=0->∃x∈((mI X.sv c (X.c c.toNat) r).s.bB.r r.toNat).h,x.c=c/\x.t=(mI X.sv c (X.c c.toNat) r).c.tok r)/\pH X.sv.bB own (mI X.sv c (X.c c.toNat) r).s.bB O:=by
 generalize D:X.c c.toNat=C at p;have A0:=h.ss c K M (by rw[D];exact p);rw[Yc];rw[j7 (.inl rfl) A0,VJ];obtain⟨g,u,K0⟩:=h.tb.acquire c r;have E0:∀x:Int,(aQ X.sv.bi x).isSome=true->(aQ (bR X.sv.bi c (dX C.seq)) x).isSome=true:=λx J=>by rw[jK];exact J
 have h1:GI ⟨⟨bR X.sv.bi c (dX C.seq),(X.sv.bB.acquire c r 2).1⟩,X.st,X.c,X.ev⟩ G g N n m' T:=by
  refine h.serve u oM ⟨K,M⟩ hm (λi Y x J=>E0 _ ?_) (λi Y x J=>E0 _ ?_) (λc' R0 S0 T0=>E0 _ (h.ss c' R0 S0 T0))
  ·rcases u.h i Y x J with⟨_,e|⟨w,hw,e⟩⟩|⟨y,E,e,_⟩
   ·rw[e];exact A0
   ·rw[<-e];exact(h.wc i Y w hw).2.2
   ·rw[<-e];exact(h.hc i Y y E).2.2
  ·rcases u.w i Y x J with e|J
   ·rw[e];exact A0
   ·exact(h.wc i Y x J).2.2
 generalize hA:X.sv.bB.acquire c r 2=A at u K0 h1;obtain⟨R,t,A3⟩:=A;have h2:GI ⟨⟨bR X.sv.bi c (dX C.seq),R⟩,X.st,aJ X.c c.toNat {C with seq:=dX C.seq},X.ev⟩ G g N n m' T:=h1.numbers K M ac3 acY acZ ac4 ac0 ac1;by_cases he:A3=0
 case neg=>
  have b:(jr ⟨⟨bR X.sv.bi c (dX C.seq),R⟩,A3,t⟩ c C r)=⟨⟨bR X.sv.bi c (dX C.seq),R⟩,{C with seq:=dX C.seq},A3⟩:=iP he;refine⟨g,?_,λhh=> ?_,?_⟩
  rotate_left 2
  ·show pH X.sv.bB own (jr ⟨⟨bR X.sv.bi c (dX C.seq),R⟩,A3,t⟩ c C r).s.bB g
   rw[b];exact u.nx
  ·exact b▸h2
  ·exact absurd ((congrArg sZ.e b).symm.trans hh) he
 subst he;obtain⟨_,_,x,J,C0,P⟩:=K0 rfl;have J:x∈(R.r r.toNat).h:=J;have P:x.t=t:=P;have a:=u.i.own _ oM x J;rw[P,C0,zcU F]at a;obtain⟨H0,V0,y,E,Q0,D0⟩:=Pk u.i (c:=c) ⟨K,oM⟩ ⟨F,W⟩ J C0;rw[P]at H0 V0 E D0;have M0:(aQ (bR X.sv.bi c (dX C.seq)) c).isSome=true:=E0 _ A0;by_cases hv:t=C.tok r
 ·have b:(jr ⟨⟨bR X.sv.bi c (dX C.seq),R⟩,0,t⟩ c C r)=gH ⟨bR X.sv.bi c (dX C.seq),R⟩ c {C with seq:=dX C.seq} r t:=by unfold jr;exact(iN (λh=>h rfl)).trans (iP hv)
  have P0:aJ X.c c.toNat ({C with seq:=dX C.seq}:bq) c.toNat={C with seq:=dX C.seq}:=aW _ _ _;have O0:({C with seq:=dX C.seq}:bq).tok r=t:=hv.symm;have h4:=h2.ren K M F W (by show 1<=(aJ X.c c.toNat {C with seq:=dX C.seq} c.toNat).tok r;rw[P0,O0];exact a.2.1);rw[show(WM.mk ⟨bR X.sv.bi c (dX C.seq),R⟩ X.st (aJ X.c c.toNat {C with seq:=dX C.seq}) X.ev).c c.toNat={C with seq:=dX C.seq}from P0,O0]at h4;rw[show aJ (WM.mk ⟨bR X.sv.bi c (dX C.seq),R⟩ X.st (aJ X.c c.toNat {C with seq:=dX C.seq}) X.ev).c c.toNat=aJ X.c c.toNat from funext λz=>Gl _ _ _ _]at h4;have o:gH ⟨bR X.sv.bi c (dX C.seq),R⟩ c {C with seq:=dX C.seq} r t=⟨⟨bR (bR X.sv.bi c (dX C.seq)) c (dX (dX C.seq)),(R.renew c r t).1⟩,({C with seq:=dX (dX C.seq)}:bq).nT r t (R.renew c r t).2.1,({C with seq:=dX C.seq}:bq).mF r t⟩:=by
   unfold gH;rw[j7 (.inr (.inr rfl)) M0,KQ];exact iN (λh=>h H0)
  refine⟨g,b▸h4,λhh=> ?_,?_⟩
  rotate_left
  ·show pH X.sv.bB own (jr ⟨⟨bR X.sv.bi c (dX C.seq),R⟩,0,t⟩ c C r).s.bB g
   rw[b,o];exact u.nx.trans (u.i.renew c r t).nx
  have hh:(jr ⟨⟨bR X.sv.bi c (dX C.seq),R⟩,0,t⟩ c C r).e=0:=hh;show∃x∈((jr ⟨⟨bR X.sv.bi c (dX C.seq),R⟩,0,t⟩ c C r).s.bB.r r.toNat).h,x.c=c/\x.t=(jr ⟨⟨bR X.sv.bi c (dX C.seq),R⟩,0,t⟩ c C r).c.tok r;rw[b];rw[o];refine⟨y,E,Q0,?_⟩;rw[D0];show t=(({C with seq:=dX (dX C.seq)}:bq).nT r t (R.renew c r t).2.1).tok r;unfold bq.nT
  split
  ·rw[DM (C:=C) F F W rfl,iP rfl]
  ·exact hv
 ·have b:(jr ⟨⟨bR X.sv.bi c (dX C.seq),R⟩,0,t⟩ c C r)=gH ⟨bR X.sv.bi c (dX C.seq),R⟩ c ((({C with seq:=dX C.seq}:bq).drop r).tQ r.toNat jc.zero) r t:=by unfold jr;exact(iN (λh=>h rfl)).trans (iN hv)
  have Y0:C.la r.toNat<=t:=by
   have:=h2.la r F W x J;have:(aJ X.c c.toNat {C with seq:=dX C.seq} x.c.toNat).la r.toNat<=x.t:=this;rw[C0,aW,P]at this;exact this
  have L0:G r.toNat t=Vw.zero/\aG r t X.ev=gI t:=by
   have:=h2.fr r F W x J (by show(aJ X.c c.toNat {C with seq:=dX C.seq} x.c.toNat).bi=true;rw[C0,aW];exact p);have:x.t=(aJ X.c c.toNat {C with seq:=dX C.seq} x.c.toNat).tok r\/_:=this;rw[C0,aW,P]at this;rcases this with this|this
   ·exact absurd this hv
   ·exact this
  have N0:(((({C with seq:=dX C.seq}:bq).drop r).tQ r.toNat jc.zero)).mF r t=0:=by
   unfold bq.mF;rw[iN (by rw[yH F W];simp),iN];rintro(e|e)
   ·omega
   ·have:t<C.la r.toNat:=e
    omega
  have W0:({((({C with seq:=dX C.seq}:bq).drop r).tQ r.toNat jc.zero)with seq:=dX (dX C.seq)}:bq).mF r t=0:=N0;have o:gH ⟨bR X.sv.bi c (dX C.seq),R⟩ c ((({C with seq:=dX C.seq}:bq).drop r).tQ r.toNat jc.zero) r t=⟨⟨bR (bR X.sv.bi c (dX C.seq)) c (dX (dX C.seq)),(R.renew c r t).1⟩,{((({C with seq:=dX C.seq}:bq).drop r).tQ r.toNat jc.zero)with seq:=dX (dX C.seq),h:=aJ C.h r.toNat ⟨2,t,(R.renew c r t).2.1⟩,la:=aJ C.la r.toNat t},0⟩:=by
   unfold gH;rw[j7 (.inr (.inr rfl)) M0,KQ];refine(iN (λh=>h H0)).trans ?_;rw[N0];show sZ.mk _ (bq.nT {((({C with seq:=dX C.seq}:bq).drop r).tQ r.toNat jc.zero)with seq:=dX (dX C.seq)} r t (R.renew c r t).2.1) 0=_;unfold bq.nT;rw[iP W0]
   rfl
  have B0:=u.i.renew c r t;have U:GI ⟨⟨bR (bR X.sv.bi c (dX C.seq)) c (dX (dX C.seq)),(R.renew c r t).1⟩,X.st,X.c,X.ev⟩ G g N n m' T:=h1.Gt (S:=⟨bR (bR X.sv.bi c (dX C.seq)) c (dX (dX C.seq)),(R.renew c r t).1⟩) B0 oM (g9 _) (λx J=>by rw[jK];exact J);have I:=U.ci c K M;have I:nw (X.c c.toNat) m':=I;rw[D]at I;have J0:t<=(R.renew c r t).1.last:=xK a.2.2 B0.last;obtain⟨l,L⟩:∃l,l=({((({C with seq:=dX C.seq}:bq).drop r).tQ r.toNat jc.zero)with seq:=dX (dX C.seq),h:=aJ C.h r.toNat ⟨2,t,(R.renew c r t).2.1⟩,la:=aJ C.la r.toNat t}:bq):=⟨_,rfl⟩;have f1:l.h=aJ C.h r.toNat ⟨2,t,(R.renew c r t).2.1⟩:=by rw[L]
  have f2:l.la=aJ C.la r.toNat t:=by rw[L]
  have f3:l.r=aJ C.r r.toNat jc.zero:=by rw[L];rfl
  have f4:l.wr=C.wr.filter (λx=> !ao r x):=by rw[L];rfl
  have f5:l.bl=C.bl.filter (λx=> !ao r x):=by rw[L];rfl
  have f6:l.bi=C.bi:=by rw[L];rfl
  have V:∀j,0<=j->j<4->l.tok j=if j=r then t else C.tok j:=λj q B=>DM (C:=C) F q B f1;have U0:GI ⟨⟨bR (bR X.sv.bi c (dX C.seq)) c (dX (dX C.seq)),(R.renew c r t).1⟩,X.st,aJ X.c c.toNat l,X.ev⟩ G g N n m' T:=by
   refine U.wG K M ⟨by rw[f4,f5];exact I.i.drop,λI0 Z=> ?_,λI0 Z=> ?_,λk=> ?_,λk=> ?_⟩ (λj q B=> ?_) (λj q B z H G0 _=> ?_) (λj q B=> ?_) (λ_=>by show(aQ _ c).isSome=true;rw[jK,jK];exact A0) (λhs=>by rw[f6,p]at hs;cases hs) (λk=>by
    rw[f1];rcases cz C.h r.toNat k ⟨2,t,(R.renew c r t).2.1⟩with⟨_,e⟩|⟨_,e⟩
    ·rw[e];exact .inr a.2.1
    ·rw[e,<-D];exact h.hz c K M k)
   ·rw[f4]at Z;exact I.w I0 (zk.1 Z).1
   ·rw[f5]at Z;exact I.b I0 (zk.1 Z).1
   ·rw[f3]
    rcases cz C.r r.toNat k jc.zero with⟨_,e⟩|⟨_,e⟩
    ·rw[e];show(0:Int)<=_;omega
    ·rw[e];exact I.q k
   ·rw[f3]
    rcases cz C.r r.toNat k jc.zero with⟨_,e⟩|⟨_,e⟩
    ·rw[e];exact jG _
    ·rw[e];exact I.p k
   ·by_cases d:j=r
    ·subst d
     have Q:l.tok j=t:=(V j q B).trans (iP rfl);refine .inr (.inr ⟨by rw[Q];exact a.2.1,by rw[Q];exact J0,by rw[Q];exact a.1,by rw[Q];exact L0.1,by rw[Q];exact L0.2,by rw[f3,aW],by rw[f4];exact FX,λz H X0=> ?_⟩);rw[f5]at H;have:=(zk.1 H).2;unfold ao at this;simp[X0]at this
    ·have Q:l.tok j=C.tok j:=(V j q B).trans (iN d)
     refine .inl ⟨?_,?_,?_,?_⟩
     ·show l.tok j=(X.c c.toNat).tok j
      rw[Q,D]
     ·show l.r j.toNat=(X.c c.toNat).r j.toNat
      rw[f3,cm _ _ _ _ oM,D]
     ·exact afg
     ·show∀y∈l.bl,y.region=j->y∈(X.c c.toNat).bl
      rw[f5,D];exact λy E _=>(zk.1 E).1
   ·by_cases d:j=r
    ·subst d
     left
     rw[V j q B,iP rfl];rw[JP (B0.i.one _ oM) H E];exact D0
    ·rw[V j q B,iN d]
     have:=U.fr j q B z H (by show(X.c z.c.toNat).bi=true;rw[G0,D];exact p);have:z.t=(X.c z.c.toNat).tok j\/_:=this;rw[G0,D]at this;exact this
   ·rw[f2]
    by_cases d:j=r
    ·subst d
     rw[aW];refine⟨J0,λz H _=> ?_⟩;rw[JP (B0.i.one _ oM) H E,D0];exact ef _
    ·rw[cm _ _ _ _ oM]
     have F0:=U.ll c j K M q B;have F0:(X.c c.toNat).la j.toNat<=_:=F0;rw[D]at F0;refine⟨F0,λz H G0=> ?_⟩;have:=U.la j q B z H;have:(X.c z.c.toNat).la j.toNat<=z.t:=this;rw[G0,D]at this;exact this
  rw[<-L]at o;have e9:=b.trans o;refine⟨g,e9▸U0,λ_=> ?_,?_⟩
  rotate_left
  ·show pH X.sv.bB own (jr ⟨⟨bR X.sv.bi c (dX C.seq),R⟩,0,t⟩ c C r).s.bB g
   rw[e9];exact u.nx.trans B0.nx
  show∃x∈((jr ⟨⟨bR X.sv.bi c (dX C.seq),R⟩,0,t⟩ c C r).s.bB.r r.toNat).h,x.c=c/\x.t=(jr ⟨⟨bR X.sv.bi c (dX C.seq),R⟩,0,t⟩ c C r).c.tok r;rw[e9];refine⟨y,E,Q0,?_⟩;rw[D0];exact((V r F W).trans (iP rfl)).symm
end
end
end Go.Proofs.YtblpaldggenbaaaGreatDoor
