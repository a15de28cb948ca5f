/- A part. -/
import Derived.Test.YtblpaldggenbaaaGreatDoorMs
import Derived.Test.YtblpaldggenbaaaGreatDoorMr
import Derived.Test.YtblpaldggenbaaaGreatDoorMp
namespace Go.Proofs.YtblpaldggenbaaaGreatDoor
open Go.RowKit Go.Proofs.Tryz
set_option maxRecDepth 100000
set_option maxHeartbeats 64000000
variable{o:jd}
section
section
variable {X:WM} {K:Nat->Int->Vw} {own E:dj} {N D:Nat->Rg} {n n' m m':Nat} {T T':Int}
theorem GI.Wr(h:GI X K own N n m T)(c r t:Int)(C:bq):pH X.sv.bB own (gH X.sv c C r t).s.bB own:=by
 unfold gH;by_cases U:(aQ X.sv.bi c).isSome=true
 ·rw[j7 (.inr (.inr rfl)) U,KQ]
  have Z:=(h.tb.renew c r t).nx;show pH X.sv.bB own (if(X.sv.bB.renew c r t).2.2≠0 then _ else _:sZ).s.bB own
  split
  ·exact Z
  ·exact Z
 ·rw[sI (.inr (.inr rfl)) U]
  exact pH.refl _ _
theorem GI.rel(h:GI X K own N n m T){c r:Int}(W:0<=c)(M:c<3)(a:m<=m')(hq:1<=20*((m':Int)-(m:Int))):
 ∃E,GI ⟨(jJ X.sv c (X.c c.toNat) r).s,X.st,aJ X.c c.toNat (jJ X.sv c (X.c c.toNat) r).c,X.ev⟩ K E N n m' T/\pH X.sv.bB own (jJ X.sv c (X.c c.toNat) r).s.bB E:=by
 generalize D:X.c c.toNat=C;unfold jJ;by_cases R:C.tok r=0
 ·rw[iP R]
  refine⟨own,?_,pH.refl _ _⟩;have:=h.mono (g9 n) a (ef T);show GI ⟨X.sv,X.st,aJ X.c c.toNat C,X.ev⟩ K own N n m' T;rw[<-D,Ab];exact this
 ·rw[iN R]
  have G:0<=r/\r<4:=by
   by_cases G:0<=r/\r<4
   ·exact G
   ·exact absurd (lF G) R
  obtain⟨r0,r4⟩:=G;have B0:=h.tk c r W M;rw[D]at B0;have i:C.bi=true:=by
   cases U:C.bi with
   |true=>rfl
   |false=>
    have:=h.s0 c W M (by rw[D];exact U) r;rw[D]at this;exact absurd this R
  have w:=h.ss c W M (by rw[D];exact i);rw[j7 (.inr (.inl rfl)) w,YZ];obtain⟨B,u⟩:=h.tb.release c r (C.tok r);have Z:=h.Gt (S:=⟨bR X.sv.bi c (dX C.seq),(X.sv.bB.release c r (C.tok r)).1⟩) (m':=m') u oM a (λx hx=>by rw[jK];exact hx);refine⟨B,?_,u.nx⟩;have I:=Z.ci c W M;have I:nw (X.c c.toNat) m':=I;rw[D]at I;obtain⟨l,b⟩:∃l,l=(({C with seq:=dX C.seq}:bq).gone r).drop r:=⟨_,rfl⟩;have A:({C with seq:=dX C.seq}:bq).gone r={C with seq:=dX C.seq,h:=aJ C.h r.toNat qx.zero}:=iP (yH r0 r4);have f1:l.h=aJ C.h r.toNat qx.zero:=by rw[b,A];rfl
  have f2:l.la=C.la:=by rw[b,A];rfl
  have f3:l.r=C.r:=by rw[b,A];rfl
  have f4:l.wr=C.wr.filter (λx=> !ao r x):=by rw[b,A];rfl
  have f5:l.bl=C.bl.filter (λx=> !ao r x):=by rw[b,A];rfl
  have f6:l.bi=C.bi:=by rw[b,A];rfl
  have V:∀j,0<=j->j<4->l.tok j=if j=r then 0 else C.tok j:=λj q O=>by
   rw[mx q O,mx q O,f1];by_cases h:j=r
   ·rw[iP h,h,aW];rfl
   ·rw[iN h,cm _ _ _ _ oM]
  show GI ⟨⟨bR X.sv.bi c (dX C.seq),(X.sv.bB.release c r (C.tok r)).1⟩,X.st,aJ X.c c.toNat ((({C with seq:=dX C.seq}:bq).gone r).drop r),X.ev⟩ K B N n m' T;rw[<-b];refine Z.wG W M ⟨by rw[f4,f5];exact I.i.drop,λp o=> ?_,λp o=> ?_,λk=>by rw[f3];exact I.q k,λk=>by rw[f3];exact I.p k⟩ (λj q O=> ?_) (λj q O z H Q _=> ?_) (λj q O=> ?_) (λ_=>by show(aQ _ c).isSome=true;rw[jK];exact w) (λU=>by rw[f6,i]at U;cases U) (λk=>by
   rw[f1];rcases cz C.h r.toNat k qx.zero with⟨_,e⟩|⟨_,e⟩
   ·rw[e];exact aes
   ·rw[e,<-D];exact h.hz c W M k)
  ·rw[f4]at o;exact I.w p (zk.1 o).1
  ·rw[f5]at o;exact I.b p (zk.1 o).1
  ·by_cases d:j=r
   ·exact .inr (.inl ((V j q O).trans (iP d)))
   ·have e8:l.tok j=C.tok j:=(V j q O).trans (iN d)
    refine .inl ⟨?_,?_,?_,?_⟩
    ·show l.tok j=(X.c c.toNat).tok j
     rw[e8,D]
    ·show l.r j.toNat=(X.c c.toNat).r j.toNat
     rw[f3,D]
    ·exact afg
    ·show∀y∈l.bl,y.region=j->y∈(X.c c.toNat).bl
     rw[f5,D];exact λy g _=>(zk.1 g).1
  ·have Y:=Z.fr j q O z H (by show(X.c z.c.toNat).bi=true;rw[Q,D];exact i)
   have t:z.t=(X.c z.c.toNat).tok j\/(K j.toNat z.t=Vw.zero/\aG j z.t X.ev=gI z.t):=Y;clear Y;rw[Q,D]at t;by_cases d:j=r
   ·rcases t with t|t
    ·subst d
     exfalso;have H:z∈((X.sv.bB.release c j (C.tok j)).1.r j.toNat).h:=H;rcases u.h j.toNat oM z H with⟨D0,_⟩|⟨y,g,F,L⟩
     ·omega
     ·have J:y.c=c:=F.trans Q
      have C0:y.t=C.tok j:=L.trans t;have A0:(X.sv.bB.r j.toNat).h=[y]:=by
       rcases JK (h.tb.one j.toNat oM)with e|⟨x,e⟩
       ·rw[e]at g;cases g
       ·rw[e]at g⊢;rw[lA.1 g]
      have:=(zf h.tb ⟨q,O⟩ A0 (by rw[J];omega)).1 z;rw[J,C0]at this;exact this H Q
    ·exact .inr t
   ·rw[V j q O,iN d]
    exact t
  ·rw[f2]
   have P:=Z.ll c j W M q O;have P:(X.c c.toNat).la j.toNat<=_:=P;rw[D]at P;refine⟨P,λz H Q=> ?_⟩;have:=Z.la j q O z H;have:(X.c z.c.toNat).la j.toNat<=z.t:=this;rw[Q,D]at this;exact this
theorem GI.again(h:GI X K own N n m T)(W:n<=900000)(A:T<256){p:Int×RQ}(o:p∈X.st.az):∃D,GI ⟨X.sv,X.st.df p.2,X.c,X.ev⟩ K own D (n+1) m T:=by
 obtain⟨D,Z,V,M⟩:=h.w.s.df W A (h.w.s.g p o);refine⟨D,h.store ⟨Z,h.w.z.df h.w.s W A (h.w.s.g p o) (c:=p.1) o V M,?_⟩⟩;rw[M];exact h.w.p.heard (h.w.s.g p o) (h.w.p.st p o) V
theorem GI.bz(h:GI X K own N n m T)(W:n<=900000)(A:T<=250)(V:LI):∃D,GI ⟨X.sv,X.st.bz V,X.c,X.ev⟩ K own D (n+1) m (T+1):=by
 obtain⟨_,_,_,Z,_,J⟩:=h.w.s.bz W A V;have G:qA (X.st.bz V) (X.st.bz V).s.M (T+1):=by
  have U:(X.st.bz V).az=X.st.az:=rfl;have y:Ma (X.st.bz V).s.M (X.st.bz V).az:=by
   rw[U];rcases J with e|e
   ·rw[e];exact h.w.z.hm
   ·rw[e];exact h.w.z.hn
  exact⟨by have:=h.w.z.t1;omega,λe=>by have:=h.w.z.t1;omega,y,y⟩
 refine⟨_,h.store ⟨Z,G,?_⟩⟩;rcases J with e|e
 ·rw[e];exact⟨h.w.p.rm,h.w.p.rm,h.w.p.vw,h.w.p.st⟩
 ·rw[e];exact⟨h.w.p.rn,h.w.p.rn,h.w.p.vw,h.w.p.st⟩
theorem GI.gG(h:GI X K own N n m T){f:Int}(a: -9223372036854775808<=f/\f<=9223372036854775807):GI ⟨X.sv,X.st.gG f,X.c,X.ev⟩ K own N n m (T+1):=
 h.store ⟨(h.w.s.gG a).mono (g9 _) oM,⟨by have:=h.w.z.t1;omega,λe=>by have:=h.w.z.t1;omega,h.w.z.hm,h.w.z.hn⟩,h.w.p⟩
structure Ia(o:jd):Prop where
 b:Bytes o.b
 n0: -9223372036854775808<=o.n
 n1:o.d≠10->o.n<=1073741824
theorem WM.yx(h:o.fit=true):X.step o=⟨(X.one o).sv,(X.one o).st,aJ X.c o.c.toNat (X.one o).c,X.ev++[X.eA o]⟩:=iP h
theorem WM.Ky(h:o.fit=true):X.eA o=o.out (X.c o.c.toNat) (X.one o):=iP h
theorem zC(h:o.fit=true):1<=o.d/\o.d<=11/\0<=o.c/\o.c<3:=by
 unfold jd.fit at h;simp only[mq,decide_eq_true_eq]at h;exact⟨h.1.1.1,h.1.1.2,h.1.2,h.2⟩
structure Ge(X:WM)(own:dj)(o:jd)(X':WM)(E:dj):Prop where
 x:pH X.sv.bB own X'.sv.bB E
 a:o.d=3->(X.eA o).e=0->0<=o.c/\0<=o.r/\o.r<4/\∃y∈(X'.sv.bB.r o.r.toNat).h,y.c=o.c/\y.t=(X.eA o).t
theorem FC{C:bq}{r:Int}(h:C.GK r=true):0<=r/\r<4:=by
 unfold bq.GK at h;simp only[mq]at h;exact qV h.1.1.1
theorem GI.step(h:GI X K own N n m T)(hn:n<=200000)(hm:m<=110)(hT:T<=200)(d:Ia o){T1:Int}(T0:T<=T1)(H0:o.d=11->T+1<=T1):∃c E D,GI (X.step o) c E D (n+610) (m+2) T1/\Ge X own o (X.step o) E:=by
 by_cases hf:o.fit=true
 case neg=>
  have y:X.step o=⟨X.sv,X.st,X.c,X.ev++[X.eA o]⟩:=iN hf;have P:X.eA o=⟨o.d,o.c,o.r,o.i,0,[],1⟩:=iN hf;refine⟨K,own,N,?_,⟨by rw[y];exact pH.refl _ _,λ_ F=>by rw[P]at F;cases F⟩⟩;rw[y,P];exact(h.bad (λr=>s8 (by show(1:Int)≠0;decide) r) (λ_ F=>by cases F)).mono oM oM oM
 obtain⟨d1,d11,z,V⟩:=zC hf;have y:=WM.yx (X:=X) hf;have P:=WM.Ky (X:=X) hf;generalize a:X.c o.c.toNat=C at P;have x:(X.eA o).d=o.d/\(X.eA o).r=o.r/\(X.eA o).i=o.i/\(X.eA o).e=(X.one o).e:=by rw[P];exact⟨rfl,rfl,rfl,rfl⟩
 have C0:o.d≠3->(X.eA o).t=C.tok o.r:=λh3=>by rw[P];exact iN (λh=>h3 h.1)
 have u:X.one o=gR X.sv X.st C o:=by unfold WM.one;rw[a]
 have H:aJ X.c o.c.toNat C=X.c:=by rw[<-a];exact Ab _ _
 have plain:∀{c E D} {sv:gy} {p:eu} {l:bq} {b:LI} {e:Int},X.one o=⟨sv,p,l,b,e⟩->(∀r,(X.eA o).cX r=false)->(o.d=5->e≠0)->GI ⟨sv,p,aJ X.c o.c.toNat l,X.ev⟩ c E D (n+610) (m+2) T1->pH X.sv.bB own sv.bB E->(o.d=3->e=0->0<=o.r/\o.r<4/\∃A0∈(sv.bB.r o.r.toNat).h,A0.c=o.c/\A0.t=l.tok o.r)->∃c E D,GI (X.step o) c E D (n+610) (m+2) T1/\Ge X own o (X.step o) E:=by
  intro c E D sv p l b e d B h5 hg hx h3;refine⟨c,E,D,?_,⟨by rw[y,d];exact hx,λj F=> ?_⟩⟩
  ·rw[y,d]
   exact hg.bad B (λq F=>by rw[x.1]at q;rw[x.2.2.2,d]at F;exact absurd F (h5 q))
  ·rw[x.2.2.2,d]at F
   obtain⟨a1,a2,a3⟩:=h3 j F;have et:(X.eA o).t=l.tok o.r:=by
    rw[P,d];exact iP ⟨j,F⟩
   rw[et,y,d];exact⟨z,a1,a2,a3⟩
 have U:(o.d<5\/7<o.d)->∀r,(X.eA o).cX r=false:=λhd r=>VK (by rw[x.1];exact hd) r;have O:=h.mono (n':=n+610) (m':=m+2) (T':=T1) oM oM oM;by_cases W:o.d=1
 ·have t:X.one o=if o.n<0 then⟨X.sv,X.st,C,[],1⟩else⟨(X.sv.apply ⟨7,0,0,0,0,0,IntKind.u64.wrap (X.sv.bB.now+o.n)⟩).s,X.st,C,[],0⟩:=by rw[u];exact iP W
  by_cases J:o.n<0
  ·rw[iP J]at t
   exact aey
  ·rw[iN J]at t
   have e4:(X.sv.apply ⟨7,0,0,0,0,0,IntKind.u64.wrap (X.sv.bB.now+o.n)⟩).s=⟨X.sv.bi,X.sv.bB.time (IntKind.u64.wrap (X.sv.bB.now+o.n))⟩:=by unfold gy.apply;rw[iP rfl]
   rw[e4]at t;obtain⟨E,hg⟩:=h.tb.time (IntKind.u64.wrap (X.sv.bB.now+o.n));have h1:=(h.Gt (S:=⟨X.sv.bi,X.sv.bB.time (IntKind.u64.wrap (X.sv.bB.now+o.n))⟩) (m':=m+2) hg oM oM (λ_ hx=>hx)).mono (n':=n+610) (T':=T1) oM (g9 _) oM;exact plain t (U oM) oM (by rw[H];exact h1) hg.nx oM
 by_cases I:o.d=2
 ·have t:X.one o=if o.n<0 then⟨X.sv,X.st,C,[],1⟩else⟨X.sv,X.st,{C with jg:=IntKind.u64.wrap (C.jg+o.n)},[],0⟩:=by rw[u];unfold gR;rw[iN W,iP I]
  by_cases J:o.n<0
  ·rw[iP J]at t
   exact aey
  ·rw[iN J]at t
   refine plain t (U oM) oM (O.numbers z V ?_ ?_ ?_ ?_ ?_ ?_) (pH.refl _ _) oM<;>rw[a]
 by_cases j:o.d=3
 ·have t:X.one o=⟨(ji X.sv o.c C o.r).s,X.st,(ji X.sv o.c C o.r).c,[],(ji X.sv o.c C o.r).e⟩:=by rw[u];unfold gR;rw[iN W,iN I,iP j]
  have key:∃E,GI ⟨(ji X.sv o.c C o.r).s,X.st,aJ X.c o.c.toNat (ji X.sv o.c C o.r).c,X.ev⟩ K E N n (m+2) T/\pH X.sv.bB own (ji X.sv o.c C o.r).s.bB E/\((ji X.sv o.c C o.r).e=0->0<=o.r/\o.r<4/\∃A0∈((ji X.sv o.c C o.r).s.bB.r o.r.toNat).h,A0.c=o.c/\A0.t=(ji X.sv o.c C o.r).c.tok o.r):=by
   unfold ji;by_cases G:cD o.r=false
   ·rw[iP G]
    exact⟨own,by show GI ⟨X.sv,X.st,aJ X.c o.c.toNat C,X.ev⟩ K own N n (m+2) T;rw[H];exact h.mono (g9 _) oM (ef _),pH.refl _ _,λF=>by cases F⟩
   ·rw[iN G]
    obtain⟨Q,L⟩:=qV (by simpa using G);obtain⟨gY,s1,s2,s3,s4⟩:=h.ZZ z V (m':=m+1) oM oM;rw[a]at s1 s2 s3 s4;generalize iV X.sv o.c C=Y at s1 s2 s3 s4;by_cases F:Y.e=0
    ·rw[iN (λh=>h F)]
     have J0:(aJ X.c o.c.toNat Y.c) o.c.toNat=Y.c:=aW _ _ _;obtain⟨L0,t1,t2,t3⟩:=s1.get z V Q L (by show((aJ X.c o.c.toNat Y.c) o.c.toNat).bi=true;rw[J0];exact s2 F) (m':=m+2) oM oM;rw[show(WM.mk Y.s X.st (aJ X.c o.c.toNat Y.c) X.ev).c o.c.toNat=Y.c from J0]at t1 t2 t3;have S0:aJ (aJ X.c o.c.toNat Y.c) o.c.toNat (mI Y.s o.c Y.c o.r).c=aJ X.c o.c.toNat (mI Y.s o.c Y.c o.r).c:=Gl _ _ _ _;have t1:GI ⟨(mI Y.s o.c Y.c o.r).s,X.st,aJ (aJ X.c o.c.toNat Y.c) o.c.toNat (mI Y.s o.c Y.c o.r).c,X.ev⟩ K L0 N n (m+2) T:=t1;rw[S0]at t1;exact⟨L0,t1,s4.trans t3,λF=>⟨Q,L,t2 F⟩⟩
    ·rw[iP F]
     exact⟨gY,s1.mono (g9 _) oM (ef _),s4,λh=>absurd h F⟩
  obtain⟨E,g1,g2,g3⟩:=key;exact plain t (U oM) oM (g1.mono oM (g9 _) oM) g2 (λ_ F=>g3 F)
 by_cases Z:o.d=4
 ·have t:X.one o=⟨(dI X.sv o.c C o.r).s,X.st,(dI X.sv o.c C o.r).c,[],(dI X.sv o.c C o.r).e⟩:=by rw[u];unfold gR;rw[iN W,iN I,iN j,iP Z]
  unfold dI at t;by_cases R:C.tok o.r=0
  ·rw[iP R]at t
   exact aey
  ·rw[iN R]at t
   have G:0<=o.r/\o.r<4:=by
    by_cases G:0<=o.r/\o.r<4
    ·exact G
    ·exact absurd (lF G) R
   have G0:=h.tk o.c o.r z V;have h1:=h.ren z V G.1 G.2 (by rw[a]at G0⊢;omega);rw[a]at h1;exact plain t (U oM) oM (h1.mono oM oM oM) (h.Wr _ _ _ _) oM
 have M0:∀{i:Int},C.iQ o.r i=0->0<=o.r/\o.r<4:=λB=>FC (zF B).2.2;have F0:1<=C.tok o.r->0<=o.r->o.r<4->qE C o.r (K o.r.toNat (C.tok o.r)) (aG o.r (C.tok o.r) X.ev):=λR Q L=>by
  have:=(h.lk o.c o.r z V Q L (by rw[a];exact R)).1;rw[a]at this;exact this
 have G0:=h.tk o.c o.r z V;have B0:=h.ci o.c z V;rw[a]at G0 B0;have U0:=h.lb;have E0:¬1<=C.tok o.r->∀i,C.iQ o.r i≠0:=λR i B=>by
  obtain⟨Q,L⟩:=M0 B;have D0:=(zF B).2.2;rw[mx Q L]at R;have hz:=h.hz o.c z V o.r.toNat;rw[a]at hz;rcases hz with hz|hz
  ·unfold bq.GK at D0
   rw[hz]at D0;simp[qx.none,qx.zero]at D0
  ·exact R hz
 have none:∀{p:eu} {l:bq} {b:LI} {e:Int},¬1<=C.tok o.r->5<=o.d->o.d<=7->X.one o=⟨X.sv,p,l,b,e⟩->(p=X.st/\l=C/\e≠0\/GI ⟨X.sv,p,aJ X.c o.c.toNat l,X.ev⟩ K own N (n+610) (m+2) T1/\e≠0)->∃c E D,GI (X.step o) c E D (n+610) (m+2) T1/\Ge X own o (X.step o) E:=by
  intro p l b e _ h5 h7 t hh;rcases hh with⟨rfl,rfl,F⟩|⟨hg,F⟩
  ·exact plain t (λr=>s8 (by rw[x.2.2.2,t];exact F) r) (λ_=>F) adw (pH.refl _ _) oM
  ·exact plain t (λr=>s8 (by rw[x.2.2.2,t];exact F) r) (λ_=>F) hg (pH.refl _ _) oM
 have done:∀{p:eu} {l:bq} {b:LI} {e:Int} {D:Nat->Rg} {v':Vw} {n' m':Nat},1<=C.tok o.r->0<=o.r->o.r<4->o.d≠3->X.one o=⟨X.sv,p,l,b,e⟩->n'<=n+610->m<=m'->m'<=m+2->(o.d=5->e=0->(X.eA o).b.length<=23)->ow p (X.ev++[X.eA o]) K n' T o.r (C.tok o.r) C l m' D v'->∃c E D,GI (X.step o) c E D (n+610) (m+2) T1/\Ge X own o (X.step o) E:=by
  intro p l b e D v' n' m' R Q L h3 t Q0 O0 N0 h5 M;refine⟨gg K o.r (C.tok o.r) v',own,D,?_,⟨by rw[y,t];exact pH.refl _ _,λk=>absurd k h3⟩⟩;rw[<-a]at M R⊢;have:=h.block z V Q L R x.2.1 (by rw[C0 h3,a]) (λq F=>h5 (by rw[<-x.1];exact q) (by rw[x.2.2.2,t]at F;exact F)) O0 M;rw[y,t];exact this.mono Q0 N0 oM
 by_cases q:o.d=5
 ·have t:X.one o=⟨X.sv,X.st,(dO C o.r o.i o.b).1,[],(dO C o.r o.i o.b).2⟩:=by rw[u];unfold gR;rw[iN W,iN I,iN j,iN Z,iP q]
  by_cases R:1<=C.tok o.r
  ·have G:0<=o.r/\o.r<4:=by
    exact aeR
   have B:(dO C o.r o.i o.b).2=0->(X.eA o).b=o.b:=λF=>by rw[P];exact iP ⟨q,by rw[t];exact F⟩
   obtain⟨v',M⟩:=Kq (e:=X.eA o) h.w (F0 R G.1 G.2) B0 G.1 G.2 R d.b (by rw[x.1];exact q) x.2.1 (C0 j) x.2.2.1 B (by rw[x.2.2.2,t]);refine done R G.1 G.2 j t oM oM oM (λ_ F=> ?_) M;rw[B F];unfold dO at F
   split at F
   ·rename_i R0;exact absurd F R0
   ·exact(yL F).2.2
  ·have A:=E0 R o.i
   unfold dO at t;exact aeT
 by_cases w:o.d=6
 ·have t:X.one o=⟨X.sv,(gX X.st o.c C o.r o.i o.n).x,(gX X.st o.c C o.r o.i o.n).c,(gX X.st o.c C o.r o.i o.n).b,(gX X.st o.c C o.r o.i o.n).e⟩:=by rw[u];unfold gR;rw[iN W,iN I,iN j,iN Z,iN q,iP w]
  by_cases R:1<=C.tok o.r
  ·have G:0<=o.r/\o.r<4:=by
    exact aeR
   have B:(X.eA o).b=(gX X.st o.c C o.r o.i o.n).b:=by
    rw[P,t];exact iN (λh=>q h.1)
   obtain⟨D,v',M⟩:=MZ (e:=X.eA o) (i:=o.i) h.w oM oM (F0 R G.1 G.2) B0 G.1 G.2 ⟨R,oM⟩ rfl o.c o.n (by rw[x.1];exact w) x.2.1 (C0 j) x.2.2.1 B (by rw[x.2.2.2,t]);exact done R G.1 G.2 j t oM (g9 _) oM (λh=>absurd h q) M
  ·have A:=E0 R o.i
   unfold gX at t;exact aeT
 by_cases k7:o.d=7
 ·have t:X.one o=⟨X.sv,(eJ X.st o.c C o.r o.n).x,(eJ X.st o.c C o.r o.n).c,[],(eJ X.st o.c C o.r o.n).e⟩:=by rw[u];unfold gR;rw[iN W,iN I,iN j,iN Z,iN q,iN w,iP k7]
  by_cases R:1<=C.tok o.r
  ·have G:0<=o.r/\o.r<4:=by
    exact aeR
   obtain⟨D,v',M⟩:=Kb (e:=X.eA o) h.w oM oM oM (F0 R G.1 G.2) B0 G.1 G.2 ⟨R,oM⟩ rfl o.c o.n (by rw[x.1];exact k7) x.2.1 (C0 j) (by rw[x.2.2.2,t]);exact done R G.1 G.2 j t oM oM oM (λh=>absurd h q) M
  ·have A:=E0 R 0
   unfold eJ at t;exact aeT
 by_cases k8:o.d=8
 ·have t:X.one o=⟨(jJ X.sv o.c C o.r).s,X.st,(jJ X.sv o.c C o.r).c,[],(jJ X.sv o.c C o.r).e⟩:=by rw[u];unfold gR;rw[iN W,iN I,iN j,iN Z,iN q,iN w,iN k7,iP k8]
  obtain⟨E,g1,g2⟩:=h.rel (r:=o.r) z V (m':=m+2) oM oM;rw[a]at g1 g2;exact plain t (U oM) oM (g1.mono oM (g9 _) oM) g2 oM
 by_cases k9:o.d=9
 ·have t:X.one o=⟨X.sv,X.st,bq.zero C.jg,[],0⟩:=by rw[u];unfold gR;rw[iN W,iN I,iN j,iN Z,iN q,iN w,iN k7,iN k8,iP k9]
  exact plain t (U oM) oM (O.die z V C.jg) (pH.refl _ _) oM
 by_cases K0:o.d=10
 ·have t:X.one o=if o.n<0\/(X.st.az.length:Int)<=o.n then⟨X.sv,X.st,C,[],1⟩else⟨X.sv,X.st.df ((X.st.az.getD o.n.toNat (0,mZ 0 0)).2),C,[],0⟩:=by rw[u];unfold gR;rw[iN W,iN I,iN j,iN Z,iN q,iN w,iN k7,iN k8,iN k9,iP K0]
  by_cases J:o.n<0\/(X.st.az.length:Int)<=o.n
  ·rw[iP J]at t
   exact aey
  ·rw[iN J]at t
   have I0:o.n.toNat<X.st.az.length:=oM
   have P0:X.st.az.getD o.n.toNat (0,mZ 0 0)∈X.st.az:=by
    rw[NP,gP I0];exact Sp I0
   obtain⟨D,g⟩:=h.again oM oM P0;exact plain t (U oM) oM (by rw[H];exact g.mono oM oM oM) (pH.refl _ _) oM
 have t:X.one o=if o.i≠0 then⟨X.sv,X.st.gG o.n,C,[],0⟩else⟨X.sv,X.st.bz o.p,C,[],0⟩:=by rw[u];unfold gR;rw[iN W,iN I,iN j,iN Z,iN q,iN w,iN k7,iN k8,iN k9,iN K0]
 by_cases ki:o.i≠0
 ·rw[iP ki]at t
  exact plain t (U oM) oM (by rw[H];exact(h.gG ⟨d.n0,by have:=d.n1 oM;omega⟩).mono oM oM (H0 oM)) (pH.refl _ _) oM
 ·rw[iN ki]at t
  obtain⟨D,g⟩:=h.bz oM oM o.p;exact plain t (U oM) oM (by rw[H];exact g.mono oM oM (H0 oM)) (pH.refl _ _) oM
end
end
abbrev fT(gs gl:Nat):Vq:= #[pO gs,pO gl]
theorem SR{I:aH}{L:List aw}(g gs gl n:Nat)(T:aI)(q:dD)(w:World)(P:bC T)(h:St I w (ab n 47 #[pO g]::ab g 113 (fT gs gl)::bW gl T::L)):
 Rt I w 194 #[.agg (dN q),pO n] (.agg (aN ((T.acquire q.c q.r q.m).2.2) ((T.acquire q.c q.r q.m).2.1))) (ab n 47 #[pO g]::ab g 113 (fT gs gl)::bW gl ((T.acquire q.c q.r q.m).1)::L):=by
 have K:=(h.alloc 156 (dN q)).alloc 158 (aN 0 0);rw[World.size_alloc]at K;obtain⟨d,k⟩:=nM (w.heap.size);obtain⟨i,x⟩:=nM (w.heap.size+1);rw[<-x,<-k]at K;refine mr k x P (K.pk 5 [2,3,1,4,0]) λc y X H=>?_;clear h K k x P
 go_enter func194,ntmps194
 go_wp2_with fail
 rw[<-y.out,<-c.out];refine ak (I:=I) (L0:=L) [⟨none,none,λe=>ab n 47 #[pO g]⟩,⟨none,none,λe=>ab g 113 (fT gs gl)⟩,⟨none,none,λe=>ab d 156 (dN q)⟩,⟨none,some 10,λe=>bW gl T⟩,⟨some 10,none,λe=>bW gl ((T.acquire q.c q.r q.m).1)⟩,⟨none,some 14,λe=>ab i 158 (aN 0 0)⟩,⟨some 14,none,λe=>ab i 158 (aN ((T.acquire q.c q.r q.m).2.2) ((T.acquire q.c q.r q.m).2.1))⟩] [[],[0],[0,1],rG 3,[],[4],[],[6],[],[8],rG 10,rG 11,rG 11,rG 13,rG 14] (rG 15) rfl kR kR kR (by rfl) (λ_=>rfl) H.fk ?_;refine Qq ?_;refine aZ 196 (λe=> #[pO gl,iI q.c,iI q.r,iI q.m]) (λe=> .tuple #[iU (T.acquire q.c q.r q.m).2.1,iI (T.acquire q.c q.r q.m).2.2]) rfl (λe p O h=>by(
  have h:=h.fn;refine(Jd gl T q.c q.r q.m _ X (h.fi 3)).mono ?_;rintro u W⟨rfl,Z⟩;exact⟨⟨none,0,default⟩,rfl,Z.fk⟩)) ?_
 simp only[aR];refine vM ?_;refine aZ 195 (λe=> #[iU ((T.acquire q.c q.r q.m).2.1),iI ((T.acquire q.c q.r q.m).2.2)]) (λe=> .agg (aN ((T.acquire q.c q.r q.m).2.2) ((T.acquire q.c q.r q.m).2.1))) rfl (λe p O h=>by(
  have h:=h.fn;refine(JU ((T.acquire q.c q.r q.m).2.1) ((T.acquire q.c q.r q.m).2.2) _ h).mono ?_;rintro u W⟨rfl,Z⟩;exact⟨⟨none,0,default⟩,rfl,Z.fk⟩)) ?_
 simp only[aR];refine jA (λe=> pO i) (λe=> .agg (aN ((T.acquire q.c q.r q.m).2.2) ((T.acquire q.c q.r q.m).2.1))) rfl rfl (λe p O h=>by(
  have h:=h.fn;have a:=h.fi 4;have F:p.cell? (aD i 0)=some (iI 0):=(a.ah 0 rfl).cell 0;have N:p.cell? (aD i 1)=some (iU 0):=(a.ah 0 rfl).cell 1;have C:=(a.ah 0 rfl).frozen;have U:=(a.br 0 (iI ((T.acquire q.c q.r q.m).2.2)) (aN ((T.acquire q.c q.r q.m).2.2) 0) rfl).br 1 (iU ((T.acquire q.c q.r q.m).2.1)) (aN ((T.acquire q.c q.r q.m).2.2) ((T.acquire q.c q.r q.m).2.1)) rfl;exact⟨_,gS,U.fk⟩)) ?_
 simp only[Act.put];refine ax ?_;intro e l h;have h:=h.fn;have h:=h;obtain⟨F,N⟩:l.cell? (aD i 0)=some (iI ((T.acquire q.c q.r q.m).2.2))/\l.cell? (aD i 1)=some (iU ((T.acquire q.c q.r q.m).2.1)):=⟨(h.ah 4 rfl).cell 0,(h.ah 4 rfl).cell 1⟩;have B:=aa h;clear h H
 go_wp2_with fail
 refine bodyPost_ret (v:= .agg (aN ((T.acquire q.c q.r q.m).2.2) ((T.acquire q.c q.r q.m).2.1))) (aL (fn:=Tryz.f194) (t:=3) (ty:=158) rfl _ rfl ?_) rfl ⟨rfl,B.sub⟩;go_simp
theorem Ta{I:aH}{L:List aw}(g gs gl n:Nat)(T:aI)(q:dD)(w:World)(P:bC T)(h:St I w (ab n 47 #[pO g]::ab g 113 (fT gs gl)::bW gl T::L)):
 Rt I w 197 #[.agg (dN q),pO n] (.agg (aN ((T.release q.c q.r q.t).2) (0))) (ab n 47 #[pO g]::ab g 113 (fT gs gl)::bW gl ((T.release q.c q.r q.t).1)::L):=by
 have K:=(h.alloc 156 (dN q)).alloc 158 (aN 0 0);rw[World.size_alloc]at K;obtain⟨d,k⟩:=nM (w.heap.size);obtain⟨i,x⟩:=nM (w.heap.size+1);rw[<-x,<-k]at K;refine mr k x P (K.pk 5 [2,3,1,4,0]) λc y X H=>?_;clear h K k x P
 go_enter func197,ntmps197
 go_wp2_with fail
 rw[<-y.out,<-c.out];refine ak (I:=I) (L0:=L) [⟨none,none,λe=>ab n 47 #[pO g]⟩,⟨none,none,λe=>ab g 113 (fT gs gl)⟩,⟨none,none,λe=>ab d 156 (dN q)⟩,⟨none,some 10,λe=>bW gl T⟩,⟨some 10,none,λe=>bW gl ((T.release q.c q.r q.t).1)⟩,⟨none,some 12,λe=>ab i 158 (aN 0 0)⟩,⟨some 12,none,λe=>ab i 158 (aN ((T.release q.c q.r q.t).2) (0))⟩] [[],[0],[0,1],rG 3,[],[4],[],[6],[],[8],rG 10,rG 11,rG 12] (rG 13) rfl kR kR kR (by rfl) (λ_=>rfl) H.fk ?_;refine Qq ?_;refine aZ 152 (λe=> #[pO gl,iI q.c,iI q.r,iU q.t]) (λe=> iI (T.release q.c q.r q.t).2) rfl (λe p O h=>by(
  have h:=h.fn;refine(yI gl T q.c q.r q.t _ X (h.fi 3)).mono ?_;rintro u W⟨rfl,Z⟩;exact⟨⟨none,0,default⟩,rfl,Z.fk⟩)) ?_
 simp only[aR];refine aZ 195 (λe=> #[iU (0),iI ((T.release q.c q.r q.t).2)]) (λe=> .agg (aN ((T.release q.c q.r q.t).2) (0))) rfl (λe p O h=>by(
  have h:=h.fn;refine(JU (0) ((T.release q.c q.r q.t).2) _ h).mono ?_;rintro u W⟨rfl,Z⟩;exact⟨⟨none,0,default⟩,rfl,Z.fk⟩)) ?_
 simp only[aR];refine jA (λe=> pO i) (λe=> .agg (aN ((T.release q.c q.r q.t).2) (0))) rfl rfl (λe p O h=>by(
  have h:=h.fn;have a:=h.fi 4;have F:p.cell? (aD i 0)=some (iI 0):=(a.ah 0 rfl).cell 0;have N:p.cell? (aD i 1)=some (iU 0):=(a.ah 0 rfl).cell 1;have C:=(a.ah 0 rfl).frozen;have U:=(a.br 0 (iI ((T.release q.c q.r q.t).2)) (aN ((T.release q.c q.r q.t).2) 0) rfl).br 1 (iU (0)) (aN ((T.release q.c q.r q.t).2) (0)) rfl;exact⟨_,gS,U.fk⟩)) ?_
 simp only[Act.put];refine ax ?_;intro e l h;have h:=h.fn;have h:=h;obtain⟨F,N⟩:l.cell? (aD i 0)=some (iI ((T.release q.c q.r q.t).2))/\l.cell? (aD i 1)=some (iU (0)):=⟨(h.ah 4 rfl).cell 0,(h.ah 4 rfl).cell 1⟩;have B:=aa h;clear h H
 go_wp2_with fail
 refine bodyPost_ret (v:= .agg (aN ((T.release q.c q.r q.t).2) (0))) (aL (fn:=Tryz.f197) (t:=3) (ty:=158) rfl _ rfl ?_) rfl ⟨rfl,B.sub⟩;go_simp
theorem Tj{I:aH}{L:List aw}(g gs gl n:Nat)(T:aI)(q:dD)(w:World)(P:bC T)(h:St I w (ab n 47 #[pO g]::ab g 113 (fT gs gl)::bW gl T::L)):
 Rt I w 198 #[.agg (dN q),pO n] (.agg (aN ((T.renew q.c q.r q.t).2.2) ((T.renew q.c q.r q.t).2.1))) (ab n 47 #[pO g]::ab g 113 (fT gs gl)::bW gl ((T.renew q.c q.r q.t).1)::L):=by
 have K:=(h.alloc 156 (dN q)).alloc 158 (aN 0 0);rw[World.size_alloc]at K;obtain⟨d,k⟩:=nM (w.heap.size);obtain⟨i,x⟩:=nM (w.heap.size+1);rw[<-x,<-k]at K;refine mr k x P (K.pk 5 [2,3,1,4,0]) λc y X H=>?_;clear h K k x P
 go_enter func198,ntmps198
 go_wp2_with fail
 rw[<-y.out,<-c.out];refine ak (I:=I) (L0:=L) [⟨none,none,λe=>ab n 47 #[pO g]⟩,⟨none,none,λe=>ab g 113 (fT gs gl)⟩,⟨none,none,λe=>ab d 156 (dN q)⟩,⟨none,some 10,λe=>bW gl T⟩,⟨some 10,none,λe=>bW gl ((T.renew q.c q.r q.t).1)⟩,⟨none,some 14,λe=>ab i 158 (aN 0 0)⟩,⟨some 14,none,λe=>ab i 158 (aN ((T.renew q.c q.r q.t).2.2) ((T.renew q.c q.r q.t).2.1))⟩] [[],[0],[0,1],rG 3,[],[4],[],[6],[],[8],rG 10,rG 11,rG 11,rG 13,rG 14] (rG 15) rfl kR kR kR (by rfl) (λ_=>rfl) H.fk ?_;refine Qq ?_;refine aZ 199 (λe=> #[pO gl,iI q.c,iI q.r,iU q.t]) (λe=> .tuple #[iU (T.renew q.c q.r q.t).2.1,iI (T.renew q.c q.r q.t).2.2]) rfl (λe p O h=>by(
  have h:=h.fn;refine(Qn gl T q.c q.r q.t _ X (h.fi 3)).mono ?_;rintro u W⟨rfl,Z⟩;exact⟨⟨none,0,default⟩,rfl,Z.fk⟩)) ?_
 simp only[aR];refine vM ?_;refine aZ 195 (λe=> #[iU ((T.renew q.c q.r q.t).2.1),iI ((T.renew q.c q.r q.t).2.2)]) (λe=> .agg (aN ((T.renew q.c q.r q.t).2.2) ((T.renew q.c q.r q.t).2.1))) rfl (λe p O h=>by(
  have h:=h.fn;refine(JU ((T.renew q.c q.r q.t).2.1) ((T.renew q.c q.r q.t).2.2) _ h).mono ?_;rintro u W⟨rfl,Z⟩;exact⟨⟨none,0,default⟩,rfl,Z.fk⟩)) ?_
 simp only[aR];refine jA (λe=> pO i) (λe=> .agg (aN ((T.renew q.c q.r q.t).2.2) ((T.renew q.c q.r q.t).2.1))) rfl rfl (λe p O h=>by(
  have h:=h.fn;have a:=h.fi 4;have F:p.cell? (aD i 0)=some (iI 0):=(a.ah 0 rfl).cell 0;have N:p.cell? (aD i 1)=some (iU 0):=(a.ah 0 rfl).cell 1;have C:=(a.ah 0 rfl).frozen;have U:=(a.br 0 (iI ((T.renew q.c q.r q.t).2.2)) (aN ((T.renew q.c q.r q.t).2.2) 0) rfl).br 1 (iU ((T.renew q.c q.r q.t).2.1)) (aN ((T.renew q.c q.r q.t).2.2) ((T.renew q.c q.r q.t).2.1)) rfl;exact⟨_,gS,U.fk⟩)) ?_
 simp only[Act.put];refine ax ?_;intro e l h;have h:=h.fn;have h:=h;obtain⟨F,N⟩:l.cell? (aD i 0)=some (iI ((T.renew q.c q.r q.t).2.2))/\l.cell? (aD i 1)=some (iU ((T.renew q.c q.r q.t).2.1)):=⟨(h.ah 4 rfl).cell 0,(h.ah 4 rfl).cell 1⟩;have B:=aa h;clear h H
 go_wp2_with fail
 refine bodyPost_ret (v:= .agg (aN ((T.renew q.c q.r q.t).2.2) ((T.renew q.c q.r q.t).2.1))) (aL (fn:=Tryz.f198) (t:=3) (ty:=158) rfl _ rfl ?_) rfl ⟨rfl,B.sub⟩;go_simp
def oS(n:Nat)(f:Nat):Value:= .func (.func f) #[] #[pO n]
def Iq(n:Nat):List (Int×Value):=[(3,oS n 194),(4,oS n 197),(5,oS n 198),(6,oS n 200)]
theorem Ie{I:aH}{L:List aw}(g:Nat)(w:World)(h:St I w L):
 Calls prog 156 #[pO g] w λe O=>∃n,e= .returned (.map (some (n+1)))/\St I O (nN (n+1) (Iq n)::ab n 47 #[pO g]::L):=by
 have a:∀Y first cap w,(Instr.makeFunc Y first cap).run prog w= .ok (.func Y first cap) w:=λ_ _ _ _=>rfl;have q:= @run_makeMap prog;have K:=(h.alloc 47 #[pO g]).Df;rw[World.size_alloc]at K;obtain⟨l,N,Z⟩:=K.yS (P:=prog) underlying286 underlying3 (c:=3) rfl (oS w.heap.size 194);obtain⟨X,j,V⟩:=Z.yS (P:=prog) underlying286 underlying3 (c:=4) rfl (oS w.heap.size 197);obtain⟨G,t,M⟩:=V.yS (P:=prog) underlying286 underlying3 (c:=5) rfl (oS w.heap.size 198);obtain⟨S,W,Q⟩:=M.yS (P:=prog) underlying286 underlying3 (c:=6) rfl (oS w.heap.size 200);have d:=aa Q;unfold oS at N j t W;clear h K Z V M Q
 go_enter func156,ntmps156
 go_wp2_with fail
 go_ret
 exact⟨_,rfl,d⟩
theorem CV(w:World):∃z,(zeroValue 210).run prog w= .ok z w:=⟨.nilFunc,kR⟩
theorem Cv(c r:Int):0<=cO c r/\cO c r<=255:=by
 unfold cO
 repeat' split
 all_goals omega
theorem FR(T:aI)(c r t:Int):0<=T.fY c r t/\T.fY c r t<=255:=by
 unfold aI.fY;have:=Cv c r
 repeat' split
 all_goals omega
theorem Jc(T:aI)(c r t:Int):0<=(T.release c r t).2/\(T.release c r t).2<=255:=by
 unfold aI.release;have:=FR T c r t
 split
 ·exact this
 ·exact⟨ef 0,(by decide:(0:Int)<=255)⟩
theorem RB(T:aI)(c r t:Int):0<=(T.renew c r t).2.2/\(T.renew c r t).2.2<=255:=by
 unfold aI.renew;have:=FR T c r t
 split
 ·exact this
 ·exact⟨ef 0,(by decide:(0:Int)<=255)⟩
theorem RE(T:aI)(c:Int)(k:Nat)(q:Int):0<=(T.oE c k q).2.2/\(T.oE c k q).2.2<=255:=by
 unfold aI.oE aI.Al
 repeat' split
 all_goals refine⟨?_,?_⟩
 all_goals(dsimp only;omega)
theorem JF(T:aI)(c r m:Int):0<=(T.acquire c r m).2.2/\(T.acquire c r m).2.2<=255:=by
 unfold aI.acquire
 split
 ·exact Cv c r
 ·split
  ·exact⟨(by decide:(0:Int)<=91),(by decide:(91:Int)<=255)⟩
  ·exact RE T c r.toNat m
theorem UT{I:aH}{L:List aw}(g gs gl:Nat)(S:List (Int×Int))(T:aI)(q:dD)(w:World)(W:aQ S q.c=none)(h:St I w (ab g 113 (fT gs gl)::fa gs S::bW gl T::L)):
 Rt I w 99 #[pO g,.agg (dN q)] (.agg (aN 81 0)) (ab g 113 (fT gs gl)::fa gs S::bW gl T::L):=by
 have K:=(h.alloc 156 (dN q)).alloc 158 (aN 0 0);rw[World.size_alloc]at K;obtain⟨d,k⟩:=nM (w.heap.size);obtain⟨M,r⟩:=nM (w.heap.size+1);rw[<-r,<-k]at K;refine ib k r (K.pk 5 [2,1,3,4,0]) λc p H=>?_;have b:=aa (show∀x,aQ S q.c=some x->q.seq=x.2+1/\0<=x.2/\x.2<4294967295 from λx J=>by rw[W]at J;cases J);have Y:lT S q.c=81:=by unfold lT;rw[W];rfl
 clear W;have A:=aa Y;clear Y;clear h K k r
 go_enter func99,ntmps99
 go_wp2_with fail
 rw[<-p.out,<-c.out];refine ak (I:=I) (L0:=bW gl T::ab M 158 (aN 0 0)::L) [⟨none,none,λe=>ab g 113 (fT gs gl)⟩,⟨none,none,λe=>ab d 156 (dN q)⟩,⟨none,some 8,λe=>fa gs S⟩,⟨some 8,none,λe=>fa gs S⟩] [[],[0],[0,1],rG 3,[],[4],[],[6],rG 8,rG 9,rG 10,rG 10,rG 10,rG 11,[0,1,2,3,4,5,6,7,8,9,10,11,13],rG 15] (rG 16) rfl kR kR kR (by rfl) (λ_=>rfl) H.fk ?_;refine Sq ?_;refine aZ 154 (λe=> #[pO gs,iI q.c,iW q.seq]) (λe=> .tuple #[sN,.bool false,iI (lT S q.c)]) rfl (λe j O h=>by(
  have h:=h.fn;refine(x7 gs S q.c q.seq _ b (h.fi 2)).mono ?_;rintro u B⟨rfl,Z⟩;exact⟨⟨none,0,default⟩,rfl,Z.fk⟩)) ?_
 simp only[aR];refine YD ?_;refine ax ?_;intro e l h;have h:=h.fn;rw[A.out];have F:l.cell? (aD M 0)=some (iI 0):=(h.ah 4 rfl).cell 0;have N:l.cell? (aD M 1)=some (iU 0):=(h.ah 4 rfl).cell 1;have C:=(h.ah 4 rfl).frozen;have U:=((h.fi 4).br 0 (iI 81) (aN 81 0) rfl).br 1 (iU 0) (aN 81 0) rfl;have i:=aa U;clear h H U
 go_wp2_with fail
 have o:World.cell? _ ⟨M,0,none⟩=some (iI 81):=(i.ah 0 rfl).cell 0;have E:World.cell? _ ⟨M,1,none⟩=some (iU 0):=(i.ah 0 rfl).cell 1;refine bodyPost_ret (v:= .agg (aN 81 0)) (aL (fn:=Tryz.f99) (t:=4) (ty:=158) rfl _ rfl ?_) rfl ⟨rfl,i.sub⟩;go_simp
theorem ZT{I:aH}{L:List aw}(g gs gl:Nat)(S:List (Int×Int))(T:aI)(q:dD)(w:World)(P:bC T)(X:q.op=3)(W:∃x,aQ S q.c=some x/\q.seq=x.2+1/\0<=x.2/\x.2<4294967295)(h:St I w (ab g 113 (fT gs gl)::fa gs S::bW gl T::L)):
 Rt I w 99 #[pO g,.agg (dN q)] (.agg (aN ((T.acquire q.c q.r q.m).2.2) ((T.acquire q.c q.r q.m).2.1))) (ab g 113 (fT gs gl)::fa gs (bR S q.c q.seq)::bW gl ((T.acquire q.c q.r q.m).1)::L):=by
 have K:=(h.alloc 156 (dN q)).alloc 158 (aN 0 0);rw[World.size_alloc]at K;obtain⟨d,k⟩:=nM (w.heap.size);obtain⟨M,r⟩:=nM (w.heap.size+1);rw[<-r,<-k]at K;refine mr k r (K.pk 5 [2,1,3,4,0]) W λz G H c=>?_;have R:=aa (show∀x,aQ S q.c=some x->q.seq=x.2+1/\0<=x.2/\x.2<4294967295 from λx J=>by obtain⟨B0,Z,V⟩:=W;rw[Z]at J;injection J with J;rw[<-J];exact V);have F:lT S q.c=0:=by obtain⟨B0,Z,V⟩:=W;unfold lT;rw[Z];rfl
 have E:=aa (show∀n,pI (Iq n) q.op=some (oS n 194)from λn=>by rw[X];rfl);have C:=aa P;have b:=aa (show 0<=(T.acquire q.c q.r q.m).2.2/\(T.acquire q.c q.r q.m).2.2<18446744073709551616 by have:=JF T q.c q.r q.m;omega);clear W X P;have A:=aa F;clear F;clear h K k r
 go_enter func99,ntmps99
 go_wp2_with fail
 rw[<-G.out,<-z.out];refine ak (I:=I) (L0:=bW gl T::ab M 158 (aN 0 0)::L) [⟨none,none,λe=>ab g 113 (fT gs gl)⟩,⟨none,none,λe=>ab d 156 (dN q)⟩,⟨none,some 8,λe=>fa gs S⟩,⟨some 8,none,λe=>fa gs S⟩] [[],[0],[0,1],rG 3,[],[4],[],[6],rG 8,rG 9,rG 10,rG 10,rG 10,rG 11,[0,1,2,3,4,5,6,7,8,9,10,11,13],rG 15] (rG 16) rfl kR kR kR (by rfl) (λ_=>rfl) H.fk ?_;refine Sq ?_;refine aZ 154 (λe=> #[pO gs,iI q.c,iW q.seq]) (λe=> .tuple #[sN,.bool false,iI (lT S q.c)]) rfl (λe p O h=>by(
  have h:=h.fn;refine(x7 gs S q.c q.seq _ R (h.fi 2)).mono ?_;rintro u B⟨rfl,Z⟩;exact⟨⟨none,0,default⟩,rfl,Z.fk⟩)) ?_
 simp only[aR];refine YD ?_;refine ax ?_;intro e l h;have h:=h.fn;rw[A.out];have Y:=aa h;clear h H
 go_wp2_with fail
 refine ak (I:=I) (L0:=fa gs S::ab M 158 (aN 0 0)::L) [⟨none,none,λe=>ab g 113 (fT gs gl)⟩,⟨none,none,λe=>ab d 156 (dN q)⟩,⟨none,some 6,λe=>bW gl T⟩,⟨some 6,none,λe=>bW gl ((T.acquire q.c q.r q.m).1)⟩,⟨some 1,none,λe=>ab (e 1).n 47 #[pO g]⟩,⟨some 1,none,λe=>nN ((e 1).n+1) (Iq (e 1).n)⟩,⟨some 7,some 8,λe=>ab (e 7).n 158 (aN 0 0)⟩,⟨some 8,none,λe=>ab (e 7).n 158 (aN ((T.acquire q.c q.r q.m).2.2) ((T.acquire q.c q.r q.m).2.1))⟩] [[],[0],[],[2],rG 4,[],rG 6,[],rG 8] (rG 9) rfl kR kR kR (by rfl) (λ_=>rfl) Y.fk ?_;refine lY ?_;refine aZ 156 (λe=> #[pO g]) (λe=> .map (some ((e 1).n+1))) rfl (λe p O h=>by(
  have h:=h.fn;refine(Ie g _ h).mono ?_;rintro u B⟨n,rfl,Z⟩;exact⟨⟨none,n,default⟩,rfl,Z.fk⟩)) ?_
 simp only[aR];refine vM ?_;refine kj (λe=>oS (e 1).n 194) rfl (λe p O h=>by(have h:=h.fn;have A0:=(h.fi 4).Aq 0 rfl;obtain⟨C0,hz⟩:=CV p;have Q:=nh (w:=p) underlying286 underlying3 hz A0 q.op false;rw[E.out]at Q;have Q:(Instr.lookup 286 (.map (some ((e 1).n+1))) (iI q.op) false).run prog p= .ok (oS (e 1).n 194) p:=Q;go_simp;try rfl)) ?_;simp only[aR];refine lY ?_;refine mU 194 (λe=> #[.agg (dN q),.pointer (some ⟨(e 1).n,0,none⟩)]) (λe=> .agg (aN ((T.acquire q.c q.r q.m).2.2) ((T.acquire q.c q.r q.m).2.1))) rfl (λ_=>rfl) (by intro e;rfl) (λe p=>by(unfold oS;go_simp;try rfl)) (λe p O h=>by(
  have h:=h.fn;refine(SR g gs gl (e 1).n T q _ C (h.pk 4 [3,0,2,1])).mono ?_;rintro u B⟨rfl,Z⟩;exact⟨⟨none,0,default⟩,rfl,Z.fk⟩)) ?_
 simp only[aR];refine xN (λe=> .pointer (some ⟨(e 7).n,0,none⟩)) rfl (λe p O h=>by(
  have h:=h.fn;have j:=h.alloc 158 (aN 0 0);exact⟨⟨none,p.heap.size,default⟩,_,gS,j.fk⟩)) ?_
 simp only[aR];refine jA (λe=> .pointer (some ⟨(e 7).n,0,none⟩)) (λe=> .agg (aN ((T.acquire q.c q.r q.m).2.2) ((T.acquire q.c q.r q.m).2.1))) rfl rfl (λe p O h=>by(
  have h:=h.fn;have a:=h.fi 5;have r0:p.cell? ⟨(e 7).n,0,none⟩=some (iI 0):=(a.ah 0 rfl).cell 0;have r1:p.cell? ⟨(e 7).n,1,none⟩=some (iU 0):=(a.ah 0 rfl).cell 1;have o:=(a.ah 0 rfl).frozen;have U:=(a.br 0 (iI ((T.acquire q.c q.r q.m).2.2)) (aN ((T.acquire q.c q.r q.m).2.2) 0) rfl).br 1 (iU ((T.acquire q.c q.r q.m).2.1)) (aN ((T.acquire q.c q.r q.m).2.2) ((T.acquire q.c q.r q.m).2.1)) rfl;exact⟨_,gS,U.fk⟩)) ?_
 simp only[Act.put];refine ax ?_;intro e l h;have h:=h.fn;have D:=aa (h.pk 7 [0,1,6,2,5]);clear h Y
 go_wp2_with fail
 generalize(e 7).n=gr at D⊢;refine ak (I:=I) (L0:=bW gl ((T.acquire q.c q.r q.m).1)::ab M 158 (aN 0 0)::L) [⟨none,none,λe=>ab g 113 (fT gs gl)⟩,⟨none,none,λe=>ab d 156 (dN q)⟩,⟨none,none,λe=>ab gr 158 (aN ((T.acquire q.c q.r q.m).2.2) ((T.acquire q.c q.r q.m).2.1))⟩,⟨none,some 10,λe=>fa gs S⟩,⟨some 10,none,λe=>fa gs (bR S q.c q.seq)⟩,⟨some 9,some 10,λe=>ai .u8 (.slice (e 9).A 9 (e 9).n) (yG ((T.acquire q.c q.r q.m).2.2) ((T.acquire q.c q.r q.m).2.1))⟩] [[],[0],[0,1],rG 3,[],[4],[],[6],[],[8],rG 10] (rG 11) rfl kR kR kR (by rfl) (λ_=>rfl) D.fk ?_;refine fs9 ?_;refine aZ 158 (λe=> #[.agg (aN ((T.acquire q.c q.r q.m).2.2) ((T.acquire q.c q.r q.m).2.1))]) (λe=> .slice (e 9).A 9 (e 9).n) rfl (λe p O h=>by(
  have h:=h.fn;refine(vG ((T.acquire q.c q.r q.m).2.2) ((T.acquire q.c q.r q.m).2.1) _ b h).mono ?_;rintro u B⟨y,N,rfl,Z⟩;exact⟨⟨y,N,default⟩,rfl,Z.fk⟩)) ?_
 simp only[aR];refine aZ 157 (λe=> #[pO gs,iI q.c,iW q.seq,.slice (e 9).A 9 (e 9).n]) (λe=> iI 0) rfl (λe p O h=>by(
  have h:=h.fn;refine(yV gs S q.c q.seq (e 9).A 9 (e 9).n (yG ((T.acquire q.c q.r q.m).2.2) ((T.acquire q.c q.r q.m).2.1)) _ oM c (h.pk 5 [4,3,0,1,2])).mono ?_;rintro u B⟨rfl,Z⟩;exact⟨⟨none,0,default⟩,rfl,Z.fk⟩)) ?_
 simp only[aR];refine ax ?_;intro e l h;have h:=h.fn;have y0:l.cell? (aD gr 0)=some (iI ((T.acquire q.c q.r q.m).2.2)):=(h.ah 2 rfl).cell 0;have y1:l.cell? (aD gr 1)=some (iU ((T.acquire q.c q.r q.m).2.1)):=(h.ah 2 rfl).cell 1;have r0:l.cell? (aD M 0)=some (iI 0):=(h.ah 5 rfl).cell 0;have r1:l.cell? (aD M 1)=some (iU 0):=(h.ah 5 rfl).cell 1;have o:=(h.ah 5 rfl).frozen;have U:=((h.fi 5).br 0 (iI ((T.acquire q.c q.r q.m).2.2)) (aN ((T.acquire q.c q.r q.m).2.2) 0) rfl).br 1 (iU ((T.acquire q.c q.r q.m).2.1)) (aN ((T.acquire q.c q.r q.m).2.2) ((T.acquire q.c q.r q.m).2.1)) rfl;have i:=aa U;clear h D U
 go_wp2_with fail
 have y0:World.cell? _ ⟨M,0,none⟩=some (iI ((T.acquire q.c q.r q.m).2.2)):=(i.ah 0 rfl).cell 0;have y1:World.cell? _ ⟨M,1,none⟩=some (iU ((T.acquire q.c q.r q.m).2.1)):=(i.ah 0 rfl).cell 1;refine bodyPost_ret (v:= .agg (aN ((T.acquire q.c q.r q.m).2.2) ((T.acquire q.c q.r q.m).2.1))) (aL (fn:=Tryz.f99) (t:=4) (ty:=158) rfl _ rfl ?_) rfl ⟨rfl,i.sub⟩;go_simp
theorem ZH{I:aH}{L:List aw}(g gs gl:Nat)(S:List (Int×Int))(T:aI)(q:dD)(w:World)(P:bC T)(X:q.op=4)(W:∃x,aQ S q.c=some x/\q.seq=x.2+1/\0<=x.2/\x.2<4294967295)(h:St I w (ab g 113 (fT gs gl)::fa gs S::bW gl T::L)):
 Rt I w 99 #[pO g,.agg (dN q)] (.agg (aN ((T.release q.c q.r q.t).2) (0))) (ab g 113 (fT gs gl)::fa gs (bR S q.c q.seq)::bW gl ((T.release q.c q.r q.t).1)::L):=by
 have K:=(h.alloc 156 (dN q)).alloc 158 (aN 0 0);rw[World.size_alloc]at K;obtain⟨d,k⟩:=nM (w.heap.size);obtain⟨M,r⟩:=nM (w.heap.size+1);rw[<-r,<-k]at K;refine mr k r (K.pk 5 [2,1,3,4,0]) W λz G H c=>?_;have R:=aa (show∀x,aQ S q.c=some x->q.seq=x.2+1/\0<=x.2/\x.2<4294967295 from λx J=>by obtain⟨B0,Z,V⟩:=W;rw[Z]at J;injection J with J;rw[<-J];exact V);have F:lT S q.c=0:=by obtain⟨B0,Z,V⟩:=W;unfold lT;rw[Z];rfl
 have E:=aa (show∀n,pI (Iq n) q.op=some (oS n 197)from λn=>by rw[X];rfl);have C:=aa P;have b:=aa (show 0<=(T.release q.c q.r q.t).2/\(T.release q.c q.r q.t).2<18446744073709551616 by have:=Jc T q.c q.r q.t;omega);clear W X P;have A:=aa F;clear F;clear h K k r
 go_enter func99,ntmps99
 go_wp2_with fail
 rw[<-G.out,<-z.out];refine ak (I:=I) (L0:=bW gl T::ab M 158 (aN 0 0)::L) [⟨none,none,λe=>ab g 113 (fT gs gl)⟩,⟨none,none,λe=>ab d 156 (dN q)⟩,⟨none,some 8,λe=>fa gs S⟩,⟨some 8,none,λe=>fa gs S⟩] [[],[0],[0,1],rG 3,[],[4],[],[6],rG 8,rG 9,rG 10,rG 10,rG 10,rG 11,[0,1,2,3,4,5,6,7,8,9,10,11,13],rG 15] (rG 16) rfl kR kR kR (by rfl) (λ_=>rfl) H.fk ?_;refine Sq ?_;refine aZ 154 (λe=> #[pO gs,iI q.c,iW q.seq]) (λe=> .tuple #[sN,.bool false,iI (lT S q.c)]) rfl (λe p O h=>by(
  have h:=h.fn;refine(x7 gs S q.c q.seq _ R (h.fi 2)).mono ?_;rintro u B⟨rfl,Z⟩;exact⟨⟨none,0,default⟩,rfl,Z.fk⟩)) ?_
 simp only[aR];refine YD ?_;refine ax ?_;intro e l h;have h:=h.fn;rw[A.out];have Y:=aa h;clear h H
 go_wp2_with fail
 refine ak (I:=I) (L0:=fa gs S::ab M 158 (aN 0 0)::L) [⟨none,none,λe=>ab g 113 (fT gs gl)⟩,⟨none,none,λe=>ab d 156 (dN q)⟩,⟨none,some 6,λe=>bW gl T⟩,⟨some 6,none,λe=>bW gl ((T.release q.c q.r q.t).1)⟩,⟨some 1,none,λe=>ab (e 1).n 47 #[pO g]⟩,⟨some 1,none,λe=>nN ((e 1).n+1) (Iq (e 1).n)⟩,⟨some 7,some 8,λe=>ab (e 7).n 158 (aN 0 0)⟩,⟨some 8,none,λe=>ab (e 7).n 158 (aN ((T.release q.c q.r q.t).2) (0))⟩] [[],[0],[],[2],rG 4,[],rG 6,[],rG 8] (rG 9) rfl kR kR kR (by rfl) (λ_=>rfl) Y.fk ?_;refine lY ?_;refine aZ 156 (λe=> #[pO g]) (λe=> .map (some ((e 1).n+1))) rfl (λe p O h=>by(
  have h:=h.fn;refine(Ie g _ h).mono ?_;rintro u B⟨n,rfl,Z⟩;exact⟨⟨none,n,default⟩,rfl,Z.fk⟩)) ?_
 simp only[aR];refine vM ?_;refine kj (λe=>oS (e 1).n 197) rfl (λe p O h=>by(have h:=h.fn;have A0:=(h.fi 4).Aq 0 rfl;obtain⟨C0,hz⟩:=CV p;have Q:=nh (w:=p) underlying286 underlying3 hz A0 q.op false;rw[E.out]at Q;have Q:(Instr.lookup 286 (.map (some ((e 1).n+1))) (iI q.op) false).run prog p= .ok (oS (e 1).n 197) p:=Q;go_simp;try rfl)) ?_;simp only[aR];refine lY ?_;refine mU 197 (λe=> #[.agg (dN q),.pointer (some ⟨(e 1).n,0,none⟩)]) (λe=> .agg (aN ((T.release q.c q.r q.t).2) (0))) rfl (λ_=>rfl) (by intro e;rfl) (λe p=>by(unfold oS;go_simp;try rfl)) (λe p O h=>by(
  have h:=h.fn;refine(Ta g gs gl (e 1).n T q _ C (h.pk 4 [3,0,2,1])).mono ?_;rintro u B⟨rfl,Z⟩;exact⟨⟨none,0,default⟩,rfl,Z.fk⟩)) ?_
 simp only[aR];refine xN (λe=> .pointer (some ⟨(e 7).n,0,none⟩)) rfl (λe p O h=>by(
  have h:=h.fn;have j:=h.alloc 158 (aN 0 0);exact⟨⟨none,p.heap.size,default⟩,_,gS,j.fk⟩)) ?_
 simp only[aR];refine jA (λe=> .pointer (some ⟨(e 7).n,0,none⟩)) (λe=> .agg (aN ((T.release q.c q.r q.t).2) (0))) rfl rfl (λe p O h=>by(
  have h:=h.fn;have a:=h.fi 5;have r0:p.cell? ⟨(e 7).n,0,none⟩=some (iI 0):=(a.ah 0 rfl).cell 0;have r1:p.cell? ⟨(e 7).n,1,none⟩=some (iU 0):=(a.ah 0 rfl).cell 1;have o:=(a.ah 0 rfl).frozen;have U:=(a.br 0 (iI ((T.release q.c q.r q.t).2)) (aN ((T.release q.c q.r q.t).2) 0) rfl).br 1 (iU (0)) (aN ((T.release q.c q.r q.t).2) (0)) rfl;exact⟨_,gS,U.fk⟩)) ?_
 simp only[Act.put];refine ax ?_;intro e l h;have h:=h.fn;have D:=aa (h.pk 7 [0,1,6,2,5]);clear h Y
 go_wp2_with fail
 generalize(e 7).n=gr at D⊢;refine ak (I:=I) (L0:=bW gl ((T.release q.c q.r q.t).1)::ab M 158 (aN 0 0)::L) [⟨none,none,λe=>ab g 113 (fT gs gl)⟩,⟨none,none,λe=>ab d 156 (dN q)⟩,⟨none,none,λe=>ab gr 158 (aN ((T.release q.c q.r q.t).2) (0))⟩,⟨none,some 10,λe=>fa gs S⟩,⟨some 10,none,λe=>fa gs (bR S q.c q.seq)⟩,⟨some 9,some 10,λe=>ai .u8 (.slice (e 9).A 9 (e 9).n) (yG ((T.release q.c q.r q.t).2) (0))⟩] [[],[0],[0,1],rG 3,[],[4],[],[6],[],[8],rG 10] (rG 11) rfl kR kR kR (by rfl) (λ_=>rfl) D.fk ?_;refine fs9 ?_;refine aZ 158 (λe=> #[.agg (aN ((T.release q.c q.r q.t).2) (0))]) (λe=> .slice (e 9).A 9 (e 9).n) rfl (λe p O h=>by(
  have h:=h.fn;refine(vG ((T.release q.c q.r q.t).2) (0) _ b h).mono ?_;rintro u B⟨y,N,rfl,Z⟩;exact⟨⟨y,N,default⟩,rfl,Z.fk⟩)) ?_
 simp only[aR];refine aZ 157 (λe=> #[pO gs,iI q.c,iW q.seq,.slice (e 9).A 9 (e 9).n]) (λe=> iI 0) rfl (λe p O h=>by(
  have h:=h.fn;refine(yV gs S q.c q.seq (e 9).A 9 (e 9).n (yG ((T.release q.c q.r q.t).2) (0)) _ oM c (h.pk 5 [4,3,0,1,2])).mono ?_;rintro u B⟨rfl,Z⟩;exact⟨⟨none,0,default⟩,rfl,Z.fk⟩)) ?_
 simp only[aR];refine ax ?_;intro e l h;have h:=h.fn;have y0:l.cell? (aD gr 0)=some (iI ((T.release q.c q.r q.t).2)):=(h.ah 2 rfl).cell 0;have y1:l.cell? (aD gr 1)=some (iU (0)):=(h.ah 2 rfl).cell 1;have r0:l.cell? (aD M 0)=some (iI 0):=(h.ah 5 rfl).cell 0;have r1:l.cell? (aD M 1)=some (iU 0):=(h.ah 5 rfl).cell 1;have o:=(h.ah 5 rfl).frozen;have U:=((h.fi 5).br 0 (iI ((T.release q.c q.r q.t).2)) (aN ((T.release q.c q.r q.t).2) 0) rfl).br 1 (iU (0)) (aN ((T.release q.c q.r q.t).2) (0)) rfl;have i:=aa U;clear h D U
 go_wp2_with fail
 have y0:World.cell? _ ⟨M,0,none⟩=some (iI ((T.release q.c q.r q.t).2)):=(i.ah 0 rfl).cell 0;have y1:World.cell? _ ⟨M,1,none⟩=some (iU (0)):=(i.ah 0 rfl).cell 1;refine bodyPost_ret (v:= .agg (aN ((T.release q.c q.r q.t).2) (0))) (aL (fn:=Tryz.f99) (t:=4) (ty:=158) rfl _ rfl ?_) rfl ⟨rfl,i.sub⟩;go_simp
theorem ZJ{I:aH}{L:List aw}(g gs gl:Nat)(S:List (Int×Int))(T:aI)(q:dD)(w:World)(P:bC T)(X:q.op=5)(W:∃x,aQ S q.c=some x/\q.seq=x.2+1/\0<=x.2/\x.2<4294967295)(h:St I w (ab g 113 (fT gs gl)::fa gs S::bW gl T::L)):
 Rt I w 99 #[pO g,.agg (dN q)] (.agg (aN ((T.renew q.c q.r q.t).2.2) ((T.renew q.c q.r q.t).2.1))) (ab g 113 (fT gs gl)::fa gs (bR S q.c q.seq)::bW gl ((T.renew q.c q.r q.t).1)::L):=by
 have K:=(h.alloc 156 (dN q)).alloc 158 (aN 0 0);rw[World.size_alloc]at K;obtain⟨d,k⟩:=nM (w.heap.size);obtain⟨M,r⟩:=nM (w.heap.size+1);rw[<-r,<-k]at K;refine mr k r (K.pk 5 [2,1,3,4,0]) W λz G H c=>?_;have R:=aa (show∀x,aQ S q.c=some x->q.seq=x.2+1/\0<=x.2/\x.2<4294967295 from λx J=>by obtain⟨B0,Z,V⟩:=W;rw[Z]at J;injection J with J;rw[<-J];exact V);have F:lT S q.c=0:=by obtain⟨B0,Z,V⟩:=W;unfold lT;rw[Z];rfl
 have E:=aa (show∀n,pI (Iq n) q.op=some (oS n 198)from λn=>by rw[X];rfl);have C:=aa P;have b:=aa (show 0<=(T.renew q.c q.r q.t).2.2/\(T.renew q.c q.r q.t).2.2<18446744073709551616 by have:=RB T q.c q.r q.t;omega);clear W X P;have A:=aa F;clear F;clear h K k r
 go_enter func99,ntmps99
 go_wp2_with fail
 rw[<-G.out,<-z.out];refine ak (I:=I) (L0:=bW gl T::ab M 158 (aN 0 0)::L) [⟨none,none,λe=>ab g 113 (fT gs gl)⟩,⟨none,none,λe=>ab d 156 (dN q)⟩,⟨none,some 8,λe=>fa gs S⟩,⟨some 8,none,λe=>fa gs S⟩] [[],[0],[0,1],rG 3,[],[4],[],[6],rG 8,rG 9,rG 10,rG 10,rG 10,rG 11,[0,1,2,3,4,5,6,7,8,9,10,11,13],rG 15] (rG 16) rfl kR kR kR (by rfl) (λ_=>rfl) H.fk ?_;refine Sq ?_;refine aZ 154 (λe=> #[pO gs,iI q.c,iW q.seq]) (λe=> .tuple #[sN,.bool false,iI (lT S q.c)]) rfl (λe p O h=>by(
  have h:=h.fn;refine(x7 gs S q.c q.seq _ R (h.fi 2)).mono ?_;rintro u B⟨rfl,Z⟩;exact⟨⟨none,0,default⟩,rfl,Z.fk⟩)) ?_
 simp only[aR];refine YD ?_;refine ax ?_;intro e l h;have h:=h.fn;rw[A.out];have Y:=aa h;clear h H
 go_wp2_with fail
 refine ak (I:=I) (L0:=fa gs S::ab M 158 (aN 0 0)::L) [⟨none,none,λe=>ab g 113 (fT gs gl)⟩,⟨none,none,λe=>ab d 156 (dN q)⟩,⟨none,some 6,λe=>bW gl T⟩,⟨some 6,none,λe=>bW gl ((T.renew q.c q.r q.t).1)⟩,⟨some 1,none,λe=>ab (e 1).n 47 #[pO g]⟩,⟨some 1,none,λe=>nN ((e 1).n+1) (Iq (e 1).n)⟩,⟨some 7,some 8,λe=>ab (e 7).n 158 (aN 0 0)⟩,⟨some 8,none,λe=>ab (e 7).n 158 (aN ((T.renew q.c q.r q.t).2.2) ((T.renew q.c q.r q.t).2.1))⟩] [[],[0],[],[2],rG 4,[],rG 6,[],rG 8] (rG 9) rfl kR kR kR (by rfl) (λ_=>rfl) Y.fk ?_;refine lY ?_;refine aZ 156 (λe=> #[pO g]) (λe=> .map (some ((e 1).n+1))) rfl (λe p O h=>by(
  have h:=h.fn;refine(Ie g _ h).mono ?_;rintro u B⟨n,rfl,Z⟩;exact⟨⟨none,n,default⟩,rfl,Z.fk⟩)) ?_
 simp only[aR];refine vM ?_;refine kj (λe=>oS (e 1).n 198) rfl (λe p O h=>by(have h:=h.fn;have A0:=(h.fi 4).Aq 0 rfl;obtain⟨C0,hz⟩:=CV p;have Q:=nh (w:=p) underlying286 underlying3 hz A0 q.op false;rw[E.out]at Q;have Q:(Instr.lookup 286 (.map (some ((e 1).n+1))) (iI q.op) false).run prog p= .ok (oS (e 1).n 198) p:=Q;go_simp;try rfl)) ?_;simp only[aR];refine lY ?_;refine mU 198 (λe=> #[.agg (dN q),.pointer (some ⟨(e 1).n,0,none⟩)]) (λe=> .agg (aN ((T.renew q.c q.r q.t).2.2) ((T.renew q.c q.r q.t).2.1))) rfl (λ_=>rfl) (by intro e;rfl) (λe p=>by(unfold oS;go_simp;try rfl)) (λe p O h=>by(
  have h:=h.fn;refine(Tj g gs gl (e 1).n T q _ C (h.pk 4 [3,0,2,1])).mono ?_;rintro u B⟨rfl,Z⟩;exact⟨⟨none,0,default⟩,rfl,Z.fk⟩)) ?_
 simp only[aR];refine xN (λe=> .pointer (some ⟨(e 7).n,0,none⟩)) rfl (λe p O h=>by(
  have h:=h.fn;have j:=h.alloc 158 (aN 0 0);exact⟨⟨none,p.heap.size,default⟩,_,gS,j.fk⟩)) ?_
 simp only[aR];refine jA (λe=> .pointer (some ⟨(e 7).n,0,none⟩)) (λe=> .agg (aN ((T.renew q.c q.r q.t).2.2) ((T.renew q.c q.r q.t).2.1))) rfl rfl (λe p O h=>by(
  have h:=h.fn;have a:=h.fi 5;have r0:p.cell? ⟨(e 7).n,0,none⟩=some (iI 0):=(a.ah 0 rfl).cell 0;have r1:p.cell? ⟨(e 7).n,1,none⟩=some (iU 0):=(a.ah 0 rfl).cell 1;have o:=(a.ah 0 rfl).frozen;have U:=(a.br 0 (iI ((T.renew q.c q.r q.t).2.2)) (aN ((T.renew q.c q.r q.t).2.2) 0) rfl).br 1 (iU ((T.renew q.c q.r q.t).2.1)) (aN ((T.renew q.c q.r q.t).2.2) ((T.renew q.c q.r q.t).2.1)) rfl;exact⟨_,gS,U.fk⟩)) ?_
 simp only[Act.put];refine ax ?_;intro e l h;have h:=h.fn;have D:=aa (h.pk 7 [0,1,6,2,5]);clear h Y
 go_wp2_with fail
 generalize(e 7).n=gr at D⊢;refine ak (I:=I) (L0:=bW gl ((T.renew q.c q.r q.t).1)::ab M 158 (aN 0 0)::L) [⟨none,none,λe=>ab g 113 (fT gs gl)⟩,⟨none,none,λe=>ab d 156 (dN q)⟩,⟨none,none,λe=>ab gr 158 (aN ((T.renew q.c q.r q.t).2.2) ((T.renew q.c q.r q.t).2.1))⟩,⟨none,some 10,λe=>fa gs S⟩,⟨some 10,none,λe=>fa gs (bR S q.c q.seq)⟩,⟨some 9,some 10,λe=>ai .u8 (.slice (e 9).A 9 (e 9).n) (yG ((T.renew q.c q.r q.t).2.2) ((T.renew q.c q.r q.t).2.1))⟩] [[],[0],[0,1],rG 3,[],[4],[],[6],[],[8],rG 10] (rG 11) rfl kR kR kR (by rfl) (λ_=>rfl) D.fk ?_;refine fs9 ?_;refine aZ 158 (λe=> #[.agg (aN ((T.renew q.c q.r q.t).2.2) ((T.renew q.c q.r q.t).2.1))]) (λe=> .slice (e 9).A 9 (e 9).n) rfl (λe p O h=>by(
  have h:=h.fn;refine(vG ((T.renew q.c q.r q.t).2.2) ((T.renew q.c q.r q.t).2.1) _ b h).mono ?_;rintro u B⟨y,N,rfl,Z⟩;exact⟨⟨y,N,default⟩,rfl,Z.fk⟩)) ?_
 simp only[aR];refine aZ 157 (λe=> #[pO gs,iI q.c,iW q.seq,.slice (e 9).A 9 (e 9).n]) (λe=> iI 0) rfl (λe p O h=>by(
  have h:=h.fn;refine(yV gs S q.c q.seq (e 9).A 9 (e 9).n (yG ((T.renew q.c q.r q.t).2.2) ((T.renew q.c q.r q.t).2.1)) _ oM c (h.pk 5 [4,3,0,1,2])).mono ?_;rintro u B⟨rfl,Z⟩;exact⟨⟨none,0,default⟩,rfl,Z.fk⟩)) ?_
 simp only[aR];refine ax ?_;intro e l h;have h:=h.fn;have y0:l.cell? (aD gr 0)=some (iI ((T.renew q.c q.r q.t).2.2)):=(h.ah 2 rfl).cell 0;have y1:l.cell? (aD gr 1)=some (iU ((T.renew q.c q.r q.t).2.1)):=(h.ah 2 rfl).cell 1;have r0:l.cell? (aD M 0)=some (iI 0):=(h.ah 5 rfl).cell 0;have r1:l.cell? (aD M 1)=some (iU 0):=(h.ah 5 rfl).cell 1;have o:=(h.ah 5 rfl).frozen;have U:=((h.fi 5).br 0 (iI ((T.renew q.c q.r q.t).2.2)) (aN ((T.renew q.c q.r q.t).2.2) 0) rfl).br 1 (iU ((T.renew q.c q.r q.t).2.1)) (aN ((T.renew q.c q.r q.t).2.2) ((T.renew q.c q.r q.t).2.1)) rfl;have i:=aa U;clear h D U
 go_wp2_with fail
 have y0:World.cell? _ ⟨M,0,none⟩=some (iI ((T.renew q.c q.r q.t).2.2)):=(i.ah 0 rfl).cell 0;have y1:World.cell? _ ⟨M,1,none⟩=some (iU ((T.renew q.c q.r q.t).2.1)):=(i.ah 0 rfl).cell 1;refine bodyPost_ret (v:= .agg (aN ((T.renew q.c q.r q.t).2.2) ((T.renew q.c q.r q.t).2.1))) (aL (fn:=Tryz.f99) (t:=4) (ty:=158) rfl _ rfl ?_) rfl ⟨rfl,i.sub⟩;go_simp
section
def tD(c:Int)(T:aI):Nat->aI
 |0=>T
 |k+1=>ie c (tD c T k) k
theorem vx(c:Int){T:aI}(h:bC T):∀k,bC (tD c T k)
 |0=>h
 |k+1=>by
  have a:∀(l:List be) (T:aI),bC T->bC (l.foldl (λT h=>if h.c==c then(T.release c (k:Int) h.t).1 else T) T):=by
   intro l
   induction l with
   |nil=>exact λT h=>h
   |cons x l K=>
    intro T A;refine K _ ?_;show bC (if _ then _ else _)
    split
    ·exact A.release _ _ _
    ·exact A
  exact(a _ _ (vx c h k)).cancel _ _
def sQ(c:Int)(k:Nat)(T:aI)(l:List be):aI:=l.foldl (λT h=>if h.c==c then(T.release c (k:Int) h.t).1 else T) T
theorem DO(c:Int)(k:Nat):∀(l:List be) (T:aI),bC T->bC (sQ c k T l)
 |[],_,h=>h
 |x::l,T,h=>by
  show bC (sQ c k _ l);refine DO c k l _ ?_;show bC (if _ then _ else _)
  split
  ·exact h.release _ _ _
  ·exact h
theorem MO(c:Int)(k:Nat)(T:aI)(l:List be)(x:be):sQ c k T (l++[x])=if(x.c==c)=true then((sQ c k T l).release c (k:Int) x.t).1 else sQ c k T l:=by
 unfold sQ;rw[XU]
 rfl
theorem NA(c:Int)(k:Nat)(T:aI){l:List be}{j:Nat}{x:be}(h:l[j]? =some x):sQ c k T (l.take (j+1))=if(x.c==c)=true then((sQ c k T (l.take j)).release c (k:Int) x.t).1 else sQ c k T (l.take j):=by
 rw[Et,h];exact MO c k T (l.take j) x
theorem QB{I:aH}{L:List aw}(g gs gl:Nat)(T:aI)(c:Int)(w:World)(D:bC T)(h:St I w (ab g 113 (fT gs gl)::bW gl T::L)):
 Rt I w 98 #[pO g,iI c] (.tuple #[]) (ab g 113 (fT gs gl)::bW gl (pT T c)::L):=by
 refine bm D h λA0 H=>?_;clear h D
 go_enter func98,ntmps98
 go_wp2_with fail
 go_loopg [7] 4 (λV t wr=>∃(k:Nat),V=4-k/\k<=4/\t= iI (k:Nat)/\St I wr (ab g 113 (fT gs gl)::bW gl (tD c T k)::L))
 case atStart=>exact ae4
 case round=>
  clear H;obtain⟨k,G,hk,rfl,h⟩:=hrel;have HG:=aa G;clear G;by_cases E0:k<4
  ·have i1:(k:Int)<4:=oM
   have S:=vx c A0 k;have U:tD c T (k+1)=((sQ c k (tD c T k) ((tD c T k).ly (k:Int))).cancel c (k:Int)).1:=rfl;generalize tD c T k=T1 at*;refine bm U S λy Y=>?_;have F:wr.cell? (aD g 1)=some (pO gl):=(h.ah 0 rfl).cell 1;have N:=aa h.swap;clear h S U
   go_wp2_with fail
   refine(IF gl T1 (k:Int) _ Y N).mono ?_;rintro e K⟨v,rfl,Z⟩;have C0:(T1.ly (k:Int)).length<=4:=by
    unfold aI.ly
    split
    ·exact Y.hl _ oM
    ·exact jG _
   obtain⟨A,o,rfl,_⟩:=(Z.rQ At.here).value;obtain⟨n,W⟩:=nM ((T1.ly (k:Int)).length);rw[<-W]at Z C0⊢;have b:=aa W;generalize T1.ly (k:Int)=hs at*;have p:Hid (St I K (ns cy 4 (.slice A n o) hs::ab g 113 (fT gs gl)::bW gl (sQ c k T1 (hs.take 0))::L)):=Z.pk 3 [0,2,1];clear Z N W
   go_wp2_with fail
   go_loopg [17] n (λV t wr=>∃(j:Nat),V=n-j/\j<=n/\t= iI (j:Nat)/\St I wr (ns cy 4 (.slice A n o) hs::ab g 113 (fT gs gl)::bW gl (sQ c k T1 (hs.take j))::L))
   case atStart=>exact⟨0,rfl,oM,rfl,p⟩
   case round=>
    clear p F;obtain⟨j,G,hj,rfl,h⟩:=hrel;have O:=aa G;clear G;by_cases R:j<n
    ·have J:=gP (l:=hs) (i:=j) (by rw[<-b.out];exact R)
     generalize hs[j]'(by rw[<-b.out];exact R)=z at J;obtain⟨B0,rfl,a⟩:=(h.rQ (C:=cy) (size:=4) (v:= .slice A n o) (xs:=hs)).at_ gC J;obtain⟨e0,e1,e2,e3⟩:=nZ a;have r:=aa (NA c k T1 J);have x:=DO c k (hs.take j) T1 Y;generalize sQ c k T1 (hs.take j)=T2 at*;have X:=aa x;have Q:=h.alloc 273 #[iI z.c,iI z.m,iU z.t,iU z.u];have k0:(0:Int)<=(j:Int):=oM
     have k1:(j:Int)<(n:Int):=oM
     obtain⟨D0,E⟩:=nM (wr.heap.size);have HY:=aa E;rw[<-E]at Q
     cases B:(z.c==c)with
     |true=>
      refine bm (show sQ c k T1 (hs.take (j+1))=(T2.release c (k:Int) z.t).1 by rw[r.out,iP B]) (Q.pk 4 [2,0,3,1]) λq d=>?_;clear h Q J a r x E
      go_wp2_with fail
      rw[<-HY.out];refine ak (I:=I) (L0:=ns cy 4 (.slice (some B0) n o) hs::L) [⟨none,none,λe=>ab g 113 (fT gs gl)⟩,⟨none,none,λe=>ab D0 273 #[iI z.c,iI z.m,iU z.t,iU z.u]⟩,⟨none,some 8,λe=>bW gl T2⟩,⟨some 8,none,λe=>bW gl (T2.release c (k:Int) z.t).1⟩] [[],[0],[0,1],rG 3,[],[],[],[6],rG 8] (rG 9) rfl kR kR kR (by rfl) (λ_=>rfl) d.fk ?_;refine Sq ?_;refine aZ 152 (λe=> #[pO gl,iI c,iI (k:Nat),iU z.t]) (λe=> iI (T2.release c (k:Int) z.t).2) rfl (λe wx Lx h=>by(
       have h:=h.fn;refine(yI gl T2 c (k:Int) z.t _ X (h.fi 2)).mono ?_;rintro u wy⟨rfl,Z⟩;exact⟨⟨none,0,default⟩,rfl,Z.fk⟩)) ?_
      simp only[aR];refine ax ?_;intro e K h;have h:=h.fn;have h:=h.pk 4 [3,0,2];have H5:=aa h;clear h d
      go_wp2_with fail
      go_roundg (n-(j+1))
      case measure=>have:=O.out;omega
      case rel=>exact⟨j+1,rfl,oM,by go_num,by rw[q.out];exact H5.out⟩
     |false=>
      have q:=aa (show sQ c k T1 (hs.take (j+1))=T2 by rw[r.out,iN (by rw[B];exact gV)]);have d:=aa Q.tail;clear h Q J a r x E
      go_wp2_with fail
      go_roundg (n-(j+1))
      case measure=>have:=O.out;omega
      case rel=>exact⟨j+1,rfl,oM,by go_num,by rw[q.out];exact d.out⟩
    ·obtain rfl:n=j:=oM
     rw[nS acE]at h;have x:=DO c k hs T1 Y;have y:=y;generalize sQ c k T1 hs=T2 at*;have X:=aa x;have F:wr.cell? (aD g 1)=some (pO gl):=(h.ah 1 rfl).cell 1;have P:=aa (h.pk 3 [2,1]);clear h x
     go_wp2_with fail
     refine qK (Oq gl T2 c (k:Int) _ X P) λw3 M=>?_;rw[<-y.out]at M;have d:=aa M.swap;clear M P F
     go_wp2_with fail
     go_roundg (4-(k+1))
     case measure=>exact ad5
     case rel=>exact⟨k+1,rfl,oM,by go_num,d⟩
  ·obtain rfl:k=4:=oM
   have H6:=aa h;clear h
   go_wp2_with fail
   go_end0
   exact⟨rfl,H6⟩
def YM(g:Nat)(S:gy)(p:Nat×Nat):aw:=aX (ab g 113 (fT p.1 p.2)) (aX (fa p.1 S.bi) (bW p.2 S.bB))
def eK(g:Nat)(S:gy):aw:=AU (YM g S)
section
variable {I:aH} {w:World} {L:List aw} {g gs a:Nat} {S:gy}
theorem St.Vl(h:St I w (eK g S::L)):∃gs a,St I w (ab g 113 (fT gs a)::fa gs S.bi::bW a S.bB::L):=by
 obtain⟨⟨gs,a⟩,Z⟩:=h.ex;have V:St I w (aX (ab g 113 (fT gs a)) (aX (fa gs S.bi) (bW a S.bB))::L):=Z;have M:=V.star.swap.star;exact⟨gs,a,M.pick 3 [2,0,1]⟩
theorem St.Su(h:St I w (ab g 113 (fT gs a)::fa gs S.bi::bW a S.bB::L)):St I w (eK g S::L):=by
 have V:=(h.pk 3 [1,2,0]).aM.swap.aM;exact St.cZ (f:=YM g S) (gs,a) V
end
def kt(S:gy)(q:dD):Prop:=∀x,aQ S.bi q.c=some x->q.seq=x.2+1/\0<=x.2/\x.2<4294967295
theorem vy{I:aH}{L:List aw}(g:Nat)(S:gy)(q:dD)(A:OA)(n c:Nat)(w:World)(d:q.ok)(P:bC S.bB)(D:0<=q.c/\q.c<16)(o:S.bi.length<=1000)(W:q.op=3\/q.op=4\/q.op=5->kt S q)(X:q.op=7)(h:St I w (ai .u8 (.slice A n c) (mP q)::eK g S::L)):
 Rt I w 61 #[pO g,.slice A n c] (.agg (aN (S.apply q).e (S.apply q).v)) (eK g (S.apply q).s::L):=by
 obtain⟨gs,gl,a⟩:=h.swap.Vl;have K:=(a.fi 3).alloc 158 (aN 0 0);obtain⟨M,r⟩:=nM (w.heap.size);rw[<-r]at K;refine xH r d P D o W λp Y B HC HL A0=>?_;obtain⟨B0,b⟩:∃x,x=S.bi:=⟨_,rfl⟩;have H:=aa (K.pk 5 [1,2,3,4,0]);have J:=aa (show S.apply q=⟨⟨S.bi,(S.bB.time q.tm)⟩,0,(S.bB.time q.tm).now⟩by unfold gy.apply;rw[iP X]);have j:=aa (show q.tm<=18446744073709551615 by have:=d.tm;omega);clear h K a r P D o W d b
 go_enter func61,ntmps61
 go_wp2_with fail
 rw[<-p.out];refine qK (oz q A n c _ Y H) λl Z=>?_;have V:=Z.alloc 156 (dN q);obtain⟨C,k⟩:=nM (l.heap.size);rw[<-k]at V;refine bm k (V.pk 0 []) λz T=>?_;obtain⟨y,G,R,Q,F,E,O⟩:=(V.ah 0 rfl).seven;have y:World.cell? _ ⟨C,0,none⟩=some (iI 7):=y.trans (by rw[X]);rw[k]at y G R Q F E O;clear Z V H X k
 go_wp2_with fail
 rw[<-z.out];refine ak (I:=I) (L0:=fa gs S.bi::ab M 158 (aN 0 0)::L) [⟨none,none,λe=>ab g 113 (fT gs gl)⟩,⟨none,none,λe=>ab C 156 (dN q)⟩,⟨none,some 6,λe=>bW gl S.bB⟩,⟨some 6,none,λe=>bW gl (S.bB.time q.tm)⟩] [[],[0],[0,1],rG 3,[],[4],rG 6] (rG 7) rfl kR kR kR (by rfl) (λ_=>rfl) T.fk ?_;refine Lb ?_;refine aZ 95 (λe=> #[pO gl,iU q.tm]) (λe=> .tuple #[]) rfl (λe wx Lx h=>by(
  have h:=h.fn;refine(UP gl S.bB q.tm _ B j (h.fi 2)).mono ?_;rintro u wy⟨rfl,Z⟩;exact⟨⟨none,0,default⟩,rfl,Z.fk⟩)) ?_
 simp only[aR];refine ax ?_;intro e l h;have h:=h.fn;have x1:l.cell? (aD g 1)=some (pO gl):=(h.ah 0 rfl).cell 1;have N:=aa (h.pk 3 [2,0]);clear h T
 go_wp2_with fail
 refine qK (Ld gl (S.bB.time q.tm) _ N) λl h=>?_;have r0:l.cell? (aD M 0)=some (iI 0):=(h.ah 3 rfl).cell 0;have r1:l.cell? (aD M 1)=some (iU 0):=(h.ah 3 rfl).cell 1;have fz:=(h.ah 3 rfl).frozen;have U:=((h.fi 3).br 0 (iI (0)) (aN (0) 0) rfl).br 1 (iU ((S.bB.time q.tm).now)) (aN (0) ((S.bB.time q.tm).now)) rfl;have i:=aa U;clear h U
 go_wp2_with fail
 have y0:World.cell? _ ⟨M,0,none⟩=some (iI (0)):=(i.ah 0 rfl).cell 0;have y1:World.cell? _ ⟨M,1,none⟩=some (iU ((S.bB.time q.tm).now)):=(i.ah 0 rfl).cell 1;rw[J.out];refine bodyPost_ret (v:= .agg (aN (0) ((S.bB.time q.tm).now))) (aL (fn:=Tryz.f61) (t:=4) (ty:=158) rfl _ rfl ?_) rfl ⟨rfl,(i.pk 4 [2,3,1]).Su (S:=⟨S.bi,(S.bB.time q.tm)⟩)⟩;go_simp
theorem BS{I:aH}{L:List aw}(g:Nat)(S:gy)(q:dD)(A:OA)(n c:Nat)(w:World)(G:q.ok)(P:bC S.bB)(D:0<=q.c/\q.c<16)(C:S.bi.length<=1000)(W:q.op=3\/q.op=4\/q.op=5->kt S q)(X:q.op=1)(h:St I w (ai .u8 (.slice A n c) (mP q)::eK g S::L)):
 Rt I w 61 #[pO g,.slice A n c] (.agg (aN (S.apply q).e (S.apply q).v)) (eK g (S.apply q).s::L):=by
 obtain⟨gs,gl,J⟩:=h.swap.Vl;have K:=(J.fi 3).alloc 158 (aN 0 0);obtain⟨M,r⟩:=nM (w.heap.size);rw[<-r]at K;refine xH r G P D C W λE R B0 j B A0=>?_;obtain⟨C0,b⟩:∃x,x=S.bi:=⟨_,rfl⟩;have H:=aa (K.pk 5 [1,2,3,4,0]);have Y:=aa (show S.apply q=⟨⟨Ae S.bi q.c,S.bB⟩,qM S.bi q.c,0⟩by
  unfold gy.apply qM Ae;rw[iN oM,iP X]
  repeat' split
  all_goals rfl)
 clear h K J r P D C W G b
 go_enter func61,ntmps61
 go_wp2_with fail
 rw[<-E.out];refine qK (oz q A n c _ R H) λl Z=>?_;have V:=Z.alloc 156 (dN q);obtain⟨d,k⟩:=nM (l.heap.size);rw[<-k]at V;refine bm k (V.pk 0 []) λz T=>?_;obtain⟨y,Q,F,z3,z4,z5,z6⟩:=(V.ah 0 rfl).seven;have y:World.cell? _ ⟨d,0,none⟩=some (iI 1):=y.trans (by rw[X]);rw[k]at y Q F z3 z4 z5 z6;clear Z V H X k
 go_wp2_with fail
 rw[<-z.out];refine ak (I:=I) (L0:=bW gl S.bB::L) [⟨none,none,λe=>ab g 113 (fT gs gl)⟩,⟨none,none,λe=>ab d 156 (dN q)⟩,⟨none,some 6,λe=>fa gs S.bi⟩,⟨some 6,none,λe=>fa gs (Ae S.bi q.c)⟩,⟨none,some 8,λe=>ab M 158 (aN 0 0)⟩,⟨some 8,none,λe=>ab M 158 (aN (qM S.bi q.c) 0)⟩] [[],[0],[0,1],rG 3,[],[4],rG 6,rG 7,rG 8] (rG 9) rfl kR kR kR (by rfl) (λ_=>rfl) T.fk ?_;refine Lb ?_;refine aZ 96 (λe=> #[pO gs,iI q.c]) (λe=> iI (qM S.bi q.c)) rfl (λe p O h=>by(
  have h:=h.fn;refine(QI gs S.bi q.c _ j B (h.fi 2)).mono ?_;rintro u wy⟨rfl,Z⟩;exact⟨⟨none,0,default⟩,rfl,Z.fk⟩)) ?_
 simp only[aR];refine lY ?_;refine jA (λe=> pO M) (λe=> .agg (aN (qM S.bi q.c) 0)) rfl rfl (λe p O h=>by(
  have h:=h.fn;have a:=h.fi 3;have r0:p.cell? (aD M 0)=some (iI 0):=(a.ah 0 rfl).cell 0;have r1:p.cell? (aD M 1)=some (iU 0):=(a.ah 0 rfl).cell 1;have fz:=(a.ah 0 rfl).frozen;have U:=(a.br 0 (iI (qM S.bi q.c)) (aN (qM S.bi q.c) 0) rfl).br 1 (iU 0) (aN (qM S.bi q.c) 0) rfl;exact⟨_,gS,U.fk⟩)) ?_
 simp only[Act.put];refine ax ?_;intro e l h;have h:=h.fn;have i:=aa (h.fi 3);have o:l.cell? (aD M 0)=some (iI (qM S.bi q.c)):=(i.ah 0 rfl).cell 0;have N:l.cell? (aD M 1)=some (iU 0):=(i.ah 0 rfl).cell 1;clear h T
 go_wp2_with fail
 have o:World.cell? _ ⟨M,0,none⟩=some (iI (qM S.bi q.c)):=(i.ah 0 rfl).cell 0;have N:World.cell? _ ⟨M,1,none⟩=some (iU (0)):=(i.ah 0 rfl).cell 1;rw[Y.out];refine bodyPost_ret (v:= .agg (aN (qM S.bi q.c) (0))) (aL (fn:=Tryz.f61) (t:=4) (ty:=158) rfl _ rfl ?_) rfl ⟨rfl,(i.pk 3 [1]).Su (S:=⟨(Ae S.bi q.c),S.bB⟩)⟩;go_simp
theorem Ke{I:aH}{L:List aw}(g:Nat)(S:gy)(q:dD)(A:OA)(n c:Nat)(w:World)(G:q.ok)(P:bC S.bB)(D:0<=q.c/\q.c<16)(C:S.bi.length<=1000)(W:q.op=3\/q.op=4\/q.op=5->kt S q)(X:q.op=2/\(aQ S.bi q.c).isSome=true)(h:St I w (ai .u8 (.slice A n c) (mP q)::eK g S::L)):
 Rt I w 61 #[pO g,.slice A n c] (.agg (aN (S.apply q).e (S.apply q).v)) (eK g (S.apply q).s::L):=by
 obtain⟨gs,gl,J⟩:=h.swap.Vl;have K:=(J.fi 3).alloc 158 (aN 0 0);obtain⟨M,r⟩:=nM (w.heap.size);rw[<-r]at K;refine xH r G P D C W λp j B HC HL A0=>?_;obtain⟨B0,E⟩:∃x,x=S.bi:=⟨_,rfl⟩;have H:=aa (K.pk 5 [1,2,3,4,0]);obtain⟨X,a⟩:=X;have Y:=aa (show S.apply q=⟨⟨(kB S.bi q.c),(pT S.bB q.c)⟩,0,0⟩by
  unfold gy.apply;rw[iN oM,iN oM,iP X,iP a])
 have o:=aa (show lT S.bi q.c=0/\CK S.bi q.c=(kB S.bi q.c)by unfold lT CK;rw[a];exact⟨rfl,rfl⟩);clear a;clear h K J r P D C W G E
 go_enter func61,ntmps61
 go_wp2_with fail
 rw[<-p.out];refine qK (oz q A n c _ j H) λl Z=>?_;have V:=Z.alloc 156 (dN q);obtain⟨d,k⟩:=nM (l.heap.size);rw[<-k]at V;refine bm k (V.pk 0 []) λb T=>?_;obtain⟨y,z,R,Q,F,O,z6⟩:=(V.ah 0 rfl).seven;have y:World.cell? _ ⟨d,0,none⟩=some (iI 2):=y.trans (by rw[X]);rw[k]at y z R Q F O z6;clear Z V H X k
 go_wp2_with fail
 rw[<-b.out];refine ak (I:=I) (L0:=bW gl S.bB::ab M 158 (aN 0 0)::L) [⟨none,none,λe=>ab g 113 (fT gs gl)⟩,⟨none,none,λe=>ab d 156 (dN q)⟩,⟨none,some 6,λe=>fa gs S.bi⟩,⟨some 6,none,λe=>fa gs (kB S.bi q.c)⟩] [[],[0],[0,1],rG 3,[],[4],rG 6,rG 7] (rG 8) rfl kR kR kR (by rfl) (λ_=>rfl) T.fk ?_;refine Lb ?_;refine aZ 97 (λe=> #[pO gs,iI q.c]) (λe=> iI 0) rfl (λe wx Lx h=>by(
  have h:=h.fn;refine(Ck gs S.bi q.c _ (h.fi 2)).mono ?_;rintro u wy⟨rfl,Z⟩;rw[o.out.2]at Z;rw[o.out.1];exact⟨⟨none,0,default⟩,rfl,Z.fk⟩)) ?_
 simp only[aR];refine lY ?_;refine ax ?_;intro e l h;have h:=h.fn;have z:l.cell? (aD d 1)=some (iI q.c):=(h.ah 1 rfl).cell 1;have N:=aa (h.pk 4 [0,3,2]);clear h T
 go_wp2_with fail
 refine qK (QB g gs gl S.bB q.c _ B N) λl h=>?_;have r0:l.cell? (aD M 0)=some (iI 0):=(h.ah 3 rfl).cell 0;have r1:l.cell? (aD M 1)=some (iU 0):=(h.ah 3 rfl).cell 1;have fz:=(h.ah 3 rfl).frozen;have U:=((h.fi 3).br 0 (iI (0)) (aN (0) 0) rfl).br 1 (iU (0)) (aN (0) (0)) rfl;have i:=aa U;clear h U
 go_wp2_with fail
 have y0:World.cell? _ ⟨M,0,none⟩=some (iI (0)):=(i.ah 0 rfl).cell 0;have y1:World.cell? _ ⟨M,1,none⟩=some (iU (0)):=(i.ah 0 rfl).cell 1;rw[Y.out];refine bodyPost_ret (v:= .agg (aN (0) (0))) (aL (fn:=Tryz.f61) (t:=4) (ty:=158) rfl _ rfl ?_) rfl ⟨rfl,(i.pk 4 [1,3,2]).Su (S:=⟨(kB S.bi q.c),(pT S.bB q.c)⟩)⟩;go_simp
theorem Kl{I:aH}{L:List aw}(g:Nat)(S:gy)(q:dD)(A:OA)(n c:Nat)(w:World)(G:q.ok)(P:bC S.bB)(D:0<=q.c/\q.c<16)(C:S.bi.length<=1000)(W:q.op=3\/q.op=4\/q.op=5->kt S q)(X:q.op=2/\(aQ S.bi q.c).isSome=false)(h:St I w (ai .u8 (.slice A n c) (mP q)::eK g S::L)):
 Rt I w 61 #[pO g,.slice A n c] (.agg (aN (S.apply q).e (S.apply q).v)) (eK g (S.apply q).s::L):=by
 obtain⟨gs,gl,J⟩:=h.swap.Vl;have K:=(J.fi 3).alloc 158 (aN 0 0);obtain⟨M,r⟩:=nM (w.heap.size);rw[<-r]at K;refine xH r G P D C W λp j B0 O HL A0=>?_;obtain⟨C0,b⟩:∃x,x=S.bi:=⟨_,rfl⟩;have H:=aa (K.pk 5 [1,2,3,4,0]);obtain⟨X,a⟩:=X;have Y:=aa (show S.apply q=⟨⟨S.bi,S.bB⟩,81,0⟩by
  unfold gy.apply;rw[iN oM,iN oM,iP X,iN (by rw[a];exact gV)])
 have o:=aa (show lT S.bi q.c=81/\CK S.bi q.c=S.bi by unfold lT CK;rw[a];exact⟨rfl,rfl⟩);clear a;clear h K J r P D C W G b
 go_enter func61,ntmps61
 go_wp2_with fail
 rw[<-p.out];refine qK (oz q A n c _ j H) λl Z=>?_;have V:=Z.alloc 156 (dN q);obtain⟨d,k⟩:=nM (l.heap.size);rw[<-k]at V;refine bm k (V.pk 0 []) λz T=>?_;obtain⟨y,R,E,Q,N,B,F⟩:=(V.ah 0 rfl).seven;have y:World.cell? _ ⟨d,0,none⟩=some (iI 2):=y.trans (by rw[X]);rw[k]at y R E Q N B F;clear Z V H X k
 go_wp2_with fail
 rw[<-z.out];refine ak (I:=I) (L0:=bW gl S.bB::ab M 158 (aN 0 0)::L) [⟨none,none,λe=>ab g 113 (fT gs gl)⟩,⟨none,none,λe=>ab d 156 (dN q)⟩,⟨none,some 6,λe=>fa gs S.bi⟩,⟨some 6,none,λe=>fa gs S.bi⟩] [[],[0],[0,1],rG 3,[],[4],rG 6,rG 7] (rG 8) rfl kR kR kR (by rfl) (λ_=>rfl) T.fk ?_;refine Lb ?_;refine aZ 97 (λe=> #[pO gs,iI q.c]) (λe=> iI 81) rfl (λe wx Lx h=>by(
  have h:=h.fn;refine(Ck gs S.bi q.c _ (h.fi 2)).mono ?_;rintro u wy⟨rfl,Z⟩;rw[o.out.2]at Z;rw[o.out.1];exact⟨⟨none,0,default⟩,rfl,Z.fk⟩)) ?_
 simp only[aR];refine lY ?_;refine ax ?_;intro e l h;have h:=h.fn;have r0:l.cell? (aD M 0)=some (iI 0):=(h.ah 4 rfl).cell 0;have r1:l.cell? (aD M 1)=some (iU 0):=(h.ah 4 rfl).cell 1;have fz:=(h.ah 4 rfl).frozen;have U:=((h.fi 4).br 0 (iI (81)) (aN (81) 0) rfl).br 1 (iU (0)) (aN (81) (0)) rfl;have i:=aa U;clear h U;clear T
 go_wp2_with fail
 have y0:World.cell? _ ⟨M,0,none⟩=some (iI (81)):=(i.ah 0 rfl).cell 0;have y1:World.cell? _ ⟨M,1,none⟩=some (iU (0)):=(i.ah 0 rfl).cell 1;rw[Y.out];refine bodyPost_ret (v:= .agg (aN (81) (0))) (aL (fn:=Tryz.f61) (t:=4) (ty:=158) rfl _ rfl ?_) rfl ⟨rfl,(i.pk 3 [1]).Su (S:=⟨S.bi,S.bB⟩)⟩;go_simp
end
theorem Ol{I:aH}{L:List aw}(g:Nat)(S:gy)(q:dD)(A:OA)(n c:Nat)(w:World)(d:q.ok)(P:bC S.bB)(D:0<=q.c/\q.c<16)(C:S.bi.length<=1000)(W:q.op=3\/q.op=4\/q.op=5->kt S q)(X:q.op=3/\(aQ S.bi q.c).isSome=true)(h:St I w (ai .u8 (.slice A n c) (mP q)::eK g S::L)):
 Rt I w 61 #[pO g,.slice A n c] (.agg (aN (S.apply q).e (S.apply q).v)) (eK g (S.apply q).s::L):=by
 obtain⟨gs,gl,J⟩:=h.swap.Vl;have K:=(J.fi 3).alloc 158 (aN 0 0);obtain⟨M,r⟩:=nM (w.heap.size);rw[<-r]at K;refine xH r d P D C W λp G Y o HL B0=>?_;obtain⟨C0,b⟩:∃x,x=S.bi:=⟨_,rfl⟩;have H:=aa (K.pk 5 [1,2,3,4,0]);obtain⟨X,a⟩:=X;have u:=aa (show S.apply q=⟨⟨(bR S.bi q.c q.seq),((S.bB.acquire q.c q.r q.m).1)⟩,(S.bB.acquire q.c q.r q.m).2.2,(S.bB.acquire q.c q.r q.m).2.1⟩by
  unfold gy.apply;have E:FJ S.bB q=((S.bB.acquire q.c q.r q.m).1,(S.bB.acquire q.c q.r q.m).2.1,(S.bB.acquire q.c q.r q.m).2.2):=by unfold FJ;rw[iP X]
  rw[iN oM,iN oM,iN oM,iP a,E])
 have y:=aa (show∃x,aQ S.bi q.c=some x/\q.seq=x.2+1/\0<=x.2/\x.2<4294967295 by
  cases B:aQ S.bi q.c with
  |none=>rw[B]at a;cases a
  |some x=>exact⟨x,rfl,W oM x B⟩)
 have z:=aa X;clear a;clear h K J r P D C W d b
 go_enter func61,ntmps61
 go_wp2_with fail
 rw[<-p.out];refine qK (oz q A n c _ G H) λl Z=>?_;have V:=Z.alloc 156 (dN q);obtain⟨gc,k⟩:=nM (l.heap.size);rw[<-k]at V;refine bm k (V.pk 0 []) λA0 T=>?_;obtain⟨R,j,N,Q,F,e,O⟩:=(V.ah 0 rfl).seven;have b7:(q.op==7)=false:=kO oM;have b1:(q.op==1)=false:=kO oM;have b2:(q.op==2)=false:=kO oM;rw[k]at R j N Q F e O;have T:=aa (T.pk 4 [1,2,3,0]);clear Z V H X k
 go_wp2_with fail
 refine qK (ZT g gs gl S.bi S.bB q _ Y z y T) λl h=>?_;have r0:l.cell? (aD M 0)=some (iI 0):=(h.ah 4 rfl).cell 0;have r1:l.cell? (aD M 1)=some (iU 0):=(h.ah 4 rfl).cell 1;have fz:=(h.ah 4 rfl).frozen;have U:=((h.fi 4).br 0 (iI ((S.bB.acquire q.c q.r q.m).2.2)) (aN ((S.bB.acquire q.c q.r q.m).2.2) 0) rfl).br 1 (iU ((S.bB.acquire q.c q.r q.m).2.1)) (aN ((S.bB.acquire q.c q.r q.m).2.2) ((S.bB.acquire q.c q.r q.m).2.1)) rfl;have i:=aa U;clear h U;clear T
 go_wp2_with fail
 have y0:World.cell? _ ⟨M,0,none⟩=some (iI ((S.bB.acquire q.c q.r q.m).2.2)):=(i.ah 0 rfl).cell 0;have y1:World.cell? _ ⟨M,1,none⟩=some (iU ((S.bB.acquire q.c q.r q.m).2.1)):=(i.ah 0 rfl).cell 1;rw[u.out];refine bodyPost_ret (v:= .agg (aN ((S.bB.acquire q.c q.r q.m).2.2) ((S.bB.acquire q.c q.r q.m).2.1))) (aL (fn:=Tryz.f61) (t:=4) (ty:=158) rfl _ rfl ?_) rfl ⟨rfl,(i.pk 5 [1,2,3]).Su (S:=⟨(bR S.bi q.c q.seq),((S.bB.acquire q.c q.r q.m).1)⟩)⟩;go_simp
theorem MY{I:aH}{L:List aw}(g:Nat)(S:gy)(q:dD)(A:OA)(n c:Nat)(w:World)(d:q.ok)(P:bC S.bB)(D:0<=q.c/\q.c<16)(C:S.bi.length<=1000)(W:q.op=3\/q.op=4\/q.op=5->kt S q)(X:q.op=4/\(aQ S.bi q.c).isSome=true)(h:St I w (ai .u8 (.slice A n c) (mP q)::eK g S::L)):
 Rt I w 61 #[pO g,.slice A n c] (.agg (aN (S.apply q).e (S.apply q).v)) (eK g (S.apply q).s::L):=by
 obtain⟨gs,gl,J⟩:=h.swap.Vl;have K:=(J.fi 3).alloc 158 (aN 0 0);obtain⟨M,r⟩:=nM (w.heap.size);rw[<-r]at K;refine xH r d P D C W λp G Y o HL B0=>?_;obtain⟨C0,b⟩:∃x,x=S.bi:=⟨_,rfl⟩;have H:=aa (K.pk 5 [1,2,3,4,0]);obtain⟨X,a⟩:=X;have u:=aa (show S.apply q=⟨⟨(bR S.bi q.c q.seq),((S.bB.release q.c q.r q.t).1)⟩,(S.bB.release q.c q.r q.t).2,0⟩by
  unfold gy.apply;have E:FJ S.bB q=((S.bB.release q.c q.r q.t).1,0,(S.bB.release q.c q.r q.t).2):=by unfold FJ;rw[iN oM,iP X]
  rw[iN oM,iN oM,iN oM,iP a,E])
 have y:=aa (show∃x,aQ S.bi q.c=some x/\q.seq=x.2+1/\0<=x.2/\x.2<4294967295 by
  cases B:aQ S.bi q.c with
  |none=>rw[B]at a;cases a
  |some x=>exact⟨x,rfl,W oM x B⟩)
 have z:=aa X;clear a;clear h K J r P D C W d b
 go_enter func61,ntmps61
 go_wp2_with fail
 rw[<-p.out];refine qK (oz q A n c _ G H) λl Z=>?_;have V:=Z.alloc 156 (dN q);obtain⟨gc,k⟩:=nM (l.heap.size);rw[<-k]at V;refine bm k (V.pk 0 []) λA0 T=>?_;obtain⟨R,j,N,Q,F,e,O⟩:=(V.ah 0 rfl).seven;have b7:(q.op==7)=false:=kO oM;have b1:(q.op==1)=false:=kO oM;have b2:(q.op==2)=false:=kO oM;rw[k]at R j N Q F e O;have T:=aa (T.pk 4 [1,2,3,0]);clear Z V H X k
 go_wp2_with fail
 refine qK (ZH g gs gl S.bi S.bB q _ Y z y T) λl h=>?_;have r0:l.cell? (aD M 0)=some (iI 0):=(h.ah 4 rfl).cell 0;have r1:l.cell? (aD M 1)=some (iU 0):=(h.ah 4 rfl).cell 1;have fz:=(h.ah 4 rfl).frozen;have U:=((h.fi 4).br 0 (iI ((S.bB.release q.c q.r q.t).2)) (aN ((S.bB.release q.c q.r q.t).2) 0) rfl).br 1 (iU (0)) (aN ((S.bB.release q.c q.r q.t).2) (0)) rfl;have i:=aa U;clear h U;clear T
 go_wp2_with fail
 have y0:World.cell? _ ⟨M,0,none⟩=some (iI ((S.bB.release q.c q.r q.t).2)):=(i.ah 0 rfl).cell 0;have y1:World.cell? _ ⟨M,1,none⟩=some (iU (0)):=(i.ah 0 rfl).cell 1;rw[u.out];refine bodyPost_ret (v:= .agg (aN ((S.bB.release q.c q.r q.t).2) (0))) (aL (fn:=Tryz.f61) (t:=4) (ty:=158) rfl _ rfl ?_) rfl ⟨rfl,(i.pk 5 [1,2,3]).Su (S:=⟨(bR S.bi q.c q.seq),((S.bB.release q.c q.r q.t).1)⟩)⟩;go_simp
theorem NY{I:aH}{L:List aw}(g:Nat)(S:gy)(q:dD)(A:OA)(n c:Nat)(w:World)(d:q.ok)(P:bC S.bB)(D:0<=q.c/\q.c<16)(C:S.bi.length<=1000)(W:q.op=3\/q.op=4\/q.op=5->kt S q)(X:q.op=5/\(aQ S.bi q.c).isSome=true)(h:St I w (ai .u8 (.slice A n c) (mP q)::eK g S::L)):
 Rt I w 61 #[pO g,.slice A n c] (.agg (aN (S.apply q).e (S.apply q).v)) (eK g (S.apply q).s::L):=by
 obtain⟨gs,gl,J⟩:=h.swap.Vl;have K:=(J.fi 3).alloc 158 (aN 0 0);obtain⟨M,r⟩:=nM (w.heap.size);rw[<-r]at K;refine xH r d P D C W λp G Y o HL B0=>?_;obtain⟨C0,b⟩:∃x,x=S.bi:=⟨_,rfl⟩;have H:=aa (K.pk 5 [1,2,3,4,0]);obtain⟨X,a⟩:=X;have u:=aa (show S.apply q=⟨⟨(bR S.bi q.c q.seq),((S.bB.renew q.c q.r q.t).1)⟩,(S.bB.renew q.c q.r q.t).2.2,(S.bB.renew q.c q.r q.t).2.1⟩by
  unfold gy.apply;have E:FJ S.bB q=((S.bB.renew q.c q.r q.t).1,(S.bB.renew q.c q.r q.t).2.1,(S.bB.renew q.c q.r q.t).2.2):=by unfold FJ;rw[iN oM,iN oM,iP X]
  rw[iN oM,iN oM,iN oM,iP a,E])
 have y:=aa (show∃x,aQ S.bi q.c=some x/\q.seq=x.2+1/\0<=x.2/\x.2<4294967295 by
  cases B:aQ S.bi q.c with
  |none=>rw[B]at a;cases a
  |some x=>exact⟨x,rfl,W oM x B⟩)
 have z:=aa X;clear a;clear h K J r P D C W d b
 go_enter func61,ntmps61
 go_wp2_with fail
 rw[<-p.out];refine qK (oz q A n c _ G H) λl Z=>?_;have V:=Z.alloc 156 (dN q);obtain⟨gc,k⟩:=nM (l.heap.size);rw[<-k]at V;refine bm k (V.pk 0 []) λA0 T=>?_;obtain⟨R,j,N,Q,F,e,O⟩:=(V.ah 0 rfl).seven;have b7:(q.op==7)=false:=kO oM;have b1:(q.op==1)=false:=kO oM;have b2:(q.op==2)=false:=kO oM;rw[k]at R j N Q F e O;have T:=aa (T.pk 4 [1,2,3,0]);clear Z V H X k
 go_wp2_with fail
 refine qK (ZJ g gs gl S.bi S.bB q _ Y z y T) λl h=>?_;have r0:l.cell? (aD M 0)=some (iI 0):=(h.ah 4 rfl).cell 0;have r1:l.cell? (aD M 1)=some (iU 0):=(h.ah 4 rfl).cell 1;have fz:=(h.ah 4 rfl).frozen;have U:=((h.fi 4).br 0 (iI ((S.bB.renew q.c q.r q.t).2.2)) (aN ((S.bB.renew q.c q.r q.t).2.2) 0) rfl).br 1 (iU ((S.bB.renew q.c q.r q.t).2.1)) (aN ((S.bB.renew q.c q.r q.t).2.2) ((S.bB.renew q.c q.r q.t).2.1)) rfl;have i:=aa U;clear h U;clear T
 go_wp2_with fail
 have y0:World.cell? _ ⟨M,0,none⟩=some (iI ((S.bB.renew q.c q.r q.t).2.2)):=(i.ah 0 rfl).cell 0;have y1:World.cell? _ ⟨M,1,none⟩=some (iU ((S.bB.renew q.c q.r q.t).2.1)):=(i.ah 0 rfl).cell 1;rw[u.out];refine bodyPost_ret (v:= .agg (aN ((S.bB.renew q.c q.r q.t).2.2) ((S.bB.renew q.c q.r q.t).2.1))) (aL (fn:=Tryz.f61) (t:=4) (ty:=158) rfl _ rfl ?_) rfl ⟨rfl,(i.pk 5 [1,2,3]).Su (S:=⟨(bR S.bi q.c q.seq),((S.bB.renew q.c q.r q.t).1)⟩)⟩;go_simp
theorem tw{I:aH}{L:List aw}(g:Nat)(S:gy)(q:dD)(A:OA)(n c:Nat)(w:World)(d:q.ok)(P:bC S.bB)(D:0<=q.c/\q.c<16)(C:S.bi.length<=1000)(W:q.op=3\/q.op=4\/q.op=5->kt S q)(X:(q.op=3\/q.op=4\/q.op=5)/\aQ S.bi q.c=none)(h:St I w (ai .u8 (.slice A n c) (mP q)::eK g S::L)):
 Rt I w 61 #[pO g,.slice A n c] (.agg (aN (S.apply q).e (S.apply q).v)) (eK g (S.apply q).s::L):=by
 obtain⟨gs,gl,J⟩:=h.swap.Vl;have K:=(J.fi 3).alloc 158 (aN 0 0);obtain⟨M,r⟩:=nM (w.heap.size);rw[<-r]at K;refine xH r d P D C W λp Y E O e F=>?_;obtain⟨A0,b⟩:∃x,x=S.bi:=⟨_,rfl⟩;have H:=aa (K.pk 5 [1,2,3,4,0]);obtain⟨X,a⟩:=X;have u:=aa (show S.apply q=⟨⟨S.bi,S.bB⟩,81,0⟩by
  unfold gy.apply;rw[iN oM,iN oM,iN oM,iN (by rw[a];simp)])
 have y:=aa a;clear a;clear h K J r P D C W d b
 go_enter func61,ntmps61
 go_wp2_with fail
 rw[<-p.out];refine qK (oz q A n c _ Y H) λl Z=>?_;have V:=Z.alloc 156 (dN q);obtain⟨gc,k⟩:=nM (l.heap.size);rw[<-k]at V;refine bm k (V.pk 0 []) λo T=>?_;obtain⟨z,G,R,Q,N,j,B⟩:=(V.ah 0 rfl).seven;have b7:(q.op==7)=false:=kO oM;have b1:(q.op==1)=false:=kO oM;have b2:(q.op==2)=false:=kO oM;rw[k]at z G R Q N j B;have T:=aa (T.pk 4 [1,2,3,0]);clear Z V H X k
 go_wp2_with fail
 refine qK (UT g gs gl S.bi S.bB q _ y T) λl h=>?_;have r0:l.cell? (aD M 0)=some (iI 0):=(h.ah 4 rfl).cell 0;have r1:l.cell? (aD M 1)=some (iU 0):=(h.ah 4 rfl).cell 1;have fz:=(h.ah 4 rfl).frozen;have U:=((h.fi 4).br 0 (iI (81)) (aN (81) 0) rfl).br 1 (iU (0)) (aN (81) (0)) rfl;have i:=aa U;clear h U;clear T
 go_wp2_with fail
 have y0:World.cell? _ ⟨M,0,none⟩=some (iI (81)):=(i.ah 0 rfl).cell 0;have y1:World.cell? _ ⟨M,1,none⟩=some (iU (0)):=(i.ah 0 rfl).cell 1;rw[u.out];refine bodyPost_ret (v:= .agg (aN (81) (0))) (aL (fn:=Tryz.f61) (t:=4) (ty:=158) rfl _ rfl ?_) rfl ⟨rfl,(i.pk 5 [1,2,3]).Su (S:=⟨S.bi,S.bB⟩)⟩;go_simp
theorem Ex{I:aH}{L:List aw}(g:Nat)(S:gy)(q:dD)(A:OA)(n c:Nat)(w:World)(d:q.ok)(P:bC S.bB)(D:0<=q.c/\q.c<16)(C:S.bi.length<=1000)(W:q.op=3\/q.op=4\/q.op=5->kt S q)(X:q.op=1\/q.op=2\/q.op=3\/q.op=4\/q.op=5\/q.op=7)(h:St I w (ai .u8 (.slice A n c) (mP q)::eK g S::L)):
 Rt I w 61 #[pO g,.slice A n c] (.agg (aN (S.apply q).e (S.apply q).v)) (eK g (S.apply q).s::L):=by
 cases a:aQ S.bi q.c with
 |none=>
  rcases X with H|H|H|H|H|H
  ·exact BS g S q A n c w d P D C W H h
  ·exact Kl g S q A n c w d P D C W ⟨H,by rw[a];rfl⟩ h
  ·exact tw g S q A n c w d P D C W ⟨.inl H,a⟩ h
  ·exact tw g S q A n c w d P D C W ⟨.inr (.inl H),a⟩ h
  ·exact tw g S q A n c w d P D C W ⟨.inr (.inr H),a⟩ h
  ·exact vy g S q A n c w d P D C W H h
 |some x=>
  have a:(aQ S.bi q.c).isSome=true:=by rw[a];rfl
  rcases X with H|H|H|H|H|H
  ·exact BS g S q A n c w d P D C W H h
  ·exact Ke g S q A n c w d P D C W ⟨H,a⟩ h
  ·exact Ol g S q A n c w d P D C W ⟨H,a⟩ h
  ·exact MY g S q A n c w d P D C W ⟨H,a⟩ h
  ·exact NY g S q A n c w d P D C W ⟨H,a⟩ h
  ·exact vy g S q A n c w d P D C W H h
section
abbrev hdC(x:qx):Vq:= #[iI x.m,iU x.t,iU x.u]
def bq.hd(C:bq)(r:Int):qx:=if cD r=true then C.h r.toNat else qx.zero
section
variable (x:CX) (v u:Value)
theorem Kd:∀{i:Nat},i<4->(cF x v u)[4+i*3]? =some (iI (x.c.h i).m)
 |0,_=>rfl
 |1,_=>rfl
 |2,_=>rfl
 |3,_=>rfl
 |n+4,h=>oM
theorem JZ:∀{i:Nat},i<4->(cF x v u)[4+i*3+1]? =some (iU (x.c.h i).t)
 |0,_=>rfl
 |1,_=>rfl
 |2,_=>rfl
 |3,_=>rfl
 |n+4,h=>oM
theorem Ig:∀{i:Nat},i<4->(cF x v u)[4+i*3+2]? =some (iU (x.c.h i).u)
 |0,_=>rfl
 |1,_=>rfl
 |2,_=>rfl
 |3,_=>rfl
 |n+4,h=>oM
theorem RG:∀{i:Nat},i<4->(cF x v u)[4+12+i]? =some (iU (x.c.la i))
 |0,_=>rfl
 |1,_=>rfl
 |2,_=>rfl
 |3,_=>rfl
 |n+4,h=>oM
end
theorem DK{I:aH}{L:List aw}(x:CX)(v u:Value)(g:Nat)(r:Int)(w:World)(h:St I w (ab g 75 (cF x v u)::L)):
 Rt I w 45 #[.pointer (some ⟨g,4,none⟩),iI r] (.agg #[iI (x.c.hd r).m,iU (x.c.hd r).t,iU (x.c.hd r).u]) (ab g 75 (cF x v u)::L):=by
 have Z:=h.alloc 62 #[iI 0,iU 0,iU 0]
 cases R:cD r with
 |false=>
  have E:Hid (x.c.hd r=qx.zero):=iN (by rw[R];exact gV);have G:r<0\/4<=r:=by
   by_cases K:r<0
   ·exact .inl K
   ·by_cases Q:4<=r
    ·exact .inr Q
    ·rw[show cD r=true by unfold cD;simp;omega]at R
     cases R
  have V:=Z;have o:World.cell? _ ⟨w.heap.size,0,none⟩=some (iI 0):=(V.ah 0 rfl).cell 0;have M:World.cell? _ ⟨w.heap.size,1,none⟩=some (iU 0):=(V.ah 0 rfl).cell 1;have W:World.cell? _ ⟨w.heap.size,2,none⟩=some (iU 0):=(V.ah 0 rfl).cell 2;have C:=(Z.ah 0 rfl).frozen;have T:=aa V;clear h Z V R;by_cases K:r<0
  ·have d1:decide (r<0)=true:=dZ K
   exact aeo
  ·have d1:decide (r<0)=false:=dQ K
   have d2:decide (r≥4)=true:=decide_eq_true (by omega);have d3:decide (4<=r)=true:=decide_eq_true (by omega);exact aeo
 |true=>
  obtain⟨i,rfl,B⟩:=o6 R;have E:Hid (x.c.hd (i:Int)=x.c.h i):=iP R;have y:World.cell? _ ⟨g,4+i*3,none⟩=some (iI (x.c.h i).m):=((Z.ah 1 rfl).cell (4+i*3)).trans (Kd x v u B);have z:World.cell? _ ⟨g,4+i*3+1,none⟩=some (iU (x.c.h i).t):=((Z.ah 1 rfl).cell (4+i*3+1)).trans (JZ x v u B);have Y:World.cell? _ ⟨g,4+i*3+2,none⟩=some (iU (x.c.h i).u):=((Z.ah 1 rfl).cell (4+i*3+2)).trans (Ig x v u B);have C:=(Z.ah 0 rfl).frozen;have V:=h.alloc 62 (hdC (x.c.h i));have o:World.cell? _ ⟨w.heap.size,0,none⟩=some (iI (x.c.h i).m):=(V.ah 0 rfl).cell 0;have M:World.cell? _ ⟨w.heap.size,1,none⟩=some (iU (x.c.h i).t):=(V.ah 0 rfl).cell 1;have W:World.cell? _ ⟨w.heap.size,2,none⟩=some (iU (x.c.h i).u):=(V.ah 0 rfl).cell 2;have T:=aa V;have d1:decide ((i:Int)<0)=false:=decide_eq_false (by omega);have d2:decide ((i:Int)≥4)=false:=decide_eq_false (by omega);have d3:decide (4<=(i:Int))=false:=decide_eq_false (by omega);have q:(0:Int)<=(i:Int):=oM
  have a:(i:Int)<4:=oM
  clear h Z V R
  go_enter func45,ntmps45
  go_wp2_with fail
  rw[E.out];refine bodyPost_ret (v:= .agg (hdC (x.c.h i))) (aL (fn:=Tryz.f45) (t:=4) (ty:=62) rfl _ rfl ?_) rfl ⟨rfl,T.tail⟩;go_simp
theorem Ru(a c:Int)(b:Int)(w:World):(Instr.field 62 (.agg #[iI a,iU b,iU c]) 1).run prog w= .ok (iU b) w:=kR
theorem Td{I:aH}{L:List aw}(x:CX)(v u:Value)(g:Nat)(r:Int)(w:World)(h:St I w (ab g 75 (cF x v u)::L)):
 Rt I w 22 #[.pointer (some ⟨g,4,none⟩),iI r] (iU (x.c.tok r)) (ab g 75 (cF x v u)::L):=by
 have E:=aa (show(x.c.hd r).t=x.c.tok r by unfold bq.hd bq.tok;split<;>rfl);have H:=aa h;have a:=Ru;clear h
 go_enter func22,ntmps22
 go_wp2_with fail
 refine qH (DK x v u g r _ H) λl Y=>?_;clear H
 go_wp2_with fail
 go_ret
 rw[<-E.out];exact⟨rfl,Y⟩
theorem Pm(a b c:Int)(w:World):Calls prog 160 #[iU a,iU b,iU c] w λe O=>e= .returned (.bool (Fq a b c))/\O=w:=by
 by_cases Z:a<=IntKind.u64.wrap (a+b)
 ·have d1:decide (a<=IntKind.u64.wrap (a+b))=true:=dZ Z
  have d2:decide (IntKind.u64.wrap (a+b)≥a)=true:=dZ Z;have E:=aa (show Fq a b c=decide (IntKind.u64.wrap (a+b)<c)by unfold Fq;rw[d1,MM]);exact af6
 ·have d1:decide (a<=IntKind.u64.wrap (a+b))=false:=dQ Z
  have d2:decide (IntKind.u64.wrap (a+b)≥a)=false:=dQ Z;have E:=aa (show Fq a b c=false by unfold Fq;rw[d1,ZR]);exact af6
end
section
structure WX where
 gv:Nat
 gd:Nat
 gs:Nat
 g0:Nat
 g1:Nat
 g2:Nat
 se:Value
 ev:Value
abbrev wC(b:WX):Vq:= #[pO b.gv,pO b.gd,pO b.gs,pO b.g0,pO b.g1,pO b.g2,b.se,b.ev]
section
variable {I:aH} {w:World} {L:List aw} {g:Nat} {bl wr:List PU} {x x':CX}
theorem St.bT(h:St I w (an x g bl wr::L)):∃v u,St I w (ab g 75 (cF x v u)::ay 213 3 bU v bl::ay 213 3 bU u wr::L):=by
 obtain⟨A,c,S,d,_,_,_,_,Z⟩:=h.nI;exact⟨_,_,Z⟩
theorem St.fm(h:St I w (an x g bl wr::L))(i:Nat)(y:Value)(J:∀v u,(cF x v u).set! i y=cF x' v u):St I (w.setCell ⟨g,i,none⟩ y) (an x' g bl wr::L):=by
 obtain⟨v,u,Z⟩:=h.bT;have V:=Z.br i y (cF x' v u) (by rw[<-J v u];simp);exact V.gT
end
structure QN(S:gy)(x:CX):Prop where
 bB:bC S.bB
 len:S.bi.length<=1000
 id0:0<=x.id
 id1:x.id<3
 acr:0<=x.c.seq
 acw:x.c.seq<4294967295
theorem Hj{n:Int}(K:0<=n)(Z:n<4294967295):IntKind.u32.wrap (n+1)=n+1:=IntWalk.u32_in _ oM
def dD.of(q:dD)(x:CX):dD:=⟨q.op,x.id,if 2<q.op then x.c.seq+1 else q.seq,q.r,q.m,q.t,q.tm⟩
def CX.nx(x:CX)(q:dD):CX:=if 2<q.op then⟨x.id,{x.c with seq:=x.c.seq+1},x.p⟩else x
theorem xT{I:aH}{L:List aw}(B g:Nat)(b:WX)(x:CX)(bl wr:List PU)(S:gy)(q:dD)(w:World)(U:QN S x)(d:(q.of x).ok)(C:q.op=3\/q.op=4\/q.op=5)(W:kt S (q.of x))
 (h:St I w (ab B 55 (wC b)::eK b.gv S::an x g bl wr::L)):
 Rt I w 62 #[pO B,pO g,.agg (dN q)] (.agg (aN (S.apply (q.of x)).e (S.apply (q.of x)).v)) (ab B 55 (wC b)::eK b.gv (S.apply (q.of x)).s::an (x.nx q) g bl wr::L):=by
 obtain⟨O,H,n,E,c,e⟩:=U;have hw:=Hj c e;have d1:decide (q.op>2)=true:=decide_eq_true (by omega);have d2:decide (2<q.op)=true:=decide_eq_true (by omega);have i:q.of x=⟨q.op,x.id,x.c.seq+1,q.r,q.m,q.t,q.tm⟩:=by unfold dD.of;rw[iP oM]
 have l:x.nx q=⟨x.id,{x.c with seq:=x.c.seq+1},x.p⟩:=by unfold CX.nx;rw[iP oM]
 rw[i,l];obtain⟨a,Q⟩:=nM (S.apply ⟨q.op,x.id,x.c.seq+1,q.r,q.m,q.t,q.tm⟩);rw[<-Q];have j:=aa Q;clear Q;refine mr (show QN S x from⟨O,H,n,E,c,e⟩) d W C λV Y HN A0=>?_;have Z:=((h.alloc 156 (dN q)).alloc 158 (aN 0 0));rw[World.size_alloc]at Z;have r:=Z.pk 5 [1,4,0,2,3];obtain⟨v,u,R⟩:=(r.fi 1).bT;have k0:World.cell? _ ⟨g,0,none⟩=some (iI x.id):=(R.ah 0 rfl).cell 0;have a1:World.cell? _ ⟨w.heap.size,1,none⟩=some (iI q.c):=(r.ah 0 rfl).cell 1;have af:=(r.ah 0 rfl).frozen;have J:=((h.alloc 156 (dN ⟨q.op,x.id,q.seq,q.r,q.m,q.t,q.tm⟩)).alloc 158 (aN 0 0));rw[World.size_alloc]at J;have F:=J.pk 5 [1,4,0,2,3];have b0:World.cell? _ ⟨w.heap.size,0,none⟩=some (iI q.op):=(F.ah 0 rfl).cell 0;obtain⟨v1,u1,K⟩:=(F.fi 1).bT;have b2:World.cell? _ ⟨g,2,none⟩=some (iW x.c.seq):=(K.ah 0 rfl).cell 2;have bf:=(K.ah 0 rfl).frozen;have D:=St.fm (x':=⟨x.id,{x.c with seq:=x.c.seq+1},x.p⟩) (F.front (X:=an x g bl wr)) 2 (iW (x.c.seq+1)) (λ_ _=>rfl);obtain⟨v2,u2,G⟩:=D.bT;have c2:World.cell? _ ⟨g,2,none⟩=some (iW (x.c.seq+1)):=(G.ah 0 rfl).cell 2;have c3:World.cell? _ ⟨w.heap.size,2,none⟩=some (iW q.seq):=(D.ah 1 rfl).cell 2;have cf:=(D.ah 1 rfl).frozen;have y:=(D.fi 1).br 2 (iW (x.c.seq+1)) (dN (q.of x)) (by rw[i];rfl);obtain⟨z0,z1,z2,z3,z4,z5,z6⟩:=(y.ah 0 rfl).seven;obtain⟨M,p⟩:=nM (w.heap.size+1);rw[<-p]at y;refine bm p y λo P=>?_;clear h Z r R J F K D G y p O H n E c e d W C
 go_enter func62,ntmps62
 go_wp2_with fail
 rw[<-o.out];have k:=Y.out;rw[i]at k;refine(DT ⟨q.op,x.id,x.c.seq+1,q.r,q.m,q.t,q.tm⟩ _ k P).mono ?_;rintro C0 w1⟨A,B0,rfl,h⟩;have y0:w1.cell? (aD B 0)=some (pO b.gv):=(h.ah 4 rfl).cell 0;have T:=aa (h.pk 6 [0,5,3,2,4]);clear h P k
 go_wp2_with fail
 have W:=HN.out;rw[i]at W;have k:=Y.out;rw[i]at k;refine qK (Ex b.gv S ⟨q.op,x.id,x.c.seq+1,q.r,q.m,q.t,q.tm⟩ A _ B0 _ k V.bB ⟨V.id0,by have:=V.id1;show x.id<16;omega⟩ V.len (λ_=>W) (.inr (.inr (by rcases A0.out with h|h|h;exact .inl h;exact .inr (.inl h);exact .inr (.inr (.inl h))))) T) λN h=>?_;have r0:N.cell? (aD M 0)=some (iI 0):=(h.ah 1 rfl).cell 0;have r1:N.cell? (aD M 1)=some (iU 0):=(h.ah 1 rfl).cell 1;have fz:=(h.ah 1 rfl).frozen;rw[<-j.out]at h;rw[<-j.out];have U:=((h.fi 1).br 0 (iI a.e) (aN a.e 0) rfl).br 1 (iU a.v) (aN a.e a.v) rfl;have y0:World.cell? _ ⟨M,0,none⟩=some (iI a.e):=(U.ah 0 rfl).cell 0;have y1:World.cell? _ ⟨M,1,none⟩=some (iU a.v):=(U.ah 0 rfl).cell 1;have z:=aa U;clear h U T W k
 go_wp2_with fail
 refine bodyPost_ret (v:= .agg (aN a.e a.v)) (aL (fn:=Tryz.f62) (t:=6) (ty:=158) rfl _ rfl ?_) rfl ⟨rfl,z.sub⟩;go_simp
theorem Eg{I:aH}{L:List aw}(B g:Nat)(b:WX)(x:CX)(bl wr:List PU)(S:gy)(q:dD)(w:World)(U:QN S x)(d:(q.of x).ok)(X:q.op=1\/q.op=2)
 (h:St I w (ab B 55 (wC b)::eK b.gv S::an x g bl wr::L)):
 Rt I w 62 #[pO B,pO g,.agg (dN q)] (.agg (aN (S.apply (q.of x)).e (S.apply (q.of x)).v)) (ab B 55 (wC b)::eK b.gv (S.apply (q.of x)).s::an (x.nx q) g bl wr::L):=by
 obtain⟨O,H,n,W,D,e⟩:=U;have d1:decide (q.op>2)=false:=decide_eq_false (by omega);have d2:decide (2<q.op)=false:=decide_eq_false (by omega);have i:q.of x=⟨q.op,x.id,q.seq,q.r,q.m,q.t,q.tm⟩:=by unfold dD.of;rw[iN oM]
 have l:x.nx q=x:=by unfold CX.nx;rw[iN oM]
 rw[i,l];obtain⟨a,Q⟩:=nM (S.apply ⟨q.op,x.id,q.seq,q.r,q.m,q.t,q.tm⟩);rw[<-Q];have j:=aa Q;clear Q;refine ib (show QN S x from⟨O,H,n,W,D,e⟩) d X λV Y z=>?_;have Z:=((h.alloc 156 (dN q)).alloc 158 (aN 0 0));rw[World.size_alloc]at Z;have r:=Z.pk 5 [1,4,0,2,3];obtain⟨v,u,R⟩:=(r.fi 1).bT;have k0:World.cell? _ ⟨g,0,none⟩=some (iI x.id):=(R.ah 0 rfl).cell 0;have K:World.cell? _ ⟨w.heap.size,1,none⟩=some (iI q.c):=(r.ah 0 rfl).cell 1;have af:=(r.ah 0 rfl).frozen;have J:=((h.alloc 156 (dN ⟨q.op,x.id,q.seq,q.r,q.m,q.t,q.tm⟩)).alloc 158 (aN 0 0));rw[World.size_alloc]at J;have F:=J.pk 5 [1,4,0,2,3];have b0:World.cell? _ ⟨w.heap.size,0,none⟩=some (iI q.op):=(F.ah 0 rfl).cell 0;have y:=F;obtain⟨z0,z1,z2,z3,z4,z5,z6⟩:=(y.ah 0 rfl).seven;obtain⟨M,p⟩:=nM (w.heap.size+1);rw[<-p]at y;refine bm p y λG P=>?_;clear h Z r R J F y p O H n W D e d X
 go_enter func62,ntmps62
 go_wp2_with fail
 rw[<-G.out];have k:=Y.out;rw[i]at k;refine(DT ⟨q.op,x.id,q.seq,q.r,q.m,q.t,q.tm⟩ _ k P).mono ?_;rintro A0 o⟨A,c,rfl,h⟩;have E:o.cell? (aD B 0)=some (pO b.gv):=(h.ah 4 rfl).cell 0;have T:=aa (h.pk 6 [0,5,3,2,4]);clear h P k
 go_wp2_with fail
 have k:=Y.out;rw[i]at k;refine qK (Ex b.gv S ⟨q.op,x.id,q.seq,q.r,q.m,q.t,q.tm⟩ A _ c _ k V.bB ⟨V.id0,by have:=V.id1;show x.id<16;omega⟩ V.len (λh=>absurd (show q.op=3\/q.op=4\/q.op=5 from h) ade) (by rcases z.out with h|h;exact .inl h;exact .inr (.inl h)) T) λC h=>?_;have r0:C.cell? (aD M 0)=some (iI 0):=(h.ah 1 rfl).cell 0;have r1:C.cell? (aD M 1)=some (iU 0):=(h.ah 1 rfl).cell 1;have fz:=(h.ah 1 rfl).frozen;rw[<-j.out]at h;rw[<-j.out];have U:=((h.fi 1).br 0 (iI a.e) (aN a.e 0) rfl).br 1 (iU a.v) (aN a.e a.v) rfl;have E:World.cell? _ ⟨M,0,none⟩=some (iI a.e):=(U.ah 0 rfl).cell 0;have y1:World.cell? _ ⟨M,1,none⟩=some (iU a.v):=(U.ah 0 rfl).cell 1;have N:=aa U;clear h U T k
 go_wp2_with fail
 refine bodyPost_ret (v:= .agg (aN a.e a.v)) (aL (fn:=Tryz.f62) (t:=6) (ty:=158) rfl _ rfl ?_) rfl ⟨rfl,N.sub⟩;go_simp
end
end Go.Proofs.YtblpaldggenbaaaGreatDoor
