/- A part. -/
import Derived.Test.YtblpaldggenbaaaGreatDoorMm
namespace Go.Proofs.YtblpaldggenbaaaGreatDoor
open Go.RowKit
set_option maxRecDepth 100000
set_option maxHeartbeats 64000000
variable{ring:Nat}{a:Int}{K T:Int}{D:DS}{s:SM}{M:Nat->Rg}{n:Nat}{N:Nat->Rg}{J:JM}{r:RQ}
structure HzB(D:DS)(a:Int)(ring:Nat)(J:JM)(gw M:Nat->Rg)(K T d:Int):Prop where
 v:Vt D a gw K
 j:Jt D J K T d
 at_:J.at_=a+44
 g:J.n=ring
 m:MI M
 p:gX gw J.all=M
 d:∀b∈J.all,nX b=0/\Fv M (pX b)
def Hz(D:DS)(a:Int)(ring:Nat)(J:JM)(M:Nat->Rg)(K T d:Int):Prop:=∃q,HzB D a ring J q M K T d
theorem Hz.mono{K b T T' d:Int}(h:Hz D a ring J M K T d)(Q:K<=b)(R:T<=T'):Hz D a ring J M b T' d:=by
 obtain⟨q,h⟩:=h;exact⟨q,h.v.mono Q,h.j.mono Q R,h.at_,h.g,h.m,h.p,h.d⟩
theorem Hz.rest(h:Hz D a ring J M K T 0):Hz D a ring J M K T 1:=by
 obtain⟨q,h⟩:=h;exact⟨q,h.v,h.j.rest,h.at_,h.g,h.m,h.p,h.d⟩
theorem Hz.alike{D E:DS}{K T d:Int}(h:Hz D a ring J M K T d)(B:Bytes D.seen)(W:E.n=D.n)(U:∀j,E.read j=D.read j):Hz E a ring J M K T d:=by
 obtain⟨q,h⟩:=h;exact⟨q,h.v.alike B W (λj _ _=>U j),h.j.alike W (λj _ _=>U j),h.at_,h.g,h.m,h.p,h.d⟩
def Rest(D:DS)(a:Int)(ring:Nat)(M:Nat->Rg)(K T:Int):Prop:=∃J,Hz D a ring J M K T 1
theorem Rest.mono{K b T T':Int}(h:Rest D a ring M K T)(Q:K<=b)(R:T<=T'):Rest D a ring M b T':=by
 obtain⟨J,h⟩:=h;exact⟨J,h.mono Q R⟩
structure Up(s:SM)(a:Int)(ring:Nat)(K T:Int):Prop where
 dn:s.dn=false
 c:Calm s.D
 h:Hz s.D a ring s.J s.M K T 0
theorem Up.mono{K b T T':Int}(h:Up s a ring K T)(Q:K<=b)(R:T<=T'):Up s a ring b T':=⟨h.dn,h.c,h.h.mono Q R⟩
theorem Up.mi(h:Up s a ring K T):MI s.M:=by
 obtain⟨q,h⟩:=h.h;exact h.m
theorem Up.sok(h:Up s a ring K T)(N:K<=4000000000)(P:Nat):Xr s a ring P:=by
 obtain⟨q,l⟩:=h.h;have Z:=l.v.r;have G:=l.j.r;have M:=l.j.f;have S:=l.at_;have U:=l.j.ok.n0;exact⟨h.c.Mx P,l.m.TS,l.j.ok,oM,Z,oM,l.g⟩
structure Down(s:SM)(a:Int)(ring:Nat)(N:Nat->Rg)(K T:Int):Prop where
 dn:s.dn=true
 ok:Xr s a ring 60
 c:kI s.D (λE=>E.n=s.D.n/\(Rest E a ring s.M K T\/Rest E a ring N K T))
theorem Down.mono{K b T T':Int}(h:Down s a ring N K T)(Q:K<=b)(R:T<=T'):Down s a ring N b T':=
 ⟨h.dn,h.ok,h.c.mono (λ_ _ _ ⟨W,h⟩=>⟨W,h.imp (λx=>x.mono Q R) (λx=>x.mono Q R)⟩)⟩
theorem Up.br(h:Up s a ring K T)(G:LI):Calm (s.D.br G)/\Live (s.D.br G)/\(s.D.br G).n=s.D.n/\Rest (s.D.br G) a ring s.M K T:=by
 obtain⟨Z,J⟩:=h.c.db.br G;exact⟨Z,J,rfl,s.J,(Hz.alike (E:=s.D.br G) h.h h.c.db.b rfl (λj=>h.c.zn G j)).rest⟩
theorem Down.br(h:Down s a ring N K T)(G:LI):Calm (s.D.br G)/\Live (s.D.br G)/\(s.D.br G).n=s.D.n/\(Rest (s.D.br G) a ring s.M K T\/Rest (s.D.br G) a ring N K T):=by
 obtain⟨Z,J⟩:=h.c.db.br G;exact⟨Z,J,rfl,(h.c.cr G).2⟩
def DS.BD(D:DS)(n:Int):DS:={D with gM:=n}
theorem Up.gM(h:Up s a ring K T){n:Int}(W: -9223372036854775808<=n/\n<=9223372036854775807):Up {s with D:=s.D.BD n} a ring K T:=by
 have B:=h.c.db;refine⟨h.dn,⟨⟨⟨B.ok.n1,B.ok.n2,B.ok.hs,B.ok.hu,B.ok.hp,W.1,W.2⟩,B.b,B.u,B.p,B.so⟩,h.c.dn,h.c.pn⟩,?_⟩;exact Hz.alike (D:=s.D) (E:=s.D.BD n) h.h B.b rfl (λ_=>rfl)
theorem Down.gM(h:Down s a ring N K T){n:Int}(W: -9223372036854775808<=n/\n<=9223372036854775807):Down {s with D:=s.D.BD n} a ring N K T:=by
 have B:=h.c.db;have q:=h.ok;exact⟨h.dn,⟨⟨⟨B.ok.n1,B.ok.n2,B.ok.hs,B.ok.hu,B.ok.hp,W.1,W.2⟩,q.d.b,q.d.p⟩,q.m,q.j,q.f,q.a0,q.j0,q.g⟩,
  ⟨⟨⟨B.ok.n1,B.ok.n2,B.ok.hs,B.ok.hu,B.ok.hp,W.1,W.2⟩,B.b,B.u,B.p,B.so⟩,h.c.dn,h.c.cr⟩⟩
theorem Rest.open_(h:Rest D a ring M K T)(Y:Calm D)(F:Live D)(N:K<=4000000000)(A:T<=250):
 yK D a ring/\mx D a ring=M/\Up ⟨mx D a ring,lK D a ring,j6 D a ring,false⟩ a ring (K+1) (T+1)/\Live (lK D a ring)/\(lK D a ring).n=D.n:=by
 obtain⟨J,S,h⟩:=h;have o:=h.v;have H:=h.j;have g:=h.at_;have q:=h.g;have U:=o.r;have B:=H.ok;have c:=B.n0;have P:=H.r;have W:=H.e;have y:=B.e0;have r:=B.a0;obtain⟨f1,f2,f3,f4⟩:=H.found oM;rw[g,q]at f3 f4;rw[g]at f1 f2;have z:j6 D a ring=J.up:=f4;have C:lK D a ring=cG D (a+44) J.up.slot:=by show cG D (a+44) (im D (a+44) ring).slot=_;rw[f4]
 have e:mx D a ring=M:=by
  unfold mx;rw[z,o.bg];exact h.p
 have i:=H.s;have l:=H.q;rw[g]at i l;obtain⟨L,t,_⟩:=F.save Y.db.b (a:=a+44) (b:=J.up.slot) oM (by rw[JM.qY];omega) oM;rcases Y.save (a:=a+44) (b:=J.up.slot) oM (by rw[JM.qY];omega) J.up.pR i oM with⟨d,O,I,n,u,k⟩|⟨d,_⟩
 ·have Q:=H.f
  refine⟨⟨U,o.un,⟨oM,by rw[<-q];exact c,λ_=>f2,?_,?_,?_,?_⟩,?_⟩,e,⟨rfl,by rw[C];exact O,S,?_⟩,by rw[C];exact t,by rw[C];exact I⟩
  ·rw[f3];exact B.f0
  ·rw[f3];show 0<=J.ep/\J.ep<_;omega
  ·rw[f3];exact B.l0
  ·rw[f4];exact d
  ·intro b R
   rw[z]at R;exact(h.d b R).1
  ·show HzB (lK D a ring) a ring (j6 D a ring) S (mx D a ring) (K+1) (T+1) 0
   rw[C,z,e];refine⟨(o.alike Y.db.b I (λj _ _=>k j oM oM)).mono oM,?_,g,q,h.m,h.p,h.d⟩;have:=H.OG (J':=J.up) (T':=T+1) (d':=0) (p:=dp D (a+44)) (B.up oM) rfl rfl rfl (by show J.ep<=J.ep+1;omega) (by show J.ep+1<=J.ep+1+0;omega) (by show J.ep+1<=T+1;omega) Q (H.c.mono (by show J.ep<=J.ep+1;omega)) H.h (E:=cG D (a+44) J.up.slot) I (by rw[g];exact u) (by rw[g];exact n) (λj Z G=>k j oM oM);exact this
 ·rw[L]at d;cases d
theorem za{M:Nat->Rg}:∀(l:List (LI)),(∀b∈l,Fv M (pX b))->gX M l=M
 |[],_=>rfl
 |b::r,h=>by
  show gX (gL M (pX b)) r=M;rw[Ki (h b Eg)];exact za r (λx J=>h x (Bd _ J))
theorem Up.cp(h:Up s a ring K T)(hK:K<=3000000000):
 (Ag s.M s.D s.J a=0/\(Bx s.M s.D s.J a).held=[]/\Up (s.XL a) a ring (K+2) T/\(uA s.M s.D s.J a).n=s.D.n)\/
 (Ag s.M s.D s.J a=43/\Down (s.XL a) a ring s.M (K+2) T/\(uA s.M s.D s.J a).n=s.D.n):=by
 obtain⟨M,D,J,R⟩:=s;obtain⟨D0,Y,q,l⟩:=h;have Y:Calm D:=Y;have o:Vt D a q K:=l.v;have H:Jt D J K T 0:=l.j;have p:MI M:=l.m;have g:J.at_=a+44:=l.at_;have F0:=H.f;have G:∀b∈J.all,nX b=0/\Fv M (pX b):=l.d;have n:gX M J.all=M:=za _ (λb B=>(G b B).2);have B0:=o.r;have G0:=H.r;have hN:=H.ok.n0;have z:=PA (J:=J) (a:=a) (Y.Mx 0) p.TS;have C0:J.trim.all=[]:=rfl;have I:∀(w:JM) (c:kI (uA M D J a) (λE=>E.n=D.n/\(∃C,Hz E a ring C M (K+2) T 1))),vV w->w.first+(w.held.length:Nat)<=4000000000->w.at_=a+44->w.n=ring->Down ⟨M,uA M D J a,w,true⟩ a ring M (K+2) T:=by
  intro w c j1 j2 j3 j4;refine⟨rfl,⟨⟨z.1.ok,z.1.b,qJ z.1.p oM⟩,p.TS,j1,j2,?_,?_,j4⟩,c.mono (λE _ _ ⟨t1,t2⟩=>⟨t1.trans z.2.symm,.inl t2⟩)⟩
  ·show 0<=a/\a+44<=((uA M D J a).n:Int)
   rw[z.2];exact B0
  ·show 0<=w.at_/\w.at_+1<((uA M D J a).n:Int)
   rw[z.2,j3];omega
 have A0:vV J.trim:=H.ok.trim oM;have O:J.trim.first+(J.trim.held.length:Nat)<=4000000000:=by show J.first+(J.held.length:Nat)+((0:Nat):Int)<=_;omega
 rcases Y.KH o oM p with⟨u,y,V,P,v5⟩|⟨u,y⟩
 ·have X:Vb M D a=0:=u
  have i:Ag M D J a=ic (fH D a (bi M)) J.at_ J.trim.slot:=iP X;have r:uA M D J a=cG (fH D a (bi M)) J.at_ J.trim.slot:=iP X;have t:Bx M D J a=J.trim:=iP X;have L:Jt (fH D a (bi M)) J (K+1) T 0:=(H.alike V (λj Z _=>v5 j (.inr oM))).mono oM (cO _);generalize fH D a (bi M)=vs at*;have A:∀(E:DS) (d:Int),E.n=D.n->Jt E J.trim (K+2) T d->(∀j,j≠J.at_->j≠J.at_+1->E.read j=vs.read j)->Hz E a ring J.trim M (K+2) T d:=λE d W Q U=>
   ⟨M,(P.alike y.db.b (W.trans V.symm) (λj _ _=>U j oM oM)).mono oM,Q,g,l.g,p,rfl,λb B=>by rw[C0]at B;exact absurd B qo⟩
  rcases L.YE y oM with⟨t1,t2,t3,t4,t5⟩|⟨t1,t2⟩
  ·refine .inl ⟨i.trans t1,by show(Bx M D J a).held=[];rw[t];rfl,⟨?_,?_,?_⟩,z.2⟩
   ·show(Ag M D J a==43)=false
    rw[i.trans t1];rfl
   ·show Calm (uA M D J a)
    rw[r];exact t2
   ·show Hz (uA M D J a) a ring (Bx M D J a) M (K+2) T 0
    rw[r,t];exact A _ 0 (t3.trans V) (t4.mono oM (cO _)) t5
  ·have N:SM.XL ⟨M,D,J,R⟩ a=⟨M,uA M D J a,J.trim,true⟩:=by
    show SM.mk M (uA M D J a) (Bx M D J a) (Ag M D J a==43)=_;rw[i.trans t1,t]
    rfl
   refine .inr ⟨i.trans t1,?_,z.2⟩;rw[N];refine I J.trim ?_ A0 O g l.g;rw[r];refine t2.mono (λE _ _ ⟨x,k,e⟩=>⟨x.trans V,?_⟩);rcases k with k|k
   ·exact⟨J.trim,(A E 0 (x.trans V) (k.mono oM (cO _)) e).rest⟩
   ·exact⟨J,M,(P.alike y.db.b x (λj _ _=>e j oM oM)).mono oM,(k.mono oM (cO _)).rest,g,l.g,p,n,G⟩
 ·have X:Vb M D a=43:=u
  have F:¬Vb M D a=0:=by rw[X];decide
  have i:Ag M D J a=43:=(iN F).trans X;have r:uA M D J a=fH D a (bi M):=iN F;have t:Bx M D J a=J:=iN F;have N:SM.XL ⟨M,D,J,R⟩ a=⟨M,uA M D J a,J,true⟩:=by
   show SM.mk M (uA M D J a) (Bx M D J a) (Ag M D J a==43)=_;rw[i,t]
   rfl
  refine .inr ⟨i,?_,z.2⟩;rw[N];refine I J ?_ H.ok oM g l.g;rw[r];refine y.mono (λE _ _ ⟨x,k,e⟩=>⟨x,J,?_⟩);have S:Jt E J (K+2) T 1:=((H.alike x (λj Z _=>e j (.inr oM))).mono oM (cO _)).rest;rcases k with k|k
  ·exact⟨M,k.mono oM,S,g,l.g,p,n,G⟩
  ·exact⟨q,k.mono oM,S,g,l.g,p,l.p,G⟩
theorem GD(q:Nat->Rg)(l:List (LI))(b:LI):gX q (l++[b])=gL (gX q l) (pX b):=by
 unfold gX;rw[XI]
 rfl
theorem Up.ap(h:Up s a ring K T)(N:K<=3500000000)(Q:T<256)(t:s.J.held.length<s.J.n)(U:r.ok)(R:Bytes r.data)(W:(aE s.M r).2=0)(Z:(aE s.M r).1=true):
 (CS s.D s.J (aZ r)=0/\(si s.D s.J (aZ r)).down=false/\Up ⟨gL s.M r,si s.D s.J (aZ r),s.J.oN (aZ r),false⟩ a ring (K+1) T/\(si s.D s.J (aZ r)).n=s.D.n)\/
 (CS s.D s.J (aZ r)=43/\(si s.D s.J (aZ r)).down=true/\Down ⟨s.M,si s.D s.J (aZ r),s.J.oN (aZ r),true⟩ a ring (gL s.M r) (K+1) T/\(si s.D s.J (aZ r)).n=s.D.n):=by
 obtain⟨M,D,J,x⟩:=s;obtain⟨A0,d,q,l⟩:=h;have d:Calm D:=d;have o:Vt D a q K:=l.v;have H:Jt D J K T 0:=l.j;have p:MI M:=l.m;have g:J.at_=a+44:=l.at_;have t:J.held.length<J.n:=t;have B0:=H.f;have X:=o.r;have C0:=H.r;have c:=H.ok.n0;have W:(aE M r).2=0:=W;have Z:(aE M r).1=true:=Z;have A:=(oS W).w;have y:aZ r=wF r:=iP A;obtain⟨d1,d2⟩:=xr U A;have C:∀b∈J.all,nX b=0/\Fv M (pX b):=l.d;have n:(J.oN (aZ r)).all=J.all++[aZ r]:=by show(J.held++[(J.ep,aZ r)]).map Prod.snd=_;rw[yu];rfl
 have S:=p.gL U R;have V:gX q (J.oN (aZ r)).all=gL M r:=by
  rw[n,GD,show gX q J.all=M from l.p,y,d2]
 have w:∀b∈(J.oN (aZ r)).all,nX b=0/\Fv (gL M r) (pX b):=by
  intro b G;rw[n]at G;rcases oc.1 G with G|G
  ·exact⟨(C b G).1,zu (C b G).2⟩
  ·rw[nN.1 G,y]
   exact⟨d1,by rw[d2];exact GO W Z⟩
 have k:(J.oN (aZ r)).held.length=J.held.length+1:=by show(J.held++[(J.ep,aZ r)]).length=_;rw[dB];rfl
 have e:∀E:DS,E.n=D.n->(∀j,j<J.at_+2->E.read j=D.read j)->Vt E a q (K+1):=λE Y P=>(o.alike d.db.b Y (λj _ _=>P j oM)).mono oM;rcases H.ZW d (yz r) (nJ R) t oM Q with⟨u,O,z,L,i⟩|⟨u,O⟩
 ·exact .inl ⟨u,O.dn,⟨rfl,O,q,e _ z i,L,g,l.g,S,V,w⟩,z⟩
 ·have B:dE (si D J (aZ r)) 60/\(si D J (aZ r)).n=D.n:=by
   obtain⟨F,I⟩:=Hv (J:=J) (d.Mx 0) (nJ R);have F:dE (J.CM D (aZ r)) 60:=F.mono oM;unfold si
   split
   ·exact⟨F.sync,by rw[DS.kD];exact I⟩
   ·exact⟨F,I⟩
  refine .inr ⟨u,O.dn,⟨rfl,⟨B.1,p.TS,H.ok.oN (yz r) (nJ R) t,?_,?_,?_,l.g⟩,O.mono (λE _ _ ⟨t1,t2,t3⟩=>⟨t1.trans B.2.symm,?_⟩)⟩,B.2⟩
  ·show J.first+((J.oN (aZ r)).held.length:Nat)<=4000000000
   rw[k];omega
  ·show 0<=a/\a+44<=((si D J (aZ r)).n:Int)
   rw[B.2];exact X
  ·show 0<=J.at_/\J.at_+1<((si D J (aZ r)).n:Int)
   rw[B.2,g];omega
  ·rcases t2 with t2|t2
   ·exact .inr ⟨_,q,e _ t1 t3,t2,g,l.g,S,V,w⟩
   ·exact .inl ⟨J,q,e _ t1 t3,t2.mono oM (cO _),g,l.g,p,l.p,C⟩
theorem Up.jX(h:Up s a ring K T)(N:K<=3000000000)(A:T<256)(U:r.ok)(B:Bytes r.data):
 (s.mB a ring r=(aE s.M r).2/\Up (s.jX a ring r) a ring (K+3) T/\(s.jX a ring r).M=(if(aE s.M r).2=0 then gL s.M r else s.M)/\(s.jX a ring r).D.n=s.D.n)\/
 (s.mB a ring r=43/\s.lg r=true/\Down (s.jX a ring r) a ring (gL s.M r) (K+3) T/\(s.jX a ring r).M=s.M/\(s.jX a ring r).D.n=s.D.n):=by
 have x:¬s.dn=true:=by rw[h.dn];exact iu
 by_cases F:s.lg r=true
 ·have p:=F
  unfold SM.lg at p;rw[h.dn]at p;simp only[Zr,Re,mf,beq_iff_eq]at p;obtain⟨W,Z⟩:=p;have n:s.Is a ring r=Ry s.M s.D s.J a ring (aZ r):=iP F;have o:s.AY a ring r=⟨s.M,Kz s.M s.D s.J a ring (aZ r),OE s.M s.D s.J a ring (aZ r),Ou s.M s.D s.J a ring (aZ r)⟩:=iP F;have core:∀(t:SM),Up t a ring (K+2) T->t.M=s.M->t.D.n=s.D.n->t.J.held.length<t.J.n->vO s.M s.D s.J a ring=0->AC s.M s.D s.J a ring=t.D->AX s.M s.D s.J a ring=t.J->
   (s.mB a ring r=(aE s.M r).2/\Up (s.jX a ring r) a ring (K+3) T/\(s.jX a ring r).M=(if(aE s.M r).2=0 then gL s.M r else s.M)/\(s.jX a ring r).D.n=s.D.n)\/
   (s.mB a ring r=43/\s.lg r=true/\Down (s.jX a ring r) a ring (gL s.M r) (K+3) T/\(s.jX a ring r).M=s.M/\(s.jX a ring r).D.n=s.D.n):=by
   intro t V e l y u Y P;have w:Ry s.M s.D s.J a ring (aZ r)=CS t.D t.J (aZ r):=by unfold Ry;rw[iP u,Y,P]
   have i:Kz s.M s.D s.J a ring (aZ r)=si t.D t.J (aZ r):=by unfold Kz;rw[iP u,Y,P]
   have z:OE s.M s.D s.J a ring (aZ r)=t.J.oN (aZ r):=by unfold OE;rw[iP u,P]
   have C:Ou s.M s.D s.J a ring (aZ r)=(si t.D t.J (aZ r)).down:=by unfold Ou;rw[iP u,Y,P]
   rcases V.ap oM A y U B (by rw[e];exact W) (by rw[e];exact Z)with⟨H,O,g,j⟩|⟨H,O,g,j⟩
   ·have d0:s.mB a ring r=(aE s.M r).2:=by
     unfold SM.mB;rw[iN x,n,w,H,iP rfl]
    have b:s.jX a ring r=⟨gL s.M r,si t.D t.J (aZ r),t.J.oN (aZ r),false⟩:=by
     unfold SM.jX;rw[d0,iP W,o,i,z,C,O]
    rw[e]at g;exact .inl ⟨d0,by rw[b];exact g.mono oM (cO _),by rw[b,iP W],by rw[b];exact j.trans l⟩
   ·have d0:s.mB a ring r=43:=by
     unfold SM.mB;rw[iN x,n,w,H,iN dC]
    have b:s.jX a ring r=⟨s.M,si t.D t.J (aZ r),t.J.oN (aZ r),true⟩:=by
     unfold SM.jX;rw[d0,iN dC,o,i,z,C,O]
    rw[e]at g;exact .inr ⟨d0,F,by rw[b];exact g.mono oM (cO _),by rw[b],by rw[b];exact j.trans l⟩
  obtain⟨gw,I⟩:=h.h;by_cases d:ring<=s.J.held.length
  ·have u:vO s.M s.D s.J a ring=Ag s.M s.D s.J a:=iP d
   have Y:AC s.M s.D s.J a ring=uA s.M s.D s.J a:=iP d;have P:AX s.M s.D s.J a ring=Bx s.M s.D s.J a:=iP d;rcases h.cp N with⟨S,R,q,Q⟩|⟨S,R,Q⟩
   ·refine core (s.XL a) q rfl Q ?_ (u.trans S) Y P
    obtain⟨X,L⟩:=q.h;have c:=L.j.ok.n0;show(Bx s.M s.D s.J a).held.length<_;rw[R];exact c.1
   ·have G:¬vO s.M s.D s.J a ring=0:=by rw[u,S];decide
    have w:Ry s.M s.D s.J a ring (aZ r)=43:=by unfold Ry;rw[iN G,u,S]
    have i:Kz s.M s.D s.J a ring (aZ r)=uA s.M s.D s.J a:=by unfold Kz;rw[iN G,Y]
    have z:OE s.M s.D s.J a ring (aZ r)=Bx s.M s.D s.J a:=by unfold OE;rw[iN G,P]
    have C:Ou s.M s.D s.J a ring (aZ r)=true:=by unfold Ou;rw[iN G,u,S];rfl
    have d0:s.mB a ring r=43:=by
     unfold SM.mB;rw[iN x,n,w,iN dC]
    have b:s.jX a ring r=s.XL a:=by
     unfold SM.jX;rw[d0,iN dC,o,i,z,C];show _=SM.mk s.M (uA s.M s.D s.J a) (Bx s.M s.D s.J a) (Ag s.M s.D s.J a==43);rw[S]
     rfl
    refine .inr ⟨d0,F,?_,by rw[b];rfl,by rw[b];exact Q⟩;rw[b];exact⟨R.dn,R.ok,R.c.mono (λE _ _ ⟨t1,t2⟩=>⟨t1,.inl ((t2.elim id id).mono oM (cO _))⟩)⟩
  ·have y:s.J.held.length<s.J.n:=by rw[I.g];omega
   exact core s (h.mono oM (cO _)) rfl rfl y (iN d) (iN d) (iN d)
 ·have n:s.Is a ring r=0:=iN F
  have o:s.AY a ring r=s:=iN F;have d0:s.mB a ring r=(aE s.M r).2:=by
   unfold SM.mB;rw[iN x,iP n]
  have e:gL s.M r=s.M:=by
   unfold gL;refine iN (λd=>F ?_);unfold SM.lg;rw[h.dn,d.1,d.2]
   rfl
  have b:s.jX a ring r=s:=by
   unfold SM.jX;rw[o,e];obtain⟨M,D,J,k⟩:=s
   split<;>rfl
  refine .inl ⟨d0,by rw[b];exact h.mono oM (cO _),?_,by rw[b]⟩;rw[b,e]
  split<;>rfl
def NF(D:DS):Prop:=D.gM= -1/\D.down=false
theorem NF.after(h:NF D):D.after=D:=by
 obtain⟨n,d,b,B,a,k⟩:=D;have Z:a= -1:=h.1;have G:k=false:=h.2;subst Z;subst G
 rfl
theorem NF.write(h:NF D)(i:Int)(b:LI):NF (D.write i b):=by
 unfold DS.write
 split;· exact h
 split;· exact h
 rw[h.after]
 split
 ·exact h
 ·exact h
theorem NF.sync(h:NF D):NF D.sync:=by
 unfold DS.sync;rw[h.after]
 split
 ·exact h
 ·exact h
theorem NF.put(h:NF D)(a:Int)(b:LI):NF (qk D a b):=by
 unfold qk
 split
 ·exact h
 ·exact h.sync.write _ _
theorem NF.save(h:NF D)(a:Int)(b:LI):NF (cG D a b):=by
 unfold cG
 split
 ·exact(h.put a b).sync
 ·exact h.put a b
theorem NF.Wc{D:DS}(h:NF D)(a ar nu:Int)(b:LI):∀j,NF (fE D a ar nu b j).1
 |0=>h
 |j+1=>by
  by_cases K:(fE D a ar nu b j).2=0
  ·rw[Dr K]
   exact(NF.Wc h a ar nu b j).write _ _
  ·rw[sH K 1]
   exact NF.Wc h a ar nu b j
theorem NF.KH(h:NF D)(a:Int)(b:LI):NF (fH D a b):=by
 unfold fH
 split
 ·exact h
 ·split
  ·exact(NF.Wc h _ _ _ _ _).sync.save _ _
  ·exact NF.Wc h _ _ _ _ _
theorem NF.cp(h:NF D)(M:Nat->Rg)(J:JM)(a:Int):NF (uA M D J a):=by
 unfold uA
 split
 ·exact(h.KH _ _).save _ _
 ·exact h.KH _ _
theorem NF.lg(h:NF D)(M:Nat->Rg)(J:JM)(a:Int)(ring:Nat)(b:LI):NF (Kz M D J a ring b):=by
 have Z:NF (AC M D J a ring):=by
  unfold AC
  split
  ·exact h.cp M J a
  ·exact h
 unfold Kz
 split
 ·unfold si
  split
  ·exact(Z.write _ _).sync
  ·exact Z.write _ _
 ·exact Z
theorem NF.jX(h:NF s.D)(a:Int)(ring:Nat)(r:RQ):NF (s.jX a ring r).D:=by
 have Z:NF (s.AY a ring r).D:=by
  unfold SM.AY
  split
  ·exact h.lg _ _ _ _ _
  ·exact h
 unfold SM.jX
 split
 ·exact Z
 ·exact Z
theorem Live.nf(h:Live D):NF D:=⟨h.fz,h.dn⟩
theorem Up.live(h:Up s a ring K T)(d:NF s.D)(N:K<=3000000000)(A:T<256)(U:r.ok)(B:Bytes r.data):
 s.mB a ring r=(aE s.M r).2/\Up (s.jX a ring r) a ring (K+3) T/\NF (s.jX a ring r).D/\(s.jX a ring r).M=gL s.M r:=by
 have Z:=NF.jX d a ring r;rcases h.jX N A U B with⟨d1,d2,d3,_⟩|⟨_,_,d3,_⟩
 ·refine⟨d1,d2,Z,?_⟩
  rw[d3]
  split
  ·rfl
  ·rename_i W
   unfold gL;rw[iN (λD=>W D.1)]
 ·have:=d3.c.dn
  rw[Z.2]at this
  cases this
theorem jT(k o:Nat):yV (bW k) o=0:=by
 unfold yV bW;rw[ZA,List.take_replicate];generalize min 4 (k-o)=m
 induction m with
 |zero=>rfl
 |succ m K=>rw[List.replicate_succ,iq,K];rfl
theorem ph{j:Int}(K:0<=j)(Z:j<(n:Int)):(DS.new n).read j=bW 64:=by
 rw[yo (D:=DS.new n) K Z];unfold sec DS.new bW;rw[ZA,List.take_replicate]
 exact adS
theorem xK:cW (bW 64)=⟨0,0,[],false⟩:=by
 refine mN ?_
 cases a:jU (bW 64)with
 |false=>rfl
 |true=>exact absurd (jT 64 0) (r8 a).2.2
theorem Fp(Z:1<=n)(G:n<=512):Calm (DS.new n)/\Live (DS.new n):=
 ⟨⟨⟨DS.Rj Z G,jQ _,jQ _,λ_x J=>absurd J qo,rfl⟩,rfl,rfl⟩,⟨DS.Rj Z G,rfl,rfl⟩⟩
theorem zJ(K:0<=a)(Z:a+1<(n:Int)):aJ (DS.new n) a=⟨a+1,0,[]⟩:=by
 rw[nw];unfold eN cg;rw[ph K oM,ph oM Z,xK]
 rfl
theorem Gc(K:0<=a)(Z:a+1<(n:Int)):jt (DS.new n) a:=by
 have F:=zJ K Z;refine⟨λi z=> ?_,?_⟩
 ·rw[F,ph oM oM]
  exact⟨by simp[bW],jQ _,jT 64 60,Zb (jT 64 56)⟩
 ·have:=ox (DS.new n) a
  rw[F,ph oM oM];exact .inr (jT 64 56)
theorem OI(K:0<=a)(U:1<=ring/\ring<=100)(h1:a+46+(ring:Int)<=(n:Int))(G:n<=512):
 yK (DS.new n) a ring/\mx (DS.new n) a ring=tv/\Up ⟨mx (DS.new n) a ring,lK (DS.new n) a ring,j6 (DS.new n) a ring,false⟩ a ring 10 1/\Live (lK (DS.new n) a ring)/\(lK (DS.new n) a ring).n=n:=by
 obtain⟨D,F⟩:=Fp (n:=n) oM G;have c:(DS.new n).n=n:=rfl;have L:=zJ (n:=n) (a:=a) K oM;have W:=zJ (n:=n) (a:=a+44) oM oM;have O:=Gc (n:=n) (a:=a) K oM;have X:=Gc (n:=n) (a:=a+44) oM oM;have H:j9 (DS.new n) a=41:=by unfold j9;rw[L];rfl
 have q:j9 (DS.new n) (a+44)=41:=by unfold j9;rw[W];rfl
 have w:cM (DS.new n) a=Cx:=by unfold cM;rw[H];rfl
 have u:jk (DS.new n) a=none:=by unfold jk;rw[w];rfl
 have N:ii (DS.new n) a=41:=by unfold ii;rw[u];rfl
 have T:mh (DS.new n) a=tv:=by unfold mh;rw[N];rfl
 have E:bZ (DS.new n) (a+44) ring=⟨a+44,ring,1,0,0,[]⟩:=by unfold bZ;rw[q];rfl
 have p:JM.scan ⟨a+44,ring,1,0,0,[]⟩ (DS.new n)=[]:=by
  obtain⟨r,o⟩:∃r,ring=r+1:=⟨ring-1,oM⟩;subst o;show nH (DS.new n) (a+44) (r+1) 1 0 (r+1) 0 []=[];refine vm ?_;unfold kP cg;have hm:0<=(1+(([]:List lR).length:Int))%((r+1:Nat):Int)/\(1+(([]:List lR).length:Int))%((r+1:Nat):Int)<((r+1:Nat):Int):=⟨OC _ oM,PX _ oM⟩;rw[ph oM oM,xK]
  rfl
 have z:j6 (DS.new n) a ring=⟨a+44,ring,1,1,0,[]⟩:=by
  unfold j6 im tD;rw[E,p]
  rfl
 obtain⟨J,l⟩:∃J:JM,J=⟨a+44,ring,1,1,0,[]⟩:=⟨_,rfl⟩;have g:J.at_=a+44:=by rw[l]
 have C:lK (DS.new n) a ring=cG (DS.new n) (a+44) J.slot:=by show cG _ _ (j6 (DS.new n) a ring).slot=_;rw[z,l]
 have e:mx (DS.new n) a ring=tv:=by unfold mx;rw[z,T];rfl
 have S:(aJ (DS.new n) (a+44)).q=0:=by rw[W]
 obtain⟨y,Z,_⟩:=F.save D.db.b (a:=a+44) (b:=J.slot) oM (by rw[JM.qY];omega) oM;rcases D.save (a:=a+44) (b:=J.slot) oM (by rw[JM.qY];omega) J.pR X oM with⟨t1,t2,t3,t4,t5,t6⟩|⟨t1,_⟩
 ·have M:Vt (DS.new n) a tv 10:=⟨oM,O,by rw[L];show(0:Int)<=10;omega,by rw[w];show(0:Int)<=10;omega,T,λh=>(by rw[N]at h;cases h)⟩
  refine⟨⟨oM,λh=>(by rw[N]at h;cases h),⟨oM,U,λh=>(by rw[q]at h;cases h),by rw[E];show(0:Int)<=1/\(1:Int)<=_;omega,by rw[E];show(0:Int)<=0/\(0:Int)<_;omega,by rw[E];show(0:Int)<=0/\(0:Int)<_;omega,?_⟩,λb B=> ?_⟩,e,⟨rfl,by rw[C];exact t2,tv,?_⟩,by rw[C];exact Z,by rw[C];exact t3⟩
  ·show ic (DS.new n) (a+44) (j6 (DS.new n) a ring).slot=0
   rw[z,<-l];exact t1
  ·rw[z]at B
   exact absurd B qo
  ·show HzB (lK (DS.new n) a ring) a ring (j6 (DS.new n) a ring) tv (mx (DS.new n) a ring) 10 1 0
   rw[C,z,e,<-l];have R:vV J:=by
    rw[l];exact⟨by show 0<=a+44/\a+44<=1000;omega,U,by show(0:Int)<=1/\(1:Int)<=_;omega,by show(0:Int)<=1/\(1:Int)<_;omega,by show(0:Int)<=0/\(0:Int)<_;omega,iD _,λx A=>absurd A qo⟩
   have d:J.next=1:=by rw[l];rfl
   have Y:J.n=ring:=by rw[l]
   have C0:=iV R J.next;have t:J.ep=1:=by rw[l]
   have I:∀i:Int,0<=i->i<(ring:Int)->(cG (DS.new n) (a+44) J.slot).read (a+44+2+i)=bW 64:=λi A0 B0=>by
    rw[t6 _ oM oM];exact ph oM oM
   have P:Below 1 1 (bW 64):=⟨by rw[show kY (bW 64)=0 from jT 64 60];omega,by rw[show nk (bW 64)=0 from jT 64 4];omega,by rw[show mj (bW 64)=0 from jT 64 0];omega,by rw[show jp (bW 64)=0 from jT 64 56];omega⟩;refine⟨M.alike D.db.b t3 (λj _ _=>t6 j oM oM),⟨R,by rw[g,Y,t3,c];omega,by rw[g];exact t5,by rw[g,t4,S];show(1:Int)<=0+1/\(0:Int)+1<=10;omega,by rw[g,t4],?_,by rw[t];exact cO _,?_,?_,λi hi _=> ?_,?_⟩,g,Y,MI.tv,?_,?_⟩
   ·rw[l];show(1:Int)<=1/\(1:Int)+((0:Nat):Int)<=10;omega
   ·rw[l];show(0:Int)<=1;omega
   ·intro k x Q;rw[l]at Q;exact absurd Q abN
   ·rw[g,d,t,I _ oM oM]
    exact P
   ·have V:J.sec J.next=a+44+2+J.next%(J.n:Nat):=by rw[<-g];rfl
    rw[V,I _ oM oM,d,t];exact P.next (by simp[bW]) (jQ _) (cO _)
   ·rw[l];rfl
   ·intro b B;rw[l]at B;exact absurd B qo
 ·rw[y]at t1;cases t1
end Go.Proofs.YtblpaldggenbaaaGreatDoor
