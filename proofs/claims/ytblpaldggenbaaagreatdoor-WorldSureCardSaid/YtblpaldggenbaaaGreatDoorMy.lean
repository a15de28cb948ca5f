/- A part. -/
import Derived.Test.YtblpaldggenbaaaGreatDoorMx
namespace Go.Proofs.YtblpaldggenbaaaGreatDoor
open Go.RowKit Go.Proofs.Tryz
set_option maxRecDepth 100000
set_option maxHeartbeats 64000000
variable{R:TO}{S:Cq}
theorem Tc{w:World}{p:Addr}{a b c d e f:Value}(h:∀j u,[a,b,c,d,e,f][j]? =some u->w.cell? (p.add j)=some u):w.cell? p=some a/\w.cell? ⟨p.block,p.off+1,none⟩=some b/\w.cell? ⟨p.block,p.off+2,none⟩=some c/\w.cell? ⟨p.block,p.off+3,none⟩=some d/\w.cell? ⟨p.block,p.off+4,none⟩=some e/\w.cell? ⟨p.block,p.off+5,none⟩=some f:=
 ⟨by simpa[Addr.add]using h 0 a rfl,by simpa[Addr.add]using h 1 b rfl,by simpa[Addr.add]using h 2 c rfl,by simpa[Addr.add]using h 3 d rfl,by simpa[Addr.add]using h 4 e rfl,by simpa[Addr.add]using h 5 f rfl⟩
def rP(T:Addr)(q:RQ)(v:Value)(w:World):Prop:=(w.cell? T=some (iI q.op)/\w.cell? ⟨T.block,T.off+1,none⟩=some (iI q.region)/\w.cell? ⟨T.block,T.off+2,none⟩=some (iI q.index)/\w.cell? ⟨T.block,T.off+3,none⟩=some (iU q.token)/\w.cell? ⟨T.block,T.off+4,none⟩=some (iW q.seq)/\w.cell? ⟨T.block,T.off+5,none⟩=some v)/\ay w .u8 v q.data
theorem St.Lt{I:aK}{w:World}{L:List az}{A:OA}{n c:Nat}{q:RQ}{p:List RQ}(h:St I w (aG 6 dY (.slice A n c) (q::p)::L)):∃T r i H,A=some T/\St I w (bj (rP T q (.slice r i H))::aG 6 dY (.slice A n c) (q::p)::L):=by
 obtain⟨T,K,o,F,D,⟨v,B,z⟩,Z⟩:=h.elem 0 rfl (k:=0) (x:=q) rfl;obtain⟨r,H,rfl,_,_,_⟩:=z;refine⟨T,r,q.data.length,H,o,Z.bC (λO J=> ?_)⟩;obtain⟨N,g,a,V⟩:=J;rw[B]at a N;rw[show T.add (0*6)=T from rfl]at N;refine⟨Tc N,?_⟩;have:g= .slice r q.data.length H:=by
  have:=a;simp only[Oy]at this;exact this.2.2.2.2.2.1.symm
 rw[<-this];exact V
theorem St.yp{I:aK}{w:World}{L:List az}{A A':OA}{n c:Nat}{q:RQ}{p:List RQ}(h:St I w (aG 6 dY (.slice A n c) (q::p)::L))(o:∀T,A=some T->c≠1->A'=some (T.add 6))(k:p.length+1<=c)(X:c<=9223372036854775807):St I w (aG 6 dY (.slice A' (n-1) (c-1)) p::L):=by
 obtain⟨b,Z⟩:=h.ex;refine St.eu (f:=λb=>bj (λw=>cn w 6 dY (.slice A' (n-1) (c-1)) b p)) (λi=>b (i+1)) (Z.bC (λO J=> ?_));obtain⟨S,d,e,Z,G,M⟩:=J;injection e with C Y P;subst C;subst P;have W:n=p.length+1:=Y;refine⟨A',c-1,by rw[W];rfl,oM,by unfold maxLen;omega,λi x z=> ?_⟩;obtain⟨T,a,F,B,U⟩:=M (i+1) x z;have N:c≠1:=by
  have:=(nQ.1 z).1;have:0<p.length:=oM
  omega
 refine⟨T.add 6,o T a N,F,λj u H=> ?_,U⟩;have:=B j u H;rw[eF]at this;rw[eF,eF,show 6+(i*6+j)=(i+1)*6+j by omega];exact this
theorem Cg{I:aK}{L:List az}(hT:kL I)(B g M:Nat)(b:WX)(x:CX)(j u:List PU)(X:dz){N:Nat->Rg}{n:Nat}{T:Int}(k:Nat)(y:dO)(v:Value)(l:Int)(w:World)(hX:fN X N n T)(hn:n<=300000)(W0:T<256)(hk:k<4)(R:0<=x.c.tok (k:Int)/\x.c.tok (k:Int)<18446744073709551616)
 (hy:y.dh=true->y.aq.length<=300000/\∀q∈y.aq,eV q) (hp:y.dh=false->(cy X x.id (k:Int) (x.c.tok (k:Int)) y l).e=0->(cy X x.id (k:Int) (x.c.tok (k:Int)) y l).r.aq.length<=300000/\(∀q∈(cy X x.id (k:Int) (x.c.tok (k:Int)) y l).r.aq,eV q)/\∃N',fN (cy X x.id (k:Int) (x.c.tok (k:Int)) y l).x N' (n+2) T)
 (hl:u.length<=1000000) (hd:∀q∈u,q.data.length<=1000000)
 (h:St I w (bU B b X::ak (x.bK k y v) g j u::ab M 169 #[iI (l)]::aG 6 dY v y.aq::L)):
 Calls prog 68 #[pO B,pO g,iI (k:Nat),pO M] w λe A1=>e= .returned (iI (cz X x.id (k:Int) (x.c.tok (k:Int)) y u l).e)/\∃v',St I A1 (bU B b (cz X x.id (k:Int) (x.c.tok (k:Int)) y u l).x::ak (x.bK k (cz X x.id (k:Int) (x.c.tok (k:Int)) y u l).r v') g j (cz X x.id (k:Int) (x.c.tok (k:Int)) y u l).ws::ab M 169 #[iI (cz X x.id (k:Int) (x.c.tok (k:Int)) y u l).l]::aG 6 dY v' (cz X x.id (k:Int) (x.c.tok (k:Int)) y u l).r.aq::L):=by
 obtain⟨t,G0⟩:=nM (x.c.tok (k:Int));obtain⟨S,hS⟩:=nM (cz X x.id (k:Int) (x.c.tok (k:Int)) y u l);rw[<-hS];refine AS (And.intro hl hd) (And.intro hX (And.intro hn W0)) hk G0 R λHL HX d Y0 Z0=>?_;have i0:(0:Int)<=(k:Int):=oM
 have i1:(k:Int)<4:=oM
 obtain⟨i,W,D⟩:=(h.fi 1).bB;have kr:w.cell? ⟨g,22+k*5+2,none⟩=some (.bool y.dh):=((D.ah 0 rfl).cell (22+k*5+2)).trans ((uN (x.bK k y v) i W d).trans (by rw[kx]));have Q0:=aa h;clear h D hX hn W0 hk R hl hd i W;by_cases C0:y.dh=true
 ·rw[C0]at kr
  have HS:=aa (show S=mK X x.id (k:Int) t y u l by rw[hS,G0];exact iP C0);have HY:=aa (hy C0);clear C0 hS G0 hp hy
  go_enter func68,ntmps68
  go_wp2_with fail
  go_loopg [] (y).aq.length (λgh wr=>∃(p:List RQ) (o:dz) (E:Int) (H:Value) (Nc:Nat->Rg) (O:Nat),gh=p.length/\eO x.id (y).aq X l=eO x.id p o E/\fN o Nc O T/\O+p.length<=700000/\(∀q∈p,eV q)/\St I wr (bU B b o::ak (x.bK k ⟨(y).seq,(y).cS,(y).dh,p,(y).bu⟩ H) g j u::ab M 169 #[iI E]::aG 6 dY H p::L))
  case atStart=>exact⟨(y).aq,X,l,v,N,n,rfl,rfl,HX.1,by have:=HY.1;have:=HX.2.1;omega,HY.2,Q0⟩
  case round=>
   clear Q0 kr;obtain⟨p,o,E,H,Nc,O,hg,B0,M0,O0,N0,h⟩:=hrel;refine iG hg B0 (And.intro M0 (And.intro O0 N0)) λHG J0 z=>?_;clear hg B0 M0 O0 N0;obtain⟨i,W,D⟩:=(h.fi 1).bB;have kp:wr.cell? ⟨g,22+k*5+3,none⟩=some H:=((D.ah 0 rfl).cell (22+k*5+3)).trans ((fv (x.bK k ⟨(y).seq,(y).cS,(y).dh,p,(y).bu⟩ H) i W d).trans (by rw[kW]));clear D i W;obtain⟨A,c,J,A0,E0⟩:=(h.eM 3 rfl).slice
   cases p with
   |nil=>
    have J:H= .slice A 0 c:=J;subst J;obtain⟨i,W,D⟩:=(h.fi 1).bB;have k4:wr.cell? ⟨g,22+k*5+4,none⟩=some (iI (y).bu):=((D.ah 0 rfl).cell (22+k*5+4)).trans ((qW (x.bK k ⟨(y).seq,(y).cS,(y).dh,[],(y).bu⟩ (.slice A 0 c)) i W d).trans (by rw[kx]));have kz:=(D.ah 0 rfl).frozen;have V:=St.dN (h.fi 1) (22+k*5+4) (iI 0) (uJ x ⟨(y).seq,(y).cS,(y).dh,[],(y).bu⟩ (.slice A 0 c) 0 d);have H2:=aa V;clear h D V i W A0 E0
    go_wp2_with fail
    refine qH (AD (cx:=x.bK k ⟨(y).seq,(y).cS,(y).dh,[],0⟩ (.slice A 0 c)) g j u (k:Int) (y).bu _ HL.1 HL.2 H2) λw4 K=>?_;clear H2
    go_wp2_with fail
    go_ret
    have EP:eO x.id (y).aq X l=⟨o,[],E,0⟩:=J0.out;have ES:S=⟨o,{y with aq:=[],bu:=0},ND u (k:Int) (y).bu,E,WW u (k:Int) (y).bu⟩:=by
     rw[HS.out];unfold mK;rw[EP];exact iN abN
    rw[ES];exact⟨rfl,.slice A 0 c,K.sub⟩
   |cons q p=>
    have J:H= .slice A (p.length+1) c:=J;have A0:p.length+1<=c:=A0;subst J;obtain⟨r,C,G,F,rfl,Z⟩:=(h.fi 3).Lt;have H1:=aa Z;have l0:(0:Int)<((p.length+1:Nat):Int):=oM
    have l1:(0:Int)<(p.length:Int)+1:=oM
    clear h Z
    go_wp2_with fail
    refine an (I:=I) (L0:=aG 6 dY (.slice (some r) (p.length+1) c) (q::p)::L) [⟨none,some 10,λe=>ak (x.bK k ⟨(y).seq,(y).cS,(y).dh,q::p,(y).bu⟩ (.slice (some r) (p.length+1) c)) g j u⟩,⟨some 10,none,λe=>ak (x.bK k ⟨(y).seq,(y).cS,(y).dh,q::p,(y).bu⟩ (.slice (some r) (p.length+1) c)) g j u⟩,⟨none,some 10,λe=>bU B b o⟩,⟨some 10,none,λe=>bU B b (o.ask x.id q (E%4)).x⟩,⟨none,some 9,λe=>ab M 169 #[iI (E)]⟩,⟨some 9,none,λe=>ab M 169 #[iI (E/4)]⟩,⟨none,none,λe=>bj (rP r q (.slice C G F))⟩,⟨some 10,none,λe=>aG 1 dG (e 10).v (o.ask x.id q (E%4)).l⟩] [[],[],[],[2],[2,3],[2,3,4],[2,3,4,5],[2,3,4,5,6],[],[8],rG 10,rG 11,rG 12,rG 12,rG 13,rG 15] (rG 16) rfl kR kR kR (by rfl) (λ_=>rfl) H1.fk ?_;refine sW ?_;refine mH _ rfl (λe U Lx h=>by(have h:=h.fn;obtain⟨i,W,D⟩:=(h.fi 0).bB;have kp:U.cell? ⟨g,22+k*5+3,none⟩=some (.slice (some r) (p.length+1) c):=((D.ah 0 rfl).cell (22+k*5+3)).trans ((fv (x.bK k ⟨(y).seq,(y).cS,(y).dh,q::p,(y).bu⟩ (.slice (some r) (p.length+1) c)) i W d).trans (by rw[kW]));obtain⟨⟨c0,c1,c2,c3,c4,c5⟩,_⟩:=h.qq (Q:=rP r q (.slice C G F));go_simp;try rfl)) ?_;simp only[aW];refine mH (λe=> .pointer (some r)) rfl (λe U Lx h=>gS) ?_;simp only[aW];refine mH _ rfl (λe U Lx h=>by(have h:=h.fn;obtain⟨i,W,D⟩:=(h.fi 0).bB;have kp:U.cell? ⟨g,22+k*5+3,none⟩=some (.slice (some r) (p.length+1) c):=((D.ah 0 rfl).cell (22+k*5+3)).trans ((fv (x.bK k ⟨(y).seq,(y).cS,(y).dh,q::p,(y).bu⟩ (.slice (some r) (p.length+1) c)) i W d).trans (by rw[kW]));obtain⟨⟨c0,c1,c2,c3,c4,c5⟩,_⟩:=h.qq (Q:=rP r q (.slice C G F));go_simp;try rfl)) ?_;simp only[aW];refine nL ?_;refine bp 70 (λe=> #[pO M]) (λe=> iI (E%4)) rfl (λe U Lx h=>by(
     have h:=h.fn;refine(sh M E _ (h.fi 2)).mono ?_;rintro U0 wy⟨rfl,Z⟩;exact⟨⟨none,0,default⟩,rfl,Z.pk 3 [1,2,0]⟩)) ?_
    simp only[aW];refine bp 69 (λe=> #[pO B,pO g,nv q (.slice C G F),iI (E%4)]) (λe=> .tuple #[(e 10).v,iI (o.ask x.id q (E%4)).e]) rfl (λe U Lx h=>by(
     have h:=h.fn;refine(sy hT B g b (x.bK k ⟨(y).seq,(y).cS,(y).dh,q::p,(y).bu⟩ (.slice (some r) (p.length+1) c)) j u o q (E%4) C G F _ z.1 (by have:=z.2.1;omega) HX.2.2 (z.2.2 q Eg) ⟨OC _ dC,PX _ dC⟩ (((h.jd (Q:=rP r q (.slice C G F))).bC (R':=λw=>ay w .u8 (.slice C G F) q.data) (λ_ hx=>hx.2)).pk 5 [0,2,1,4,3])).mono ?_;rintro U0 wy⟨vs,rfl,Z⟩;have Z:St I wy (aG 1 dG vs (o.ask x.id q (E%4)).l::bU B b (o.ask x.id q (E%4)).x::ak (x.bK k ⟨(y).seq,(y).cS,(y).dh,q::p,(y).bu⟩ (.slice (some r) (p.length+1) c)) g j u::bj (rP r q (.slice C G F))::ab M 169 #[iI (E/4)]::Lx):=Z;exact⟨⟨none,0,vs⟩,rfl,Z.pk 5 [2,1,4,3,0]⟩)) ?_
    simp only[aW];refine sW ?_;refine aA ?_;intro e w1 h;have h:=h.fn;obtain⟨N2,K0,_⟩:=z.out.1.ask (by have:=z.2.1;omega) HX.2.2 x.id (z.2.2 q Eg) (E%4);have P0:eO x.id (q::p) o E=if(o.ask x.id q (E%4)).e≠0 then⟨(o.ask x.id q (E%4)).x,q::p,E/4,(o.ask x.id q (E%4)).e⟩else eO x.id p (o.ask x.id q (E%4)).x (E/4):=rfl;have B0:=J0.trans P0;generalize o.ask x.id q (E%4)=a at*;refine bq K0 B0 λH0 I0=>?_;have T0:=h;have h3:=h.pk 5 [0,1,2];have K:=aa h3;clear h T0 P0 B0 H1 K0;by_cases Y:a.e=0
    ·have e1:(a.e !=0)=false:=by simp[Y]
     have D0:=aa (I0.trans (iN (by simp[Y])));obtain⟨i,W,D⟩:=K.out.bB;have kp:w1.cell? ⟨g,22+k*5+3,none⟩=some (.slice (some r) (p.length+1) c):=((D.ah 0 rfl).cell (22+k*5+3)).trans ((fv (x.bK k ⟨(y).seq,(y).cS,(y).dh,q::p,(y).bu⟩ (.slice (some r) (p.length+1) c)) i W d).trans (by rw[kW]));have kz:=(D.ah 0 rfl).frozen;have m1:(1:Int)<=((p.length+1:Nat):Int):=oM
     have m2:(1:Int)<=(p.length:Int)+1:=oM
     have m3:((p.length+1:Nat):Int)<=(c:Int):=oM
     have m4:(p.length:Int)+1<=(c:Int):=oM
     have m5:(1:Int)<=(c:Int):=oM
     clear D Y i W;by_cases hd:c=1
     ·subst hd
      obtain rfl:p=[]:=BJ oM;have K:Hid (St I w1 (ak (x.bK k ⟨(y).seq,(y).cS,(y).dh,[q],(y).bu⟩ (.slice (some r) 1 1)) g j u::bU B b a.x::ab M 169 #[iI (E/4)]::aG 6 dY (.slice (some r) 1 1) [q]::L)):=K;have R:=(K.fi 3).yp (A':=some r) (λ_ _ hx=>absurd rfl hx) A0 E0;have R:St I w1 (aG 6 dY (.slice (some r) 0 0) []::ak (x.bK k ⟨(y).seq,(y).cS,(y).dh,[q],(y).bu⟩ (.slice (some r) 1 1)) g j u::bU B b a.x::ab M 169 #[iI (E/4)]::L):=R;have V:=St.dN (R.fi 1) (22+k*5+3) (.slice (some r) 0 0) (lO x ⟨(y).seq,(y).cS,(y).dh,[q],(y).bu⟩ (.slice (some r) 1 1) [] (.slice (some r) 0 0) d);exact adr
     ·have R:=(K.fi 3).yp (A':=some (⟨r.block,r.off+6,none⟩:Addr)) (λB1 e _=>by injection e with e;subst e;rfl) A0 E0
      have R:St I w1 (aG 6 dY (.slice (some (⟨r.block,r.off+6,none⟩:Addr)) p.length (c-1)) p::ak (x.bK k ⟨(y).seq,(y).cS,(y).dh,q::p,(y).bu⟩ (.slice (some r) (p.length+1) c)) g j u::bU B b a.x::ab M 169 #[iI (E/4)]::L):=R;have V:=St.dN (R.fi 1) (22+k*5+3) (.slice (some (⟨r.block,r.off+6,none⟩:Addr)) p.length (c-1)) (lO x ⟨(y).seq,(y).cS,(y).dh,q::p,(y).bu⟩ (.slice (some r) (p.length+1) c) p (.slice (some (⟨r.block,r.off+6,none⟩:Addr)) p.length (c-1)) d);exact adj
    ·have e1:(a.e !=0)=true:=by simp[Y]
     refine bq (I0.trans (iP Y)) Y λD0 HE=>?_;clear Y
     go_wp2_with fail
     go_ret
     have ES:S=⟨a.x,{y with aq:=q::p},u,E/4,a.e⟩:=by
      rw[HS.out];unfold mK;rw[D0.out];exact iP HE
     rw[ES];exact⟨rfl,_,K.sub⟩
 ·have C0:y.dh=false:=by simpa using C0
  rw[C0]at kr;obtain⟨P,hP⟩:=nM (cy X x.id (k:Int) t y l);have HP:=aa hP;have HS:=aa (show S=if P.e≠0 then⟨P.x,P.r,u,P.l,P.e⟩else mK P.x x.id (k:Int) t P.r u P.l by rw[hS,hP,G0];exact iN (by rw[C0];decide));rw[<-G0,<-hP]at hp;have S0:=aa (hp C0);clear C0 hS G0 hp hy hP
  go_enter func68,ntmps68
  go_wp2_with fail
  refine qK (Jh hT B g M b x j u X k y v l _ HX.1 (by have:=HX.2.1;omega) HX.2.2 d Z0 Q0) ?_;rintro w1⟨v1,h⟩;rw[<-Y0.out,<-HP.out]at h⊢;have H2:=aa h;clear h Q0 kr;by_cases Y:P.e=0
  ·have e1:(P.e !=0)=false:=by simp[Y]
   refine bq (HS.trans (iN (by simp[Y]))) (And.intro (S0 Y).1 (S0 Y).2.1) λR0 HY=>?_;obtain⟨N1,V0⟩:=(S0 Y).2.2;have X0:=aa V0;clear Y V0 HS;have HS:=R0;clear R0
   go_wp2_with fail
   go_loopg [] (P.r).aq.length (λgh wr=>∃(p:List RQ) (o:dz) (E:Int) (H:Value) (Nc:Nat->Rg) (O:Nat),gh=p.length/\eO x.id (P.r).aq P.x P.l=eO x.id p o E/\fN o Nc O T/\O+p.length<=700000/\(∀q∈p,eV q)/\St I wr (bU B b o::ak (x.bK k ⟨(P.r).seq,(P.r).cS,(P.r).dh,p,(P.r).bu⟩ H) g j u::ab M 169 #[iI E]::aG 6 dY H p::L))
   case atStart=>exact⟨(P.r).aq,P.x,P.l,v1,N1,(n+2),rfl,rfl,X0,by have:=HY.1;have:=HX.2.1;omega,HY.2,H2⟩
   case round=>
    clear H2 e1;obtain⟨p,o,E,H,Nc,O,hg,B0,M0,O0,N0,h⟩:=hrel;refine iG hg B0 (And.intro M0 (And.intro O0 N0)) λHG J0 z=>?_;clear hg B0 M0 O0 N0;obtain⟨i,W,D⟩:=(h.fi 1).bB;have kp:wr.cell? ⟨g,22+k*5+3,none⟩=some H:=((D.ah 0 rfl).cell (22+k*5+3)).trans ((fv (x.bK k ⟨(P.r).seq,(P.r).cS,(P.r).dh,p,(P.r).bu⟩ H) i W d).trans (by rw[kW]));clear D i W;obtain⟨A,c,J,A0,E0⟩:=(h.eM 3 rfl).slice
    cases p with
    |nil=>
     have J:H= .slice A 0 c:=J;subst J;obtain⟨i,W,D⟩:=(h.fi 1).bB;have k4:wr.cell? ⟨g,22+k*5+4,none⟩=some (iI (P.r).bu):=((D.ah 0 rfl).cell (22+k*5+4)).trans ((qW (x.bK k ⟨(P.r).seq,(P.r).cS,(P.r).dh,[],(P.r).bu⟩ (.slice A 0 c)) i W d).trans (by rw[kx]));have kz:=(D.ah 0 rfl).frozen;have V:=St.dN (h.fi 1) (22+k*5+4) (iI 0) (uJ x ⟨(P.r).seq,(P.r).cS,(P.r).dh,[],(P.r).bu⟩ (.slice A 0 c) 0 d);have H2:=aa V;clear h D V i W A0 E0
     go_wp2_with fail
     refine qH (AD (cx:=x.bK k ⟨(P.r).seq,(P.r).cS,(P.r).dh,[],0⟩ (.slice A 0 c)) g j u (k:Int) (P.r).bu _ HL.1 HL.2 H2) λw4 K=>?_;clear H2
     go_wp2_with fail
     go_ret
     have EP:eO x.id (P.r).aq P.x P.l=⟨o,[],E,0⟩:=J0.out;have ES:S=⟨o,{P.r with aq:=[],bu:=0},ND u (k:Int) (P.r).bu,E,WW u (k:Int) (P.r).bu⟩:=by
      rw[HS.out];unfold mK;rw[EP];exact iN abN
     rw[ES];exact⟨rfl,.slice A 0 c,K.sub⟩
    |cons q p=>
     have J:H= .slice A (p.length+1) c:=J;have A0:p.length+1<=c:=A0;subst J;obtain⟨r,C,G,F,rfl,Z⟩:=(h.fi 3).Lt;have H1:=aa Z;have l0:(0:Int)<((p.length+1:Nat):Int):=oM
     have l1:(0:Int)<(p.length:Int)+1:=oM
     clear h Z
     go_wp2_with fail
     refine an (I:=I) (L0:=aG 6 dY (.slice (some r) (p.length+1) c) (q::p)::L) [⟨none,some 10,λe=>ak (x.bK k ⟨(P.r).seq,(P.r).cS,(P.r).dh,q::p,(P.r).bu⟩ (.slice (some r) (p.length+1) c)) g j u⟩,⟨some 10,none,λe=>ak (x.bK k ⟨(P.r).seq,(P.r).cS,(P.r).dh,q::p,(P.r).bu⟩ (.slice (some r) (p.length+1) c)) g j u⟩,⟨none,some 10,λe=>bU B b o⟩,⟨some 10,none,λe=>bU B b (o.ask x.id q (E%4)).x⟩,⟨none,some 9,λe=>ab M 169 #[iI (E)]⟩,⟨some 9,none,λe=>ab M 169 #[iI (E/4)]⟩,⟨none,none,λe=>bj (rP r q (.slice C G F))⟩,⟨some 10,none,λe=>aG 1 dG (e 10).v (o.ask x.id q (E%4)).l⟩] [[],[],[],[2],[2,3],[2,3,4],[2,3,4,5],[2,3,4,5,6],[],[8],rG 10,rG 11,rG 12,rG 12,rG 13,rG 15] (rG 16) rfl kR kR kR (by rfl) (λ_=>rfl) H1.fk ?_;refine sW ?_;refine mH _ rfl (λe U Lx h=>by(have h:=h.fn;obtain⟨i,W,D⟩:=(h.fi 0).bB;have kp:U.cell? ⟨g,22+k*5+3,none⟩=some (.slice (some r) (p.length+1) c):=((D.ah 0 rfl).cell (22+k*5+3)).trans ((fv (x.bK k ⟨(P.r).seq,(P.r).cS,(P.r).dh,q::p,(P.r).bu⟩ (.slice (some r) (p.length+1) c)) i W d).trans (by rw[kW]));obtain⟨⟨c0,c1,c2,c3,c4,c5⟩,_⟩:=h.qq (Q:=rP r q (.slice C G F));go_simp;try rfl)) ?_;simp only[aW];refine mH (λe=> .pointer (some r)) rfl (λe U Lx h=>gS) ?_;simp only[aW];refine mH _ rfl (λe U Lx h=>by(have h:=h.fn;obtain⟨i,W,D⟩:=(h.fi 0).bB;have kp:U.cell? ⟨g,22+k*5+3,none⟩=some (.slice (some r) (p.length+1) c):=((D.ah 0 rfl).cell (22+k*5+3)).trans ((fv (x.bK k ⟨(P.r).seq,(P.r).cS,(P.r).dh,q::p,(P.r).bu⟩ (.slice (some r) (p.length+1) c)) i W d).trans (by rw[kW]));obtain⟨⟨c0,c1,c2,c3,c4,c5⟩,_⟩:=h.qq (Q:=rP r q (.slice C G F));go_simp;try rfl)) ?_;simp only[aW];refine nL ?_;refine bp 70 (λe=> #[pO M]) (λe=> iI (E%4)) rfl (λe U Lx h=>by(
      have h:=h.fn;refine(sh M E _ (h.fi 2)).mono ?_;rintro U0 wy⟨rfl,Z⟩;exact⟨⟨none,0,default⟩,rfl,Z.pk 3 [1,2,0]⟩)) ?_
     simp only[aW];refine bp 69 (λe=> #[pO B,pO g,nv q (.slice C G F),iI (E%4)]) (λe=> .tuple #[(e 10).v,iI (o.ask x.id q (E%4)).e]) rfl (λe U Lx h=>by(
      have h:=h.fn;refine(sy hT B g b (x.bK k ⟨(P.r).seq,(P.r).cS,(P.r).dh,q::p,(P.r).bu⟩ (.slice (some r) (p.length+1) c)) j u o q (E%4) C G F _ z.1 (by have:=z.2.1;omega) HX.2.2 (z.2.2 q Eg) ⟨OC _ dC,PX _ dC⟩ (((h.jd (Q:=rP r q (.slice C G F))).bC (R':=λw=>ay w .u8 (.slice C G F) q.data) (λ_ hx=>hx.2)).pk 5 [0,2,1,4,3])).mono ?_;rintro U0 wy⟨vs,rfl,Z⟩;have Z:St I wy (aG 1 dG vs (o.ask x.id q (E%4)).l::bU B b (o.ask x.id q (E%4)).x::ak (x.bK k ⟨(P.r).seq,(P.r).cS,(P.r).dh,q::p,(P.r).bu⟩ (.slice (some r) (p.length+1) c)) g j u::bj (rP r q (.slice C G F))::ab M 169 #[iI (E/4)]::Lx):=Z;exact⟨⟨none,0,vs⟩,rfl,Z.pk 5 [2,1,4,3,0]⟩)) ?_
     simp only[aW];refine sW ?_;refine aA ?_;intro e w1 h;have h:=h.fn;obtain⟨N2,K0,_⟩:=z.out.1.ask (by have:=z.2.1;omega) HX.2.2 x.id (z.2.2 q Eg) (E%4);have P0:eO x.id (q::p) o E=if(o.ask x.id q (E%4)).e≠0 then⟨(o.ask x.id q (E%4)).x,q::p,E/4,(o.ask x.id q (E%4)).e⟩else eO x.id p (o.ask x.id q (E%4)).x (E/4):=rfl;have B0:=J0.trans P0;generalize o.ask x.id q (E%4)=a at*;refine bq K0 B0 λH0 I0=>?_;have T0:=h;have h3:=h.pk 5 [0,1,2];have K:=aa h3;clear h T0 P0 B0 H1 K0;by_cases Y:a.e=0
     ·have e1:(a.e !=0)=false:=by simp[Y]
      have D0:=aa (I0.trans (iN (by simp[Y])));obtain⟨i,W,D⟩:=K.out.bB;have kp:w1.cell? ⟨g,22+k*5+3,none⟩=some (.slice (some r) (p.length+1) c):=((D.ah 0 rfl).cell (22+k*5+3)).trans ((fv (x.bK k ⟨(P.r).seq,(P.r).cS,(P.r).dh,q::p,(P.r).bu⟩ (.slice (some r) (p.length+1) c)) i W d).trans (by rw[kW]));have kz:=(D.ah 0 rfl).frozen;have m1:(1:Int)<=((p.length+1:Nat):Int):=oM
      have m2:(1:Int)<=(p.length:Int)+1:=oM
      have m3:((p.length+1:Nat):Int)<=(c:Int):=oM
      have m4:(p.length:Int)+1<=(c:Int):=oM
      have m5:(1:Int)<=(c:Int):=oM
      clear D Y i W;by_cases hd:c=1
      ·subst hd
       obtain rfl:p=[]:=BJ oM;have K:Hid (St I w1 (ak (x.bK k ⟨(P.r).seq,(P.r).cS,(P.r).dh,[q],(P.r).bu⟩ (.slice (some r) 1 1)) g j u::bU B b a.x::ab M 169 #[iI (E/4)]::aG 6 dY (.slice (some r) 1 1) [q]::L)):=K;have R:=(K.fi 3).yp (A':=some r) (λ_ _ hx=>absurd rfl hx) A0 E0;have R:St I w1 (aG 6 dY (.slice (some r) 0 0) []::ak (x.bK k ⟨(P.r).seq,(P.r).cS,(P.r).dh,[q],(P.r).bu⟩ (.slice (some r) 1 1)) g j u::bU B b a.x::ab M 169 #[iI (E/4)]::L):=R;have V:=St.dN (R.fi 1) (22+k*5+3) (.slice (some r) 0 0) (lO x ⟨(P.r).seq,(P.r).cS,(P.r).dh,[q],(P.r).bu⟩ (.slice (some r) 1 1) [] (.slice (some r) 0 0) d);exact adr
      ·have R:=(K.fi 3).yp (A':=some (⟨r.block,r.off+6,none⟩:Addr)) (λB1 e _=>by injection e with e;subst e;rfl) A0 E0
       have R:St I w1 (aG 6 dY (.slice (some (⟨r.block,r.off+6,none⟩:Addr)) p.length (c-1)) p::ak (x.bK k ⟨(P.r).seq,(P.r).cS,(P.r).dh,q::p,(P.r).bu⟩ (.slice (some r) (p.length+1) c)) g j u::bU B b a.x::ab M 169 #[iI (E/4)]::L):=R;have V:=St.dN (R.fi 1) (22+k*5+3) (.slice (some (⟨r.block,r.off+6,none⟩:Addr)) p.length (c-1)) (lO x ⟨(P.r).seq,(P.r).cS,(P.r).dh,q::p,(P.r).bu⟩ (.slice (some r) (p.length+1) c) p (.slice (some (⟨r.block,r.off+6,none⟩:Addr)) p.length (c-1)) d);exact adj
     ·have e1:(a.e !=0)=true:=by simp[Y]
      refine bq (I0.trans (iP Y)) Y λD0 HE=>?_;clear Y
      go_wp2_with fail
      go_ret
      have ES:S=⟨a.x,{P.r with aq:=q::p},u,E/4,a.e⟩:=by
       rw[HS.out];unfold mK;rw[D0.out];exact iP HE
      rw[ES];exact⟨rfl,_,K.sub⟩
  ·have e1:(P.e !=0)=true:=by simp[Y]
   have R0:=aa (HS.trans (iP Y));clear Y HS
   go_wp2_with fail
   go_ret
   rw[R0.out];exact⟨rfl,v1,H2⟩
theorem SO{I:aK}{L:List az}(hT:kL I)(B g:Nat)(b:WX)(X:dz){N:Nat->Rg}{n:Nat}{T:Int}(o:eH)(D J:Value)(w:World)(S:fN X N n T)(E:n<=900000)(x:T<=250)
 (h:St I w (ai .i64 J o.p::bU B b X::L)):
 Rt I w 44 #[pO B,pO g,.agg (dW o D J)] (.tuple #[sN,iI 0]) (bU B b (if o.i≠0 then X.gM o.n else X.br o.p)::L):=by
 obtain⟨Q,R,p,_⟩:=S.br E x o.p;have M:=aa (And.intro Q (And.intro R p));obtain⟨q,d,C0,D0,K⟩:=h.swap.zr;obtain⟨a,j,i,Z⟩:=(K.fi 2).stO;have h:=Z.sub (L':=ai .i64 J o.p::ab B 55 (wC (b.aw (.slice q X.aw.length d)))::ab b.gs 122 (fR 5 b.gd (II X.up a))::ab a 151 (il b.gd j i 0 8 X.s.dn)::jR j b.gd X.s.J::dq i X.s.M::di b.gd X.s.D::aB 184 10 ko (.slice q X.aw.length d) X.aw::L) abP;clear S E x Q R p C0 D0 K Z;by_cases z:o.i=0
 ·rw[iN (by simp[z])]
  have u:(o.i !=0)=false:=by simp[z]
  clear z;have Z:=h.alloc 30 (dW o D J);obtain⟨A,c⟩:=nM (w.heap.size);obtain⟨l,y,P,Y,r,W,k⟩:=(Z.ah 0 rfl).seven;rw[<-c]at Z;refine bq c Z λt H=>?_;clear h Z c
  go_enter func44,ntmps44
  go_wp2_with fail
  rw[<-t.out];clear l y P Y r W k u;refine an (I:=I) (L0:=ab a 151 (il b.gd j i 0 8 X.s.dn)::jR j b.gd X.s.J::dq i X.s.M::aB 184 10 ko (.slice q X.aw.length d) X.aw::L) [⟨none,none,λe=>ab A 30 (dW o D J)⟩,⟨none,none,λe=>ab B 55 (wC (b.aw (.slice q X.aw.length d)))⟩,⟨none,some 6,λe=>ab b.gs 122 (fR 5 b.gd (II X.up a))⟩,⟨none,some 6,λe=>di b.gd X.s.D⟩,⟨none,some 6,λe=>ai .i64 J o.p⟩,⟨some 6,none,λe=>uP b.gs b.gd (X.br o.p)⟩] [[],[0],[0,1],rG 3,[],[4],rG 6,rG 7,rG 8] (rG 9) rfl kR kR kR (by rfl) (λ_=>rfl) H.fk ?_;refine KI ?_;refine bp 77 (λe=> #[pO b.gs,J]) (λe=> iI 0) rfl (λe wx O h=>by(
   have h:=h.fn;refine(Nq hT b.gs b.gd 5 (II X.up a) X.s.D J o.p _ M.1 M.2.1 M.2.2 (h.pk 5 [2,3,4,0,1])).mono ?_;rintro E0 U⟨B0,A0,V,rfl,Z⟩;have Z:=St.Xm (a:=B0) (j:=A0) (i:=V) (X:=X.br o.p) Z;exact⟨⟨none,0,default⟩,rfl,Z.pk 4 [2,3,0]⟩)) ?_
  simp only[aW];refine xQ ?_;refine aA ?_;intro e w1 h;have h:=h.fn;have C:=aa (St.rK (X:=X.br o.p) (h.pk 7 [1,6,2]));clear h H
  exact aez
 ·rw[iP z]
  have u:(o.i !=0)=true:=by simp[z]
  clear z;have Z:=h.alloc 30 (dW o D J);obtain⟨A,c⟩:=nM (w.heap.size);obtain⟨l,y,P,Y,r,W,k⟩:=(Z.ah 0 rfl).seven;rw[<-c]at Z;refine bq c Z λt H=>?_;clear h Z c
  go_enter func44,ntmps44
  go_wp2_with fail
  rw[<-t.out];clear l y P Y r W k u;refine an (I:=I) (L0:=ab b.gs 122 (fR 5 b.gd (II X.up a))::ab a 151 (il b.gd j i 0 8 X.s.dn)::jR j b.gd X.s.J::dq i X.s.M::aB 184 10 ko (.slice q X.aw.length d) X.aw::L) [⟨none,none,λe=>ab A 30 (dW o D J)⟩,⟨none,none,λe=>ab B 55 (wC (b.aw (.slice q X.aw.length d)))⟩,⟨none,some 6,λe=>di b.gd X.s.D⟩,⟨some 6,none,λe=>di b.gd (X.s.D.BD o.n)⟩] [[],[0],[0,1],rG 3,[],[4],rG 6] (rG 7) rfl kR kR kR (by rfl) (λ_=>rfl) H.fk ?_;refine KI ?_;refine bp 76 (λe=> #[pO b.gd,iI o.n]) (λe=> .tuple #[]) rfl (λe wx O h=>by(
   have h:=h.fn;refine(UG o.n (h.fi 2)).mono ?_;rintro E0 U⟨rfl,Z⟩;have Z:St I U (di b.gd (X.s.D.BD o.n)::ab A 30 (dW o D J)::ab B 55 (wC (b.aw (.slice q X.aw.length d)))::O):=Z;exact⟨⟨none,0,default⟩,rfl,Z.pk 3 [1,2,0]⟩)) ?_
  simp only[aW];refine aA ?_;intro e w1 h;have h:=h.fn;have G:=h.pk 7 [3,4,5,6,2,1];have F:=St.Xm (a:=a) (j:=j) (i:=i) (X:=X.gM o.n) G;have C:=aa (St.rK (X:=X.gM o.n) (F.pk 3 [1,2,0]));clear h G F H
  exact aez
theorem St.Yu{I:aK}{w:World}{L:List az}{A:OA}{n c k:Nat}{N:List (Int×RQ)}{x:Int×RQ}(h:St I w (aB 184 10 ko (.slice A n c) N::L))(Q:N[k]? =some x):
 ∃G V i a e d,A=some ⟨G,0,none⟩/\n=N.length/\(V.drop (k*10)).take 10=(iC 11 x.1 5 i false (.slice a e d)).toList/\St I w (ai .u8 (.slice a e d) (aZ x.2)::ct 184 10 (.slice A n c) n V::bj (λw=>∀(i:Nat) x,N[i]? =some x->ko w ((V.drop (i*10)).take 10) x)::L):=by
 obtain⟨V,W,F,Z⟩:=h.cu;have t:=(nQ.1 Q).1;have B:∃b,A=some ⟨b,0,none⟩:=by
  rcases(Z.row 0 rfl).2 with⟨_,K⟩|⟨g,cap,E,u,_⟩
  ·omega
  ·injection u with u _ _
   exact⟨g,u⟩
 obtain⟨b,B⟩:=B;obtain⟨i,a,e,d,Y,_⟩:=Z.get 1 rfl k x Q;refine⟨b,V,i,a,e,d,B,W,Y,(Z.copy 1 rfl).bC (λO U=> ?_)⟩;obtain⟨X,r,q,P,D,z⟩:=U k x Q;rw[Y]at D;have:Value.slice a e d=Value.slice r q P:=by
  have:=D;simp only[Oy]at this;exact this.2.2.2.2.2.2.2.2.1
 rw[this];exact z
theorem GX{I:aK}{w:World}{L:List az}{G n c k:Nat}{V:LV}{f i:Int}{v:Value}(h:St I w (ct 184 10 (.slice (aO G) n c) n V::L))(Q:k<n)(Y:(V.drop (k*10)).take 10=(iC 11 f 5 i false v).toList):
 ∀j u,(iC 11 f 5 i false v).toList[j]? =some u->w.cell? ⟨G,k*10+j,none⟩=some u:=by
 intro j u y;obtain⟨T,o,_,_,D⟩:=h.sl.2 oM;injection o with o;subst o;rw[<-Y,AW]at y
 split at y
 ·rw[zU]at y
  have:=D (k*10+j) u y;rwa[show(⟨G,0,none⟩:Addr).add (k*10+j)=⟨G,k*10+j,none⟩by simp[Addr.add];intro a b;omega]at this
 ·cases y
theorem Sy{I:aK}{L:List az}(hT:kL I)(B g:Nat)(b:WX)(X:dz){N:Nat->Rg}{n:Nat}{T:Int}(o:eH)(D J:Value)(w:World)(S:fN X N n T)(E:n<=900000)(U:T<256)
 (h:St I w (bU B b X::L)):
 Rt I w 43 #[pO B,pO g,.agg (dW o D J)] (.tuple #[sN,iI (if o.n<0\/(X.aw.length:Int)<=o.n then 1 else 0)]) (bU B b (if o.n<0\/(X.aw.length:Int)<=o.n then X else X.cI ((X.aw.getD o.n.toNat (0,gE 0 0)).2))::L):=by
 obtain⟨gw,d,C0,D0,K⟩:=h.zr;clear h;by_cases r:o.n<0
 ·rw[iP (.inl r),iP (.inl r)]
  have d1:decide (o.n<0)=true:=dZ r;have h:=K;clear K S E U C0 D0;have Z:=h.alloc 30 (dW o D J);obtain⟨A,c⟩:=nM (w.heap.size);obtain⟨y,j,P,Y,C,W,a⟩:=(Z.ah 0 rfl).seven;rw[<-c]at Z;refine bq c Z λA0 H=>?_;clear h Z c r
  exact ad1
 ·have d1:decide (o.n<0)=false:=dQ r
  by_cases R:(X.aw.length:Int)<=o.n
  ·rw[iP (.inr R),iP (.inr R)]
   have d2:decide (o.n≥(X.aw.length:Int))=true:=dZ R;have d3:decide ((X.aw.length:Int)<=o.n)=true:=dZ R;have h:=K;have M:=K.alloc 30 (dW o D J);have q6:World.cell? _ ⟨B,6,none⟩=some (.slice gw X.aw.length d):=(M.ah 1 rfl).cell 6;clear K M S E U C0 D0;have Z:=h.alloc 30 (dW o D J);obtain⟨A,c⟩:=nM (w.heap.size);obtain⟨y,j,P,Y,C,W,a⟩:=(Z.ah 0 rfl).seven;rw[<-c]at Z;refine bq c Z λA0 H=>?_;clear h Z c r R
   exact ad1
  ·rw[iN oM,iN oM]
   have d2:decide (o.n≥(X.aw.length:Int))=false:=dQ R;have d3:decide ((X.aw.length:Int)<=o.n)=false:=dQ R;obtain⟨k,hk⟩:∃k:Nat,o.n=(k:Int):=⟨o.n.toNat,oM⟩;have z:k<X.aw.length:=oM
   have hx:=g7 z;have F0:X.aw.getD o.n.toNat (0,gE 0 0)=X.aw[k]:=by rw[show o.n.toNat=k by omega,Iy,hx];rfl
   rw[F0];have hm:X.aw[k]∈X.aw:=Oq z;generalize X.aw[k]=p at*;refine bq (S.g p hm) (And.intro S (And.intro E U)) λHG HX=>?_;obtain⟨G,V,F,q,u,t,rfl,_,he,h4⟩:=(K.fi 1).Yu hx;refine bq he z λHE E0=>?_;have h:=h4.pk 5 [0,3,1,4,2];have M:=h.alloc 30 (dW o D J);have q6:World.cell? _ ⟨B,6,none⟩=some (.slice (aO G) X.aw.length d):=(M.ah 2 rfl).cell 6;have k0:(0:Int)<=(k:Int):=oM
   have k1:(k:Int)<(X.aw.length:Int):=oM
   have B0:=aa hk;clear K M h4 S E U C0 D0 hx hm F0 he z;have Z:=h.alloc 30 (dW o D J);obtain⟨A,c⟩:=nM (w.heap.size);obtain⟨y,j,P,Y,C,W,a⟩:=(Z.ah 0 rfl).seven;rw[<-c]at Z;refine bq c Z λA0 H=>?_;clear h Z c r R
   go_enter func43,ntmps43
   go_wp2_with fail
   go_wp2_with (go_quiet (fail))
   rw[<-A0.out];have H1:=aa (H.drewN nq);clear H y j P Y C W a q6;refine an (I:=I) (L0:=bj (λw=>∀(i:Nat) x,X.aw[i]? =some x->ko w ((V.drop (i*10)).take 10) x)::L) [⟨none,none,λe=>ab A 30 (dW o D J)⟩,⟨none,none,λe=>ab B 55 (wC (b.aw (.slice (aO G) X.aw.length d)))⟩,⟨none,none,λe=>ct 184 10 (.slice (aO G) X.aw.length d) X.aw.length V⟩,⟨none,some 12,λe=>ai .u8 (.slice q u t) (aZ p.2)⟩,⟨none,some 12,λe=>uP b.gs b.gd X⟩,⟨some 12,none,λe=>uP b.gs b.gd (X.cI p.2)⟩] [[],[0],[0,1],rG 3,[],[4],[4,5],[4,5,6],[],[8],[4,5,6,7,8,9],[4,5,6,7,8,9,10],rG 12] (rG 13) rfl kR kR kR (by rfl) (λ_=>rfl) H1.fk ?_
   iterate 2 (refine Cn ?_;refine mH _ rfl (λe l O h=>by(have h:=h.fn;obtain⟨y,j,P,Y,C,W,a⟩:=(h.ah 0 rfl).seven;rw[B0.out]at C;have q1:l.cell? (aD B 1)=some (pO b.gd):=(h.ah 1 rfl).cell 1;have q2:l.cell? (aD B 2)=some (pO b.gs):=(h.ah 1 rfl).cell 2;have q6:l.cell? (aD B 6)=some (.slice (aO G) X.aw.length d):=(h.ah 1 rfl).cell 6;have Q:=GX (h.fi 2) E0 HE;have m0:l.cell? ⟨G,k*10,none⟩=some (iI 11):=Q 0 _ rfl;have m1:l.cell? ⟨G,k*10+1,none⟩=some (iI p.1):=Q 1 _ rfl;have m2:l.cell? ⟨G,k*10+2,none⟩=some (iI 5):=Q 2 _ rfl;have m3:l.cell? ⟨G,k*10+3,none⟩=some (iU 0):=Q 3 _ rfl;have m4:l.cell? ⟨G,k*10+4,none⟩=some (iU F):=Q 4 _ rfl;have m5:l.cell? ⟨G,k*10+5,none⟩=some (iU 0):=Q 5 _ rfl;have m6:l.cell? ⟨G,k*10+6,none⟩=some (iU 0):=Q 6 _ rfl;have m7:l.cell? ⟨G,k*10+7,none⟩=some (.bool false):=Q 7 _ rfl;have m8:l.cell? ⟨G,k*10+8,none⟩=some (.slice q u t):=Q 8 _ rfl;have m9:l.cell? ⟨G,k*10+9,none⟩=some sN:=Q 9 _ rfl;go_simp;try rfl)) ?_;simp only[aW])
   refine nL ?_;refine mH (λe=> iI (k:Nat)) rfl (λe l O h=>by(have h:=h.fn;obtain⟨y,j,P,Y,C,W,a⟩:=(h.ah 0 rfl).seven;rw[B0.out]at C;go_simp;try rfl)) ?_;simp only[aW];refine mH (λe=> .pointer (some ⟨G,k*10,none⟩)) rfl (λe l O h=>gS) ?_;simp only[aW];refine mH _ rfl (λe l O h=>by(have h:=h.fn;obtain⟨y,j,P,Y,C,W,a⟩:=(h.ah 0 rfl).seven;rw[B0.out]at C;have q1:l.cell? (aD B 1)=some (pO b.gd):=(h.ah 1 rfl).cell 1;have q2:l.cell? (aD B 2)=some (pO b.gs):=(h.ah 1 rfl).cell 2;have q6:l.cell? (aD B 6)=some (.slice (aO G) X.aw.length d):=(h.ah 1 rfl).cell 6;have Q:=GX (h.fi 2) E0 HE;have m0:l.cell? ⟨G,k*10,none⟩=some (iI 11):=Q 0 _ rfl;have m1:l.cell? ⟨G,k*10+1,none⟩=some (iI p.1):=Q 1 _ rfl;have m2:l.cell? ⟨G,k*10+2,none⟩=some (iI 5):=Q 2 _ rfl;have m3:l.cell? ⟨G,k*10+3,none⟩=some (iU 0):=Q 3 _ rfl;have m4:l.cell? ⟨G,k*10+4,none⟩=some (iU F):=Q 4 _ rfl;have m5:l.cell? ⟨G,k*10+5,none⟩=some (iU 0):=Q 5 _ rfl;have m6:l.cell? ⟨G,k*10+6,none⟩=some (iU 0):=Q 6 _ rfl;have m7:l.cell? ⟨G,k*10+7,none⟩=some (.bool false):=Q 7 _ rfl;have m8:l.cell? ⟨G,k*10+8,none⟩=some (.slice q u t):=Q 8 _ rfl;have m9:l.cell? ⟨G,k*10+9,none⟩=some sN:=Q 9 _ rfl;go_simp;try rfl)) ?_;simp only[aW];refine bp 75 (λe=> #[pO b.gs,wh 11 p.1 5 F false (.slice q u t)]) (λe=>(e 12).v) rfl (λe l O h=>by(
    have h:=h.fn;refine(zi hT b.gs b.gd p.1 F X p.2 q u t _ HX.1 HX.2.1 HX.2.2 HG (h.pk 5 [3,4,0,1,2])).mono ?_;rintro H0 wy hu;obtain⟨v9,G0,Z⟩:∃v,H0= .returned v/\St I wy (uP b.gs b.gd (X.cI p.2)::ab A 30 (dW o D J)::ab B 55 (wC (b.aw (.slice (aO G) X.aw.length d)))::ct 184 10 (.slice (aO G) X.aw.length d) X.aw.length V::O):=by
     rcases hu with⟨_,v,e,h⟩|⟨_,e,h⟩
     ·exact⟨v,e,h.tail⟩
     ·exact⟨_,e,h⟩
    exact⟨⟨none,0,v9⟩,G0,Z.pk 4 [1,2,3,0]⟩)) ?_
   simp only[aW];refine aA ?_;intro e w1 h;have h:=h.fn;have h5:=(h.pk 5 [2,4,1,3]).aM;have h6:St I w1 (aB 184 10 ko (.slice (aO G) X.aw.length d) X.aw::ab B 55 (wC (b.aw (.slice (aO G) X.aw.length d)))::uP b.gs b.gd (X.cI p.2)::L):=St.eu (f:=λV=>aX (ct 184 10 (.slice (aO G) X.aw.length d) X.aw.length V) (bj (λw=>∀(i:Nat) x,X.aw[i]? =some x->ko w ((V.drop (i*10)).take 10) x))) V h5;have h7:St I w1 (bU B b (X.cI p.2)::L):=St.rK (v:= .slice (aO G) X.aw.length d) (by rw[r9];exact h6.pk 2 [1,0]);have H2:=aa h7;clear h h5 h6 h7 H1
   go_wp2_with fail
   go_ret2
   exact⟨rfl,H2⟩
section
def Gk(p:Nat->Value)(r:Nat->dO)(b:Nat->Nat->LV):az:=bj (λw=>∀i,i<4->cn w 6 dY (p i) (b i) (r i).aq)
def gQ(p:Nat->Value)(r:Nat->dO):az:=Bc (Gk p r)
section
variable {I:aK} {w:World} {L:List az} {p:Nat->Value} {r:Nat->dO}
theorem St.GU(h:St I w (gQ p r::L)){k:Nat}(Q:k<4):St I w (aG 6 dY (p k) (r k).aq::gQ p r::L):=by
 obtain⟨b,Z⟩:=h.ex;have Z:St I w (bj (λw=>∀i,i<4->cn w 6 dY (p i) (b i) (r i).aq)::L):=Z;have G:=(Z.copy 0 rfl).bC (R':=λw=>cn w 6 dY (p k) (b k) (r k).aq) (λO J=>J k Q);have M:St I w (bj (λw=>∀i,i<4->cn w 6 dY (p i) (b i) (r i).aq)::bj (λw=>cn w 6 dY (p k) (b k) (r k).aq)::L):=G.swap;have S:St I w (gQ p r::bj (λw=>cn w 6 dY (p k) (b k) (r k).aq)::L):=St.eu (f:=Gk p r) b M;exact St.eu (f:=λb=>bj (λw=>cn w 6 dY (p k) b (r k).aq)) (b k) S.swap
theorem St.TY{v:Value}{k:Nat}{y:dO}(h:St I w (aG 6 dY v y.aq::gQ p r::L)):St I w (gQ (aI p k v) (aI r k y)::L):=by
 obtain⟨K,Z⟩:=h.ex;obtain⟨b,G⟩:=Z.swap.ex;have G:St I w (bj (λw=>∀i,i<4->cn w 6 dY (p i) (b i) (r i).aq)::bj (λw=>cn w 6 dY v K y.aq)::L):=G;refine St.eu (f:=Gk (aI p k v) (aI r k y)) (aI b k K) (G.oY (λO T B i z=> ?_));by_cases e:i=k
 ·rw[e,aT,aT,aT]
  exact B
 ·rw[bS _ _ _ _ e,bS _ _ _ _ e,bS _ _ _ _ e]
  exact T i z
theorem St.Kl{p':Nat->Value}{r':Nat->dO}(h:St I w (gQ p r::L))(d:∀i,(p' i=p i/\(r' i).aq=(r i).aq)\/(p' i= sN/\(r' i).aq=[])):St I w (gQ p' r'::L):=by
 obtain⟨b,Z⟩:=h.ex;have Z:St I w (bj (λw=>∀i,i<4->cn w 6 dY (p i) (b i) (r i).aq)::L):=Z;refine St.eu (f:=Gk p' r') b (Z.bC (λO T i z=> ?_));rcases d i with⟨u,Y⟩|⟨u,Y⟩
 ·rw[u,Y];exact T i z
 ·rw[u,Y];exact cn.none_ _ _ _ _
theorem St.Sd(h:St I w L):St I w (gQ (λ_=> sN) (λ_=>dO.zero)::L):=
 St.eu (f:=Gk (λ_=> sN) (λ_=>dO.zero)) (λ_ _=>[]) (h.bH (λO _ _ _=>cn.none_ O _ _ _))
end
def Za(i:Int)(g:Nat)(C:aY)(p:Nat->Value):az:=aX (ak ⟨i,C,p⟩ g C.bl C.wr) (gQ p C.r)
def cP(i:Int)(g:Nat)(C:aY):az:=Bc (Za i g C)
section
variable {I:aK} {w:World} {L:List az} {i:Int} {g:Nat} {C:aY} {p:Nat->Value}
theorem St.zk(h:St I w (cP i g C::L)):∃p,St I w (ak ⟨i,C,p⟩ g C.bl C.wr::gQ p C.r::L):=by
 obtain⟨p,Z⟩:=h.ex;have G:St I w (aX (ak ⟨i,C,p⟩ g C.bl C.wr) (gQ p C.r)::L):=Z;exact⟨p,G.star⟩
theorem St.cH(h:St I w (ak ⟨i,C,p⟩ g C.bl C.wr::gQ p C.r::L)):St I w (cP i g C::L):=St.eu (f:=Za i g C) p h.aM
end
end
theorem Lw{C:aY}{r i:Int}(h:C.eI r i=0):∃k:Nat,r=(k:Int)/\k<4/\0<=i/\i<4:=by
 unfold aY.eI at h
 split at h
 ·cases h
 ·next B=>
  split at h
  ·cases h
  ·next z=>
   have B:C.wM r=true:=by simpa using B
   have U:=FA B;exact⟨r.toNat,oM,oM,oM,oM⟩
structure Jd(X:dz)(i:Int)(C:aY)(k:Nat)(l:Int)(n:Nat)(T:Int):Prop where
 t:0<=C.tok (k:Int)/\C.tok (k:Int)<18446744073709551616
 y:(C.r k).dh=true->(C.r k).aq.length<=300000/\∀q∈(C.r k).aq,eV q
 p:(C.r k).dh=false->(cy X i (k:Int) (C.tok (k:Int)) (C.r k) l).e=0->(cy X i (k:Int) (C.tok (k:Int)) (C.r k) l).r.aq.length<=300000/\(∀q∈(cy X i (k:Int) (C.tok (k:Int)) (C.r k) l).r.aq,eV q)/\∃N',fN (cy X i (k:Int) (C.tok (k:Int)) (C.r k) l).x N' (n+2) T
 wl:C.wr.length<=1000000
 wd:∀q∈C.wr,q.data.length<=1000000
 s:∃N',fN (cz X i (k:Int) (C.tok (k:Int)) (C.r k) C.wr l).x N' 700000 T
theorem TB{X:dz}{r i t:Int}(c l:Int)(Y:(X.ask c (eC r i t) l).e=0):∃b,(X.ask c (eC r i t) l).l=[b]:=by
 unfold dz.ask at Y⊢
 split at Y
 ·exact absurd Y (show¬(111:Int)=0 by decide)
 ·next Z=>
  rw[iN Z]
  split at Y
  ·next G=>exact absurd Y G
  ·next G=>
   rw[iN G]
   split at Y
   ·exact absurd Y (show¬(111:Int)=0 by decide)
   ·next M=>
    rw[iN M];have Y:(aE X.s.M (eC r i t)).2=0:=Y;show∃b,mu X.s.M (eC r i t)=[b];unfold mu;rw[iP Y];exact⟨_,iP rfl⟩
theorem St.uu{I:aK}{w:World}{L:List az}{i:Int}{g k:Nat}{C:aY}{p:Nat->Value}{bl:List PU}{y:Cq}{v:Value}(h:St I w (ak ((⟨i,C,p⟩:CX).bK k y.r v) g bl y.ws::aG 6 dY v y.r.aq::gQ p C.r::L)):St I w (cP i g {C.bR k y with bl:=bl}::L):=by
 have Z:=(h.pk 3 [1,2,0]).TY (k:=k);exact St.cH (C:={C.bR k y with bl:=bl}) (p:=aI p k v) Z.swap
theorem PY{j:List PU}{r i:Int}(h:¬0<=gu (cF r i) 0 j):lZ j r i=j:=iN h
theorem Vy{I:aK}{L:List az}(hT:kL I)(B g:Nat)(b:WX)(i:Int)(C:aY)(X:dz){N:Nat->Rg}{n:Nat}{T:Int}(o:eH)(D J:Value)(w:World)(hX:fN X N n T)(hn:n<=300000)(J0:T<256)
 (hW:C.eI o.r o.i=0->∀k:Nat,o.r=(k:Int)->k<4->Jd X i C k o.n n T) (M0:C.bl.length<=1000000) (K0:∀R1∈C.bl,R1.data.length<=140737488355328)
 (h:St I w (bU B b X::cP i g C::L)):
 Calls prog 39 #[pO B,pO g,.agg (dW o D J)] w λe O=>∃G,e= .returned (.tuple #[G,iI (df X i C o.r o.i o.n).e])/\St I O (ai .u8 G (df X i C o.r o.i o.n).b::bU B b (df X i C o.r o.i o.n).x::cP i g (df X i C o.r o.i o.n).c::L):=by
 obtain⟨R,hR⟩:=nM (df X i C o.r o.i o.n);rw[<-hR];obtain⟨p,h5⟩:=h.swap.zk;have h:=h5.pk 3 [0,2,1];clear h5;by_cases u:C.eI o.r o.i=0
 ·obtain⟨k,hk,P0,E1,F1⟩:=Lw u
  refine nK u (And.intro M0 K0) (And.intro hX (And.intro hn J0)) (And.intro hk (And.intro P0 (And.intro E1 F1))) λHE HB HX d=>?_;have W:R=if 0<=gu (cF o.r o.i) 0 C.bl then⟨X,{C with bl:=lZ C.bl o.r o.i},rv C.bl o.r o.i,0⟩else Au (fU X i C o.r o.n) i C o.r o.i:=by rw[hR];exact iN (by simp[u])
  refine bq (hW u k hk P0) W λc HR=>?_;clear u M0 K0 hX hn J0 hk P0 E1 F1 W hR hW;have Z:=h.alloc 30 (dW o D J);obtain⟨q,U⟩:=nM (w.heap.size);obtain⟨z0,z1,z2,z3,z4,z5,z6⟩:=(Z.ah 0 rfl).seven;rw[<-U]at Z;refine bq U Z λG0 B0=>?_;clear h Z U
  go_enter func39,ntmps39
  go_wp2_with fail
  rw[<-G0.out];refine qK (sM B g ⟨i,C,p⟩ C.bl C.wr o D J _ (B0.fi 1)) λH h=>?_;rw[show(CX.mk i C p).c.eI o.r o.i=0 from HE.out];obtain⟨z0,z1,z2,z3,z4,z5,z6⟩:=(h.ah 1 rfl).seven;have M:=h.alloc 166 #[iI o.r,iI o.i];obtain⟨gk,N0⟩:=nM (H.heap.size);rw[<-N0]at M;refine bq N0 M λL1 H2=>?_;clear h M N0 B0
  go_wp2_with fail
  rw[<-L1.out];clear z0 z1 z2 z3 z4 z5 z6
  cases hf:decide (0<=gu (cF o.r o.i) 0 C.bl)with
  |true=>
   have HF:=aa hf;clear hf;refine an (I:=I) (L0:=ab q 30 (dW o D J)::bU B b X::gQ p C.r::L) [⟨none,none,λe=>ab gk 166 #[iI o.r,iI o.i]⟩,⟨none,some 4,λe=>ak ⟨i,C,p⟩ g C.bl C.wr⟩,⟨some 4,none,λe=>ak ⟨i,C,p⟩ g (lZ C.bl o.r o.i) C.wr⟩,⟨some 4,none,λe=>ai .u8 (e 4).v (rv C.bl o.r o.i)⟩] [[],[0],[0,1],[],rG 4,rG 5,rG 6,rG 6,rG 7,rG 9] (rG 10) rfl kR kR kR (by rfl) (λ_=>rfl) H2.fk ?_;refine Ed ?_;refine bp 67 (λe=> #[.pointer (some ⟨g,20,none⟩),.agg #[iI o.r,iI o.i]]) (λe=> .tuple #[(e 4).v,.bool true]) rfl (λe l P h=>by(
    have h:=h.fn;refine(GH (cx:=⟨i,C,p⟩) g C.bl C.wr o.r o.i _ HB.1 HB.2 (h.fi 1)).mono ?_;rintro D0 wy⟨G,rfl,Z⟩;exact⟨⟨none,0,G⟩,(by rw[HF.out];rfl),Z.pk 3 [2,1,0]⟩)) ?_
   simp only[aW];refine sW ?_;refine aA ?_;intro e H h;have h:=h.fn;have W:=HR.trans (iP (of_decide_eq_true HF));have K:=St.cH (C:={C with bl:=lZ C.bl o.r o.i}) (h.pk 6 [1,5,2,4]);have H3:=aa (K.pk 3 [1,2,0]);clear h K H2
   go_wp2_with fail
   go_ret2
   rw[W];exact⟨_,rfl,H3⟩
  |false=>
   have HF:=aa hf;clear hf;refine an (I:=I) (L0:=ab q 30 (dW o D J)::bU B b X::gQ p C.r::L) [⟨none,none,λe=>ab gk 166 #[iI o.r,iI o.i]⟩,⟨none,some 4,λe=>ak ⟨i,C,p⟩ g C.bl C.wr⟩,⟨some 4,none,λe=>ak ⟨i,C,p⟩ g (lZ C.bl o.r o.i) C.wr⟩,⟨some 4,none,λe=>ai .u8 (e 4).v (rv C.bl o.r o.i)⟩] [[],[0],[0,1],[],rG 4,rG 5,rG 6,rG 6,rG 7,rG 9] (rG 10) rfl kR kR kR (by rfl) (λ_=>rfl) H2.fk ?_;refine Ed ?_;refine bp 67 (λe=> #[.pointer (some ⟨g,20,none⟩),.agg #[iI o.r,iI o.i]]) (λe=> .tuple #[(e 4).v,.bool false]) rfl (λe l P h=>by(
    have h:=h.fn;refine(GH (cx:=⟨i,C,p⟩) g C.bl C.wr o.r o.i _ HB.1 HB.2 (h.fi 1)).mono ?_;rintro D0 wy⟨G,rfl,Z⟩;exact⟨⟨none,0,G⟩,(by rw[HF.out];rfl),Z.pk 3 [2,1,0]⟩)) ?_
   simp only[aW];refine sW ?_;refine aA ?_;intro e H h;have h:=h.fn;have Q0:=of_decide_eq_false HF;rw[PY Q0]at h;have W:=HR.trans (iN Q0);have hk:=d.1;have ES:fU X i C o.r o.n=(cz X i (k:Int) (C.tok (k:Int)) (C.r k) C.wr o.n):=by unfold fU;rw[hk];rfl
   rw[ES]at W;have W0:=aa W;obtain⟨z0,z1,z2,z3,z4,z5,z6⟩:=(h.ah 3 rfl).seven;have M:=(h.alloc 169 #[iI o.n]);have S1:World.cell? _ ⟨q,2,none⟩=some (iI o.r):=(M.ah 4 rfl).cell 2;obtain⟨j,O0⟩:=nM (H.heap.size);rw[<-O0]at M;have M1:=aa O0;have K:=(M.fi 6).GU d.2.1;have H3:=aa (K.pk 8 [7,4,2,0,1,6,3]);clear h M K O0 H2 W ES Q0 hk
   go_wp2_with fail
   rw[<-M1.out,d.out.1];clear z0 z1 z2 z3 z4 z5 z6 S1;have S0:=H3.out;rw[show ak (⟨i,C,p⟩:CX) g C.bl C.wr=ak ((⟨i,C,p⟩:CX).bK k (C.r k) (p k)) g C.bl C.wr by rw[vP (⟨i,C,p⟩:CX) k]]at S0;refine qK (Cg hT B g j b ⟨i,C,p⟩ C.bl C.wr X k (C.r k) (p k) o.n _ HX.1 HX.2.1 HX.2.2 d.2.1 c.t c.y c.p c.wl c.wd S0) ?_;rintro w3⟨V,h⟩;obtain⟨Y,hY⟩:=nM ((cz X i (k:Int) (C.tok (k:Int)) (C.r k) C.wr o.n));have h:St I w3 (bU B b (cz X i (k:Int) (C.tok (k:Int)) (C.r k) C.wr o.n).x::ak ((⟨i,C,p⟩:CX).bK k (cz X i (k:Int) (C.tok (k:Int)) (C.r k) C.wr o.n).r V) g C.bl (cz X i (k:Int) (C.tok (k:Int)) (C.r k) C.wr o.n).ws::ab j 169 #[iI (cz X i (k:Int) (C.tok (k:Int)) (C.r k) C.wr o.n).l]::aG 6 dY V (cz X i (k:Int) (C.tok (k:Int)) (C.r k) C.wr o.n).r.aq::gQ p C.r::ab q 30 (dW o D J)::ab gk 166 #[iI o.r,iI o.i]::L):=h;rw[show(cz X (CX.mk i C p).id (k:Int) ((CX.mk i C p).c.tok (k:Int)) (C.r k) C.wr o.n).e=Y.e by rw[hY]];have H0:=W0.out;have R0:=c.s;rw[<-hY]at h H0 R0;refine iG R0 H0 h λO1 X0 H4=>?_;clear h hY H0 W0 H3 S0 R0;by_cases A0:Y.e=0
   ·have e1:(Y.e !=0)=false:=by simp[A0]
    have P1:=aa A0;clear A0
    go_wp2_with fail
    have U0:=aa (wD (r:=o.r) (i:=o.i) (t:=C.tok o.r) ⟨by rw[d.out.1];omega,by have:=d.2.1;rw[d.out.1];omega⟩ d.2.2 (by rw[d.out.1];exact c.t));obtain⟨N3,A1⟩:=O1.out;have V0:=aa A1;clear A1;refine an (I:=I) (L0:=aG 6 dY V Y.r.aq::gQ p C.r::ab gk 166 #[iI o.r,iI o.i]::L) [⟨none,none,λe=>ab q 30 (dW o D J)⟩,⟨none,some 11,λe=>ak ((⟨i,C,p⟩:CX).bK k Y.r V) g C.bl Y.ws⟩,⟨some 11,some 14,λe=>ak ((⟨i,C,p⟩:CX).bK k Y.r V) g C.bl Y.ws⟩,⟨some 14,none,λe=>ak ((⟨i,C,p⟩:CX).bK k Y.r V) g C.bl Y.ws⟩,⟨none,some 13,λe=>ab j 169 #[iI (Y.l)]⟩,⟨some 13,none,λe=>ab j 169 #[iI (Y.l/4)]⟩,⟨none,some 14,λe=>bU B b Y.x⟩,⟨some 14,none,λe=>bU B b (Y.x.ask i (eC o.r o.i (C.tok o.r)) (Y.l%4)).x⟩,⟨none,some 14,λe=>ai .u8 sN []⟩,⟨some 14,none,λe=>aG 1 dG (e 14).v (Y.x.ask i (eC o.r o.i (C.tok o.r)) (Y.l%4)).l⟩] [[],[],[],[2],[],[4],[],[6],[6,7],[],[9],[6,7,8,9,10],[2,3,4,5,6,7,8,9,10,11],[6,7,8,9,10,11],rG 14,rG 15,rG 16,rG 16,rG 17,rG 19] (rG 20) rfl kR kR kR (by rfl) (λ_=>rfl) (((H4.bH (R:=λw=>ay w .u8 sN []) (λO _=>ay.none_ O _)).pk 7 [6,2,3,1,0,4,5])).fk ?_;refine aaH ?_;refine bp 22 (λe=> #[.pointer (some ⟨g,4,none⟩),iI o.r]) (λe=> iU (C.tok o.r)) rfl (λe l P h=>by(
     have h:=h.fn;refine(lu g ((⟨i,C,p⟩:CX).bK k Y.r V) C.bl Y.ws o.r _ (h.fi 1)).mono ?_;rintro D0 wy⟨rfl,Z⟩;exact⟨⟨none,0,default⟩,rfl,Z.pk 2 [1,0]⟩)) ?_
    simp only[aW];refine mH (λe=>nv (eC o.r o.i (C.tok o.r)) sN) rfl (λe l P h=>by(go_simp;try exact⟨rfl,rfl,rfl,rfl,rfl⟩)) ?_;simp only[aW];refine bp 70 (λe=> #[pO j]) (λe=> iI (Y.l%4)) rfl (λe l P h=>by(
     have h:=h.fn;refine(sh j Y.l _ (h.fi 2)).mono ?_;rintro D0 wy⟨rfl,Z⟩;exact⟨⟨none,0,default⟩,rfl,Z.pk 3 [1,2,0]⟩)) ?_
    simp only[aW];refine bp 69 (λe=> #[pO B,pO g,nv (eC o.r o.i (C.tok o.r)) sN,iI (Y.l%4)]) (λe=> .tuple #[(e 14).v,iI (Y.x.ask i (eC o.r o.i (C.tok o.r)) (Y.l%4)).e]) rfl (λe l P h=>by(
     have h:=h.fn;refine(sy hT B g b ((⟨i,C,p⟩:CX).bK k Y.r V) C.bl Y.ws Y.x (eC o.r o.i (C.tok o.r)) (Y.l%4) none 0 0 _ V0 dC HX.2.2 U0 ⟨OC _ dC,PX _ dC⟩ (h.pk 5 [4,3,1,0,2])).mono ?_;rintro D0 wy⟨G,rfl,Z⟩;have Z:St I wy (aG 1 dG G (Y.x.ask i (eC o.r o.i (C.tok o.r)) (Y.l%4)).l::bU B b (Y.x.ask i (eC o.r o.i (C.tok o.r)) (Y.l%4)).x::ak ((⟨i,C,p⟩:CX).bK k Y.r V) g C.bl Y.ws::ab q 30 (dW o D J)::ab j 169 #[iI (Y.l/4)]::P):=Z;exact⟨⟨none,0,G⟩,rfl,Z.pk 5 [3,2,4,1,0]⟩)) ?_
    simp only[aW];refine sW ?_;refine aA ?_;intro e H h;have h:=h.fn;have B1:=(zZ V0 U0 i (Y.l%4)).2;have H1:=TB (X:=Y.x) (r:=o.r) (i:=o.i) (t:=C.tok o.r) i (Y.l%4);have G1:Au Y i C o.r o.i=if(Y.x.ask i (eC o.r o.i (C.tok o.r)) (Y.l%4)).e≠0 then⟨(Y.x.ask i (eC o.r o.i (C.tok o.r)) (Y.l%4)).x,C.bR o.r.toNat Y,[],(Y.x.ask i (eC o.r o.i (C.tok o.r)) (Y.l%4)).e⟩else⟨(Y.x.ask i (eC o.r o.i (C.tok o.r)) (Y.l%4)).x,{C.bR o.r.toNat Y with bl:=oV C.bl Y.ws ⟨o.r,o.i,(Y.x.ask i (eC o.r o.i (C.tok o.r)) (Y.l%4)).l.headD []⟩},(Y.x.ask i (eC o.r o.i (C.tok o.r)) (Y.l%4)).l.headD [],0⟩:=iN (by simp[P1.out]);have I0:=X0.trans G1;rw[show o.r.toNat=k by rw[d.out.1];rfl]at I0;generalize(Y.x.ask i (eC o.r o.i (C.tok o.r)) (Y.l%4))=a at*;refine nK H1 B1 I0 (h.pk 3 [1]) λN1 I1 Y0 H5=>?_;clear h H4 H1 G1 I0 B1;by_cases F:a.e=0
    ·have e2:(a.e !=0)=false:=by simp[F]
     have T1:=aa F;obtain⟨A,E0⟩:=N1.out F;have C1:=(I1 A (by rw[E0];exact nN.2 rfl)).2;have z:=Y0.trans (iN (by simp[F]));rw[E0]at z;refine bq z C1 λC0 J1=>?_;have h6:=H5.out;rw[E0]at h6;have H6:=aa h6;clear F z C1 E0 h6 H5
     go_wp2_with fail
     generalize(e 14).v=G at H6⊢;obtain⟨vA,vc,hV,_,_⟩:=(H6.eM 2 rfl).slice;have hV:G= .slice vA 1 vc:=hV;subst hV;obtain⟨y,cs,rfl,_,_,⟨vb,rfl,Q1⟩,h7⟩:=H6.out.elem 2 rfl (k:=0) (x:=A) rfl;obtain⟨E,S,rfl,_,_,_⟩:=Q1;have h8:=h7.bC (R':=λO=>O.cell? y=some (.slice E A.length S)/\ay O .u8 (.slice E A.length S) A) (λO hx=>by
      obtain⟨hc,v',T0,D1⟩:=hx;injection T0 with T0 _;rw[<-T0]at D1;exact⟨hc 0 _ rfl,D1⟩)
     have H8:=aa (h8.pk 7 [6,1,0,2,4,5]);clear h7 h8 H6;refine an (I:=I) (L0:=bU B b a.x::aG 6 dY V Y.r.aq::gQ p C.r::L) [⟨none,none,λe=>ab gk 166 #[iI o.r,iI o.i]⟩,⟨none,some 7,λe=>ak ((⟨i,C,p⟩:CX).bK k Y.r V) g C.bl Y.ws⟩,⟨some 7,none,λe=>ak ((⟨i,C,p⟩:CX).bK k Y.r V) g (oV C.bl Y.ws ⟨o.r,o.i,A⟩) Y.ws⟩,⟨none,none,λe=>bj (λO=>O.cell? y=some (.slice E A.length S)/\ay O .u8 (.slice E A.length S) A)⟩] [[],[0],[0,1],[],[],[4],[4,5],rG 7] (rG 8) rfl kR kR kR (by rfl) (λ_=>rfl) H8.fk ?_;refine Cn ?_;refine mH _ rfl (λe l P h=>by(have h:=h.fn;have y0:l.cell? (aD gk 0)=some (iI o.r):=(h.ah 0 rfl).cell 0;have y1:l.cell? (aD gk 1)=some (iI o.i):=(h.ah 0 rfl).cell 1;have cb:=(h.qq (Q:=λO=>O.cell? y=some (.slice E A.length S)/\ay O .u8 (.slice E A.length S) A)).1;go_simp;try rfl)) ?_;simp only[aW];refine nL ?_;refine mH (λe=> .pointer (some y)) rfl (λe l P h=>gS) ?_;simp only[aW];refine mH _ rfl (λe l P h=>by(have h:=h.fn;have y0:l.cell? (aD gk 0)=some (iI o.r):=(h.ah 0 rfl).cell 0;have y1:l.cell? (aD gk 1)=some (iI o.i):=(h.ah 0 rfl).cell 1;have cb:=(h.qq (Q:=λO=>O.cell? y=some (.slice E A.length S)/\ay O .u8 (.slice E A.length S) A)).1;go_simp;try rfl)) ?_;simp only[aW];refine bp 71 (λe=> #[.pointer (some ⟨g,20,none⟩),.agg #[iI o.r,iI o.i],.slice E A.length S]) (λe=> iI (By C.bl Y.ws o.r o.i)) rfl (λe l P h=>by(
      have h:=h.fn;refine(UH (cx:=((⟨i,C,p⟩:CX).bK k Y.r V)) g C.bl Y.ws o.r o.i E A.length S A _ HB.1 (by have:=J1.out;omega) (((h.jd (Q:=λO=>O.cell? y=some (.slice E A.length S)/\ay O .u8 (.slice E A.length S) A)).bC (R':=λw=>ay w .u8 (.slice E A.length S) A) (λ_ hx=>hx.2)).pk 3 [0,2,1])).mono ?_;rintro D0 wy⟨rfl,Z⟩;exact⟨⟨none,0,default⟩,rfl,Z.pk 2 [1,0]⟩)) ?_
     simp only[aW];refine aA ?_;intro e H h;have h:=h.fn;have cb:=(h.qq (Q:=λO=>O.cell? y=some (.slice E A.length S)/\ay O .u8 (.slice E A.length S) A)).1;have h9:=St.uu (i:=i) (k:=k) (C:=C) (h.pk 6 [1,4,5,3,2]);have Z0:=((h9.front (X:=bj (λO=>O.cell? y=some (.slice E A.length S)/\ay O .u8 (.slice E A.length S) A))).bC (R':=λw=>ay w .u8 (.slice E A.length S) A) (λ_ hx=>hx.2));have H9:=aa (Z0.pk 3 [0,2,1]);clear h h9 Z0 H8
     go_wp2_with fail
     go_ret2
     rw[C0.out];exact⟨_,rfl,H9⟩
    ·have e2:(a.e !=0)=true:=by simp[F]
     have z:=Y0.trans (iP F);have C0:=aa z;have h6:=St.uu (i:=i) (k:=k) (C:=C) (H5.pk 6 [0,3,4,1]);have H6:=aa ((h6.bH (R:=λw=>ay w .u8 sN []) (λO _=>ay.none_ O _)).pk 3 [0,2,1]);clear F z h6 H5
     go_wp2_with fail
     go_ret2
     rw[C0.out];exact⟨_,rfl,H6⟩
   ·have e1:(Y.e !=0)=true:=by simp[A0]
    have z:R=⟨Y.x,C.bR k Y,[],Y.e⟩:=by
     rw[X0.out,d.out.1];exact iP A0
    have C0:=aa z;have h5:=St.uu (i:=i) (k:=k) (C:=C) (H4.pk 7 [1,3,4,0]);have H5:=aa ((h5.bH (R:=λw=>ay w .u8 sN []) (λO _=>ay.none_ O _)).pk 3 [0,2,1]);clear A0 z h5 H4
    go_wp2_with fail
    go_ret2
    rw[C0.out];exact⟨_,rfl,H5⟩
 ·have W:R=⟨X,C,[],C.eI o.r o.i⟩:=by rw[hR];exact iP u
  obtain⟨ee,F0⟩:=nM (C.eI o.r o.i);have e1:(ee !=0)=true:=by rw[F0];simp[u]
  rw[<-F0]at W;refine bq F0 W λK1 HR=>?_;clear u M0 K0 hX hn J0 W hR F0 hW;have Z:=h.alloc 30 (dW o D J);obtain⟨q,U⟩:=nM (w.heap.size);obtain⟨z0,z1,z2,z3,z4,z5,z6⟩:=(Z.ah 0 rfl).seven;rw[<-U]at Z;refine bq U Z λG0 B0=>?_;clear h Z U
  go_enter func39,ntmps39
  go_wp2_with fail
  rw[<-G0.out];refine qK (sM B g ⟨i,C,p⟩ C.bl C.wr o D J _ (B0.fi 1)) λH h=>?_;rw[show(CX.mk i C p).c.eI o.r o.i=ee from K1.out.symm];have K:=St.cH (h.pk 4 [0,3,2]);have H3:=aa ((K.bH (R:=λw=>ay w .u8 sN []) (λO _=>ay.none_ O _)).pk 3 [0,2,1]);clear h K B0 z0 z1 z2 z3 z4 z5 z6
  go_wp2_with fail
  go_ret2
  rw[HR.out];exact⟨_,rfl,H3⟩
section
def l9(k:Nat)(t:Int)(y:Cq):dO:={y.r with aq:=dg (k:Int) t y.r.seq (y.ws.filter (ao (k:Int))),bu:=((y.ws.filter (ao (k:Int))).length:Nat),seq:=IntKind.u32.wrap (y.r.seq+((dg (k:Int) t y.r.seq (y.ws.filter (ao (k:Int)))).length:Nat))}
def Cv(C:aY)(k:Nat)(y:Cq):aY:={C with r:=aI C.r k (l9 k (C.tok (k:Int)) y),wr:=y.ws}
def QV(_:dz)(i:Int)(C:aY)(k:Nat)(y:Cq):Cq:=cz y.x i (k:Int) (C.tok (k:Int)) (l9 k (C.tok (k:Int)) y) y.ws y.l
structure Px(X:dz)(i:Int)(C:aY)(k:Nat)(l:Int)(n:Nat)(T:Int):Prop where
 a:Jd X i C k l n T
 b:∀y,y=cz X i (k:Int) (C.tok (k:Int)) (C.r k) C.wr l->y.e=0->y.ws.filter (ao (k:Int))≠[]->
  ((y.ws.filter (ao (k:Int))).length<=1000/\(0<=y.r.seq/\y.r.seq<=4000000000)/\nU (k:Int) (y.ws.filter (ao (k:Int)))=0/\(dg (k:Int) (C.tok (k:Int)) y.r.seq (y.ws.filter (ao (k:Int)))).length<=300)/\
  Jd y.x i (Cv C k y) k y.l (n+302) T/\(∃N',fN y.x N' (n+302) T)/\((QV X i C k y).e=0->(QV X i C k y).ws.filter (ao (k:Int))=[])
theorem KX(X:dz)(c r t:Int)(x:dO)(B:List PU)(l:Int):(mK X c r t x B l).ws.Sublist B:=by
 unfold Go.Proofs.YtblpaldggenbaaaGreatDoor.mK
 split
 ·exact KQ _
 ·exact LD _ _ _
theorem Kd(X:dz)(c r t:Int)(x:dO)(B:List PU)(l:Int):(cz X c r t x B l).ws.Sublist B:=by
 unfold Go.Proofs.YtblpaldggenbaaaGreatDoor.cz
 split
 ·exact KX _ _ _ _ _ _ _
 ·split
  ·exact KQ _
  ·exact KX _ _ _ _ _ _ _
structure Uw(X:dz)(i:Int)(k:Nat)(t:Int)(y:dO)(ws:List PU)(l:Int)(n:Nat)(T:Int):Prop where
 hy:y.dh=true->y.aq.length<=300000/\∀q∈y.aq,eV q
 hp:y.dh=false->(cy X i (k:Int) t y l).e=0->(cy X i (k:Int) t y l).r.aq.length<=300000/\(∀q∈(cy X i (k:Int) t y l).r.aq,eV q)/\∃N',fN (cy X i (k:Int) t y l).x N' (n+2) T
 wl:ws.length<=1000000
 wd:∀q∈ws,q.data.length<=1000000
 hx:n<=300000/\∃N',fN X N' n T
theorem Jd.h{X:dz}{i:Int}{C:aY}{k:Nat}{l:Int}{n:Nat}{T:Int}(h:Jd X i C k l n T)(J:n<=300000/\∃w,fN X w n T):Uw X i k (C.tok (k:Int)) (C.r k) C.wr l n T:=⟨h.y,h.p,h.wl,h.wd,J⟩
def xU(R:TO)(C:aY)(k:Nat)(i t T:Int):Nat->dz->dO->List PU->Int->Nat->Prop
 |0,X,y,B,l,n=>Uw X i k t y B l n T/\∀S,S=cz X i (k:Int) t y B l->(S.e≠0->R=⟨S.x,C.bR k S,[],S.e⟩)/\(S.e=0->S.ws.filter (ao (k:Int))=[]/\R=⟨S.x,C.bR k S,[],0⟩)
 |U+1,X,y,B,l,n=>Uw X i k t y B l n T/\∀S,S=cz X i (k:Int) t y B l->(S.e≠0->R=⟨S.x,C.bR k S,[],S.e⟩)/\(S.e=0->S.ws.filter (ao (k:Int))=[]->R=⟨S.x,C.bR k S,[],0⟩)/\
  (S.e=0->S.ws.filter (ao (k:Int))≠[]->((S.ws.filter (ao (k:Int))).length<=1000/\(0<=S.r.seq/\S.r.seq<=4000000000)/\nU (k:Int) (S.ws.filter (ao (k:Int)))=0/\(dg (k:Int) t S.r.seq (S.ws.filter (ao (k:Int)))).length<=300)/\xU R C k i t T U S.x (l9 k t S) S.ws S.l (n+302))
theorem xU.h{C:aY}{k:Nat}{i t T:Int}{U:Nat}{X:dz}{y:dO}{B:List PU}{l:Int}{n:Nat}(h:xU R C k i t T U X y B l n):Uw X i k t y B l n T:=by
 cases U with
 |zero=>exact h.1
 |succ _=>exact h.1
theorem xU.bad{C:aY}{k:Nat}{i t T:Int}{U:Nat}{X:dz}{y:dO}{B:List PU}{l:Int}{n:Nat}(h:xU R C k i t T U X y B l n)(N:S=cz X i (k:Int) t y B l)(Y:S.e≠0):R=⟨S.x,C.bR k S,[],S.e⟩:=by
 cases U with
 |zero=>exact(h.2 S N).1 Y
 |succ _=>exact(h.2 S N).1 Y
theorem xU.done{C:aY}{k:Nat}{i t T:Int}{U:Nat}{X:dz}{y:dO}{B:List PU}{l:Int}{n:Nat}(h:xU R C k i t T U X y B l n)(N:S=cz X i (k:Int) t y B l)(Y:S.e=0)(a:S.ws.filter (ao (k:Int))=[]):R=⟨S.x,C.bR k S,[],0⟩:=by
 cases U with
 |zero=>exact((h.2 S N).2 Y).2
 |succ _=>exact(h.2 S N).2.1 Y a
theorem xU.more{C:aY}{k:Nat}{i t T:Int}{U:Nat}{X:dz}{y:dO}{B:List PU}{l:Int}{n:Nat}(h:xU R C k i t T U X y B l n)(N:S=cz X i (k:Int) t y B l)(Y:S.e=0)(a:S.ws.filter (ao (k:Int))≠[]):
 ((S.ws.filter (ao (k:Int))).length<=1000/\(0<=S.r.seq/\S.r.seq<=4000000000)/\nU (k:Int) (S.ws.filter (ao (k:Int)))=0/\(dg (k:Int) t S.r.seq (S.ws.filter (ao (k:Int)))).length<=300)/\∃g,U=g+1/\xU R C k i t T g S.x (l9 k t S) S.ws S.l (n+302):=by
 cases U with
 |zero=>exact absurd ((h.2 S N).2 Y).1 a
 |succ g=>exact⟨((h.2 S N).2.2 Y a).1,g,rfl,((h.2 S N).2.2 Y a).2⟩
theorem Px.flu{X:dz}{i:Int}{C:aY}{k:Nat}{l:Int}{n:Nat}{T:Int}(h:Px X i C k l n T)(W:n<=290000){N:Nat->Rg}(r:fN X N n T):xU (mX (fU X i C (k:Int) l) i C (k:Int)) C k i (C.tok (k:Int)) T 1 X (C.r k) C.wr l n:=by
 have o:fU X i C (k:Int) l=cz X i (k:Int) (C.tok (k:Int)) (C.r k) C.wr l:=rfl;refine⟨h.a.h ⟨oM,N,r⟩,λS F=> ?_⟩;rw[o,<-F];refine⟨λY=>iP Y,λY a=> ?_,λY a=> ?_⟩
 ·unfold mX
  rw[iN (λh=>h Y),iP a]
  rfl
 ·obtain⟨u,J,Q,b⟩:=h.b S F Y a
  refine⟨u,⟨?_,?_,J.wl,J.wd,oM,Q⟩,λj d=> ?_⟩
  ·have:=J.y
   rwa[show(Cv C k S).r k=l9 k (C.tok (k:Int)) S from aT _ _ _]at this
  ·have:=J.p
   rwa[show(Cv C k S).r k=l9 k (C.tok (k:Int)) S from aT _ _ _,show(Cv C k S).tok (k:Int)=C.tok (k:Int)from rfl]at this
  ·have c:mX S i C (k:Int)=⟨j.x,C.bR k j,[],j.e⟩:=by
    unfold mX;rw[iN (λh=>h Y),iN a,iN (λh=>h u.2.2.1),d]
    rfl
   have b:j.e=0->j.ws.filter (ao (k:Int))=[]:=by rw[d];exact b
   exact⟨λ_=>c,λD=>⟨b D,by rw[c,D]⟩⟩
section
variable {X:dz} {ev:List jZ} {K:Nat->Int->Vw} {N:Nat->Rg} {n m:Nat} {T:Int} {t:Int} {C:aY} {f k:Nat} {ca:List PU}
theorem lo.UN{r t s:Int}{Q:List RQ}(h:lo r t s Q):∀q∈Q,eV q:=λq d=>by
 obtain⟨j,H⟩:=zcG d;exact(h j q H).2.2.2.1
theorem WI.Xf(h:WI X ev K N n T)(W:n<=300000)(A:T<256)(c:Int)(Q:k<4)(R:1<=C.tok (k:Int)/\C.tok (k:Int)<18446744073709551616)(J:K k (C.tok (k:Int))=⟨C.r k,f,ca⟩)(P:(C.r k).aq.length<=300)(H:C.wr.length<=1000000)(e:∀q∈C.wr,q.data.length<=1000000)(F:(C.wr.filter (ao (k:Int))).map gP=(aC (k:Int) (C.tok (k:Int)) ev).p.drop f)(l:Int):Jd X c C k l n T:=by
 have U:0<=(k:Int)/\(k:Int)<4:=oM
 have J:K (k:Int).toNat (C.tok (k:Int))=⟨C.r k,f,ca⟩:=J;have o:=h.p.vw (k:Int) (C.tok (k:Int)) U.1 U.2 R.1;rw[J]at o;refine⟨oM,λy=>⟨oM,o.sq.UN⟩,λy d=> ?_,H,e,?_⟩
 ·obtain⟨L,Z,M,D,Y⟩:=h.VH oM A c U R J y l
  have g:=Z.p.vw (k:Int) (C.tok (k:Int)) U.1 U.2 R.1;rw[aS]at g;exact⟨oM,g.sq.UN,L,Z.s⟩
 ·obtain⟨b,E,G⟩:∃b:Int,(C.r k).seq<=b/\10<=b:=⟨max (C.r k).seq 10,oM,oM⟩
  obtain⟨w,i,V⟩:=h.cz (b:=b) oM A c U R J P F E G l;exact⟨w,V.w.s.mono oM (cO _)⟩
theorem WI.Vm(h:WI X ev K N n T)(hn:n<=290000)(hm:m<=120)(A:T<256)(c:Int)(Q:k<4)(R:1<=C.tok (k:Int)/\C.tok (k:Int)<18446744073709551616)(Y:K k (C.tok (k:Int))=⟨C.r k,f,ca⟩)(D:lU C m)(F:(C.wr.filter (ao (k:Int))).map gP=(aC (k:Int) (C.tok (k:Int)) ev).p.drop f)(l:Int){y:Cq}(W:y=Go.Proofs.YtblpaldggenbaaaGreatDoor.cz X c (k:Int) (C.tok (k:Int)) (C.r k) C.wr l)(M:y.e=0):
 ((y.ws.filter (ao (k:Int))).length<=1000/\(0<=y.r.seq/\y.r.seq<=4000000000)/\nU (k:Int) (y.ws.filter (ao (k:Int)))=0/\(dg (k:Int) (C.tok (k:Int)) y.r.seq (y.ws.filter (ao (k:Int)))).length<=300)/\(l9 k (C.tok (k:Int)) y).aq.length<=300/\(l9 k (C.tok (k:Int)) y).dh=true/\y.ws.Sublist C.wr/\
 ∃L f1,WI y.x ev (gz K (k:Int) (C.tok (k:Int)) ⟨l9 k (C.tok (k:Int)) y,f1,ca⟩) L (n+302) T/\(y.ws.filter (ao (k:Int))).map gP=(aC (k:Int) (C.tok (k:Int)) ev).p.drop f1/\f1+(l9 k (C.tok (k:Int)) y).bu.toNat=(aC (k:Int) (C.tok (k:Int)) ev).p.length:=by
 have U:0<=(k:Int)/\(k:Int)<4:=oM
 have G:K (k:Int).toNat (C.tok (k:Int))=⟨C.r k,f,ca⟩:=Y;obtain⟨L,f1,V⟩:=h.cz (ws:=C.wr) oM A c U R G (D.p _) F (D.q _) oM l;rw[<-W]at V;generalize D0:C.tok (k:Int)=t at*;have B:∀p∈y.ws.filter (ao (k:Int)),Ks (k:Int) p/\Bytes p.data:=λp P=>by
  obtain⟨e,b⟩:=Ea.1 P;have:=D.w p (V.s.subset e);exact⟨⟨by simpa[ao]using b,this.2.2.1⟩,this.2.2.2⟩
 have u:=uG (λp P=>(B p P).1);obtain⟨d,O,H,i⟩:=V.e M;have C0:(y.ws.filter (ao (k:Int))).length<=m:=qJ (Xd _ _) (qJ V.s.length_le D.i.wl);have g:=V.w.p.vw (k:Int) t U.1 U.2 R.1;rw[aS]at g;have a:(Vw.mk y.r f1 ca).s0=y.r.seq:=by
  show y.r.seq-(y.r.aq.length:Nat)=y.r.seq;rw[H];exact Int.sub_zero _
 have z:2<=y.r.seq:=by have:=g.s2 d;omega
 have I:(dg (k:Int) t y.r.seq (y.ws.filter (ao (k:Int)))).length<=300:=by
  unfold dg;rw[iP u];have:=o9 (k:Int) t y.r.seq (y.ws.filter (ao (k:Int))) (((y.ws.filter (ao (k:Int))).length+3)/4);omega
 have hq:=V.q;have Z:IntKind.u32.wrap (y.r.seq+((dg (k:Int) t y.r.seq (y.ws.filter (ao (k:Int)))).length:Nat))=y.r.seq+((dg (k:Int) t y.r.seq (y.ws.filter (ao (k:Int)))).length:Nat):=IntWalk.u32_in _ oM;have S:l9 k t y={y.r with aq:=dg (k:Int) t y.r.seq (y.ws.filter (ao (k:Int))),bu:=((y.ws.filter (ao (k:Int))).length:Nat),seq:=y.r.seq+((dg (k:Int) t y.r.seq (y.ws.filter (ao (k:Int)))).length:Nat)}:=by unfold l9;rw[Z]
 have E:=Ev (s:=y.r.seq) U oM B oM oM oM (t:=t);generalize w:dg (k:Int) t y.r.seq (y.ws.filter (ao (k:Int)))=pq at I Z E S⊢;have j:f1<=(aC (k:Int) t ev).p.length:=by have:=g.fp;unfold Vw.g at this;exact qJ (Yo _ _) this
 have B0:(y.ws.filter (ao (k:Int))).length=(aC (k:Int) t ev).p.length-f1:=by
  have:=congrArg List.length V.l;rwa[qI,km]at this
 have J:WI y.x ev (gz K (k:Int) t ⟨{y.r with aq:=pq,bu:=((y.ws.filter (ao (k:Int))).length:Nat),seq:=y.r.seq+(pq.length:Nat)},f1,ca⟩) L (n+302) T:=by
  have J:WI y.x ev (gz (gz K (k:Int) t ⟨y.r,f1,ca⟩) (k:Int) t ⟨{y.r with aq:=pq,bu:=((y.ws.filter (ao (k:Int))).length:Nat),seq:=y.r.seq+(pq.length:Nat)},f1,ca⟩) L (n+302) T:=by
   have q:(Vw.mk {y.r with aq:=pq,bu:=((y.ws.filter (ao (k:Int))).length:Nat),seq:=y.r.seq+(pq.length:Nat)} f1 ca).s0=y.r.seq:=by
    exact aeU
   refine⟨V.w.s,V.w.z,V.w.p.xR U.1 U.2 _ ⟨λh=>absurd (d.symm.trans h) dC,λ_=>O,by show(0:Int)<=((y.ws.filter (ao (k:Int))).length:Nat);omega,?_,by rw[q];exact E,λ_=>by rw[q];exact z⟩ (λ_=> ?_) (λx k' _ Q=> ?_)⟩
   ·show f1+(((y.ws.filter (ao (k:Int))).length:Nat):Int).toNat<=_
    rw[rE];omega
   ·rw[aS,a,q]
    refine⟨d,cO _,λA0 o=> ?_⟩;have o:y.r.aq.head? =some A0:=o;rw[H]at o
    cases o
   ·have:=Q.Kc (r:=(k:Int)) (n:=y.r.seq+(pq.length:Nat)) (l:=y.ws.filter (ao (k:Int))) R.1 (by rw[aS];exact d) (by rw[aS];exact H) (by rw[aS];exact i) (by rw[aS];exact V.l) (λp P=>(B p P).1) (by rw[aS];exact j) (by rw[aS,w])
    rw[aS,w]at this;exact this
  rwa[kE]at J
 refine⟨⟨oM,oM,u,I⟩,by rw[S];exact I,by rw[S];exact d,V.s,L,f1,?_,V.l,?_⟩
 ·rw[S];exact J
 ·rw[S]
  show f1+(((y.ws.filter (ao (k:Int))).length:Nat):Int).toNat=_;rw[rE];omega
theorem WI.aaV(h:WI X ev K N n T)(W:n<=290000)(o:m<=120)(A:T<256)(c:Int)(Q:k<4)(R:1<=C.tok (k:Int)/\C.tok (k:Int)<18446744073709551616)(B:K k (C.tok (k:Int))=⟨C.r k,f,ca⟩)(D:lU C m)(F:(C.wr.filter (ao (k:Int))).map gP=(aC (k:Int) (C.tok (k:Int)) ev).p.drop f)(l:Int):Px X c C k l n T:=by
 have H:C.wr.length<=m:=D.i.wl;have e:∀q∈C.wr,q.data.length<=1000000:=λq d=>by have:=(D.w q d).2.2.1.2.2;show q.data.length<=_;have:q.data.length<=23:=this;omega
 refine⟨h.Xf oM A c Q R B (D.p _) oM e F l,λy E M U=> ?_⟩;obtain⟨u,V,O,a,L,f1,J,S,j⟩:=h.Vm W o A c Q R B D F l E M;have g:=a.length_le;have b:(Cv C k y).r k=l9 k (C.tok (k:Int)) y:=aT _ _ _;refine⟨u,WI.Xf (C:=Cv C k y) (f:=f1) (ca:=ca) J oM A c Q R (by rw[b];exact aS _ _ _ _) (by rw[b];exact V) (by show y.ws.length<=_;omega) (λq d=>e q (a.subset d)) S y.l,⟨L,J.s⟩,λY=> ?_⟩;unfold QV at Y⊢;unfold Go.Proofs.YtblpaldggenbaaaGreatDoor.cz at Y⊢;rw[iP O]at Y⊢;unfold Go.Proofs.YtblpaldggenbaaaGreatDoor.mK at Y⊢
 split at Y
 ·rename_i I
  exact absurd Y I
 ·rename_i I
  rw[iN I];have p:=(Dv (r:=(k:Int)) (t:=C.tok (k:Int)) (ev:=ev) (f:=f1) (ws:=y.ws) (x:=l9 k (C.tok (k:Int)) y) (by show(0:Int)<=((y.ws.filter (ao (k:Int))).length:Nat);omega) S oM).2.2;rw[j,Zm]at p;exact List.map_eq_nil_iff.1 p
end
end
section
def zt(S a:gD)(c:Int):Prop:=∀(r:Int) (C:aY) (k:Int),r≠c->da S C r k->da a C r k
theorem zt.refl(S:gD)(c:Int):zt S S c:=λ_ _ _ _ h=>h
theorem zt.trans{S o j:gD}{c:Int}(h:zt S o c)(G:zt o j c):zt S j c:=λr C k D V=>G r C k D (h r C k D V)
theorem pD(S:gD)(q:dH)(p:q.tm<=18446744073709551615):zt S (S.apply q).s q.c:=λ_ _ _ D h=>h.other q D p
section
variable {S:gD} {C d:aY} {c k e:Int}
theorem da.He(h:da S C c k)(u:d.seq=C.seq)(Y:d.a9=C.a9)(Q:k<=e):da S d c e:=
 ⟨h.be,h.len,by rw[u];exact h.Ke,by rw[u];have:=h.Lq;omega,λV y E=>by rw[u];exact h.num (by rw[<-Y];exact V) y E⟩
theorem SU(C:aY)(r t u:Int):(C.nS r t u).seq=C.seq/\(C.nS r t u).a9=C.a9:=by
 unfold aY.nS
 exact afa
theorem Ts(C:aY)(r:Int):(C.gone r).seq=C.seq/\(C.gone r).a9=C.a9:=by
 unfold aY.gone
 exact afa
theorem da.nx(h:da S C c k)(Q:k<4294967295):dP C.seq=C.seq+1:=zO h.Ke (by have:=h.Lq;omega)
theorem da.VJ(h:da S C c k)(Q:k<4294967295)(r t:Int):da (cZ S c C r t).s (cZ S c C r t).c c (k+1)/\zt S (cZ S c C r t).s c:=by
 have Z:=h.Gn (o:=5) (.inr (.inr rfl)) r 0 t;have G:=pD S ⟨5,c,C.seq+1,r,0,t,0⟩ ab1;unfold cZ;rw[h.nx Q];generalize S.apply ⟨5,c,C.seq+1,r,0,t,0⟩=a at Z G;show da (if a.e≠0 then _ else _:nP).s (if a.e≠0 then _ else _:nP).c c (k+1)/\zt S (if a.e≠0 then _ else _:nP).s c
 split
 ·exact⟨Z,G⟩
 ·have M:=SU ({C with seq:=C.seq+1}:aY) r t a.v
  exact⟨Z.He M.1 M.2 (cO _),G⟩
theorem da.aan(h:da S C c k)(Q:0<=k):da (ia S c C).s (ia S c C).c c k/\zt S (ia S c C).s c:=by
 unfold ia
 cases V:C.a9 with
 |true=>exact⟨h,zt.refl _ _⟩
 |false=>
  have Z:=h.shut V ⟨2,c,0,0,0,0,0⟩ ab1;have F:=pD S ⟨2,c,0,0,0,0,0⟩ ab1;have I:=pD (S.apply ⟨2,c,0,0,0,0,0⟩).s ⟨1,c,0,0,0,0,0⟩ ab1;have G:=Z.shut V ⟨1,c,0,0,0,0,0⟩ ab1;have M:=λY=>Z.open_ Q Y;generalize(S.apply ⟨2,c,0,0,0,0,0⟩).s.apply ⟨1,c,0,0,0,0,0⟩=b at G M I;rw[iN iu];show da (if b.e≠0 then _ else _:nP).s (if b.e≠0 then _ else _:nP).c c k/\zt S (if b.e≠0 then _ else _:nP).s c
  split
  ·exact⟨G,F.trans I⟩
  ·next Y=>exact⟨M (by simpa using Y),F.trans I⟩
theorem da.aaO(h:da S C c k)(Q:k<4294967290)(r:Int):da (mU S c C r).s (mU S c C r).c c (k+2)/\zt S (mU S c C r).s c:=by
 have Z:=h.Gn (o:=3) (.inl rfl) r 2 0;have G:=pD S ⟨3,c,C.seq+1,r,2,0,0⟩ ab1;unfold mU;rw[h.nx oM];generalize S.apply ⟨3,c,C.seq+1,r,2,0,0⟩=a at Z G;show da (if a.e≠0 then _ else if _ then _ else _:nP).s (if a.e≠0 then _ else if _ then _ else _:nP).c c (k+2)/\zt S (if a.e≠0 then _ else if _ then _ else _:nP).s c
 split
 ·exact⟨Z.He rfl rfl oM,G⟩
 ·split
  ·obtain⟨H,O⟩:=Z.VJ oM r a.v
   exact⟨H.He rfl rfl oM,G.trans O⟩
  ·have M:da a.s (({C with seq:=C.seq+1}:aY).drop r|>.kX r.toNat dO.zero) c (k+1):=Z.He rfl rfl (cO _)
   obtain⟨H,O⟩:=M.VJ oM r a.v;exact⟨H.He rfl rfl oM,G.trans O⟩
theorem da.ZM(h:da S C c k)(K:0<=k)(Q:k<4294967290)(r:Int):da (eB S c C r).s (eB S c C r).c c (k+2)/\zt S (eB S c C r).s c:=by
 obtain⟨H,O⟩:=h.aan K;unfold eB
 split
 ·exact aeJ
 ·split
  ·exact⟨H.He rfl rfl oM,O⟩
  ·obtain⟨u,J⟩:=H.aaO Q r
   exact⟨u,O.trans J⟩
theorem da.ZQ(h:da S C c k)(Q:k<4294967290)(r:Int):da (ie S c C r).s (ie S c C r).c c (k+2)/\zt S (ie S c C r).s c:=by
 unfold ie
 split
 ·exact aeJ
 ·have Z:=h.Gn (o:=4) (.inr (.inl rfl)) r 0 (C.tok r)
  have G:=pD S ⟨4,c,C.seq+1,r,0,C.tok r,0⟩ ab1;rw[h.nx oM];have M:=Ts ({C with seq:=C.seq+1}:aY) r;exact⟨Z.He M.1 M.2 oM,G⟩
theorem da.ZR(h:da S C c k)(r:Int)(Q:k<4294967290):da (eo S c C r).s (eo S c C r).c c (k+2)/\zt S (eo S c C r).s c:=by
 unfold eo
 split
 ·exact aeJ
 ·obtain⟨H,O⟩:=h.VJ oM r (C.tok r)
  exact⟨H.He rfl rfl oM,O⟩
theorem da.time(h:da S C c k){t:Int}(R:t<=18446744073709551615):da (S.apply ⟨7,0,0,0,0,0,t⟩).s C c k:=
 ⟨pw _ _ h.be R,pE _ _ h.len,h.Ke,h.Lq,h.num⟩
theorem BM(C:aY)(r i:Int)(b:LI):(dj C r i b).1.seq=C.seq/\(dj C r i b).1.a9=C.a9:=by
 unfold dj
 exact afa
theorem FY(X:dz)(c:Int)(C:aY)(r i n:Int):(df X c C r i n).c.seq=C.seq/\(df X c C r i n).c.a9=C.a9:=by
 unfold df
 split
 ·exact ac7
 ·split
  ·exact ac7
  ·unfold Au
   split
   ·exact ac7
   ·exact afa
theorem vK(X:dz)(c:Int)(C:aY)(r n:Int):(bz X c C r n).c.seq=C.seq/\(bz X c C r n).c.a9=C.a9:=by
 unfold bz
 split
 ·exact ac7
 ·unfold mX
  split
  ·exact ac7
  ·split
   ·exact ac7
   ·exact afa
end
def AK(X:WM)(k:Int):Prop:=∀c:Int,0<=c->c<3->da X.sv (X.c c.toNat) c k
theorem AK.step{X:WM}{k:Int}(h:AK X k)(K:0<=k)(Q:k<4294967290)(o:eH):AK (X.step o) (k+2):=by
 by_cases a:o.fit=true
 case neg=>
  have u:X.step o=⟨X.sv,X.st,X.c,X.ev++[X.bw o]⟩:=iN a;rw[u];exact λc E y=>(h c E y).He rfl rfl oM
 obtain⟨d1,d11,E,y⟩:=zH a;rw[WM.oQ a];have D:=h o.c E y;generalize F:X.c o.c.toNat=C at D;have l:X.one o=gJ X.sv X.st C o:=by unfold WM.one;rw[F]
 have d:∀{z:gD} {C':aY},(da z C' o.c (k+2)/\zt X.sv z o.c)->∀{p e b},X.one o=⟨z,p,C',b,e⟩->∀c:Int,0<=c->c<3->da (X.one o).sv (aI X.c o.c.toNat (X.one o).c c.toNat) c (k+2):=by
  intro z C' ⟨H,O⟩ p e b q c K M;rw[q];rcases cK X.c C' E K with⟨u,Y⟩|⟨u,Y⟩
  ·show da z (aI X.c o.c.toNat C' c.toNat) c (k+2)
   rw[Y,u];exact H
  ·show da z (aI X.c o.c.toNat C' c.toNat) c (k+2)
   rw[Y];exact O c _ _ u ((h c K M).He rfl rfl oM)
 have g:∀{C':aY},C'.seq=C.seq->C'.a9=C.a9->∀{p e b},X.one o=⟨X.sv,p,C',b,e⟩->∀c:Int,0<=c->c<3->da (X.one o).sv (aI X.c o.c.toNat (X.one o).c c.toNat) c (k+2):=
  λu Y _ _ _ q=>d ⟨D.He u Y oM,zt.refl _ _⟩ q
 show∀c:Int,0<=c->c<3->da (X.one o).sv (aI X.c o.c.toNat (X.one o).c c.toNat) c (k+2);have P:=l;unfold gJ at P;by_cases G:o.d=1
 ·rw[iP G]at P
  by_cases J:o.n<0
  ·rw[iP J]at P;exact aem
  ·rw[iN J]at P
   intro c K M;rw[P];show da (X.sv.apply _).s (aI X.c o.c.toNat C c.toNat) c (k+2);have B:=wrap_u64 (X.sv.be.now+o.n);rw[<-F,oK];exact((h c K M).He rfl rfl oM).time oM
 rw[iN G]at P;by_cases j:o.d=2
 ·rw[iP j]at P
  by_cases J:o.n<0
  ·rw[iP J]at P;exact aem
  ·rw[iN J]at P;exact g (by rfl) (by rfl) P
 rw[iN j]at P;by_cases i:o.d=3
 ·rw[iP i]at P;exact d (D.ZM K Q o.r) P
 rw[iN i]at P;by_cases t:o.d=4
 ·rw[iP t]at P;exact d (D.ZR o.r Q) P
 rw[iN t]at P;by_cases x:o.d=5
 ·rw[iP x]at P;exact g (BM ..).1 (BM ..).2 P
 rw[iN x]at P;by_cases w:o.d=6
 ·rw[iP w]at P;exact g (FY ..).1 (FY ..).2 P
 rw[iN w]at P;by_cases W:o.d=7
 ·rw[iP W]at P;exact g (vK ..).1 (vK ..).2 P
 rw[iN W]at P;by_cases A:o.d=8
 ·rw[iP A]at P;exact d (D.ZQ Q o.r) P
 rw[iN A]at P;by_cases L:o.d=9
 ·rw[iP L]at P
  exact d ⟨⟨D.be,D.len,cO _,(by show(0:Int)<=k+2;omega),λV=>by cases V⟩,zt.refl _ _⟩ P
 rw[iN L]at P;by_cases I:o.d=10
 ·rw[iP I]at P
  split at P
  ·exact aem
  ·exact aem
 rw[iN I]at P
 split at P
 ·exact aem
 ·exact aem
end
def vu(f:Nat):Value:= .func (.func f) #[] #[]
abbrev zI:Vq:= #[vu 34,vu 35,vu 36,vu 37,vu 38,vu 39,vu 40,vu 41,vu 42,vu 43,vu 44]
theorem Jj(w:World):(Instr.buildSlice 76 11 #[(0,vu 34),(1,vu 35),(2,vu 36),(3,vu 37),(4,vu 38),(5,vu 39),(6,vu 40),(7,vu 41),(8,vu 42),(9,vu 43),(10,vu 44)]).run prog w= .ok (.slice (aO w.heap.size) 11 11) (w.alloc (.cells zI 80)):=kR
theorem Kw{I:aK}{L:List az}(w:World)(h:St I w L):Calls prog 21 #[] w λe O=>∃j,e= .returned (.slice (aO j) 11 11)/\St I O (ab j 80 zI::L):=by
 have B:=Jj w;unfold vu at B;have H:=aa (h.alloc 80 zI);clear h
 go_enter func21,ntmps21
 go_wp2_with fail
 go_ret
 exact⟨_,rfl,H⟩
end Go.Proofs.YtblpaldggenbaaaGreatDoor
