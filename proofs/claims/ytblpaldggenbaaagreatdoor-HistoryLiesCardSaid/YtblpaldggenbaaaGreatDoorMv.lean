/- A part. -/
import Derived.Test.YtblpaldggenbaaaGreatDoorMu
namespace Go.Proofs.YtblpaldggenbaaaGreatDoor
open Go.RowKit Go.Proofs.Tryz
set_option maxRecDepth 100000
set_option maxHeartbeats 64000000
variable{R:Uk}{S:AK}
theorem TB{w:World}{p:Addr}{a b c d e f:Value}(h:∀j u,[a,b,c,d,e,f][j]? =some u->w.cell? (p.add j)=some u):w.cell? p=some a/\w.cell? ⟨p.block,p.off+1,none⟩=some b/\w.cell? ⟨p.block,p.off+2,none⟩=some c/\w.cell? ⟨p.block,p.off+3,none⟩=some d/\w.cell? ⟨p.block,p.off+4,none⟩=some e/\w.cell? ⟨p.block,p.off+5,none⟩=some f:=
 ⟨by simpa[Addr.add]using h 0 a rfl,by simpa[Addr.add]using h 1 b rfl,by simpa[Addr.add]using h 2 c rfl,by simpa[Addr.add]using h 3 d rfl,by simpa[Addr.add]using h 4 e rfl,by simpa[Addr.add]using h 5 f rfl⟩
def Cb(Y:Addr)(q:RQ)(v:Value)(w:World):Prop:=(w.cell? Y=some (iI q.op)/\w.cell? ⟨Y.block,Y.off+1,none⟩=some (iI q.region)/\w.cell? ⟨Y.block,Y.off+2,none⟩=some (iI q.index)/\w.cell? ⟨Y.block,Y.off+3,none⟩=some (iU q.token)/\w.cell? ⟨Y.block,Y.off+4,none⟩=some (iW q.seq)/\w.cell? ⟨Y.block,Y.off+5,none⟩=some v)/\aA w .u8 v q.data
theorem St.UN{I:aH}{w:World}{L:List aw}{A:OA}{n c:Nat}{q:RQ}{p:List RQ}(h:St I w (aB 6 eO (.slice A n c) (q::p)::L)):∃Y G i W,A=some Y/\St I w (aS (Cb Y q (.slice G i W))::aB 6 eO (.slice A n c) (q::p)::L):=by
 obtain⟨Y,N,r,C,D,⟨v,K,z⟩,Z⟩:=h.elem 0 rfl (k:=0) (x:=q) rfl;obtain⟨G,W,rfl,_,_,_⟩:=z;refine⟨Y,G,q.data.length,W,r,Z.bu (λO J=> ?_)⟩;obtain⟨d,g,a,S⟩:=J;rw[K]at a d;rw[show Y.add (0*6)=Y from rfl]at d;refine⟨TB d,?_⟩;have:g= .slice G q.data.length W:=by
  have:=a;simp only[Hc]at this;exact this.2.2.2.2.2.1.symm
 rw[<-this];exact S
theorem St.Lk{I:aH}{w:World}{L:List aw}{A A':OA}{n c:Nat}{q:RQ}{p:List RQ}(h:St I w (aB 6 eO (.slice A n c) (q::p)::L))(r:∀Y,A=some Y->c≠1->A'=some (Y.add 6))(g:p.length+1<=c)(Q:c<=9223372036854775807):St I w (aB 6 eO (.slice A' (n-1) (c-1)) p::L):=by
 obtain⟨b,Z⟩:=h.ex;refine St.cZ (f:=λb=>aS (λw=>bF w 6 eO (.slice A' (n-1) (c-1)) b p)) (λi=>b (i+1)) (Z.bu (λO J=> ?_));obtain⟨o,d,e,Z,V,M⟩:=J;injection e with S P t;subst S;subst t;have W:n=p.length+1:=P;refine⟨A',c-1,by rw[W];rfl,oM,by unfold maxLen;omega,λi x z=> ?_⟩;obtain⟨Y,k,C,a,G⟩:=M (i+1) x z;have K:c≠1:=by
  have:=(lQ.1 z).1;have:0<p.length:=oM
  omega
 refine⟨Y.add 6,r Y k K,C,λj u N=> ?_,G⟩;have:=a j u N;rw[dk]at this;rw[dk,dk,show 6+(i*6+j)=(i+1)*6+j by omega];exact this
theorem BZ{I:aH}{L:List aw}(hT:ml I)(B g j:Nat)(b:WX)(x:CX)(D u:List PU)(X:eu){N:Nat->Rg}{n:Nat}{T:Int}(k:Nat)(y:jc)(v:Value)(l:Int)(w:World)(hX:fM X N n T)(hn:n<=300000)(F0:T<256)(hk:k<4)(R:0<=x.c.tok (k:Int)/\x.c.tok (k:Int)<18446744073709551616)
 (hy:y.eY=true->y.au.length<=300000/\∀q∈y.au,fE q) (hp:y.eY=false->(cT X x.id (k:Int) (x.c.tok (k:Int)) y l).e=0->(cT X x.id (k:Int) (x.c.tok (k:Int)) y l).r.au.length<=300000/\(∀q∈(cT X x.id (k:Int) (x.c.tok (k:Int)) y l).r.au,fE q)/\∃N',fM (cT X x.id (k:Int) (x.c.tok (k:Int)) y l).x N' (n+2) T)
 (hl:u.length<=1000000) (hd:∀q∈u,q.data.length<=1000000)
 (h:St I w (cu B b X::an (x.cB k y v) g D u::ab j 169 #[iI (l)]::aB 6 eO v y.au::L)):
 Calls prog 68 #[pO B,pO g,iI (k:Nat),pO j] w λe Y0=>e= .returned (iI (cY X x.id (k:Int) (x.c.tok (k:Int)) y u l).e)/\∃v',St I Y0 (cu B b (cY X x.id (k:Int) (x.c.tok (k:Int)) y u l).x::an (x.cB k (cY X x.id (k:Int) (x.c.tok (k:Int)) y u l).r v') g D (cY X x.id (k:Int) (x.c.tok (k:Int)) y u l).ws::ab j 169 #[iI (cY X x.id (k:Int) (x.c.tok (k:Int)) y u l).l]::aB 6 eO v' (cY X x.id (k:Int) (x.c.tok (k:Int)) y u l).r.au::L):=by
 obtain⟨t,J0⟩:=nM (x.c.tok (k:Int));obtain⟨S,hS⟩:=nM (cY X x.id (k:Int) (x.c.tok (k:Int)) y u l);rw[<-hS];refine xH (And.intro hl hd) (And.intro hX (And.intro hn F0)) hk F0 J0 R λHL U V X0 O0 P0=>?_;have i0:(0:Int)<=(k:Int):=oM
 have i1:(k:Int)<4:=oM
 obtain⟨K,J,M⟩:=(h.fi 1).bT;obtain⟨bs,G0⟩:=nM (y.eY);have kr:w.cell? ⟨g,22+k*5+2,none⟩=some (.bool bs):=((M.ah 0 rfl).cell (22+k*5+2)).trans ((Dt (x.cB k y v) K J V).trans (by rw[nk,G0]));rw[<-J0]at hS hp;refine bm (And.intro G0.symm (And.intro hS (And.intro hy hp))) h λC H=>?_;clear h M hX hn F0 hk R hl hd K J G0 hS J0 hy hp
 go_enter func68,ntmps68
 go_upto_if 23 with fail
 go_cut [] (λO=>∃(X:eu) (y:jc) (l:Int) (v:Value) (N:Nat->Rg) (n:Nat),S=sS X x.id (k:Int) t y u l/\n<=300002/\fM X N n T/\(y.au.length<=300000/\∀q∈y.au,fE q)/\St I O (cu B b X::an (x.cB k y v) g D u::ab j 169 #[iI (l)]::aB 6 eO v y.au::L))
 case first=>
  cases bs with
  |true=>
   refine bm (show S=sS X x.id (k:Int) t y u l from C.2.1.trans (iP C.1)) (C.2.2.1 C.1) λA HY=>?_
   go_wp2_with fail
   go_meet
   exact⟨X,y,l,v,N,n,A,by have:=U.2.1;omega,U.1,HY,H⟩
  |false=>
   obtain⟨P,hP⟩:=nM (cT X x.id (k:Int) t y l);have HP:=aa hP;have A:Hid (S=if P.e≠0 then⟨P.x,P.r,u,P.l,P.e⟩else sS P.x x.id (k:Int) t P.r u P.l):=C.2.1.trans (by rw[hP];exact iN (by rw[C.out.1];decide));have hp:=C.2.2.2 C.1;rw[<-hP]at hp;have W0:=aa hp;clear hP hp
   go_wp2_with fail
   refine qK (Jw hT B g j b x D u X k y v l _ U.1 (by have:=U.2.1;omega) U.2.2 V P0 H) ?_;rintro w1⟨v1,h⟩;rw[<-O0.out,<-HP.out]at h⊢;have H2:=aa h;clear h H kr;by_cases F:P.e=0
   ·have e1:(P.e !=0)=false:=by simp[F]
    refine bm (A.trans (iN (by simp[F]))) (W0 F) λE0 HE=>?_;clear F
    go_wp2_with fail
    go_meet
    obtain⟨a1,a2,N1,a3⟩:=HE.out;exact⟨P.x,P.r,P.l,v1,N1,n+2,E0,by have:=U.2.1;omega,a3,⟨a1,a2⟩,H2⟩
   ·have e1:(P.e !=0)=true:=by simp[F]
    have E0:=aa (A.trans (iP F));clear F
    go_wp2_with fail
    go_ret
    rw[E0.out];exact⟨rfl,v1,H2⟩
 case rest=>
  clear H kr U C P0 O0;obtain⟨X,y,l,v,N,n,hS,hn,hX,hY,h⟩:=hcut;refine mr hS (And.intro hX (And.intro hn X0)) hY h λA U HY H=>?_;clear hS hn hX hY h
  go_wp2_with fail
  go_loopg [] (y).au.length (λgh wr=>∃(p:List RQ) (r:eu) (E:Int) (vc:Value) (Nc:Nat->Rg) (nc:Nat),gh=p.length/\jp x.id (y).au X l=jp x.id p r E/\fM r Nc nc T/\nc+p.length<=700000/\(∀q∈p,fE q)/\St I wr (cu B b r::an (x.cB k ⟨(y).seq,(y).iy,(y).eY,p,(y).bS⟩ vc) g D u::ab j 169 #[iI E]::aB 6 eO vc p::L))
  case atStart=>exact⟨(y).au,X,l,v,N,n,rfl,rfl,U.1,by have:=HY.1;have:=U.2.1;omega,HY.2,H⟩
  case round=>
   clear H;obtain⟨p,r,E,vc,Nc,nc,hg,C0,R0,T0,S0,h⟩:=hrel;refine ib hg C0 (And.intro R0 (And.intro T0 S0)) λHG N0 i=>?_;clear hg C0 R0 T0 S0;obtain⟨K,J,M⟩:=(h.fi 1).bT;have kp:wr.cell? ⟨g,22+k*5+3,none⟩=some vc:=((M.ah 0 rfl).cell (22+k*5+3)).trans ((l9 (x.cB k ⟨(y).seq,(y).iy,(y).eY,p,(y).bS⟩ vc) K J V).trans (by rw[tP]));clear M K J;obtain⟨A0,c,hV,B0,H0⟩:=(h.dJ 3 rfl).slice
   cases p with
   |nil=>
    have hV:vc= .slice A0 0 c:=hV;subst hV;obtain⟨K,J,M⟩:=(h.fi 1).bT;have k4:wr.cell? ⟨g,22+k*5+4,none⟩=some (iI (y).bS):=((M.ah 0 rfl).cell (22+k*5+4)).trans ((yW (x.cB k ⟨(y).seq,(y).iy,(y).eY,[],(y).bS⟩ (.slice A0 0 c)) K J V).trans (by rw[nk]));have kz:=(M.ah 0 rfl).frozen;have W:=St.fm (h.fi 1) (22+k*5+4) (iI 0) (zR x ⟨(y).seq,(y).iy,(y).eY,[],(y).bS⟩ (.slice A0 0 c) 0 V);have H2:=aa W;clear h M W K J B0 H0
    go_wp2_with fail
    refine qH (Km (cx:=x.cB k ⟨(y).seq,(y).iy,(y).eY,[],0⟩ (.slice A0 0 c)) g D u (k:Int) (y).bS _ HL.1 HL.2 H2) λw4 z=>?_;clear H2
    go_wp2_with fail
    go_ret
    have EP:jp x.id (y).au X l=⟨r,[],E,0⟩:=N0.out;have ES:S=⟨r,{y with au:=[],bS:=0},OX u (k:Int) (y).bS,E,Yz u (k:Int) (y).bS⟩:=by
     rw[A.out];unfold sS;rw[EP];exact iN acy
    rw[ES];exact⟨rfl,.slice A0 0 c,z.sub⟩
   |cons q p=>
    have hV:vc= .slice A0 (p.length+1) c:=hV;have B0:p.length+1<=c:=B0;subst hV;obtain⟨Y,G,d,o,rfl,Z⟩:=(h.fi 3).UN;have H1:=aa Z;have l0:(0:Int)<((p.length+1:Nat):Int):=oM
    have l1:(0:Int)<(p.length:Int)+1:=oM
    clear h Z
    go_wp2_with fail
    refine ak (I:=I) (L0:=aB 6 eO (.slice (some Y) (p.length+1) c) (q::p)::L) [⟨none,some 10,λe=>an (x.cB k ⟨(y).seq,(y).iy,(y).eY,q::p,(y).bS⟩ (.slice (some Y) (p.length+1) c)) g D u⟩,⟨some 10,none,λe=>an (x.cB k ⟨(y).seq,(y).iy,(y).eY,q::p,(y).bS⟩ (.slice (some Y) (p.length+1) c)) g D u⟩,⟨none,some 10,λe=>cu B b r⟩,⟨some 10,none,λe=>cu B b (r.ask x.id q (E%4)).x⟩,⟨none,some 9,λe=>ab j 169 #[iI (E)]⟩,⟨some 9,none,λe=>ab j 169 #[iI (E/4)]⟩,⟨none,none,λe=>aS (Cb Y q (.slice G d o))⟩,⟨some 10,none,λe=>aB 1 dP (e 10).v (r.ask x.id q (E%4)).l⟩] [[],[],[],[2],[2,3],[2,3,4],[2,3,4,5],[2,3,4,5,6],[],[8],rG 10,rG 11,rG 12,rG 12,rG 13,rG 15] (rG 16) rfl kR kR kR (by rfl) (λ_=>rfl) H1.fk ?_;refine sO ?_;refine kj _ rfl (λe O Lx h=>by(have h:=h.fn;obtain⟨K,J,M⟩:=(h.fi 0).bT;have kp:O.cell? ⟨g,22+k*5+3,none⟩=some (.slice (some Y) (p.length+1) c):=((M.ah 0 rfl).cell (22+k*5+3)).trans ((l9 (x.cB k ⟨(y).seq,(y).iy,(y).eY,q::p,(y).bS⟩ (.slice (some Y) (p.length+1) c)) K J V).trans (by rw[tP]));obtain⟨⟨c0,c1,c2,c3,c4,c5⟩,_⟩:=h.jr (Q:=Cb Y q (.slice G d o));go_simp;try rfl)) ?_;simp only[aR];refine kj (λe=> .pointer (some Y)) rfl (λe O Lx h=>gS) ?_;simp only[aR];refine kj _ rfl (λe O Lx h=>by(have h:=h.fn;obtain⟨K,J,M⟩:=(h.fi 0).bT;have kp:O.cell? ⟨g,22+k*5+3,none⟩=some (.slice (some Y) (p.length+1) c):=((M.ah 0 rfl).cell (22+k*5+3)).trans ((l9 (x.cB k ⟨(y).seq,(y).iy,(y).eY,q::p,(y).bS⟩ (.slice (some Y) (p.length+1) c)) K J V).trans (by rw[tP]));obtain⟨⟨c0,c1,c2,c3,c4,c5⟩,_⟩:=h.jr (Q:=Cb Y q (.slice G d o));go_simp;try rfl)) ?_;simp only[aR];refine lY ?_;refine aZ 70 (λe=> #[pO j]) (λe=> iI (E%4)) rfl (λe O Lx h=>by(
     have h:=h.fn;refine(xS j E _ (h.fi 2)).mono ?_;rintro A1 wy⟨rfl,Z⟩;exact⟨⟨none,0,default⟩,rfl,Z.fk⟩)) ?_
    simp only[aR];refine aZ 69 (λe=> #[pO B,pO g,nQ q (.slice G d o),iI (E%4)]) (λe=> .tuple #[(e 10).v,iI (r.ask x.id q (E%4)).e]) rfl (λe O Lx h=>by(
     have h:=h.fn;refine(xW hT B g b (x.cB k ⟨(y).seq,(y).iy,(y).eY,q::p,(y).bS⟩ (.slice (some Y) (p.length+1) c)) D u r q (E%4) G d o _ i.1 (by have:=i.2.1;omega) U.2.2 (i.2.2 q Je) ⟨Sz _ dC,Uz _ dC⟩ (((h.jT (Q:=Cb Y q (.slice G d o))).bu (R':=λw=>aA w .u8 (.slice G d o) q.data) (λ_ hx=>hx.2)).pk 5 [0,2,1,4,3])).mono ?_;rintro A1 wy⟨V0,rfl,Z⟩;have Z:St I wy (aB 1 dP V0 (r.ask x.id q (E%4)).l::cu B b (r.ask x.id q (E%4)).x::an (x.cB k ⟨(y).seq,(y).iy,(y).eY,q::p,(y).bS⟩ (.slice (some Y) (p.length+1) c)) g D u::aS (Cb Y q (.slice G d o))::ab j 169 #[iI (E/4)]::Lx):=Z;exact⟨⟨none,0,V0⟩,rfl,Z.fk⟩)) ?_
    simp only[aR];refine sO ?_;refine ax ?_;intro e w1 h;have h:=h.fn;obtain⟨N2,Q0,_⟩:=i.out.1.ask (by have:=i.2.1;omega) U.2.2 x.id (i.2.2 q Je) (E%4);have U0:jp x.id (q::p) r E=if(r.ask x.id q (E%4)).e≠0 then⟨(r.ask x.id q (E%4)).x,q::p,E/4,(r.ask x.id q (E%4)).e⟩else jp x.id p (r.ask x.id q (E%4)).x (E/4):=rfl;have C0:=N0.trans U0;generalize r.ask x.id q (E%4)=a at*;refine bm Q0 C0 λK0 M0=>?_;have Z0:=h;have h3:=h.pk 5 [0,1,2];have z:=aa h3;clear h Z0 U0 C0 H1 Q0;by_cases F:a.e=0
    ·have e1:(a.e !=0)=false:=by simp[F]
     have D0:=aa (M0.trans (iN (by simp[F])));obtain⟨K,J,M⟩:=z.out.bT;have kp:w1.cell? ⟨g,22+k*5+3,none⟩=some (.slice (some Y) (p.length+1) c):=((M.ah 0 rfl).cell (22+k*5+3)).trans ((l9 (x.cB k ⟨(y).seq,(y).iy,(y).eY,q::p,(y).bS⟩ (.slice (some Y) (p.length+1) c)) K J V).trans (by rw[tP]));have kz:=(M.ah 0 rfl).frozen;have m1:(1:Int)<=((p.length+1:Nat):Int):=oM
     have m2:(1:Int)<=(p.length:Int)+1:=oM
     have m3:((p.length+1:Nat):Int)<=(c:Int):=oM
     have m4:(p.length:Int)+1<=(c:Int):=oM
     have m5:(1:Int)<=(c:Int):=oM
     clear M F K J;by_cases hd:c=1
     ·subst hd
      obtain rfl:p=[]:=AJ oM;have z:Hid (St I w1 (an (x.cB k ⟨(y).seq,(y).iy,(y).eY,[q],(y).bS⟩ (.slice (some Y) 1 1)) g D u::cu B b a.x::ab j 169 #[iI (E/4)]::aB 6 eO (.slice (some Y) 1 1) [q]::L)):=z;have R:=(z.fi 3).Lk (A':=some Y) (λ_ _ hx=>absurd rfl hx) B0 H0;have R:St I w1 (aB 6 eO (.slice (some Y) 0 0) []::an (x.cB k ⟨(y).seq,(y).iy,(y).eY,[q],(y).bS⟩ (.slice (some Y) 1 1)) g D u::cu B b a.x::ab j 169 #[iI (E/4)]::L):=R;have W:=St.fm (R.fi 1) (22+k*5+3) (.slice (some Y) 0 0) (qS x ⟨(y).seq,(y).iy,(y).eY,[q],(y).bS⟩ (.slice (some Y) 1 1) [] (.slice (some Y) 0 0) V);have H4:=aa W;clear R W z
      go_wp2_with fail
      go_roundg 0
      case measure=>have h5:gk=1:=HG.out;omega
      case rel=>exact⟨[],a.x,E/4,.slice (some Y) 0 0,N2,nc+1,rfl,D0,K0,by have h5:nc+1<=700000:=i.2.1;exact h5,λq' I0=>(by cases I0),H4.sub⟩
     ·have R:=(z.fi 3).Lk (A':=some (⟨Y.block,Y.off+6,none⟩:Addr)) (λB1 e _=>by injection e with e;subst e;rfl) B0 H0
      have R:St I w1 (aB 6 eO (.slice (some (⟨Y.block,Y.off+6,none⟩:Addr)) p.length (c-1)) p::an (x.cB k ⟨(y).seq,(y).iy,(y).eY,q::p,(y).bS⟩ (.slice (some Y) (p.length+1) c)) g D u::cu B b a.x::ab j 169 #[iI (E/4)]::L):=R;have W:=St.fm (R.fi 1) (22+k*5+3) (.slice (some (⟨Y.block,Y.off+6,none⟩:Addr)) p.length (c-1)) (qS x ⟨(y).seq,(y).iy,(y).eY,q::p,(y).bS⟩ (.slice (some Y) (p.length+1) c) p (.slice (some (⟨Y.block,Y.off+6,none⟩:Addr)) p.length (c-1)) V);have H4:=aa W;clear R W z
      go_wp2_with fail
      go_roundg p.length
      case measure=>have h5:gk=p.length+1:=HG.out;omega
      case rel=>exact⟨p,a.x,E/4,.slice (some (⟨Y.block,Y.off+6,none⟩:Addr)) p.length (c-1),N2,nc+1,rfl,D0,K0,by have h5:nc+(p.length+1)<=700000:=i.2.1;omega,λq' I0=>i.2.2 q' (Dl _ I0),H4.sub⟩
    ·have e1:(a.e !=0)=true:=by simp[F]
     refine bm (M0.trans (iP F)) F λD0 HE=>?_;clear F
     go_wp2_with fail
     go_ret
     have ES:S=⟨a.x,{y with au:=q::p},u,E/4,a.e⟩:=by
      rw[A.out];unfold sS;rw[D0.out];exact iP HE
     rw[ES];exact⟨rfl,_,z.sub⟩
theorem To{I:aH}{L:List aw}(hT:ml I)(B g:Nat)(b:WX)(X:eu){N:Nat->Rg}{n:Nat}{T:Int}(o:jd)(A J:Value)(w:World)(P:fM X N n T)(p:n<=900000)(U:T<=250)
 (h:St I w (ai .i64 J o.p::cu B b X::L)):
 Rt I w 44 #[pO B,pO g,.agg (fw o A J)] (.tuple #[sN,iI 0]) (cu B b (if o.i≠0 then X.gG o.n else X.bz o.p)::L):=by
 obtain⟨C,r,l,_⟩:=P.bz p U o.p;have V:=aa (And.intro C (And.intro r l));obtain⟨S,d,C0,D0,K⟩:=h.swap.zo;obtain⟨a,j,i,Z⟩:=(K.fi 2).stO;have h:=Z.sub (L':=ai .i64 J o.p::ab B 55 (wC (b.az (.slice S X.az.length d)))::ab b.gs 122 (gK 5 b.gd (Ss X.up a))::ab a 151 (jb b.gd j i 0 8 X.s.dn)::jR j b.gd X.s.J::dL i X.s.M::da b.gd X.s.D::ay 184 10 lR (.slice S X.az.length d) X.az::L) acB;clear P p U C r l C0 D0 K Z;by_cases z:o.i=0
 ·rw[iN (by simp[z])]
  have u:(o.i !=0)=false:=by simp[z]
  clear z;have Z:=h.alloc 30 (fw o A J);obtain⟨t,c⟩:=nM (w.heap.size);obtain⟨y,W,q,R,Q,k,D⟩:=(Z.ah 0 rfl).seven;rw[<-c]at Z;refine bm c Z λY H=>?_;clear h Z c
  go_enter func44,ntmps44
  go_wp2_with fail
  rw[<-Y.out];clear y W q R Q k D u;refine ak (I:=I) (L0:=ab a 151 (jb b.gd j i 0 8 X.s.dn)::jR j b.gd X.s.J::dL i X.s.M::ay 184 10 lR (.slice S X.az.length d) X.az::L) [⟨none,none,λe=>ab t 30 (fw o A J)⟩,⟨none,none,λe=>ab B 55 (wC (b.az (.slice S X.az.length d)))⟩,⟨none,some 6,λe=>ab b.gs 122 (gK 5 b.gd (Ss X.up a))⟩,⟨none,some 6,λe=>da b.gd X.s.D⟩,⟨none,some 6,λe=>ai .i64 J o.p⟩,⟨some 6,none,λe=>uN b.gs b.gd (X.bz o.p)⟩] [[],[0],[0,1],rG 3,[],[4],rG 6,rG 7,rG 8] (rG 9) rfl kR kR kR (by rfl) (λ_=>rfl) H.fk ?_;refine Lb ?_;refine aZ 77 (λe=> #[pO b.gs,J]) (λe=> iI 0) rfl (λe wx O h=>by(
   have h:=h.fn;refine(NM hT b.gs b.gd 5 (Ss X.up a) X.s.D J o.p _ V.1 V.2.1 V.2.2 (h.pk 5 [2,3,4,0,1])).mono ?_;rintro E0 E⟨B0,A0,x,rfl,Z⟩;have Z:=St.YG (a:=B0) (j:=A0) (i:=x) (X:=X.bz o.p) Z;exact⟨⟨none,0,default⟩,rfl,Z.fk⟩)) ?_
  simp only[aR];refine vM ?_;refine ax ?_;intro e w1 h;have h:=h.fn;have G:=aa (St.rD (X:=X.bz o.p) (h.pk 7 [1,6,2]));clear h H
  go_wp2_with fail
  go_ret2
  exact⟨rfl,G⟩
 ·rw[iP z]
  have u:(o.i !=0)=true:=by simp[z]
  clear z;have Z:=h.alloc 30 (fw o A J);obtain⟨t,c⟩:=nM (w.heap.size);obtain⟨y,W,q,R,Q,k,D⟩:=(Z.ah 0 rfl).seven;rw[<-c]at Z;refine bm c Z λY H=>?_;clear h Z c
  go_enter func44,ntmps44
  go_wp2_with fail
  rw[<-Y.out];clear y W q R Q k D u;refine ak (I:=I) (L0:=ab b.gs 122 (gK 5 b.gd (Ss X.up a))::ab a 151 (jb b.gd j i 0 8 X.s.dn)::jR j b.gd X.s.J::dL i X.s.M::ay 184 10 lR (.slice S X.az.length d) X.az::L) [⟨none,none,λe=>ab t 30 (fw o A J)⟩,⟨none,none,λe=>ab B 55 (wC (b.az (.slice S X.az.length d)))⟩,⟨none,some 6,λe=>da b.gd X.s.D⟩,⟨some 6,none,λe=>da b.gd (X.s.D.Bv o.n)⟩] [[],[0],[0,1],rG 3,[],[4],rG 6] (rG 7) rfl kR kR kR (by rfl) (λ_=>rfl) H.fk ?_;refine Lb ?_;refine aZ 76 (λe=> #[pO b.gd,iI o.n]) (λe=> .tuple #[]) rfl (λe wx O h=>by(
   have h:=h.fn;refine(Vn o.n (h.fi 2)).mono ?_;rintro E0 E⟨rfl,Z⟩;have Z:St I E (da b.gd (X.s.D.Bv o.n)::ab t 30 (fw o A J)::ab B 55 (wC (b.az (.slice S X.az.length d)))::O):=Z;exact⟨⟨none,0,default⟩,rfl,Z.fk⟩)) ?_
  simp only[aR];refine ax ?_;intro e w1 h;have h:=h.fn;have M:=h.pk 7 [3,4,5,6,2,1];have F:=St.YG (a:=a) (j:=j) (i:=i) (X:=X.gG o.n) M;have G:=aa (St.rD (X:=X.gG o.n) (F.pk 3 [1,2,0]));clear h M F H
  go_wp2_with fail
  go_ret2
  exact⟨rfl,G⟩
theorem St.Zo{I:aH}{w:World}{L:List aw}{A:OA}{n c k:Nat}{T:List (Int×RQ)}{x:Int×RQ}(h:St I w (ay 184 10 lR (.slice A n c) T::L))(F:T[k]? =some x):
 ∃V U i E e a,A=some ⟨V,0,none⟩/\n=T.length/\(U.drop (k*10)).take 10=(iu 11 x.1 5 i false (.slice E e a)).toList/\St I w (ai .u8 (.slice E e a) (aY x.2)::bY 184 10 (.slice A n c) n U::aS (λw=>∀(i:Nat) x,T[i]? =some x->lR w ((U.drop (i*10)).take 10) x)::L):=by
 obtain⟨U,W,C,Z⟩:=h.bK;have M:=(lQ.1 F).1;have B:∃b,A=some ⟨b,0,none⟩:=by
  rcases(Z.row 0 rfl).2 with⟨_,K⟩|⟨g,cap,l,S,_⟩
  ·omega
  ·injection S with S _ _
   exact⟨g,S⟩
 obtain⟨b,B⟩:=B;obtain⟨i,E,e,a,Y,_⟩:=Z.get 1 rfl k x F;refine⟨b,U,i,E,e,a,B,W,Y,(Z.copy 1 rfl).bu (λO G=> ?_)⟩;obtain⟨p,t,J,o,y,z⟩:=G k x F;rw[Y]at y;have:Value.slice E e a=Value.slice t J o:=by
  have:=y;simp only[Hc]at this;exact this.2.2.2.2.2.2.2.2.1
 rw[this];exact z
theorem Hh{I:aH}{w:World}{L:List aw}{V n c k:Nat}{U:LV}{f i:Int}{v:Value}(h:St I w (bY 184 10 (.slice (aO V) n c) n U::L))(F:k<n)(Y:(U.drop (k*10)).take 10=(iu 11 f 5 i false v).toList):
 ∀j u,(iu 11 f 5 i false v).toList[j]? =some u->w.cell? ⟨V,k*10+j,none⟩=some u:=by
 intro j u E;obtain⟨t,r,_,_,D⟩:=h.sl.2 oM;injection r with r;subst r;rw[<-Y,AH]at E
 split at E
 ·rw[xV]at E
  have:=D (k*10+j) u E;rwa[show(⟨V,0,none⟩:Addr).add (k*10+j)=⟨V,k*10+j,none⟩by simp[Addr.add];intro a b;omega]at this
 ·cases E
theorem Tc{I:aH}{L:List aw}(hT:ml I)(B g:Nat)(b:WX)(X:eu){N:Nat->Rg}{n:Nat}{T:Int}(o:jd)(A J:Value)(w:World)(u:fM X N n T)(P:n<=900000)(Y:T<256)
 (h:St I w (cu B b X::L)):
 Rt I w 43 #[pO B,pO g,.agg (fw o A J)] (.tuple #[sN,iI (if o.n<0\/(X.az.length:Int)<=o.n then 1 else 0)]) (cu B b (if o.n<0\/(X.az.length:Int)<=o.n then X else X.df ((X.az.getD o.n.toNat (0,mZ 0 0)).2))::L):=by
 obtain⟨gw,d,C0,D0,K⟩:=h.zo;clear h;by_cases r:o.n<0
 ·rw[iP (.inl r),iP (.inl r)]
  have d1:decide (o.n<0)=true:=dZ r;have h:=K;clear K u P Y C0 D0;have Z:=h.alloc 30 (fw o A J);obtain⟨t,c⟩:=nM (w.heap.size);obtain⟨y,z,q,G,Q,R,W⟩:=(Z.ah 0 rfl).seven;rw[<-c]at Z;refine bm c Z λA0 H=>?_;clear h Z c r
  exact aeM
 ·have d1:decide (o.n<0)=false:=dQ r
  by_cases S:(X.az.length:Int)<=o.n
  ·rw[iP (.inr S),iP (.inr S)]
   have d2:decide (o.n≥(X.az.length:Int))=true:=dZ S;have d3:decide ((X.az.length:Int)<=o.n)=true:=dZ S;have h:=K;have M:=K.alloc 30 (fw o A J);have q6:World.cell? _ ⟨B,6,none⟩=some (.slice gw X.az.length d):=(M.ah 1 rfl).cell 6;clear K M u P Y C0 D0;have Z:=h.alloc 30 (fw o A J);obtain⟨t,c⟩:=nM (w.heap.size);obtain⟨y,z,q,G,Q,R,W⟩:=(Z.ah 0 rfl).seven;rw[<-c]at Z;refine bm c Z λA0 H=>?_;clear h Z c r S
   exact aeM
  ·rw[iN oM,iN oM]
   have d2:decide (o.n≥(X.az.length:Int))=false:=dQ S;have d3:decide ((X.az.length:Int)<=o.n)=false:=dQ S;obtain⟨k,hk⟩:∃k:Nat,o.n=(k:Int):=⟨o.n.toNat,oM⟩;have l:k<X.az.length:=oM
   have hx:=gP l;have F0:X.az.getD o.n.toNat (0,mZ 0 0)=X.az[k]:=by rw[show o.n.toNat=k by omega,NP,hx];rfl
   rw[F0];have hm:X.az[k]∈X.az:=Sp l;generalize X.az[k]=p at*;refine bm (u.g p hm) (And.intro u (And.intro P Y)) λHG HX=>?_;obtain⟨V,U,F,E,D,C,rfl,_,he,h4⟩:=(K.fi 1).Zo hx;refine bm he l λHE E0=>?_;have h:=h4.pk 5 [0,3,1,4,2];have M:=h.alloc 30 (fw o A J);have q6:World.cell? _ ⟨B,6,none⟩=some (.slice (aO V) X.az.length d):=(M.ah 2 rfl).cell 6;have k0:(0:Int)<=(k:Int):=oM
   have k1:(k:Int)<(X.az.length:Int):=oM
   have B0:=aa hk;clear K M h4 u P Y C0 D0 hx hm F0 he l;have Z:=h.alloc 30 (fw o A J);obtain⟨t,c⟩:=nM (w.heap.size);obtain⟨y,z,q,G,Q,R,W⟩:=(Z.ah 0 rfl).seven;rw[<-c]at Z;refine bm c Z λA0 H=>?_;clear h Z c r S
   go_enter func43,ntmps43
   go_wp2_with fail
   go_wp2_with (go_quiet (fail))
   rw[<-A0.out];have H1:=aa (H.drewN nq);clear H y z q G Q R W q6;refine ak (I:=I) (L0:=aS (λw=>∀(i:Nat) x,X.az[i]? =some x->lR w ((U.drop (i*10)).take 10) x)::L) [⟨none,none,λe=>ab t 30 (fw o A J)⟩,⟨none,none,λe=>ab B 55 (wC (b.az (.slice (aO V) X.az.length d)))⟩,⟨none,none,λe=>bY 184 10 (.slice (aO V) X.az.length d) X.az.length U⟩,⟨none,some 12,λe=>ai .u8 (.slice E D C) (aY p.2)⟩,⟨none,some 12,λe=>uN b.gs b.gd X⟩,⟨some 12,none,λe=>uN b.gs b.gd (X.df p.2)⟩] [[],[0],[0,1],rG 3,[],[4],[4,5],[4,5,6],[],[8],[4,5,6,7,8,9],[4,5,6,7,8,9,10],rG 12] (rG 13) rfl kR kR kR (by rfl) (λ_=>rfl) H1.fk ?_
   iterate 2 (refine yk ?_;refine kj _ rfl (λe j O h=>by(have h:=h.fn;obtain⟨y,z,q,G,Q,R,W⟩:=(h.ah 0 rfl).seven;rw[B0.out]at Q;have q1:j.cell? (aD B 1)=some (pO b.gd):=(h.ah 1 rfl).cell 1;have q2:j.cell? (aD B 2)=some (pO b.gs):=(h.ah 1 rfl).cell 2;have q6:j.cell? (aD B 6)=some (.slice (aO V) X.az.length d):=(h.ah 1 rfl).cell 6;have a:=Hh (h.fi 2) E0 HE;have m0:j.cell? ⟨V,k*10,none⟩=some (iI 11):=a 0 _ rfl;have m1:j.cell? ⟨V,k*10+1,none⟩=some (iI p.1):=a 1 _ rfl;have m2:j.cell? ⟨V,k*10+2,none⟩=some (iI 5):=a 2 _ rfl;have m3:j.cell? ⟨V,k*10+3,none⟩=some (iU 0):=a 3 _ rfl;have m4:j.cell? ⟨V,k*10+4,none⟩=some (iU F):=a 4 _ rfl;have m5:j.cell? ⟨V,k*10+5,none⟩=some (iU 0):=a 5 _ rfl;have m6:j.cell? ⟨V,k*10+6,none⟩=some (iU 0):=a 6 _ rfl;have m7:j.cell? ⟨V,k*10+7,none⟩=some (.bool false):=a 7 _ rfl;have m8:j.cell? ⟨V,k*10+8,none⟩=some (.slice E D C):=a 8 _ rfl;have m9:j.cell? ⟨V,k*10+9,none⟩=some sN:=a 9 _ rfl;go_simp;try rfl)) ?_;simp only[aR])
   refine lY ?_;refine kj (λe=> iI (k:Nat)) rfl (λe j O h=>by(have h:=h.fn;obtain⟨y,z,q,G,Q,R,W⟩:=(h.ah 0 rfl).seven;rw[B0.out]at Q;go_simp;try rfl)) ?_;simp only[aR];refine kj (λe=> .pointer (some ⟨V,k*10,none⟩)) rfl (λe j O h=>gS) ?_;simp only[aR];refine kj _ rfl (λe j O h=>by(have h:=h.fn;obtain⟨y,z,q,G,Q,R,W⟩:=(h.ah 0 rfl).seven;rw[B0.out]at Q;have q1:j.cell? (aD B 1)=some (pO b.gd):=(h.ah 1 rfl).cell 1;have q2:j.cell? (aD B 2)=some (pO b.gs):=(h.ah 1 rfl).cell 2;have q6:j.cell? (aD B 6)=some (.slice (aO V) X.az.length d):=(h.ah 1 rfl).cell 6;have a:=Hh (h.fi 2) E0 HE;have m0:j.cell? ⟨V,k*10,none⟩=some (iI 11):=a 0 _ rfl;have m1:j.cell? ⟨V,k*10+1,none⟩=some (iI p.1):=a 1 _ rfl;have m2:j.cell? ⟨V,k*10+2,none⟩=some (iI 5):=a 2 _ rfl;have m3:j.cell? ⟨V,k*10+3,none⟩=some (iU 0):=a 3 _ rfl;have m4:j.cell? ⟨V,k*10+4,none⟩=some (iU F):=a 4 _ rfl;have m5:j.cell? ⟨V,k*10+5,none⟩=some (iU 0):=a 5 _ rfl;have m6:j.cell? ⟨V,k*10+6,none⟩=some (iU 0):=a 6 _ rfl;have m7:j.cell? ⟨V,k*10+7,none⟩=some (.bool false):=a 7 _ rfl;have m8:j.cell? ⟨V,k*10+8,none⟩=some (.slice E D C):=a 8 _ rfl;have m9:j.cell? ⟨V,k*10+9,none⟩=some sN:=a 9 _ rfl;go_simp;try rfl)) ?_;simp only[aR];refine aZ 75 (λe=> #[pO b.gs,vV 11 p.1 5 F false (.slice E D C)]) (λe=>(e 12).v) rfl (λe j O h=>by(
    have h:=h.fn;refine(ze hT b.gs b.gd p.1 F X p.2 E D C _ HX.1 HX.2.1 HX.2.2 HG (h.pk 5 [3,4,0,1,2])).mono ?_;rintro H0 wy hu;obtain⟨v9,G0,Z⟩:∃v,H0= .returned v/\St I wy (uN b.gs b.gd (X.df p.2)::ab t 30 (fw o A J)::ab B 55 (wC (b.az (.slice (aO V) X.az.length d)))::bY 184 10 (.slice (aO V) X.az.length d) X.az.length U::O):=by
     rcases hu with⟨_,v,e,h⟩|⟨_,e,h⟩
     ·exact⟨v,e,h.tail⟩
     ·exact⟨_,e,h⟩
    exact⟨⟨none,0,v9⟩,G0,Z.fk⟩)) ?_
   simp only[aR];refine ax ?_;intro e w1 h;have h:=h.fn;have h5:=(h.pk 5 [2,4,1,3]).aM;have h6:St I w1 (ay 184 10 lR (.slice (aO V) X.az.length d) X.az::ab B 55 (wC (b.az (.slice (aO V) X.az.length d)))::uN b.gs b.gd (X.df p.2)::L):=St.cZ (f:=λU=>aX (bY 184 10 (.slice (aO V) X.az.length d) X.az.length U) (aS (λw=>∀(i:Nat) x,X.az[i]? =some x->lR w ((U.drop (i*10)).take 10) x))) U h5;have h7:St I w1 (cu B b (X.df p.2)::L):=St.rD (v:= .slice (aO V) X.az.length d) (by rw[rV];exact h6.pk 2 [1,0]);have H2:=aa h7;clear h h5 h6 h7 H1
   go_wp2_with fail
   go_ret2
   exact⟨rfl,H2⟩
section
def Gs(p:Nat->Value)(r:Nat->jc)(b:Nat->Nat->LV):aw:=aS (λw=>∀i,i<4->bF w 6 eO (p i) (b i) (r i).au)
def gM(p:Nat->Value)(r:Nat->jc):aw:=AU (Gs p r)
section
variable {I:aH} {w:World} {L:List aw} {p:Nat->Value} {r:Nat->jc}
theorem St.Hd(h:St I w (gM p r::L)){k:Nat}(F:k<4):St I w (aB 6 eO (p k) (r k).au::gM p r::L):=by
 obtain⟨b,Z⟩:=h.ex;have Z:St I w (aS (λw=>∀i,i<4->bF w 6 eO (p i) (b i) (r i).au)::L):=Z;have V:=(Z.copy 0 rfl).bu (R':=λw=>bF w 6 eO (p k) (b k) (r k).au) (λO J=>J k F);have M:St I w (aS (λw=>∀i,i<4->bF w 6 eO (p i) (b i) (r i).au)::aS (λw=>bF w 6 eO (p k) (b k) (r k).au)::L):=V.swap;have Q:St I w (gM p r::aS (λw=>bF w 6 eO (p k) (b k) (r k).au)::L):=St.cZ (f:=Gs p r) b M;exact St.cZ (f:=λb=>aS (λw=>bF w 6 eO (p k) b (r k).au)) (b k) Q.swap
theorem St.Uv{v:Value}{k:Nat}{y:jc}(h:St I w (aB 6 eO v y.au::gM p r::L)):St I w (gM (aJ p k v) (aJ r k y)::L):=by
 obtain⟨N,Z⟩:=h.ex;obtain⟨b,V⟩:=Z.swap.ex;have V:St I w (aS (λw=>∀i,i<4->bF w 6 eO (p i) (b i) (r i).au)::aS (λw=>bF w 6 eO v N y.au)::L):=V;refine St.cZ (f:=Gs (aJ p k v) (aJ r k y)) (aJ b k N) (V.ku (λO Q B i z=> ?_));by_cases e:i=k
 ·rw[e,aW,aW,aW]
  exact B
 ·rw[cm _ _ _ _ e,cm _ _ _ _ e,cm _ _ _ _ e]
  exact Q i z
theorem St.KD{p':Nat->Value}{r':Nat->jc}(h:St I w (gM p r::L))(d:∀i,(p' i=p i/\(r' i).au=(r i).au)\/(p' i= sN/\(r' i).au=[])):St I w (gM p' r'::L):=by
 obtain⟨b,Z⟩:=h.ex;have Z:St I w (aS (λw=>∀i,i<4->bF w 6 eO (p i) (b i) (r i).au)::L):=Z;refine St.cZ (f:=Gs p' r') b (Z.bu (λO Q i z=> ?_));rcases d i with⟨S,P⟩|⟨S,P⟩
 ·rw[S,P];exact Q i z
 ·rw[S,P];exact bF.none_ _ _ _ _
theorem St.SC(h:St I w L):St I w (gM (λ_=> sN) (λ_=>jc.zero)::L):=
 St.cZ (f:=Gs (λ_=> sN) (λ_=>jc.zero)) (λ_ _=>[]) (h.bG (λO _ _ _=>bF.none_ O _ _ _))
end
def ZV(i:Int)(g:Nat)(C:bq)(p:Nat->Value):aw:=aX (an ⟨i,C,p⟩ g C.bl C.wr) (gM p C.r)
def cL(i:Int)(g:Nat)(C:bq):aw:=AU (ZV i g C)
section
variable {I:aH} {w:World} {L:List aw} {i:Int} {g:Nat} {C:bq} {p:Nat->Value}
theorem St.zg(h:St I w (cL i g C::L)):∃p,St I w (an ⟨i,C,p⟩ g C.bl C.wr::gM p C.r::L):=by
 obtain⟨p,Z⟩:=h.ex;have V:St I w (aX (an ⟨i,C,p⟩ g C.bl C.wr) (gM p C.r)::L):=Z;exact⟨p,V.star⟩
theorem St.cF(h:St I w (an ⟨i,C,p⟩ g C.bl C.wr::gM p C.r::L)):St I w (cL i g C::L):=St.cZ (f:=ZV i g C) p h.aM
end
end
theorem LO{C:bq}{r i:Int}(h:C.iQ r i=0):∃k:Nat,r=(k:Int)/\k<4/\0<=i/\i<4:=by
 unfold bq.iQ at h
 split at h
 ·cases h
 ·next B=>
  split at h
  ·cases h
  ·next z=>
   have B:C.GK r=true:=by simpa using B
   have G:=FC B;exact⟨r.toNat,oM,oM,oM,oM⟩
structure Jp(X:eu)(i:Int)(C:bq)(k:Nat)(l:Int)(n:Nat)(T:Int):Prop where
 t:0<=C.tok (k:Int)/\C.tok (k:Int)<18446744073709551616
 y:(C.r k).eY=true->(C.r k).au.length<=300000/\∀q∈(C.r k).au,fE q
 p:(C.r k).eY=false->(cT X i (k:Int) (C.tok (k:Int)) (C.r k) l).e=0->(cT X i (k:Int) (C.tok (k:Int)) (C.r k) l).r.au.length<=300000/\(∀q∈(cT X i (k:Int) (C.tok (k:Int)) (C.r k) l).r.au,fE q)/\∃N',fM (cT X i (k:Int) (C.tok (k:Int)) (C.r k) l).x N' (n+2) T
 wl:C.wr.length<=1000000
 wd:∀q∈C.wr,q.data.length<=1000000
 s:∃N',fM (cY X i (k:Int) (C.tok (k:Int)) (C.r k) C.wr l).x N' 700000 T
theorem TZ{X:eu}{r i t:Int}(c l:Int)(Y:(X.ask c (eL r i t) l).e=0):∃b,(X.ask c (eL r i t) l).l=[b]:=by
 unfold eu.ask at Y⊢
 split at Y
 ·exact absurd Y (show¬(111:Int)=0 by decide)
 ·next Z=>
  rw[iN Z]
  split at Y
  ·next V=>exact absurd Y V
  ·next V=>
   rw[iN V]
   split at Y
   ·exact absurd Y (show¬(111:Int)=0 by decide)
   ·next M=>
    rw[iN M];have Y:(aC X.s.M (eL r i t)).2=0:=Y;show∃b,mR X.s.M (eL r i t)=[b];unfold mR;rw[iP Y];exact⟨_,iP rfl⟩
theorem St.ur{I:aH}{w:World}{L:List aw}{i:Int}{g k:Nat}{C:bq}{p:Nat->Value}{bl:List PU}{y:AK}{v:Value}(h:St I w (an ((⟨i,C,p⟩:CX).cB k y.r v) g bl y.ws::aB 6 eO v y.r.au::gM p C.r::L)):St I w (cL i g {C.bR k y with bl:=bl}::L):=by
 have Z:=(h.pk 3 [1,2,0]).Uv (k:=k);exact St.cF (C:={C.bR k y with bl:=bl}) (p:=aJ p k v) Z.swap
theorem Qu{D:List PU}{r i:Int}(h:¬0<=fW (cC r i) 0 D):l8 D r i=D:=iN h
theorem Wu{I:aH}{L:List aw}(hT:ml I)(B g:Nat)(b:WX)(i:Int)(C:bq)(X:eu){N:Nat->Rg}{n:Nat}{T:Int}(o:jd)(A J:Value)(w:World)(hX:fM X N n T)(hn:n<=300000)(J0:T<256)
 (hW:C.iQ o.r o.i=0->∀k:Nat,o.r=(k:Int)->k<4->Jp X i C k o.n n T) (M0:C.bl.length<=1000000) (K0:∀R1∈C.bl,R1.data.length<=140737488355328)
 (h:St I w (cu B b X::cL i g C::L)):
 Calls prog 39 #[pO B,pO g,.agg (fw o A J)] w λe O=>∃E,e= .returned (.tuple #[E,iI (gX X i C o.r o.i o.n).e])/\St I O (ai .u8 E (gX X i C o.r o.i o.n).b::cu B b (gX X i C o.r o.i o.n).x::cL i g (gX X i C o.r o.i o.n).c::L):=by
 obtain⟨R,hR⟩:=nM (gX X i C o.r o.i o.n);rw[<-hR];obtain⟨p,h5⟩:=h.swap.zg;have h:=h5.pk 3 [0,2,1];clear h5;by_cases F:C.iQ o.r o.i=0
 ·obtain⟨k,hk,P0,E1,F1⟩:=LO F
  refine mr F (And.intro M0 K0) (And.intro hX (And.intro hn J0)) (And.intro hk (And.intro P0 (And.intro E1 F1))) λHE HB HX u=>?_;have P:R=if 0<=fW (cC o.r o.i) 0 C.bl then⟨X,{C with bl:=l8 C.bl o.r o.i},rh C.bl o.r o.i,0⟩else An (lG X i C o.r o.n) i C o.r o.i:=by rw[hR];exact iN (by simp[F])
  refine bm (hW F k hk P0) P λU HR=>?_;clear F M0 K0 hX hn J0 hk P0 E1 F1 P hR hW;have Z:=h.alloc 30 (fw o A J);obtain⟨W,c⟩:=nM (w.heap.size);obtain⟨z0,z1,z2,z3,z4,z5,z6⟩:=(Z.ah 0 rfl).seven;rw[<-c]at Z;refine bm c Z λG0 B0=>?_;clear h Z c
  go_enter func39,ntmps39
  go_wp2_with fail
  rw[<-G0.out];refine qK (sF B g ⟨i,C,p⟩ C.bl C.wr o A J _ (B0.fi 1)) λH h=>?_;rw[show(CX.mk i C p).c.iQ o.r o.i=0 from HE.out];obtain⟨z0,z1,z2,z3,z4,z5,z6⟩:=(h.ah 1 rfl).seven;have V:=h.alloc 166 #[iI o.r,iI o.i];obtain⟨gk,N0⟩:=nM (H.heap.size);rw[<-N0]at V;refine bm N0 V λL1 H2=>?_;clear h V N0 B0
  go_wp2_with fail
  rw[<-L1.out];clear z0 z1 z2 z3 z4 z5 z6
  cases hf:decide (0<=fW (cC o.r o.i) 0 C.bl)with
  |true=>
   have HF:=aa hf;clear hf;refine ak (I:=I) (L0:=ab W 30 (fw o A J)::cu B b X::gM p C.r::L) [⟨none,none,λe=>ab gk 166 #[iI o.r,iI o.i]⟩,⟨none,some 4,λe=>an ⟨i,C,p⟩ g C.bl C.wr⟩,⟨some 4,none,λe=>an ⟨i,C,p⟩ g (l8 C.bl o.r o.i) C.wr⟩,⟨some 4,none,λe=>ai .u8 (e 4).v (rh C.bl o.r o.i)⟩] [[],[0],[0,1],[],rG 4,rG 5,rG 6,rG 6,rG 7,rG 9] (rG 10) rfl kR kR kR (by rfl) (λ_=>rfl) H2.fk ?_;refine AG ?_;refine aZ 67 (λe=> #[.pointer (some ⟨g,20,none⟩),.agg #[iI o.r,iI o.i]]) (λe=> .tuple #[(e 4).v,.bool true]) rfl (λe D M h=>by(
    have h:=h.fn;refine(GS (cx:=⟨i,C,p⟩) g C.bl C.wr o.r o.i _ HB.1 HB.2 (h.fi 1)).mono ?_;rintro D0 wy⟨E,rfl,Z⟩;exact⟨⟨none,0,E⟩,(by rw[HF.out];rfl),Z.fk⟩)) ?_
   simp only[aR];refine sO ?_;refine ax ?_;intro e H h;have h:=h.fn;have P:=HR.trans (iP (of_decide_eq_true HF));have K:=St.cF (C:={C with bl:=l8 C.bl o.r o.i}) (h.pk 6 [1,5,2,4]);have H3:=aa (K.pk 3 [1,2,0]);clear h K H2
   go_wp2_with fail
   go_ret2
   rw[P];exact⟨_,rfl,H3⟩
  |false=>
   have HF:=aa hf;clear hf;refine ak (I:=I) (L0:=ab W 30 (fw o A J)::cu B b X::gM p C.r::L) [⟨none,none,λe=>ab gk 166 #[iI o.r,iI o.i]⟩,⟨none,some 4,λe=>an ⟨i,C,p⟩ g C.bl C.wr⟩,⟨some 4,none,λe=>an ⟨i,C,p⟩ g (l8 C.bl o.r o.i) C.wr⟩,⟨some 4,none,λe=>ai .u8 (e 4).v (rh C.bl o.r o.i)⟩] [[],[0],[0,1],[],rG 4,rG 5,rG 6,rG 6,rG 7,rG 9] (rG 10) rfl kR kR kR (by rfl) (λ_=>rfl) H2.fk ?_;refine AG ?_;refine aZ 67 (λe=> #[.pointer (some ⟨g,20,none⟩),.agg #[iI o.r,iI o.i]]) (λe=> .tuple #[(e 4).v,.bool false]) rfl (λe D M h=>by(
    have h:=h.fn;refine(GS (cx:=⟨i,C,p⟩) g C.bl C.wr o.r o.i _ HB.1 HB.2 (h.fi 1)).mono ?_;rintro D0 wy⟨E,rfl,Z⟩;exact⟨⟨none,0,E⟩,(by rw[HF.out];rfl),Z.fk⟩)) ?_
   simp only[aR];refine sO ?_;refine ax ?_;intro e H h;have h:=h.fn;have Q0:=of_decide_eq_false HF;rw[Qu Q0]at h;have P:=HR.trans (iN Q0);have hk:=u.1;have ES:lG X i C o.r o.n=(cY X i (k:Int) (C.tok (k:Int)) (C.r k) C.wr o.n):=by unfold lG;rw[hk];rfl
   rw[ES]at P;have W0:=aa P;obtain⟨z0,z1,z2,z3,z4,z5,z6⟩:=(h.ah 3 rfl).seven;have V:=(h.alloc 169 #[iI o.n]);have S1:World.cell? _ ⟨W,2,none⟩=some (iI o.r):=(V.ah 4 rfl).cell 2;obtain⟨y,O0⟩:=nM (H.heap.size);rw[<-O0]at V;have M1:=aa O0;have K:=(V.fi 6).Hd u.2.1;have H3:=aa (K.pk 8 [7,4,2,0,1,6,3]);clear h V K O0 H2 P ES Q0 hk
   go_wp2_with fail
   rw[<-M1.out,u.out.1];clear z0 z1 z2 z3 z4 z5 z6 S1;have S0:=H3.out;rw[show an (⟨i,C,p⟩:CX) g C.bl C.wr=an ((⟨i,C,p⟩:CX).cB k (C.r k) (p k)) g C.bl C.wr by rw[vL (⟨i,C,p⟩:CX) k]]at S0;refine qK (BZ hT B g y b ⟨i,C,p⟩ C.bl C.wr X k (C.r k) (p k) o.n _ HX.1 HX.2.1 HX.2.2 u.2.1 U.t U.y U.p U.wl U.wd S0) ?_;rintro w3⟨q,h⟩;obtain⟨Y,hY⟩:=nM ((cY X i (k:Int) (C.tok (k:Int)) (C.r k) C.wr o.n));have h:St I w3 (cu B b (cY X i (k:Int) (C.tok (k:Int)) (C.r k) C.wr o.n).x::an ((⟨i,C,p⟩:CX).cB k (cY X i (k:Int) (C.tok (k:Int)) (C.r k) C.wr o.n).r q) g C.bl (cY X i (k:Int) (C.tok (k:Int)) (C.r k) C.wr o.n).ws::ab y 169 #[iI (cY X i (k:Int) (C.tok (k:Int)) (C.r k) C.wr o.n).l]::aB 6 eO q (cY X i (k:Int) (C.tok (k:Int)) (C.r k) C.wr o.n).r.au::gM p C.r::ab W 30 (fw o A J)::ab gk 166 #[iI o.r,iI o.i]::L):=h;rw[show(cY X (CX.mk i C p).id (k:Int) ((CX.mk i C p).c.tok (k:Int)) (C.r k) C.wr o.n).e=Y.e by rw[hY]];have H0:=W0.out;have R0:=U.s;rw[<-hY]at h H0 R0;refine ib R0 H0 h λO1 X0 H4=>?_;clear h hY H0 W0 H3 S0 R0;by_cases A0:Y.e=0
   ·have e1:(Y.e !=0)=false:=by simp[A0]
    have P1:=aa A0;clear A0
    go_wp2_with fail
    have U0:=aa (BT (r:=o.r) (i:=o.i) (t:=C.tok o.r) ⟨by rw[u.out.1];omega,by have:=u.2.1;rw[u.out.1];omega⟩ u.2.2 (by rw[u.out.1];exact U.t));obtain⟨N3,A1⟩:=O1.out;have V0:=aa A1;clear A1;refine ak (I:=I) (L0:=aB 6 eO q Y.r.au::gM p C.r::ab gk 166 #[iI o.r,iI o.i]::L) [⟨none,none,λe=>ab W 30 (fw o A J)⟩,⟨none,some 11,λe=>an ((⟨i,C,p⟩:CX).cB k Y.r q) g C.bl Y.ws⟩,⟨some 11,some 14,λe=>an ((⟨i,C,p⟩:CX).cB k Y.r q) g C.bl Y.ws⟩,⟨some 14,none,λe=>an ((⟨i,C,p⟩:CX).cB k Y.r q) g C.bl Y.ws⟩,⟨none,some 13,λe=>ab y 169 #[iI (Y.l)]⟩,⟨some 13,none,λe=>ab y 169 #[iI (Y.l/4)]⟩,⟨none,some 14,λe=>cu B b Y.x⟩,⟨some 14,none,λe=>cu B b (Y.x.ask i (eL o.r o.i (C.tok o.r)) (Y.l%4)).x⟩,⟨none,some 14,λe=>ai .u8 sN []⟩,⟨some 14,none,λe=>aB 1 dP (e 14).v (Y.x.ask i (eL o.r o.i (C.tok o.r)) (Y.l%4)).l⟩] [[],[],[],[2],[],[4],[],[6],[6,7],[],[9],[6,7,8,9,10],[2,3,4,5,6,7,8,9,10,11],[6,7,8,9,10,11],rG 14,rG 15,rG 16,rG 16,rG 17,rG 19] (rG 20) rfl kR kR kR (by rfl) (λ_=>rfl) (((H4.bG (R:=λw=>aA w .u8 sN []) (λO _=>aA.none_ O _)).pk 7 [6,2,3,1,0,4,5])).fk ?_;refine abr ?_;refine aZ 22 (λe=> #[.pointer (some ⟨g,4,none⟩),iI o.r]) (λe=> iU (C.tok o.r)) rfl (λe D M h=>by(
     have h:=h.fn;refine(mM g ((⟨i,C,p⟩:CX).cB k Y.r q) C.bl Y.ws o.r _ (h.fi 1)).mono ?_;rintro D0 wy⟨rfl,Z⟩;exact⟨⟨none,0,default⟩,rfl,Z.fk⟩)) ?_
    simp only[aR];refine kj (λe=>nQ (eL o.r o.i (C.tok o.r)) sN) rfl (λe D M h=>by(go_simp;try exact⟨rfl,rfl,rfl,rfl,rfl⟩)) ?_;simp only[aR];refine aZ 70 (λe=> #[pO y]) (λe=> iI (Y.l%4)) rfl (λe D M h=>by(
     have h:=h.fn;refine(xS y Y.l _ (h.fi 2)).mono ?_;rintro D0 wy⟨rfl,Z⟩;exact⟨⟨none,0,default⟩,rfl,Z.fk⟩)) ?_
    simp only[aR];refine aZ 69 (λe=> #[pO B,pO g,nQ (eL o.r o.i (C.tok o.r)) sN,iI (Y.l%4)]) (λe=> .tuple #[(e 14).v,iI (Y.x.ask i (eL o.r o.i (C.tok o.r)) (Y.l%4)).e]) rfl (λe D M h=>by(
     have h:=h.fn;refine(xW hT B g b ((⟨i,C,p⟩:CX).cB k Y.r q) C.bl Y.ws Y.x (eL o.r o.i (C.tok o.r)) (Y.l%4) none 0 0 _ V0 dC HX.2.2 U0 ⟨Sz _ dC,Uz _ dC⟩ (h.pk 5 [4,3,1,0,2])).mono ?_;rintro D0 wy⟨E,rfl,Z⟩;have Z:St I wy (aB 1 dP E (Y.x.ask i (eL o.r o.i (C.tok o.r)) (Y.l%4)).l::cu B b (Y.x.ask i (eL o.r o.i (C.tok o.r)) (Y.l%4)).x::an ((⟨i,C,p⟩:CX).cB k Y.r q) g C.bl Y.ws::ab W 30 (fw o A J)::ab y 169 #[iI (Y.l/4)]::M):=Z;exact⟨⟨none,0,E⟩,rfl,Z.fk⟩)) ?_
    simp only[aR];refine sO ?_;refine ax ?_;intro e H h;have h:=h.fn;have B1:=(Gj V0 U0 i (Y.l%4)).2;have H1:=TZ (X:=Y.x) (r:=o.r) (i:=o.i) (t:=C.tok o.r) i (Y.l%4);have G1:An Y i C o.r o.i=if(Y.x.ask i (eL o.r o.i (C.tok o.r)) (Y.l%4)).e≠0 then⟨(Y.x.ask i (eL o.r o.i (C.tok o.r)) (Y.l%4)).x,C.bR o.r.toNat Y,[],(Y.x.ask i (eL o.r o.i (C.tok o.r)) (Y.l%4)).e⟩else⟨(Y.x.ask i (eL o.r o.i (C.tok o.r)) (Y.l%4)).x,{C.bR o.r.toNat Y with bl:=oX C.bl Y.ws ⟨o.r,o.i,(Y.x.ask i (eL o.r o.i (C.tok o.r)) (Y.l%4)).l.headD []⟩},(Y.x.ask i (eL o.r o.i (C.tok o.r)) (Y.l%4)).l.headD [],0⟩:=iN (by simp[P1.out]);have I0:=X0.trans G1;rw[show o.r.toNat=k by rw[u.out.1];rfl]at I0;generalize(Y.x.ask i (eL o.r o.i (C.tok o.r)) (Y.l%4))=a at*;refine mr H1 B1 I0 (h.pk 3 [1]) λN1 I1 Y0 H5=>?_;clear h H4 H1 G1 I0 B1;by_cases z:a.e=0
    ·have e2:(a.e !=0)=false:=by simp[z]
     have T1:=aa z;obtain⟨S,E0⟩:=N1.out z;have C1:=(I1 S (by rw[E0];exact lA.2 rfl)).2;have l:=Y0.trans (iN (by simp[z]));rw[E0]at l;refine bm l C1 λC0 J1=>?_;have h6:=H5.out;rw[E0]at h6;have H6:=aa h6;clear z l C1 E0 h6 H5
     go_wp2_with fail
     generalize(e 14).v=E at H6⊢;obtain⟨vA,vc,hV,_,_⟩:=(H6.dJ 2 rfl).slice;have hV:E= .slice vA 1 vc:=hV;subst hV;obtain⟨G,cs,rfl,_,_,⟨vb,rfl,Q1⟩,h7⟩:=H6.out.elem 2 rfl (k:=0) (x:=S) rfl;obtain⟨d,j,rfl,_,_,_⟩:=Q1;have h8:=h7.bu (R':=λO=>O.cell? G=some (.slice d S.length j)/\aA O .u8 (.slice d S.length j) S) (λO hx=>by
      obtain⟨hc,v',T0,D1⟩:=hx;injection T0 with T0 _;rw[<-T0]at D1;exact⟨hc 0 _ rfl,D1⟩)
     have H8:=aa (h8.pk 7 [6,1,0,2,4,5]);clear h7 h8 H6;refine ak (I:=I) (L0:=cu B b a.x::aB 6 eO q Y.r.au::gM p C.r::L) [⟨none,none,λe=>ab gk 166 #[iI o.r,iI o.i]⟩,⟨none,some 7,λe=>an ((⟨i,C,p⟩:CX).cB k Y.r q) g C.bl Y.ws⟩,⟨some 7,none,λe=>an ((⟨i,C,p⟩:CX).cB k Y.r q) g (oX C.bl Y.ws ⟨o.r,o.i,S⟩) Y.ws⟩,⟨none,none,λe=>aS (λO=>O.cell? G=some (.slice d S.length j)/\aA O .u8 (.slice d S.length j) S)⟩] [[],[0],[0,1],[],[],[4],[4,5],rG 7] (rG 8) rfl kR kR kR (by rfl) (λ_=>rfl) H8.fk ?_;refine yk ?_;refine kj _ rfl (λe D M h=>by(have h:=h.fn;have y0:D.cell? (aD gk 0)=some (iI o.r):=(h.ah 0 rfl).cell 0;have y1:D.cell? (aD gk 1)=some (iI o.i):=(h.ah 0 rfl).cell 1;have cb:=(h.jr (Q:=λO=>O.cell? G=some (.slice d S.length j)/\aA O .u8 (.slice d S.length j) S)).1;go_simp;try rfl)) ?_;simp only[aR];refine lY ?_;refine kj (λe=> .pointer (some G)) rfl (λe D M h=>gS) ?_;simp only[aR];refine kj _ rfl (λe D M h=>by(have h:=h.fn;have y0:D.cell? (aD gk 0)=some (iI o.r):=(h.ah 0 rfl).cell 0;have y1:D.cell? (aD gk 1)=some (iI o.i):=(h.ah 0 rfl).cell 1;have cb:=(h.jr (Q:=λO=>O.cell? G=some (.slice d S.length j)/\aA O .u8 (.slice d S.length j) S)).1;go_simp;try rfl)) ?_;simp only[aR];refine aZ 71 (λe=> #[.pointer (some ⟨g,20,none⟩),.agg #[iI o.r,iI o.i],.slice d S.length j]) (λe=> iI (Bm C.bl Y.ws o.r o.i)) rfl (λe D M h=>by(
      have h:=h.fn;refine(Vo (cx:=((⟨i,C,p⟩:CX).cB k Y.r q)) g C.bl Y.ws o.r o.i d S.length j S _ HB.1 (by have:=J1.out;omega) (((h.jT (Q:=λO=>O.cell? G=some (.slice d S.length j)/\aA O .u8 (.slice d S.length j) S)).bu (R':=λw=>aA w .u8 (.slice d S.length j) S) (λ_ hx=>hx.2)).pk 3 [0,2,1])).mono ?_;rintro D0 wy⟨rfl,Z⟩;exact⟨⟨none,0,default⟩,rfl,Z.fk⟩)) ?_
     simp only[aR];refine ax ?_;intro e H h;have h:=h.fn;have cb:=(h.jr (Q:=λO=>O.cell? G=some (.slice d S.length j)/\aA O .u8 (.slice d S.length j) S)).1;have h9:=St.ur (i:=i) (k:=k) (C:=C) (h.pk 6 [1,4,5,3,2]);have Z0:=((h9.front (X:=aS (λO=>O.cell? G=some (.slice d S.length j)/\aA O .u8 (.slice d S.length j) S))).bu (R':=λw=>aA w .u8 (.slice d S.length j) S) (λ_ hx=>hx.2));have H9:=aa (Z0.pk 3 [0,2,1]);clear h h9 Z0 H8
     go_wp2_with fail
     go_ret2
     rw[C0.out];exact⟨_,rfl,H9⟩
    ·have e2:(a.e !=0)=true:=by simp[z]
     have l:=Y0.trans (iP z);have C0:=aa l;have h6:=St.ur (i:=i) (k:=k) (C:=C) (H5.pk 6 [0,3,4,1]);have H6:=aa ((h6.bG (R:=λw=>aA w .u8 sN []) (λO _=>aA.none_ O _)).pk 3 [0,2,1]);clear z l h6 H5
     go_wp2_with fail
     go_ret2
     rw[C0.out];exact⟨_,rfl,H6⟩
   ·have e1:(Y.e !=0)=true:=by simp[A0]
    have l:R=⟨Y.x,C.bR k Y,[],Y.e⟩:=by
     rw[X0.out,u.out.1];exact iP A0
    have C0:=aa l;have h5:=St.ur (i:=i) (k:=k) (C:=C) (H4.pk 7 [1,3,4,0]);have H5:=aa ((h5.bG (R:=λw=>aA w .u8 sN []) (λO _=>aA.none_ O _)).pk 3 [0,2,1]);clear A0 l h5 H4
    go_wp2_with fail
    go_ret2
    rw[C0.out];exact⟨_,rfl,H5⟩
 ·have P:R=⟨X,C,[],C.iQ o.r o.i⟩:=by rw[hR];exact iP F
  obtain⟨ee,F0⟩:=nM (C.iQ o.r o.i);have e1:(ee !=0)=true:=by rw[F0];simp[F]
  rw[<-F0]at P;refine bm F0 P λK1 HR=>?_;clear F M0 K0 hX hn J0 P hR F0 hW;have Z:=h.alloc 30 (fw o A J);obtain⟨W,c⟩:=nM (w.heap.size);obtain⟨z0,z1,z2,z3,z4,z5,z6⟩:=(Z.ah 0 rfl).seven;rw[<-c]at Z;refine bm c Z λG0 B0=>?_;clear h Z c
  go_enter func39,ntmps39
  go_wp2_with fail
  rw[<-G0.out];refine qK (sF B g ⟨i,C,p⟩ C.bl C.wr o A J _ (B0.fi 1)) λH h=>?_;rw[show(CX.mk i C p).c.iQ o.r o.i=ee from K1.out.symm];have K:=St.cF (h.pk 4 [0,3,2]);have H3:=aa ((K.bG (R:=λw=>aA w .u8 sN []) (λO _=>aA.none_ O _)).pk 3 [0,2,1]);clear h K B0 z0 z1 z2 z3 z4 z5 z6
  go_wp2_with fail
  go_ret2
  rw[HR.out];exact⟨_,rfl,H3⟩
section
def mh(k:Nat)(t:Int)(y:AK):jc:={y.r with au:=di (k:Int) t y.r.seq (y.ws.filter (ao (k:Int))),bS:=((y.ws.filter (ao (k:Int))).length:Nat),seq:=IntKind.u32.wrap (y.r.seq+((di (k:Int) t y.r.seq (y.ws.filter (ao (k:Int)))).length:Nat))}
def Cp(C:bq)(k:Nat)(y:AK):bq:={C with r:=aJ C.r k (mh k (C.tok (k:Int)) y),wr:=y.ws}
def Rv(_:eu)(i:Int)(C:bq)(k:Nat)(y:AK):AK:=cY y.x i (k:Int) (C.tok (k:Int)) (mh k (C.tok (k:Int)) y) y.ws y.l
structure Qc(X:eu)(i:Int)(C:bq)(k:Nat)(l:Int)(n:Nat)(T:Int):Prop where
 a:Jp X i C k l n T
 b:∀y,y=cY X i (k:Int) (C.tok (k:Int)) (C.r k) C.wr l->y.e=0->y.ws.filter (ao (k:Int))≠[]->
  ((y.ws.filter (ao (k:Int))).length<=1000/\(0<=y.r.seq/\y.r.seq<=4000000000)/\nV (k:Int) (y.ws.filter (ao (k:Int)))=0/\(di (k:Int) (C.tok (k:Int)) y.r.seq (y.ws.filter (ao (k:Int)))).length<=300)/\
  Jp y.x i (Cp C k y) k y.l (n+302) T/\(∃N',fM y.x N' (n+302) T)/\((Rv X i C k y).e=0->(Rv X i C k y).ws.filter (ao (k:Int))=[])
theorem Ln(X:eu)(c r t:Int)(x:jc)(u:List PU)(l:Int):(sS X c r t x u l).ws.Sublist u:=by
 unfold Go.Proofs.YtblpaldggenbaaaGreatDoor.sS
 split
 ·exact KL _
 ·exact LS _ _ _
theorem KA(X:eu)(c r t:Int)(x:jc)(u:List PU)(l:Int):(cY X c r t x u l).ws.Sublist u:=by
 unfold Go.Proofs.YtblpaldggenbaaaGreatDoor.cY
 split
 ·exact Ln _ _ _ _ _ _ _
 ·split
  ·exact KL _
  ·exact Ln _ _ _ _ _ _ _
structure Va(X:eu)(i:Int)(k:Nat)(t:Int)(y:jc)(ws:List PU)(l:Int)(n:Nat)(T:Int):Prop where
 hy:y.eY=true->y.au.length<=300000/\∀q∈y.au,fE q
 hp:y.eY=false->(cT X i (k:Int) t y l).e=0->(cT X i (k:Int) t y l).r.au.length<=300000/\(∀q∈(cT X i (k:Int) t y l).r.au,fE q)/\∃N',fM (cT X i (k:Int) t y l).x N' (n+2) T
 wl:ws.length<=1000000
 wd:∀q∈ws,q.data.length<=1000000
 hx:n<=300000/\∃N',fM X N' n T
theorem Jp.h{X:eu}{i:Int}{C:bq}{k:Nat}{l:Int}{n:Nat}{T:Int}(h:Jp X i C k l n T)(J:n<=300000/\∃w,fM X w n T):Va X i k (C.tok (k:Int)) (C.r k) C.wr l n T:=⟨h.y,h.p,h.wl,h.wd,J⟩
def xO(R:Uk)(C:bq)(k:Nat)(i t T:Int):Nat->eu->jc->List PU->Int->Nat->Prop
 |0,X,y,u,l,n=>Va X i k t y u l n T/\∀S,S=cY X i (k:Int) t y u l->(S.e≠0->R=⟨S.x,C.bR k S,[],S.e⟩)/\(S.e=0->S.ws.filter (ao (k:Int))=[]/\R=⟨S.x,C.bR k S,[],0⟩)
 |Q+1,X,y,u,l,n=>Va X i k t y u l n T/\∀S,S=cY X i (k:Int) t y u l->(S.e≠0->R=⟨S.x,C.bR k S,[],S.e⟩)/\(S.e=0->S.ws.filter (ao (k:Int))=[]->R=⟨S.x,C.bR k S,[],0⟩)/\
  (S.e=0->S.ws.filter (ao (k:Int))≠[]->((S.ws.filter (ao (k:Int))).length<=1000/\(0<=S.r.seq/\S.r.seq<=4000000000)/\nV (k:Int) (S.ws.filter (ao (k:Int)))=0/\(di (k:Int) t S.r.seq (S.ws.filter (ao (k:Int)))).length<=300)/\xO R C k i t T Q S.x (mh k t S) S.ws S.l (n+302))
theorem xO.h{C:bq}{k:Nat}{i t T:Int}{Q:Nat}{X:eu}{y:jc}{u:List PU}{l:Int}{n:Nat}(h:xO R C k i t T Q X y u l n):Va X i k t y u l n T:=by
 cases Q with
 |zero=>exact h.1
 |succ _=>exact h.1
theorem xO.bad{C:bq}{k:Nat}{i t T:Int}{Q:Nat}{X:eu}{y:jc}{u:List PU}{l:Int}{n:Nat}(h:xO R C k i t T Q X y u l n)(z:S=cY X i (k:Int) t y u l)(Y:S.e≠0):R=⟨S.x,C.bR k S,[],S.e⟩:=by
 cases Q with
 |zero=>exact(h.2 S z).1 Y
 |succ _=>exact(h.2 S z).1 Y
theorem xO.done{C:bq}{k:Nat}{i t T:Int}{Q:Nat}{X:eu}{y:jc}{u:List PU}{l:Int}{n:Nat}(h:xO R C k i t T Q X y u l n)(z:S=cY X i (k:Int) t y u l)(Y:S.e=0)(a:S.ws.filter (ao (k:Int))=[]):R=⟨S.x,C.bR k S,[],0⟩:=by
 cases Q with
 |zero=>exact((h.2 S z).2 Y).2
 |succ _=>exact(h.2 S z).2.1 Y a
theorem xO.more{C:bq}{k:Nat}{i t T:Int}{Q:Nat}{X:eu}{y:jc}{u:List PU}{l:Int}{n:Nat}(h:xO R C k i t T Q X y u l n)(z:S=cY X i (k:Int) t y u l)(Y:S.e=0)(a:S.ws.filter (ao (k:Int))≠[]):
 ((S.ws.filter (ao (k:Int))).length<=1000/\(0<=S.r.seq/\S.r.seq<=4000000000)/\nV (k:Int) (S.ws.filter (ao (k:Int)))=0/\(di (k:Int) t S.r.seq (S.ws.filter (ao (k:Int)))).length<=300)/\∃g,Q=g+1/\xO R C k i t T g S.x (mh k t S) S.ws S.l (n+302):=by
 cases Q with
 |zero=>exact absurd ((h.2 S z).2 Y).1 a
 |succ g=>exact⟨((h.2 S z).2.2 Y a).1,g,rfl,((h.2 S z).2.2 Y a).2⟩
theorem Qc.flu{X:eu}{i:Int}{C:bq}{k:Nat}{l:Int}{n:Nat}{T:Int}(h:Qc X i C k l n T)(W:n<=290000){N:Nat->Rg}(u:fM X N n T):xO (oI (lG X i C (k:Int) l) i C (k:Int)) C k i (C.tok (k:Int)) T 1 X (C.r k) C.wr l n:=by
 have j:lG X i C (k:Int) l=cY X i (k:Int) (C.tok (k:Int)) (C.r k) C.wr l:=rfl;refine⟨h.a.h ⟨oM,N,u⟩,λS z=> ?_⟩;rw[j,<-z];refine⟨λY=>iP Y,λY a=> ?_,λY a=> ?_⟩
 ·unfold oI
  rw[iN (λh=>h Y),iP a]
  rfl
 ·obtain⟨O,J,E,D⟩:=h.b S z Y a
  refine⟨O,⟨?_,?_,J.wl,J.wd,oM,E⟩,λb d=> ?_⟩
  ·have:=J.y
   rwa[show(Cp C k S).r k=mh k (C.tok (k:Int)) S from aW _ _ _]at this
  ·have:=J.p
   rwa[show(Cp C k S).r k=mh k (C.tok (k:Int)) S from aW _ _ _,show(Cp C k S).tok (k:Int)=C.tok (k:Int)from rfl]at this
  ·have c:oI S i C (k:Int)=⟨b.x,C.bR k b,[],b.e⟩:=by
    unfold oI;rw[iN (λh=>h Y),iN a,iN (λh=>h O.2.2.1),d]
    rfl
   have D:b.e=0->b.ws.filter (ao (k:Int))=[]:=by rw[d];exact D
   exact⟨λ_=>c,λy=>⟨D y,by rw[c,y]⟩⟩
section
variable {X:eu} {ev:List eW} {e:Nat->Int->Vw} {N:Nat->Rg} {n m:Nat} {T:Int} {t:Int} {C:bq} {f k:Nat} {ca:List PU}
theorem lu.VE{r t s:Int}{Q:List RQ}(h:lu r t s Q):∀q∈Q,fE q:=λq d=>by
 obtain⟨j,N⟩:=List.getElem?_of_mem d;exact(h j q N).2.2.2.1
theorem WI.Yb(h:WI X ev e N n T)(S:n<=300000)(A:T<256)(c:Int)(W:k<4)(R:1<=C.tok (k:Int)/\C.tok (k:Int)<18446744073709551616)(J:e k (C.tok (k:Int))=⟨C.r k,f,ca⟩)(d:(C.r k).au.length<=300)(j:C.wr.length<=1000000)(a:∀q∈C.wr,q.data.length<=1000000)(o:(C.wr.filter (ao (k:Int))).map iC=(aG (k:Int) (C.tok (k:Int)) ev).p.drop f)(l:Int):Jp X c C k l n T:=by
 have G:0<=(k:Int)/\(k:Int)<4:=oM
 have J:e (k:Int).toNat (C.tok (k:Int))=⟨C.r k,f,ca⟩:=J;have K:=h.p.vw (k:Int) (C.tok (k:Int)) G.1 G.2 R.1;rw[J]at K;refine⟨oM,λy=>⟨oM,K.sq.VE⟩,λy F=> ?_,j,a,?_⟩
 ·obtain⟨i,Z,M,I,Y⟩:=h.YW oM A c G R J y l
  have p:=Z.p.vw (k:Int) (C.tok (k:Int)) G.1 G.2 R.1;rw[aV]at p;exact⟨oM,p.sq.VE,i,Z.s⟩
 ·obtain⟨b,Q,V⟩:∃b:Int,(C.r k).seq<=b/\10<=b:=⟨max (C.r k).seq 10,oM,oM⟩
  obtain⟨w,E,U⟩:=h.cY (b:=b) oM A c G R J d o Q V l;exact⟨w,U.w.s.mono oM (ef _)⟩
theorem WI.ZS(h:WI X ev e N n T)(hn:n<=290000)(hm:m<=120)(A:T<256)(c:Int)(F:k<4)(R:1<=C.tok (k:Int)/\C.tok (k:Int)<18446744073709551616)(E:e k (C.tok (k:Int))=⟨C.r k,f,ca⟩)(D:nw C m)(d:(C.wr.filter (ao (k:Int))).map iC=(aG (k:Int) (C.tok (k:Int)) ev).p.drop f)(l:Int){y:AK}(W:y=Go.Proofs.YtblpaldggenbaaaGreatDoor.cY X c (k:Int) (C.tok (k:Int)) (C.r k) C.wr l)(Y:y.e=0):
 ((y.ws.filter (ao (k:Int))).length<=1000/\(0<=y.r.seq/\y.r.seq<=4000000000)/\nV (k:Int) (y.ws.filter (ao (k:Int)))=0/\(di (k:Int) (C.tok (k:Int)) y.r.seq (y.ws.filter (ao (k:Int)))).length<=300)/\(mh k (C.tok (k:Int)) y).au.length<=300/\(mh k (C.tok (k:Int)) y).eY=true/\y.ws.Sublist C.wr/\
 ∃i f1,WI y.x ev (gg e (k:Int) (C.tok (k:Int)) ⟨mh k (C.tok (k:Int)) y,f1,ca⟩) i (n+302) T/\(y.ws.filter (ao (k:Int))).map iC=(aG (k:Int) (C.tok (k:Int)) ev).p.drop f1/\f1+(mh k (C.tok (k:Int)) y).bS.toNat=(aG (k:Int) (C.tok (k:Int)) ev).p.length:=by
 have G:0<=(k:Int)/\(k:Int)<4:=oM
 have Q:e (k:Int).toNat (C.tok (k:Int))=⟨C.r k,f,ca⟩:=E;obtain⟨i,f1,U⟩:=h.cY (ws:=C.wr) oM A c G R Q (D.p _) d (D.q _) oM l;rw[<-W]at U;generalize D0:C.tok (k:Int)=t at*;have P:∀p∈y.ws.filter (ao (k:Int)),KM (k:Int) p/\Bytes p.data:=λp o=>by
  obtain⟨S,a⟩:=zk.1 o;have:=D.w p (U.s.subset S);exact⟨⟨by simpa[ao]using a,this.2.2.1⟩,this.2.2.2⟩
 have j:=uG (λp o=>(P p o).1);obtain⟨O,w,g,V⟩:=U.e Y;have C0:(y.ws.filter (ao (k:Int))).length<=m:=qJ (VP _ _) (qJ U.s.length_le D.i.wl);have K:=U.w.p.vw (k:Int) t G.1 G.2 R.1;rw[aV]at K;have B:(Vw.mk y.r f1 ca).s0=y.r.seq:=by
  show y.r.seq-(y.r.au.length:Nat)=y.r.seq;rw[g];exact Int.sub_zero _
 have z:2<=y.r.seq:=by have:=K.s2 O;omega
 have L:(di (k:Int) t y.r.seq (y.ws.filter (ao (k:Int)))).length<=300:=by
  unfold di;rw[iP j];have:=o7 (k:Int) t y.r.seq (y.ws.filter (ao (k:Int))) (((y.ws.filter (ao (k:Int))).length+3)/4);omega
 have hq:=U.q;have M:IntKind.u32.wrap (y.r.seq+((di (k:Int) t y.r.seq (y.ws.filter (ao (k:Int)))).length:Nat))=y.r.seq+((di (k:Int) t y.r.seq (y.ws.filter (ao (k:Int)))).length:Nat):=IntWalk.u32_in _ oM;have u:mh k t y={y.r with au:=di (k:Int) t y.r.seq (y.ws.filter (ao (k:Int))),bS:=((y.ws.filter (ao (k:Int))).length:Nat),seq:=y.r.seq+((di (k:Int) t y.r.seq (y.ws.filter (ao (k:Int)))).length:Nat)}:=by unfold mh;rw[M]
 have I:=Er (s:=y.r.seq) G oM P oM oM oM (t:=t);generalize Z:di (k:Int) t y.r.seq (y.ws.filter (ao (k:Int)))=pq at L M I u⊢;have b:f1<=(aG (k:Int) t ev).p.length:=by have:=K.fp;unfold Vw.g at this;exact qJ (ZB _ _) this
 have B0:(y.ws.filter (ao (k:Int))).length=(aG (k:Int) t ev).p.length-f1:=by
  have:=congrArg List.length U.l;rwa[nL,km]at this
 have J:WI y.x ev (gg e (k:Int) t ⟨{y.r with au:=pq,bS:=((y.ws.filter (ao (k:Int))).length:Nat),seq:=y.r.seq+(pq.length:Nat)},f1,ca⟩) i (n+302) T:=by
  have J:WI y.x ev (gg (gg e (k:Int) t ⟨y.r,f1,ca⟩) (k:Int) t ⟨{y.r with au:=pq,bS:=((y.ws.filter (ao (k:Int))).length:Nat),seq:=y.r.seq+(pq.length:Nat)},f1,ca⟩) i (n+302) T:=by
   have q:(Vw.mk {y.r with au:=pq,bS:=((y.ws.filter (ao (k:Int))).length:Nat),seq:=y.r.seq+(pq.length:Nat)} f1 ca).s0=y.r.seq:=by
    exact afG
   refine⟨U.w.s,U.w.z,U.w.p.xI G.1 G.2 _ ⟨λh=>absurd (O.symm.trans h) dC,λ_=>w,by show(0:Int)<=((y.ws.filter (ao (k:Int))).length:Nat);omega,?_,by rw[q];exact I,λ_=>by rw[q];exact z⟩ (λ_=> ?_) (λx k' _ F=> ?_)⟩
   ·show f1+(((y.ws.filter (ao (k:Int))).length:Nat):Int).toNat<=_
    rw[qG];omega
   ·rw[aV,B,q]
    refine⟨O,ef _,λA0 H=> ?_⟩;have H:y.r.au.head? =some A0:=H;rw[g]at H
    cases H
   ·have:=F.Kz (r:=(k:Int)) (n:=y.r.seq+(pq.length:Nat)) (l:=y.ws.filter (ao (k:Int))) R.1 (by rw[aV];exact O) (by rw[aV];exact g) (by rw[aV];exact V) (by rw[aV];exact U.l) (λp o=>(P p o).1) (by rw[aV];exact b) (by rw[aV,Z])
    rw[aV,Z]at this;exact this
  rwa[kJ]at J
 refine⟨⟨oM,oM,j,L⟩,by rw[u];exact L,by rw[u];exact O,U.s,i,f1,?_,U.l,?_⟩
 ·rw[u];exact J
 ·rw[u]
  show f1+(((y.ws.filter (ao (k:Int))).length:Nat):Int).toNat=_;rw[qG];omega
theorem WI.abI(h:WI X ev e N n T)(W:n<=290000)(H:m<=120)(A:T<256)(c:Int)(F:k<4)(R:1<=C.tok (k:Int)/\C.tok (k:Int)<18446744073709551616)(B:e k (C.tok (k:Int))=⟨C.r k,f,ca⟩)(D:nw C m)(o:(C.wr.filter (ao (k:Int))).map iC=(aG (k:Int) (C.tok (k:Int)) ev).p.drop f)(l:Int):Qc X c C k l n T:=by
 have Z:C.wr.length<=m:=D.i.wl;have a:∀q∈C.wr,q.data.length<=1000000:=λq d=>by have:=(D.w q d).2.2.1.2.2;show q.data.length<=_;have:q.data.length<=23:=this;omega
 refine⟨h.Yb oM A c F R B (D.p _) oM a o l,λy E M K=> ?_⟩;obtain⟨O,L,Q,w,i,f1,J,P,j⟩:=h.ZS W H A c F R B D o l E M;have g:=w.length_le;have b:(Cp C k y).r k=mh k (C.tok (k:Int)) y:=aW _ _ _;refine⟨O,WI.Yb (C:=Cp C k y) (f:=f1) (ca:=ca) J oM A c F R (by rw[b];exact aV _ _ _ _) (by rw[b];exact L) (by show y.ws.length<=_;omega) (λq d=>a q (w.subset d)) P y.l,⟨i,J.s⟩,λY=> ?_⟩;unfold Rv at Y⊢;unfold Go.Proofs.YtblpaldggenbaaaGreatDoor.cY at Y⊢;rw[iP Q]at Y⊢;unfold Go.Proofs.YtblpaldggenbaaaGreatDoor.sS at Y⊢
 split at Y
 ·rename_i I
  exact absurd Y I
 ·rename_i I
  rw[iN I];have p:=(Jv (r:=(k:Int)) (t:=C.tok (k:Int)) (ev:=ev) (f:=f1) (ws:=y.ws) (x:=mh k (C.tok (k:Int)) y) (by show(0:Int)<=((y.ws.filter (ao (k:Int))).length:Nat);omega) P oM).2.2;rw[j,zcM]at p;exact List.map_eq_nil_iff.1 p
end
end
section
def zp(S W:gy)(c:Int):Prop:=∀(p:Int) (C:bq) (k:Int),p≠c->cW S C p k->cW W C p k
theorem zp.refl(S:gy)(c:Int):zp S S c:=λ_ _ _ _ h=>h
theorem zp.trans{S l b:gy}{c:Int}(h:zp S l c)(V:zp l b c):zp S b c:=λp C k D U=>V p C k D (h p C k D U)
theorem pD(S:gy)(q:dD)(y:q.tm<=18446744073709551615):zp S (S.apply q).s q.c:=λ_ _ _ D h=>h.other q D y
section
variable {S:gy} {C e:bq} {c k j:Int}
theorem cW.Iu(h:cW S C c k)(Y:e.seq=C.seq)(P:e.bi=C.bi)(F:k<=j):cW S e c j:=
 ⟨h.bB,h.len,by rw[Y];exact h.Mk,by rw[Y];have:=h.Oc;omega,λU y E=>by rw[Y];exact h.num (by rw[<-P];exact U) y E⟩
theorem Tt(C:bq)(r t u:Int):(C.nT r t u).seq=C.seq/\(C.nT r t u).bi=C.bi:=by
 unfold bq.nT
 exact af0
theorem TS(C:bq)(r:Int):(C.gone r).seq=C.seq/\(C.gone r).bi=C.bi:=by
 unfold bq.gone
 exact af0
theorem cW.nx(h:cW S C c k)(F:k<4294967295):dX C.seq=C.seq+1:=zJ h.Mk (by have:=h.Oc;omega)
theorem cW.WH(h:cW S C c k)(F:k<4294967295)(r t:Int):cW (gH S c C r t).s (gH S c C r t).c c (k+1)/\zp S (gH S c C r t).s c:=by
 have Z:=h.NX (o:=5) (.inr (.inr rfl)) r 0 t;have V:=pD S ⟨5,c,C.seq+1,r,0,t,0⟩ acN;unfold gH;rw[h.nx F];generalize S.apply ⟨5,c,C.seq+1,r,0,t,0⟩=a at Z V;show cW (if a.e≠0 then _ else _:sZ).s (if a.e≠0 then _ else _:sZ).c c (k+1)/\zp S (if a.e≠0 then _ else _:sZ).s c
 split
 ·exact⟨Z,V⟩
 ·have M:=Tt ({C with seq:=C.seq+1}:bq) r t a.v
  exact⟨Z.Iu M.1 M.2 (ef _),V⟩
theorem cW.aa6(h:cW S C c k)(F:0<=k):cW (iV S c C).s (iV S c C).c c k/\zp S (iV S c C).s c:=by
 unfold iV
 cases U:C.bi with
 |true=>exact⟨h,zp.refl _ _⟩
 |false=>
  have Z:=h.shut U ⟨2,c,0,0,0,0,0⟩ acN;have X:=pD S ⟨2,c,0,0,0,0,0⟩ acN;have G:=pD (S.apply ⟨2,c,0,0,0,0,0⟩).s ⟨1,c,0,0,0,0,0⟩ acN;have V:=Z.shut U ⟨1,c,0,0,0,0,0⟩ acN;have M:=λY=>Z.open_ F Y;generalize(S.apply ⟨2,c,0,0,0,0,0⟩).s.apply ⟨1,c,0,0,0,0,0⟩=b at V M G;rw[iN gV];show cW (if b.e≠0 then _ else _:sZ).s (if b.e≠0 then _ else _:sZ).c c k/\zp S (if b.e≠0 then _ else _:sZ).s c
  split
  ·exact⟨V,X.trans G⟩
  ·next Y=>exact⟨M (by simpa using Y),X.trans G⟩
theorem cW.abB(h:cW S C c k)(F:k<4294967290)(r:Int):cW (mI S c C r).s (mI S c C r).c c (k+2)/\zp S (mI S c C r).s c:=by
 have Z:=h.NX (o:=3) (.inl rfl) r 2 0;have V:=pD S ⟨3,c,C.seq+1,r,2,0,0⟩ acN;unfold mI;rw[h.nx oM];generalize S.apply ⟨3,c,C.seq+1,r,2,0,0⟩=a at Z V;show cW (if a.e≠0 then _ else if _ then _ else _:sZ).s (if a.e≠0 then _ else if _ then _ else _:sZ).c c (k+2)/\zp S (if a.e≠0 then _ else if _ then _ else _:sZ).s c
 split
 ·exact⟨Z.Iu rfl rfl oM,V⟩
 ·split
  ·obtain⟨d,g⟩:=Z.WH oM r a.v
   exact⟨d.Iu rfl rfl oM,V.trans g⟩
  ·have M:cW a.s (({C with seq:=C.seq+1}:bq).drop r|>.tQ r.toNat jc.zero) c (k+1):=Z.Iu rfl rfl (ef _)
   obtain⟨d,g⟩:=M.WH oM r a.v;exact⟨d.Iu rfl rfl oM,V.trans g⟩
theorem cW.aaL(h:cW S C c k)(K:0<=k)(F:k<4294967290)(r:Int):cW (ji S c C r).s (ji S c C r).c c (k+2)/\zp S (ji S c C r).s c:=by
 obtain⟨d,g⟩:=h.aa6 K;unfold ji
 split
 ·exact aft
 ·split
  ·exact⟨d.Iu rfl rfl oM,g⟩
  ·obtain⟨O,J⟩:=d.abB F r
   exact⟨O,g.trans J⟩
theorem cW.aaQ(h:cW S C c k)(F:k<4294967290)(r:Int):cW (jJ S c C r).s (jJ S c C r).c c (k+2)/\zp S (jJ S c C r).s c:=by
 unfold jJ
 split
 ·exact aft
 ·have Z:=h.NX (o:=4) (.inr (.inl rfl)) r 0 (C.tok r)
  have V:=pD S ⟨4,c,C.seq+1,r,0,C.tok r,0⟩ acN;rw[h.nx oM];have M:=TS ({C with seq:=C.seq+1}:bq) r;exact⟨Z.Iu M.1 M.2 oM,V⟩
theorem cW.aaR(h:cW S C c k)(r:Int)(F:k<4294967290):cW (dI S c C r).s (dI S c C r).c c (k+2)/\zp S (dI S c C r).s c:=by
 unfold dI
 split
 ·exact aft
 ·obtain⟨d,g⟩:=h.WH oM r (C.tok r)
  exact⟨d.Iu rfl rfl oM,g⟩
theorem cW.time(h:cW S C c k){t:Int}(R:t<=18446744073709551615):cW (S.apply ⟨7,0,0,0,0,0,t⟩).s C c k:=
 ⟨pu _ _ h.bB R,pF _ _ h.len,h.Mk,h.Oc,h.num⟩
theorem BD(C:bq)(r i:Int)(b:LI):(dO C r i b).1.seq=C.seq/\(dO C r i b).1.bi=C.bi:=by
 unfold dO
 exact af0
theorem Gd(X:eu)(c:Int)(C:bq)(r i n:Int):(gX X c C r i n).c.seq=C.seq/\(gX X c C r i n).c.bi=C.bi:=by
 unfold gX
 split
 ·exact adZ
 ·split
  ·exact adZ
  ·unfold An
   split
   ·exact adZ
   ·exact af0
theorem Bs(X:eu)(c:Int)(C:bq)(r n:Int):(eJ X c C r n).c.seq=C.seq/\(eJ X c C r n).c.bi=C.bi:=by
 unfold eJ
 split
 ·exact adZ
 ·unfold oI
  split
  ·exact adZ
  ·split
   ·exact adZ
   ·exact af0
end
def Hf(X:WM)(k:Int):Prop:=∀c:Int,0<=c->c<3->cW X.sv (X.c c.toNat) c k
theorem Hf.step{X:WM}{k:Int}(h:Hf X k)(K:0<=k)(F:k<4294967290)(o:jd):Hf (X.step o) (k+2):=by
 by_cases a:o.fit=true
 case neg=>
  have S:X.step o=⟨X.sv,X.st,X.c,X.ev++[X.eA o]⟩:=iN a;rw[S];exact λc z R=>(h c z R).Iu rfl rfl oM
 obtain⟨d1,d11,z,R⟩:=zC a;rw[WM.yx a];have D:=h o.c z R;generalize G:X.c o.c.toNat=C at D;have u:X.one o=gR X.sv X.st C o:=by unfold WM.one;rw[G]
 have A:∀{M:gy} {C':bq},(cW M C' o.c (k+2)/\zp X.sv M o.c)->∀{p e b},X.one o=⟨M,p,C',b,e⟩->∀c:Int,0<=c->c<3->cW (X.one o).sv (aJ X.c o.c.toNat (X.one o).c c.toNat) c (k+2):=by
  intro M C' ⟨d,g⟩ p e b H c K Y;rw[H];rcases cH X.c C' z K with⟨S,P⟩|⟨S,P⟩
  ·show cW M (aJ X.c o.c.toNat C' c.toNat) c (k+2)
   rw[P,S];exact d
  ·show cW M (aJ X.c o.c.toNat C' c.toNat) c (k+2)
   rw[P];exact g c _ _ S ((h c K Y).Iu rfl rfl oM)
 have n:∀{C':bq},C'.seq=C.seq->C'.bi=C.bi->∀{p e b},X.one o=⟨X.sv,p,C',b,e⟩->∀c:Int,0<=c->c<3->cW (X.one o).sv (aJ X.c o.c.toNat (X.one o).c c.toNat) c (k+2):=
  λS P _ _ _ H=>A ⟨D.Iu S P oM,zp.refl _ _⟩ H
 show∀c:Int,0<=c->c<3->cW (X.one o).sv (aJ X.c o.c.toNat (X.one o).c c.toNat) c (k+2);have t:=u;unfold gR at t;by_cases V:o.d=1
 ·rw[iP V]at t
  by_cases J:o.n<0
  ·rw[iP J]at t;exact ae3
  ·rw[iN J]at t
   intro c K Y;rw[t];show cW (X.sv.apply _).s (aJ X.c o.c.toNat C c.toNat) c (k+2);have B:=wrap_u64 (X.sv.bB.now+o.n);rw[<-G,Ab];exact((h c K Y).Iu rfl rfl oM).time oM
 rw[iN V]at t;by_cases E:o.d=2
 ·rw[iP E]at t
  by_cases J:o.n<0
  ·rw[iP J]at t;exact ae3
  ·rw[iN J]at t;exact n (by rfl) (by rfl) t
 rw[iN E]at t;by_cases j:o.d=3
 ·rw[iP j]at t;exact A (D.aaL K F o.r) t
 rw[iN j]at t;by_cases i:o.d=4
 ·rw[iP i]at t;exact A (D.aaR o.r F) t
 rw[iN i]at t;by_cases q:o.d=5
 ·rw[iP q]at t;exact n (BD ..).1 (BD ..).2 t
 rw[iN q]at t;by_cases l:o.d=6
 ·rw[iP l]at t;exact n (Gd ..).1 (Gd ..).2 t
 rw[iN l]at t;by_cases w:o.d=7
 ·rw[iP w]at t;exact n (Bs ..).1 (Bs ..).2 t
 rw[iN w]at t;by_cases y:o.d=8
 ·rw[iP y]at t;exact A (D.aaQ F o.r) t
 rw[iN y]at t;by_cases x:o.d=9
 ·rw[iP x]at t
  exact A ⟨⟨D.bB,D.len,ef _,(by show(0:Int)<=k+2;omega),λU=>by cases U⟩,zp.refl _ _⟩ t
 rw[iN x]at t;by_cases r:o.d=10
 ·rw[iP r]at t
  split at t
  ·exact ae3
  ·exact ae3
 rw[iN r]at t
 split at t
 ·exact ae3
 ·exact ae3
end
def vo(f:Nat):Value:= .func (.func f) #[] #[]
abbrev zD:Vq:= #[vo 34,vo 35,vo 36,vo 37,vo 38,vo 39,vo 40,vo 41,vo 42,vo 43,vo 44]
theorem Jz(w:World):(Instr.buildSlice 76 11 #[(0,vo 34),(1,vo 35),(2,vo 36),(3,vo 37),(4,vo 38),(5,vo 39),(6,vo 40),(7,vo 41),(8,vo 42),(9,vo 43),(10,vo 44)]).run prog w= .ok (.slice (aO w.heap.size) 11 11) (w.alloc (.cells zD 80)):=kR
theorem KR{I:aH}{L:List aw}(w:World)(h:St I w L):Calls prog 21 #[] w λe O=>∃j,e= .returned (.slice (aO j) 11 11)/\St I O (ab j 80 zD::L):=by
 have B:=Jz w;unfold vo at B;have H:=aa (h.alloc 80 zD);clear h
 go_enter func21,ntmps21
 go_wp2_with fail
 go_ret
 exact⟨_,rfl,H⟩
theorem GA{I:aH}{L:List aw}(B g:Nat)(b:WX)(i:Int)(C:bq)(X:eu)(o:jd)(A J:Value)(w:World)(Y:¬C.iQ o.r 0=0)
 (h:St I w (cu B b X::cL i g C::L)):
 Rt I w 40 #[pO B,pO g,.agg (fw o A J)] (.tuple #[sN,iI (eJ X i C o.r o.n).e]) (cu B b (eJ X i C o.r o.n).x::cL i g (eJ X i C o.r o.n).c::L):=by
 have j:eJ X i C o.r o.n=⟨X,C,[],C.iQ o.r 0⟩:=iP Y;rw[j];obtain⟨p,F⟩:=h.swap.zg;have h:=F.pk 3 [0,2,1];obtain⟨V,U⟩:=nM (C.iQ o.r 0);have S:(V !=0)=true:=by rw[U];simp[Y]
 rw[<-U];have n:=aa U;have Z:=h.alloc 30 (fw {o with i:=0} A J);obtain⟨P,c⟩:=nM (w.heap.size);obtain⟨y,z,q,G,Q,k,a⟩:=(Z.ah 0 rfl).seven;have G:World.cell? _ ⟨w.heap.size,3,none⟩=some (iI 0):=G;have K:=h.alloc 30 (fw o A J);obtain⟨E,R,W,D,e,u,d⟩:=(K.ah 0 rfl).seven;have r:=(K.ah 0 rfl).frozen;rw[<-c]at Z;refine bm c Z λt H=>?_;clear h K Z F c Y j U
 go_enter func40,ntmps40
 go_wp2_with fail
 rw[<-t.out];refine qK (sF B g ⟨i,C,p⟩ C.bl C.wr {o with i:=0} A J _ (H.fi 1)) λl h=>?_;rw[show(CX.mk i C p).c.iQ ({o with i:=0}:jd).r ({o with i:=0}:jd).i=V from n.out.symm];have M:=St.cF (h.pk 4 [0,3,2]);have N:=aa M.swap;clear h M H y z q G Q k a E R W D e u d
 exact afi
theorem Tn{I:aH}{L:List aw}(hT:ml I)(B g:Nat)(b:WX)(i:Int)(C:bq)(X:eu){N:Nat->Rg}{n:Nat}{T:Int}(o:jd)(A j:Value)(w:World)(hX:fM X N n T)(hn:n<=290000)(Y0:T<256)
 (hW:∀k:Nat,o.r=(k:Int)->k<4->Qc X i C k o.n n T)
 (h:St I w (cu B b X::cL i g C::L)):
 Rt I w 40 #[pO B,pO g,.agg (fw o A j)] (.tuple #[sN,iI (eJ X i C o.r o.n).e]) (cu B b (eJ X i C o.r o.n).x::cL i g (eJ X i C o.r o.n).c::L):=by
 by_cases Y:C.iQ o.r 0=0
 case neg=>exact GA B g b i C X o A j w Y h
 obtain⟨R,c⟩:=nM (eJ X i C o.r o.n);rw[<-c];obtain⟨p,F⟩:=h.swap.zg;have h:=F.pk 3 [0,2,1];clear F;obtain⟨k,hk,D0,_,_⟩:=LO Y;have hF:=(hW k hk D0).flu hn hX;have ER:R=oI (lG X i C (k:Int) o.n) i C (k:Int):=by rw[c];unfold eJ;rw[iN (λh=>h Y),hk]
 rw[<-ER]at hF;obtain⟨t,O0⟩:=nM (C.tok (k:Int));rw[<-O0]at hF;have J1:=aa (hW k hk D0).a.t;refine Cz Y hF O0 Y0 (And.intro hk D0) λHE HF G0 K1 u=>?_;have i0:0<=o.r:=oM
 have i1:o.r<4:=oM
 have Z:=h.alloc 30 (fw {o with i:=0} A j);obtain⟨gq,K0⟩:=nM (w.heap.size);obtain⟨z,W,z2,G,z4,z5,z6⟩:=(Z.ah 0 rfl).seven;have G:World.cell? _ ⟨w.heap.size,3,none⟩=some (iI 0):=G;have h0:=h.alloc 30 (fw o A j);obtain⟨y0,y1,y2,y3,y4,y5,y6⟩:=(h0.ah 0 rfl).seven;have yf:=(h0.ah 0 rfl).frozen;rw[<-K0]at Z;refine bm K0 Z λH1 R0=>?_;clear h h0 Z K0 Y ER hX hn Y0 hk D0 c hW hF O0
 go_enter func40,ntmps40
 go_wp2_with fail
 rw[<-H1.out];refine qK (sF B g ⟨i,C,p⟩ C.bl C.wr {o with i:=0} A j _ (R0.fi 1)) λw1 h=>?_;rw[show(CX.mk i C p).c.iQ ({o with i:=0}:jd).r ({o with i:=0}:jd).i=0 from HE.out];clear z W z2 G z4 z5 z6 y0 y1 y2 y3 y4 y5 y6 yf;obtain⟨z,W,z2,G,z4,z5,z6⟩:=(h.ah 1 rfl).seven;have h2:=(h.alloc 169 #[iI o.n]);have F0:World.cell? _ ⟨gq,2,none⟩=some (iI o.r):=(h2.ah 2 rfl).cell 2;obtain⟨gl,J0⟩:=nM (w1.heap.size);rw[<-J0]at h2;have G1:=aa J0;have h3:=(h2.fi 4).Hd u.2;have H3:=aa (h3.pk 6 [5,3,2,0,1,4]);clear h h2 h3 J0 R0
 go_wp2_with fail
 rw[<-G1.out];rw[u.out.1]at F0;have i2:(0:Int)<=(k:Int):=oM
 have i3:(k:Int)<4:=by have:=u.2;omega
 clear i0 i1
 go_quiet (fail)
 go_wp2_with fail
 clear z W z2 G z4 z5 z6 F0
 go_loopg [] 1 (λgh wr=>∃(U:eu) (x:jc) (vc:Value) (Q:List PU) (H:Int) (nc:Nat),xO R C k i t T gh U x Q H nc/\St I wr (cu B b U::an ((⟨i,C,p⟩:CX).cB k x vc) g C.bl Q::ab gl 169 #[iI H]::aB 6 eO vc x.au::gM p C.r::ab gq 30 (fw {o with i:=0} A j)::L))
 case atStart=>
  refine⟨X,C.r k,p k,C.wr,o.n,_,HF,?_⟩;have D1:=H3.drewN nq;rw[show an (⟨i,C,p⟩:CX) g C.bl C.wr=an ((⟨i,C,p⟩:CX).cB k (C.r k) (p k)) g C.bl C.wr by rw[vL (⟨i,C,p⟩:CX) k]]at D1;exact D1
 case round=>
  clear H3;obtain⟨U,x,vc,Q,H,nc,A0,h⟩:=hrel;have F0:wr.cell? (aD gq 2)=some (iI (k:Int)):=by rw[<-u.out.1];exact(h.ah 5 rfl).cell 2
  refine bm A0 h λK d=>?_;clear h A0
  go_wp2_with fail
  obtain⟨N1,W0⟩:=K.out.h.hx.2;refine qK (BZ hT B g gl b ⟨i,C,p⟩ C.bl Q U k x vc H _ W0 K.h.hx.1 K1 u.2 J1 (by have:=K.h.hy;exact this) (by have:=K.h.hp;rw[G0.out]at this;exact this) K.h.wl K.h.wd d) ?_;rintro w3⟨q,h⟩;obtain⟨S,hS⟩:=nM (cY U i (k:Int) t x Q H);have X0:cY U (CX.mk i C p).id (k:Int) ((CX.mk i C p).c.tok (k:Int)) x Q H=S:=by rw[hS,G0.out]
  rw[X0]at h⊢;have l:=aa (And.intro K hS);have V0:=aa (show S.ws.length<=1000000/\∀Q0∈S.ws,Q0.data.length<=1000000 by rw[hS];exact⟨qJ (KA ..).length_le K.h.wl,λQ0 hq=>K.h.wd Q0 ((KA ..).subset hq)⟩);clear hS X0 W0 d F0;have d:=aa h;clear h;by_cases Y:S.e=0
  ·have e1:(S.e !=0)=false:=by simp[Y]
   have U0:=aa Y;clear Y
   go_wp2_with fail
   refine ak (I:=I) (L0:=cu B b S.x::ab gl 169 #[iI S.l]::aB 6 eO q S.r.au::gM p C.r::L) [⟨none,none,λe=>ab gq 30 (fw {o with i:=0} A j)⟩,⟨none,none,λe=>an ((⟨i,C,p⟩:CX).cB k S.r q) g C.bl S.ws⟩,⟨some 5,none,λe=>ay 213 3 bU (e 5).v (S.ws.filter (ao (k:Int)))⟩] [[],[0],[0,1],[],[3],rG 5,rG 6] (rG 7) rfl kR kR kR (by rfl) (λ_=>rfl) d.fk ?_;refine sO ?_;refine aZ 72 (λe=> #[.pointer (some ⟨g,20,none⟩),iI o.r]) (λe=>(e 5).v) rfl (λe D Lx h=>by(
    have h:=h.fn;refine(sg (cx:=(⟨i,C,p⟩:CX).cB k S.r q) g C.bl S.ws o.r _ V0.1 V0.2 (h.fi 1)).mono ?_;rintro E1 wy⟨P0,rfl,Z⟩;rw[show S.ws.filter (ao o.r)=S.ws.filter (ao (k:Int))by rw[u.out.1]]at Z;exact⟨⟨none,0,P0⟩,rfl,Z.fk⟩)) ?_
   simp only[aR];refine lY ?_;refine ax ?_;intro e w1 h;have h:=h.fn;obtain⟨dA,dc,hV,H0,I0⟩:=(h.fi 2).fx;obtain⟨y,O⟩:=nM ((S.ws.filter (ao (k:Int))).length);rw[<-O]at hV;rw[hV]at h;have F:=(h.fi 2).kF;have F1:=aa O;clear h H0 I0 d;by_cases P:S.ws.filter (ao (k:Int))=[]
   ·have A1:y=0:=by rw[O,P];rfl
    have c:=l.1.done l.2 U0 P;have HR:=aa c;have h6:=St.ur (i:=i) (k:=k) (C:=C) (bl:=C.bl) (F.pk 7 [2,5,6,3]);have H6:=aa h6.swap;clear F h6 c P O;subst A1
    exact afT
   ·have A1:¬y=0:=λY=>P (Yl.1 (O▸Y))
    have M1:¬(y:Int)=0:=oM
    obtain⟨B0,L1,B1,A0⟩:=l.out.1.more l.2 U0 P;have C0:=aa (And.intro B0.1 (And.intro (show 0<=S.r.seq/\S.r.seq<=4294967295 by have:=B0.2.1;omega) (And.intro B0.2.2.1 B0.2.2.2)));refine bm (And.intro B1 A0) F λS0 H5=>?_;clear F P O B0 B1 A0
    go_wp2_with fail
    refine ak (I:=I) (L0:=cu B b S.x::ab gl 169 #[iI S.l]::aB 6 eO q S.r.au::gM p C.r::L) [⟨none,none,λe=>ab gq 30 (fw {o with i:=0} A j)⟩,⟨none,none,λe=>an ((⟨i,C,p⟩:CX).cB k S.r q) g C.bl S.ws⟩,⟨none,some 13,λe=>aB 3 bU (.slice dA y dc) (S.ws.filter (ao (k:Int)))⟩,⟨some 13,none,λe=>ay 175 6 eO (e 13).v (di (k:Int) t S.r.seq (S.ws.filter (ao (k:Int))))⟩] [[],[0],[],[2],[2,3],[],[5],[2,3,4,5,6],[],[8],[8,9],[8,9,10],[],rG 13,rG 14,rG 15,rG 15,rG 16,rG 18] (rG 19) rfl kR kR kR (by rfl) (λ_=>rfl) H5.fk ?_;refine lY ?_;refine kj _ rfl (λe D Lx h=>by(have h:=h.fn;obtain⟨z,W,z2,G,z4,z5,z6⟩:=(h.ah 0 rfl).seven;obtain⟨E,J,M⟩:=(h.fi 1).bT;have ks:D.cell? ⟨g,22+k*5,none⟩=some (iW S.r.seq):=((M.ah 0 rfl).cell (22+k*5)).trans ((rS ((⟨i,C,p⟩:CX).cB k S.r q) E J u.2).trans (by rw[nk]));go_simp;try rfl)) ?_;simp only[aR];refine AG ?_;refine kj _ rfl (λe D Lx h=>by(have h:=h.fn;obtain⟨z,W,z2,G,z4,z5,z6⟩:=(h.ah 0 rfl).seven;obtain⟨E,J,M⟩:=(h.fi 1).bT;have ks:D.cell? ⟨g,22+k*5,none⟩=some (iW S.r.seq):=((M.ah 0 rfl).cell (22+k*5)).trans ((rS ((⟨i,C,p⟩:CX).cB k S.r q) E J u.2).trans (by rw[nk]));go_simp;try rfl)) ?_;simp only[aR];refine aZ 22 (λe=> #[.pointer (some ⟨g,4,none⟩),iI o.r]) (λe=> iU t) rfl (λe D Lx h=>by(
     have h:=h.fn;refine(mM g ((⟨i,C,p⟩:CX).cB k S.r q) C.bl S.ws o.r _ (h.fi 1)).mono ?_;rintro E1 wy⟨rfl,Z⟩;exact⟨⟨none,0,default⟩,(by rw[G0.out,show o.r=(k:Int)from u.out.1];rfl),Z.fk⟩)) ?_
    simp only[aR];refine yk ?_;refine kj _ rfl (λe D Lx h=>by(have h:=h.fn;obtain⟨z,W,z2,G,z4,z5,z6⟩:=(h.ah 0 rfl).seven;obtain⟨E,J,M⟩:=(h.fi 1).bT;have ks:D.cell? ⟨g,22+k*5,none⟩=some (iW S.r.seq):=((M.ah 0 rfl).cell (22+k*5)).trans ((rS ((⟨i,C,p⟩:CX).cB k S.r q) E J u.2).trans (by rw[nk]));go_simp;try rfl)) ?_;simp only[aR];refine lY ?_;refine aZ 73 (λe=> #[iI o.r,iU t,iW S.r.seq,.slice dA y dc]) (λe=> .tuple #[(e 13).v,iI 0]) rfl (λe D Lx h=>by(
     have h:=h.fn;refine(Tv o.r t S.r.seq (S.ws.filter (ao (k:Int))) dA y dc _ C0.2.1 C0.1 (h.fi 2)).mono ?_;rintro E1 wy⟨P0,rfl,Z⟩;rw[show di o.r t S.r.seq (S.ws.filter (ao (k:Int)))=di (k:Int) t S.r.seq (S.ws.filter (ao (k:Int)))by rw[u.out.1]]at Z;exact⟨⟨none,0,P0⟩,(by rw[show o.r=(k:Int)from u.out.1,C0.out.2.2.1];rfl),Z.fk⟩)) ?_
    simp only[aR];refine sO ?_;refine ax ?_;intro e w1 h;have h:=h.fn;obtain⟨V,a,Z0,H0,I0⟩:=(h.fi 2).fx;obtain⟨r,M0⟩:=nM ((di (k:Int) t S.r.seq (S.ws.filter (ao (k:Int)))).length);have T0:=aa M0;rw[<-M0]at Z0;rw[Z0]at h;obtain⟨E,J,M⟩:=(h.fi 1).bT;have kz:=(M.ah 0 rfl).frozen;have kp:w1.cell? ⟨g,22+k*5+3,none⟩=some q:=((M.ah 0 rfl).cell (22+k*5+3)).trans ((l9 ((⟨i,C,p⟩:CX).cB k S.r q) E J u.2).trans (by rw[tP]));have hs:=St.fm (h.fi 1) (22+k*5+3) (.slice V r a) (qS (⟨i,C,p⟩:CX) S.r q (di (k:Int) t S.r.seq (S.ws.filter (ao (k:Int)))) (.slice V r a) u.2);obtain⟨vC,uC,hC⟩:=hs.bT;have O1:=(hC.ah 0 rfl).frozen;have k4:World.cell? _ ⟨g,22+k*5+4,none⟩=some (iI S.r.bS):=((hC.ah 0 rfl).cell (22+k*5+4)).trans ((yW ((⟨i,C,p⟩:CX).cB k ⟨S.r.seq,S.r.iy,S.r.eY,di (k:Int) t S.r.seq (S.ws.filter (ao (k:Int))),S.r.bS⟩ (.slice V r a)) vC uC u.2).trans (by rw[nk]));have N0:=St.fm hs (22+k*5+4) (iI (y:Int)) (zR (⟨i,C,p⟩:CX) ⟨S.r.seq,S.r.iy,S.r.eY,di (k:Int) t S.r.seq (S.ws.filter (ao (k:Int))),S.r.bS⟩ (.slice V r a) (y:Int) u.2);obtain⟨vD,uD,hD⟩:=N0.bT;have ks:World.cell? _ ⟨g,22+k*5,none⟩=some (iW S.r.seq):=((hD.ah 0 rfl).cell (22+k*5)).trans ((rS ((⟨i,C,p⟩:CX).cB k ⟨S.r.seq,S.r.iy,S.r.eY,di (k:Int) t S.r.seq (S.ws.filter (ao (k:Int))),(y:Int)⟩ (.slice V r a)) vD uD u.2).trans (by rw[nk]));have P1:=(hD.ah 0 rfl).frozen;obtain⟨sq,E0⟩:=nM (IntKind.u32.wrap (S.r.seq+(r:Int)));have C1:=St.fm N0 (22+k*5) (iW sq) (CN (⟨i,C,p⟩:CX) ⟨S.r.seq,S.r.iy,S.r.eY,di (k:Int) t S.r.seq (S.ws.filter (ao (k:Int))),(y:Int)⟩ (.slice V r a) sq u.2);have Q1:(r:Int)%4294967296=(r:Int):=Int.emod_eq_of_lt oM (by have:=C0.2.2.2;have:=T0.out;omega);have R1:IntKind.u32.wrap (S.r.seq+(r:Int))=sq:=E0.symm;have S1:(S.r.seq+(r:Int))%4294967296=sq:=by rw[E0];rfl
    refine bm E0 ((C1.fi 2).kF) λI1 H6=>?_;clear h M hC hD hs N0 C1 E0 M0 H0 I0 H5 E J vC uC vD uD
    go_wp2_with fail
    go_roundg L1
    case measure=>have:=S0.1;omega
    case rel=>
     refine⟨S.x,mh k t S,.slice V r a,S.ws,S.l,_,S0.2,?_⟩;have hx:mh k t S=⟨sq,S.r.iy,S.r.eY,di (k:Int) t S.r.seq (S.ws.filter (ao (k:Int))),(y:Int)⟩:=by unfold mh;rw[I1.out,T0.out,F1.out]
     rw[hx];exact H6.sub
  ·have e1:(S.e !=0)=true:=by simp[Y]
   have c:=l.1.bad l.2 Y;have HR:=aa c;have h6:=St.ur (i:=i) (k:=k) (C:=C) (bl:=C.bl) (d.pk 6 [1,3,4,0]);have H6:=aa h6.swap;clear h6 c Y d
   exact afT
section
structure pZ(X:WM)(gv:Nat->Int->Vw)(own:dj)(N:Nat->Rg)(n m:Nat)(T k:Int):Prop where
 g:GI X gv own N n m T
 s:Hf X k
 n:n<=200000
 m:m<=110
 T:T<=200
 k0:0<=k
 k:k<=100000
section
variable {X:WM} {a:Nat->Int->Vw} {own:dj} {N:Nat->Rg} {n m:Nat} {T k:Int} {c:Int}
theorem pZ.tok(h:pZ X a own N n m T k)(z:0<=c)(R:c<3)(r:Int):0<=(X.c c.toNat).tok r/\(X.c c.toNat).tok r<18446744073709551616:=by
 have Z:=h.g.tk c r z R;have V:=h.g.lb;have M:=h.m;omega
theorem pZ.wl(h:pZ X a own N n m T k)(z:0<=c)(R:c<3):(X.c c.toNat).wr.length<=1000000/\(∀y∈(X.c c.toNat).wr,y.data.length<=1000000)/\(X.c c.toNat).bl.length<=1000000/\∀y∈(X.c c.toNat).bl,y.data.length<=1000000:=by
 have D:=h.g.ci c z R;have M:=h.m;refine⟨by have:(X.c c.toNat).wr.length<=m:=D.i.wl;omega,λy E=> ?_,by have:(X.c c.toNat).bl.length<=6:=D.i.len;omega,λy E=> ?_⟩
 ·have:y.data.length<=23:=(D.w y E).2.2.1.2.2
  omega
 ·have:=(D.b y E).2
  omega
theorem pZ.set(h:pZ X a own N n m T k)(z:0<=c)(q:c<3)(l:Int){r:Int}{k':Nat}(G:r=(k':Int))(F:k'<4)(R:(X.c c.toNat).GK r=true):Jp X.st c (X.c c.toNat) k' l n T/\Qc X.st c (X.c c.toNat) k' l n T:=by
 subst G;have H:(k':Int).toNat=k':=rfl;have Z:1<=(X.c c.toNat).tok (k':Int):=by
  unfold bq.GK at R;simp only[mq]at R;rw[mx oM oM,H];rcases h.g.hz c z q k' with e|e
  ·rw[H,e]at R
   exact absurd R.1.1.2 dC
  ·exact e
 obtain⟨V,_⟩:=h.g.lk c (k':Int) z q oM oM Z;have R:=h.tok z q (k':Int);have J:a k' ((X.c c.toNat).tok (k':Int))=⟨(X.c c.toNat).r k',(a k' ((X.c c.toNat).tok (k':Int))).f,(a k' ((X.c c.toNat).tok (k':Int))).ca⟩:=by
  have:=V.x;rw[H]at this;rw[<-this]
 have D:=h.g.ci c z q;have C:=V.w;rw[H]at C;obtain⟨Y,M,_,_⟩:=h.wl z q;have:=h.n;have:=h.m;have:=h.T;exact⟨h.g.w.Yb oM oM c F ⟨Z,R.2⟩ J (D.p _) Y M C l,h.g.w.abI oM oM oM c F ⟨Z,R.2⟩ J D C l⟩
end
theorem Zn{I:aH}{L:List aw}(_:ml I)(B g:Nat)(b:WX)(X:WM)(o:jd)(r:OA)(a z:Nat)(J:Value)(w:World){gv:Nat->Int->Vw}{own:dj}{N:Nat->Rg}{n m:Nat}{T k:Int}(u:pZ X gv own N n m T k)(H:Ia o)(K:0<=o.c)(M:o.c<3)(q:o.d=1)
 (h:St I w (ai .u8 (.slice r a z) o.b::ai .i64 J o.p::cu B b X.st::eK b.gv X.sv::cL o.c g (X.c o.c.toNat)::L)):
 Calls prog 34 #[pO B,pO g,.agg (fw o (.slice r a z) J)] w λe O=>∃E,e= .returned (.tuple #[E,iI (X.one o).e])/\St I O (ai .u8 E (X.one o).b::cu B b (X.one o).st::eK b.gv (X.one o).sv::cL o.c g (X.one o).c::L):=by
 have t:X.one o=gR X.sv X.st (X.c o.c.toNat) o:=rfl;unfold gR at t;rw[iP q]at t;generalize D:X.c o.c.toNat=C at*;obtain⟨S,d,G,i,V⟩:=(h.fi 2).zo;refine qK (Wv B g (b.az (.slice S X.st.az.length d)) X.sv o _ J w (u.s o.c K M).bB (by have:=(u.s o.c K M).len;omega) (by have:=H.n1 oM;omega) (V.pk 6 [0,5,1,2])) λl Q=>?_;have F:=St.rD (Q.pk 4 [0,2,3,1]);have P:=(F.bG (R:=λw=>aA w .u8 sN []) (λO _=>aA.none_ O _));by_cases W:o.n<0
 ·rw[iP W]at t P⊢
  rw[t];exact⟨_,rfl,P⟩
 ·rw[iN W]at t P⊢
  rw[t];exact⟨_,rfl,P⟩
theorem YN{I:aH}{L:List aw}(_:ml I)(B g:Nat)(b:WX)(X:WM)(o:jd)(r:OA)(a z:Nat)(J:Value)(w:World){gv:Nat->Int->Vw}{own:dj}{N:Nat->Rg}{n m:Nat}{T k:Int}(_:pZ X gv own N n m T k)(H:Ia o)(_:0<=o.c)(_:o.c<3)(q:o.d=2)
 (h:St I w (ai .u8 (.slice r a z) o.b::ai .i64 J o.p::cu B b X.st::eK b.gv X.sv::cL o.c g (X.c o.c.toNat)::L)):
 Calls prog 35 #[pO B,pO g,.agg (fw o (.slice r a z) J)] w λe O=>∃E,e= .returned (.tuple #[E,iI (X.one o).e])/\St I O (ai .u8 E (X.one o).b::cu B b (X.one o).st::eK b.gv (X.one o).sv::cL o.c g (X.one o).c::L):=by
 have t:X.one o=gR X.sv X.st (X.c o.c.toNat) o:=rfl;unfold gR at t;rw[iN oM,iP q]at t;generalize D:X.c o.c.toNat=C at*;obtain⟨p,F⟩:=(h.fi 4).zg;refine qK (Ua B g ⟨o.c,C,p⟩ C.bl C.wr o _ J w (by have:=H.n1 oM;omega) (F.pk 4 [0,1])) λl Q=>?_;by_cases W:o.n<0
 ·rw[iP W]at t Q⊢
  rw[t];have P:=St.cF (i:=o.c) (C:=C) (p:=p) Q;exact afo
 ·rw[iN W]at t Q⊢
  rw[t];have P:=St.cF (i:=o.c) (C:={C with jg:=IntKind.u64.wrap (C.jg+o.n)}) (p:=p) Q;exact afo
theorem Zm{I:aH}{L:List aw}(_:ml I)(B g:Nat)(b:WX)(X:WM)(o:jd)(r:OA)(E G:Nat)(J:Value)(w:World){gv:Nat->Int->Vw}{own:dj}{N:Nat->Rg}{n m:Nat}{T k:Int}(u:pZ X gv own N n m T k)(_:Ia o)(K:0<=o.c)(M:o.c<3)(hd:o.d=3)
 (h:St I w (ai .u8 (.slice r E G) o.b::ai .i64 J o.p::cu B b X.st::eK b.gv X.sv::cL o.c g (X.c o.c.toNat)::L)):
 Calls prog 36 #[pO B,pO g,.agg (fw o (.slice r E G) J)] w λe O=>∃V,e= .returned (.tuple #[V,iI (X.one o).e])/\St I O (ai .u8 V (X.one o).b::cu B b (X.one o).st::eK b.gv (X.one o).sv::cL o.c g (X.one o).c::L):=by
 have t:X.one o=gR X.sv X.st (X.c o.c.toNat) o:=rfl;unfold gR at t;rw[iN oM,iN oM,iP hd]at t;generalize D:X.c o.c.toNat=C at*;have hk:=u.k;have C0:=u.k0;have hm:=u.m;have U:=u.s o.c K M;have Z:=u.wl K M;rw[D]at U Z;have P:∀v,0<=o.r->o.r<4->(iV X.sv o.c C).e=0->v=((iV X.sv o.c C).s.apply ⟨3,o.c,dX (iV X.sv o.c C).c.seq,o.r,2,0,0⟩)->v.e=0->0<=v.v/\v.v<18446744073709551616:=by
  intro v r0 r4 he P c;obtain⟨gY,W,_,_,_⟩:=u.g.ZZ K M (m':=m+1) oM oM;rw[D]at W;generalize iV X.sv o.c C=Y at*;obtain⟨G0,H,B0⟩:=W.tb.acquire o.c o.r;have A:=W.lb;by_cases a:(aQ Y.s.bi o.c).isSome=true
  ·rw[P,j7 (.inl rfl) a,VJ]at c⊢
   obtain⟨_,_,x,hx,_,D0⟩:=B0 c;have j:=H.i.own o.r.toNat oM x hx;have S:=H.up;have A:Y.s.bB.last<=20*((m+1:Nat):Int):=A;have S:(Y.s.bB.acquire o.c o.r 2).1.last<=Y.s.bB.last+1:=S;show 0<=(Y.s.bB.acquire o.c o.r 2).2.1/\(Y.s.bB.acquire o.c o.r 2).2.1<18446744073709551616;rw[<-D0];omega
  ·rw[P,sI (.inl rfl) a]at c
   exact absurd c (by show¬(81:Int)=0;decide)
 obtain⟨p,l⟩:=(h.fi 4).zg;obtain⟨q,d,E0,F0,F⟩:=(l.fi 4).zo;refine qK (MF B g (b.az (.slice q X.st.az.length d)) ⟨o.c,C,p⟩ X.sv o _ J k w U K M C0 oM P Z.1 Z.2.1 (F.pk 8 [0,7,3,4,1,2])) ?_;rintro w1⟨p',y,Q⟩;rw[t];have y:∀i,(p' i=p i/\(ji X.sv o.c C o.r).c.r i=C.r i)\/(p' i= sN/\((ji X.sv o.c C o.r).c.r i).au=[]):=y;have h6:=((Q.fi 3).KD (p':=p') (r':=(ji X.sv o.c C o.r).c.r) (λi=>(y i).imp (λz=>⟨z.1,by rw[z.2]⟩) (λz=>z)));have j:=St.cF (h6.pk 4 [3,0,1,2]);have S:=St.rD (j.pk 5 [1,3,4,0,2]);exact⟨_,rfl,((S.bG (R:=λw=>aA w .u8 sN []) (λO _=>aA.none_ O _))).sub⟩
theorem GJ(S:gy)(c:Int)(C:bq)(r:Int):(dI S c C r).c.r=C.r/\(dI S c C r).c.bl=C.bl/\(dI S c C r).c.wr=C.wr:=by
 unfold dI
 split
 ·exact⟨rfl,rfl,rfl⟩
 ·have:=vu S c C r (C.tok r)
  exact⟨this.2.2,this.1,this.2.1⟩
theorem Mv(S:gy)(c:Int)(C:bq)(r:Int):(jJ S c C r).c.r=C.r:=by
 unfold jJ
 split
 ·rfl
 ·show(({C with seq:=dX C.seq}:bq).gone r).r=C.r
  unfold bq.gone
  split<;>rfl
theorem Za{I:aH}{L:List aw}(_:ml I)(B g:Nat)(b:WX)(X:WM)(o:jd)(r:OA)(a z:Nat)(J:Value)(w:World){gv:Nat->Int->Vw}{own:dj}{N:Nat->Rg}{n m:Nat}{T k:Int}(u:pZ X gv own N n m T k)(_:Ia o)(K:0<=o.c)(M:o.c<3)(q:o.d=4)
 (h:St I w (ai .u8 (.slice r a z) o.b::ai .i64 J o.p::cu B b X.st::eK b.gv X.sv::cL o.c g (X.c o.c.toNat)::L)):
 Calls prog 37 #[pO B,pO g,.agg (fw o (.slice r a z) J)] w λe O=>∃E,e= .returned (.tuple #[E,iI (X.one o).e])/\St I O (ai .u8 E (X.one o).b::cu B b (X.one o).st::eK b.gv (X.one o).sv::cL o.c g (X.one o).c::L):=by
 have t:X.one o=gR X.sv X.st (X.c o.c.toNat) o:=rfl;unfold gR at t;rw[iN oM,iN oM,iN oM,iP q]at t;generalize D:X.c o.c.toNat=C at*;have x:=u.k;have U:=u.s o.c K M;have Z:=u.wl K M;have W:=u.tok K M o.r;have Y:=λH=>u.g.s0 o.c K M H o.r;rw[D]at U Z W Y;obtain⟨p,F⟩:=(h.fi 4).zg;obtain⟨S,d,G,y,V⟩:=(F.fi 4).zo;refine qK (NZ B g (b.az (.slice S X.st.az.length d)) ⟨o.c,C,p⟩ C.bl C.wr X.sv o _ J k w U K M oM Y W (V.pk 8 [0,7,3,4,1,2])) λl Q=>?_;rw[t];have c:(dI X.sv o.c C o.r).c.r=C.r/\(dI X.sv o.c C o.r).c.bl=C.bl/\(dI X.sv o.c C o.r).c.wr=C.wr:=GJ _ _ _ _;have P:St I l (an ⟨o.c,(dI X.sv o.c C o.r).c,p⟩ g (dI X.sv o.c C o.r).c.bl (dI X.sv o.c C o.r).c.wr::gM p (dI X.sv o.c C o.r).c.r::ab B 55 (wC (b.az (.slice S X.st.az.length d)))::eK b.gv (dI X.sv o.c C o.r).s::ay 184 10 lR (.slice S X.st.az.length d) X.st.az::uN b.gs b.gd X.st::L):=by
  rw[c.1,c.2.1,c.2.2];exact Q.sub
 exact aeF
theorem YT{I:aH}{L:List aw}(_:ml I)(B g:Nat)(b:WX)(X:WM)(o:jd)(r:OA)(a z:Nat)(J:Value)(w:World){gv:Nat->Int->Vw}{own:dj}{N:Nat->Rg}{n m:Nat}{T k:Int}(u:pZ X gv own N n m T k)(_:Ia o)(K:0<=o.c)(M:o.c<3)(q:o.d=5)
 (h:St I w (ai .u8 (.slice r a z) o.b::ai .i64 J o.p::cu B b X.st::eK b.gv X.sv::cL o.c g (X.c o.c.toNat)::L)):
 Calls prog 38 #[pO B,pO g,.agg (fw o (.slice r a z) J)] w λe O=>∃E,e= .returned (.tuple #[E,iI (X.one o).e])/\St I O (ai .u8 E (X.one o).b::cu B b (X.one o).st::eK b.gv (X.one o).sv::cL o.c g (X.one o).c::L):=by
 have t:X.one o=gR X.sv X.st (X.c o.c.toNat) o:=rfl;unfold gR at t;rw[iN oM,iN oM,iN oM,iN oM,iP q]at t;generalize D:X.c o.c.toNat=C at*;have Z:=u.wl K M;rw[D]at Z;obtain⟨p,F⟩:=(h.fi 4).zg;refine qK (Qj B g ⟨o.c,C,p⟩ o r a z J w Z.2.2.1 Z.1 Z.2.1 (F.pk 4 [2,0,1])) λl Q=>?_;rw[t];have c:(dO C o.r o.i o.b).1.r=C.r:=by unfold dO;split<;>rfl
 have P:St I l (an ⟨o.c,(dO C o.r o.i o.b).1,p⟩ g (dO C o.r o.i o.b).1.bl (dO C o.r o.i o.b).1.wr::gM p (dO C o.r o.i o.b).1.r::cu B b X.st::eK b.gv X.sv::L):=by
  rw[c];exact Q.sub
 have j:=St.cF P;exact afp
theorem YS{I:aH}{L:List aw}(A:ml I)(B g:Nat)(b:WX)(X:WM)(o:jd)(r:OA)(a z:Nat)(J:Value)(w:World){gv:Nat->Int->Vw}{own:dj}{N:Nat->Rg}{n m:Nat}{T k:Int}(u:pZ X gv own N n m T k)(_:Ia o)(K:0<=o.c)(M:o.c<3)(y:o.d=6)
 (h:St I w (ai .u8 (.slice r a z) o.b::ai .i64 J o.p::cu B b X.st::eK b.gv X.sv::cL o.c g (X.c o.c.toNat)::L)):
 Calls prog 39 #[pO B,pO g,.agg (fw o (.slice r a z) J)] w λe O=>∃E,e= .returned (.tuple #[E,iI (X.one o).e])/\St I O (ai .u8 E (X.one o).b::cu B b (X.one o).st::eK b.gv (X.one o).sv::cL o.c g (X.one o).c::L):=by
 have t:X.one o=gR X.sv X.st (X.c o.c.toNat) o:=rfl;unfold gR at t;rw[iN oM,iN oM,iN oM,iN oM,iN oM,iP y]at t;generalize D:X.c o.c.toNat=C at*;have Z:=u.wl K M;have c:=λ(l:Int) (k':Nat) (G:o.r=(k':Int)) (F:k'<4) (Y:(X.c o.c.toNat).GK o.r=true)=>(u.set K M l G F Y).1;rw[D]at Z c;have W:=u.n;have U:=u.T;refine(Wu A B g b o.c C X.st o _ J w u.g.w.s oM oM (λR k' G F=>c o.n k' G F (zF R).2.2) Z.2.2.1 (λq d=>by have:=Z.2.2.2 q d;omega) (h.pk 5 [2,4,3])).mono ?_;rintro e j⟨E,rfl,Q⟩;rw[t];exact⟨_,rfl,Q.sub⟩
theorem YP{I:aH}{L:List aw}(A:ml I)(B g:Nat)(b:WX)(X:WM)(o:jd)(r:OA)(a z:Nat)(J:Value)(w:World){gv:Nat->Int->Vw}{own:dj}{N:Nat->Rg}{n m:Nat}{T k:Int}(u:pZ X gv own N n m T k)(_:Ia o)(K:0<=o.c)(M:o.c<3)(q:o.d=7)
 (h:St I w (ai .u8 (.slice r a z) o.b::ai .i64 J o.p::cu B b X.st::eK b.gv X.sv::cL o.c g (X.c o.c.toNat)::L)):
 Calls prog 40 #[pO B,pO g,.agg (fw o (.slice r a z) J)] w λe O=>∃E,e= .returned (.tuple #[E,iI (X.one o).e])/\St I O (ai .u8 E (X.one o).b::cu B b (X.one o).st::eK b.gv (X.one o).sv::cL o.c g (X.one o).c::L):=by
 have t:X.one o=gR X.sv X.st (X.c o.c.toNat) o:=rfl;unfold gR at t;rw[iN oM,iN oM,iN oM,iN oM,iN oM,iN oM,iP q]at t;generalize D:X.c o.c.toNat=C at*;have c:=λ(l:Int) (k':Nat) (G:o.r=(k':Int)) (F:k'<4) (d:(X.c o.c.toNat).GK o.r=true)=>(u.set K M l G F d).2;rw[D]at c;have W:=u.n;have U:=u.T;by_cases Y:C.iQ o.r 0=0
 case neg=>
  refine qK (GA B g b o.c C X.st o _ J w Y (h.pk 5 [2,4,3])) λy Q=>?_;exact ad7
 refine qK (Tn A B g b o.c C X.st o _ J w u.g.w.s oM oM (λk' G F=>c o.n k' G F (zF Y).2.2) (h.pk 5 [2,4,3])) λy Q=>?_;exact ad7
theorem Zx{I:aH}{L:List aw}(_:ml I)(B g:Nat)(b:WX)(X:WM)(o:jd)(r:OA)(a z:Nat)(J:Value)(w:World){gv:Nat->Int->Vw}{own:dj}{N:Nat->Rg}{n m:Nat}{T k:Int}(u:pZ X gv own N n m T k)(_:Ia o)(K:0<=o.c)(M:o.c<3)(q:o.d=8)
 (h:St I w (ai .u8 (.slice r a z) o.b::ai .i64 J o.p::cu B b X.st::eK b.gv X.sv::cL o.c g (X.c o.c.toNat)::L)):
 Calls prog 41 #[pO B,pO g,.agg (fw o (.slice r a z) J)] w λe O=>∃E,e= .returned (.tuple #[E,iI (X.one o).e])/\St I O (ai .u8 E (X.one o).b::cu B b (X.one o).st::eK b.gv (X.one o).sv::cL o.c g (X.one o).c::L):=by
 have t:X.one o=gR X.sv X.st (X.c o.c.toNat) o:=rfl;unfold gR at t;rw[iN oM,iN oM,iN oM,iN oM,iN oM,iN oM,iN oM,iP q]at t;generalize D:X.c o.c.toNat=C at*;have x:=u.k;have U:=u.s o.c K M;have Z:=u.wl K M;have W:=u.tok K M o.r;have Y:=λH=>u.g.s0 o.c K M H o.r;rw[D]at U Z W Y;obtain⟨p,F⟩:=(h.fi 4).zg;obtain⟨S,d,G,y,V⟩:=(F.fi 4).zo;refine qK (Oj B g (b.az (.slice S X.st.az.length d)) ⟨o.c,C,p⟩ X.sv o _ J k w U K M oM Y W Z.1 Z.2.1 (V.pk 8 [0,7,3,4,1,2])) λl Q=>?_;rw[t];have c:(jJ X.sv o.c C o.r).c.r=C.r:=Mv _ _ _ _;have P:St I l (an ⟨o.c,(jJ X.sv o.c C o.r).c,p⟩ g (jJ X.sv o.c C o.r).c.bl (jJ X.sv o.c C o.r).c.wr::gM p (jJ X.sv o.c C o.r).c.r::ab B 55 (wC (b.az (.slice S X.st.az.length d)))::eK b.gv (jJ X.sv o.c C o.r).s::ay 184 10 lR (.slice S X.st.az.length d) X.st.az::uN b.gs b.gd X.st::L):=by
  rw[c];exact Q.sub
 exact aeF
theorem ZE{I:aH}{L:List aw}(_:ml I)(B g:Nat)(b:WX)(X:WM)(o:jd)(r:OA)(a z:Nat)(J:Value)(w:World){gv:Nat->Int->Vw}{own:dj}{N:Nat->Rg}{n m:Nat}{T k:Int}(_:pZ X gv own N n m T k)(_:Ia o)(_:0<=o.c)(_:o.c<3)(q:o.d=9)
 (h:St I w (ai .u8 (.slice r a z) o.b::ai .i64 J o.p::cu B b X.st::eK b.gv X.sv::cL o.c g (X.c o.c.toNat)::L)):
 Calls prog 42 #[pO B,pO g,.agg (fw o (.slice r a z) J)] w λe O=>∃E,e= .returned (.tuple #[E,iI (X.one o).e])/\St I O (ai .u8 E (X.one o).b::cu B b (X.one o).st::eK b.gv (X.one o).sv::cL o.c g (X.one o).c::L):=by
 have t:X.one o=gR X.sv X.st (X.c o.c.toNat) o:=rfl;unfold gR at t;rw[iN oM,iN oM,iN oM,iN oM,iN oM,iN oM,iN oM,iN oM,iP q]at t;generalize D:X.c o.c.toNat=C at*;obtain⟨p,F⟩:=(h.fi 4).zg;refine qK (Wq B g ⟨o.c,C,p⟩ C.bl C.wr o _ J w (F.pk 4 [0,1])) λl Q=>?_;rw[t];have P:=((Q.fi 1).KD (p':=λ_=> sN) (r':=(bq.zero C.jg).r) (λi=> .inr ⟨rfl,rfl⟩));have j:=St.cF (i:=o.c) (C:=bq.zero C.jg) (p:=λ_=> sN) (P.pk 2 [1,0]);exact afp
theorem WN{I:aH}{L:List aw}(A:ml I)(B g:Nat)(b:WX)(X:WM)(o:jd)(r:OA)(a z:Nat)(J:Value)(w:World){gv:Nat->Int->Vw}{own:dj}{N:Nat->Rg}{n m:Nat}{T k:Int}(u:pZ X gv own N n m T k)(_:Ia o)(_:0<=o.c)(_:o.c<3)(q:o.d=10)
 (h:St I w (ai .u8 (.slice r a z) o.b::ai .i64 J o.p::cu B b X.st::eK b.gv X.sv::cL o.c g (X.c o.c.toNat)::L)):
 Calls prog 43 #[pO B,pO g,.agg (fw o (.slice r a z) J)] w λe O=>∃E,e= .returned (.tuple #[E,iI (X.one o).e])/\St I O (ai .u8 E (X.one o).b::cu B b (X.one o).st::eK b.gv (X.one o).sv::cL o.c g (X.one o).c::L):=by
 have t:X.one o=gR X.sv X.st (X.c o.c.toNat) o:=rfl;unfold gR at t;rw[iN oM,iN oM,iN oM,iN oM,iN oM,iN oM,iN oM,iN oM,iN oM,iP q]at t;generalize D:X.c o.c.toNat=C at*;have W:=u.n;have U:=u.T;refine qK (Tc A B g b X.st o _ J w u.g.w.s oM oM (h.pk 2 [])) λl Q=>?_;by_cases c:o.n<0\/(X.st.az.length:Int)<=o.n
 ·rw[iP c]at t Q⊢
  exact ad7
 ·rw[iN c]at t Q⊢
  exact ad7
theorem Xp{I:aH}{L:List aw}(A:ml I)(B g:Nat)(b:WX)(X:WM)(o:jd)(r:OA)(a z:Nat)(J:Value)(w:World){gv:Nat->Int->Vw}{own:dj}{N:Nat->Rg}{n m:Nat}{T k:Int}(u:pZ X gv own N n m T k)(_:Ia o)(_:0<=o.c)(_:o.c<3)(q:o.d=11)
 (h:St I w (ai .u8 (.slice r a z) o.b::ai .i64 J o.p::cu B b X.st::eK b.gv X.sv::cL o.c g (X.c o.c.toNat)::L)):
 Calls prog 44 #[pO B,pO g,.agg (fw o (.slice r a z) J)] w λe O=>∃E,e= .returned (.tuple #[E,iI (X.one o).e])/\St I O (ai .u8 E (X.one o).b::cu B b (X.one o).st::eK b.gv (X.one o).sv::cL o.c g (X.one o).c::L):=by
 have t:X.one o=gR X.sv X.st (X.c o.c.toNat) o:=rfl;unfold gR at t;rw[iN oM,iN oM,iN oM,iN oM,iN oM,iN oM,iN oM,iN oM,iN oM,iN oM]at t;generalize D:X.c o.c.toNat=C at*;have W:=u.n;have U:=u.T;refine qK (To A B g b X.st o _ J w u.g.w.s oM oM (h.pk 1 [])) λl Q=>?_;by_cases S:o.i≠0
 ·rw[iP S]at t Q
  exact ad7
 ·rw[iN S]at t Q
  exact ad7
end
section
def Wh:WM:=WM.new Hi
theorem dw.new(r:Int):dw (λt=>aG r t []) (λ_=>Vw.zero) Rg.zero (λ_=>0) where
 h0:=ef _
 s1 h:=absurd h adu
 kh _ _:=rfl
 kp _ _:=jG _
 ks _ _:=ef _
 v:=rfl
 lg:=⟨[],0,λ_=>[],⟨rfl,rfl,λ_ h=>(by cases h)⟩⟩
 lk _ _ _ h:=by cases h
 ca _ _ _ h:=by cases h
 fe _ _ h:=by cases h
 vr _ _ _ h:=by cases h
 Xa h:=absurd h adu
 fD h:=absurd h adu
theorem GI.new:GI Wh (λ_ _=>Vw.zero) (λ_=>(0,0)) Hi.M 0 0 1:=by
 obtain⟨_,g,b,u⟩:=Sd;have A:∀k,(Hi.M k).aE=0:=λk=>by rw[g];rfl
 have G:∀r:Int,0<=r->r<4->∃k,dw (λt=>aG r t []) (λ_=>Vw.zero) (Hi.M r.toNat) k:=λr _ _=>⟨_,by rw[g];exact dw.new r⟩;refine⟨⟨⟨.inl ⟨rfl,rfl,b⟩,g9 _,λp o=>(by cases o)⟩,⟨ef _,λ_=>⟨rfl,u,λp o=>(by cases o)⟩,λk=> .inl (A k),λk=> .inl (A k)⟩,⟨G,G,λr t _ _ _=>QS.zero _ _ _,λp o=>(by cases o)⟩⟩,λc _ _=>nw.zero _ _,λc r _ _ _ _ h=> ?_,λc r _ _=> ?_,λr t _ _ _=>⟨rfl,rfl⟩,⟨ef _,λ_ _=>jG _,λ_ _ h H=>(by cases H),λ_ _ h H=>(by cases H),λ_ _ h H=>(by cases H),λ_ _=>List.Pairwise.nil⟩,ef _,λ_ _ h H=>(by cases H),λ_ _ h H=>(by cases H),λr _ _ h H=>(by cases H),λr _ _ h H=>(by cases H),λc r _ _ _ _=>ef _,λc _ _ h=>(by cases h),λc _ _ _ r=>nG _ _,λe Y=>(by cases Y),λe Y=>(by cases Y),λc _ _ k=> .inl rfl⟩
 ·have h:1<=(bq.zero 0).tok r:=h
  rw[nG]at h;omega
 ·show 0<=(bq.zero 0).tok r/\(bq.zero 0).tok r<=0
  rw[nG];omega
theorem Hf.new:Hf Wh 0:=λc _ _=>⟨⟨dC,dC,dC,dC,λ_ _=>jG _,λ_ _=>jG _⟩,jG _,ef _,ef _,λh=>(by cases h)⟩
structure yC(X:WM)(gv:Nat->Int->Vw)(own:dj)(N:Nat->Rg)(i:Nat)(T:Int):Prop where
 g:GI X gv own N (610*i) (2*i) T
 s:Hf X (2*(i:Int))
theorem yC.new:yC Wh (λ_ _=>Vw.zero) (λ_=>(0,0)) Hi.M 0 1:=⟨GI.new,Hf.new⟩
section
variable {X:WM} {a:Nat->Int->Vw} {own:dj} {N:Nat->Rg} {i:Nat} {T:Int}
theorem yC.now(h:yC X a own N i T)(z:i<=55)(A:T<=200):pZ X a own N (610*i) (2*i) T (2*(i:Int)):=⟨h.g,h.s,oM,oM,A,oM,oM⟩
theorem yC.step(h:yC X a own N i T)(z:i<=55)(A:T<=200){o:jd}(H:Ia o){T1:Int}(q:T<=T1)(b:o.d=11->T+1<=T1):∃c k w,yC (X.step o) c k w (i+1) T1/\Ge X own o (X.step o) k:=by
 obtain⟨c,k,w,Z,V⟩:=h.g.step oM oM A H q b;refine⟨c,k,w,⟨Z.mono oM oM (ef _),?_⟩,V⟩;have:=h.s.step oM oM o;rwa[show 2*(i:Int)+2=2*((i+1:Nat):Int)by omega]at this
end
theorem oB(X:WM)(o:jd):(X.step o).ev=X.ev++[X.eA o]:=by
 unfold WM.step
 split<;>rfl
def EC(e:eW):Bool:=(e.d==3)&&(e.e==0)
end
end Go.Proofs.YtblpaldggenbaaaGreatDoor
