/- A part. -/
import Derived.Test.YtblpaldggenbaaaGreatDoorMy
namespace Go.Proofs.YtblpaldggenbaaaGreatDoor
open Go.RowKit Go.Proofs.Tryz
set_option maxRecDepth 100000
set_option maxHeartbeats 64000000
theorem Gs{I:aK}{L:List az}(B g:Nat)(b:WX)(i:Int)(C:aY)(X:dz)(o:eH)(D J:Value)(w:World)(Y:¬C.eI o.r 0=0)
 (h:St I w (bU B b X::cP i g C::L)):
 Rt I w 40 #[pO B,pO g,.agg (dW o D J)] (.tuple #[sN,iI (bz X i C o.r o.n).e]) (bU B b (bz X i C o.r o.n).x::cP i g (bz X i C o.r o.n).c::L):=by
 have W:bz X i C o.r o.n=⟨X,C,[],C.eI o.r 0⟩:=iP Y;rw[W];obtain⟨p,U⟩:=h.swap.zk;have h:=U.pk 3 [0,2,1];obtain⟨V,a⟩:=nM (C.eI o.r 0);have u:(V !=0)=true:=by rw[a];simp[Y]
 rw[<-a];have k:=aa a;have Z:=h.alloc 30 (dW {o with i:=0} D J);obtain⟨n,c⟩:=nM (w.heap.size);obtain⟨l,y,T,j,r,E,Q⟩:=(Z.ah 0 rfl).seven;have j:World.cell? _ ⟨w.heap.size,3,none⟩=some (iI 0):=j;have K:=h.alloc 30 (dW o D J);obtain⟨R,P,d,S,x,A,F⟩:=(K.ah 0 rfl).seven;have e:=(K.ah 0 rfl).frozen;rw[<-c]at Z;refine bq c Z λt H=>?_;clear h K Z U c Y W a
 go_enter func40,ntmps40
 go_wp2_with fail
 rw[<-t.out];refine qK (sM B g ⟨i,C,p⟩ C.bl C.wr {o with i:=0} D J _ (H.fi 1)) λz h=>?_;rw[show(CX.mk i C p).c.eI ({o with i:=0}:eH).r ({o with i:=0}:eH).i=V from k.out.symm];have M:=St.cH (h.pk 4 [0,3,2]);have q:=aa M.swap;clear h M H l y T j r E Q R P d S x A F
 go_wp2_with fail
 go_ret2
 exact⟨rfl,q⟩
theorem SL{I:aK}{L:List az}(hT:kL I)(B g:Nat)(b:WX)(i:Int)(C:aY)(X:dz){N:Nat->Rg}{n:Nat}{T:Int}(o:eH)(D J:Value)(w:World)(hX:fN X N n T)(hn:n<=290000)(X0:T<256)
 (hW:∀k:Nat,o.r=(k:Int)->k<4->Px X i C k o.n n T)
 (h:St I w (bU B b X::cP i g C::L)):
 Rt I w 40 #[pO B,pO g,.agg (dW o D J)] (.tuple #[sN,iI (bz X i C o.r o.n).e]) (bU B b (bz X i C o.r o.n).x::cP i g (bz X i C o.r o.n).c::L):=by
 by_cases Y:C.eI o.r 0=0
 case neg=>exact Gs B g b i C X o D J w Y h
 obtain⟨U0,c⟩:=nM (bz X i C o.r o.n);rw[<-c];obtain⟨p,U⟩:=h.swap.zk;have h:=U.pk 3 [0,2,1];clear U;obtain⟨k,hk,D0,_,_⟩:=Lw Y;have hF:=(hW k hk D0).flu hn hX;have ER:U0=mX (fU X i C (k:Int) o.n) i C (k:Int):=by rw[c];unfold bz;rw[iN (λh=>h Y),hk]
 rw[<-ER]at hF;obtain⟨t,O0⟩:=nM (C.tok (k:Int));rw[<-O0]at hF;have I1:=aa (hW k hk D0).a.t;refine AS Y hF O0 X0 (And.intro hk D0) λHE HF G0 J1 d=>?_;have i0:0<=o.r:=oM
 have i1:o.r<4:=oM
 have Z:=h.alloc 30 (dW {o with i:=0} D J);obtain⟨gq,K0⟩:=nM (w.heap.size);obtain⟨Q,O,z2,j,z4,z5,z6⟩:=(Z.ah 0 rfl).seven;have j:World.cell? _ ⟨w.heap.size,3,none⟩=some (iI 0):=j;have h0:=h.alloc 30 (dW o D J);obtain⟨y0,y1,y2,y3,y4,y5,y6⟩:=(h0.ah 0 rfl).seven;have yf:=(h0.ah 0 rfl).frozen;rw[<-K0]at Z;refine bq K0 Z λG1 P0=>?_;clear h h0 Z K0 Y ER hX hn X0 hk D0 c hW hF O0
 go_enter func40,ntmps40
 go_wp2_with fail
 rw[<-G1.out];refine qK (sM B g ⟨i,C,p⟩ C.bl C.wr {o with i:=0} D J _ (P0.fi 1)) λw1 h=>?_;rw[show(CX.mk i C p).c.eI ({o with i:=0}:eH).r ({o with i:=0}:eH).i=0 from HE.out];clear Q O z2 j z4 z5 z6 y0 y1 y2 y3 y4 y5 y6 yf;obtain⟨Q,O,z2,j,z4,z5,z6⟩:=(h.ah 1 rfl).seven;have h2:=(h.alloc 169 #[iI o.n]);have F0:World.cell? _ ⟨gq,2,none⟩=some (iI o.r):=(h2.ah 2 rfl).cell 2;obtain⟨gl,J0⟩:=nM (w1.heap.size);rw[<-J0]at h2;have F1:=aa J0;have h3:=(h2.fi 4).GU d.2;have H3:=aa (h3.pk 6 [5,3,2,0,1,4]);clear h h2 h3 J0 P0
 go_wp2_with fail
 rw[<-F1.out];rw[d.out.1]at F0;have i2:(0:Int)<=(k:Int):=oM
 have i3:(k:Int)<4:=by have:=d.2;omega
 clear i0 i1
 go_quiet (fail)
 go_wp2_with fail
 clear Q O z2 j z4 z5 z6 F0
 go_loopg [] 1 (λgh wr=>∃(x:dz) (K:dO) (vc:Value) (M:List PU) (G:Int) (nc:Nat),xU U0 C k i t T gh x K M G nc/\St I wr (bU B b x::ak ((⟨i,C,p⟩:CX).bK k K vc) g C.bl M::ab gl 169 #[iI G]::aG 6 dY vc K.aq::gQ p C.r::ab gq 30 (dW {o with i:=0} D J)::L))
 case atStart=>
  refine⟨X,C.r k,p k,C.wr,o.n,_,HF,?_⟩;have C1:=H3.drewN nq;rw[show ak (⟨i,C,p⟩:CX) g C.bl C.wr=ak ((⟨i,C,p⟩:CX).bK k (C.r k) (p k)) g C.bl C.wr by rw[vP (⟨i,C,p⟩:CX) k]]at C1;exact C1
 case round=>
  clear H3;obtain⟨x,K,vc,M,G,nc,A0,h⟩:=hrel;have F0:wr.cell? (aD gq 2)=some (iI (k:Int)):=by rw[<-d.out.1];exact(h.ah 5 rfl).cell 2
  refine bq A0 h λF E=>?_;clear h A0
  go_wp2_with fail
  obtain⟨N1,V0⟩:=F.out.h.hx.2;refine qK (Cg hT B g gl b ⟨i,C,p⟩ C.bl M x k K vc G _ V0 F.h.hx.1 J1 d.2 I1 (by have:=F.h.hy;exact this) (by have:=F.h.hp;rw[G0.out]at this;exact this) F.h.wl F.h.wd E) ?_;rintro w3⟨V,h⟩;obtain⟨S,hS⟩:=nM (cz x i (k:Int) t K M G);have W0:cz x (CX.mk i C p).id (k:Int) ((CX.mk i C p).c.tok (k:Int)) K M G=S:=by rw[hS,G0.out]
  rw[W0]at h⊢;have H:=aa (And.intro F hS);have T0:=aa (show S.ws.length<=1000000/\∀q∈S.ws,q.data.length<=1000000 by rw[hS];exact⟨qJ (Kd ..).length_le F.h.wl,λq hq=>F.h.wd q ((Kd ..).subset hq)⟩);clear hS W0 V0 E F0;have E:=aa h;clear h;by_cases Y:S.e=0
  ·have e1:(S.e !=0)=false:=by simp[Y]
   have S0:=aa Y;clear Y
   go_wp2_with fail
   refine an (I:=I) (L0:=bU B b S.x::ab gl 169 #[iI S.l]::aG 6 dY V S.r.aq::gQ p C.r::L) [⟨none,none,λe=>ab gq 30 (dW {o with i:=0} D J)⟩,⟨none,none,λe=>ak ((⟨i,C,p⟩:CX).bK k S.r V) g C.bl S.ws⟩,⟨some 5,none,λe=>aB 213 3 bV (e 5).v (S.ws.filter (ao (k:Int)))⟩] [[],[0],[0,1],[],[3],rG 5,rG 6] (rG 7) rfl kR kR kR (by rfl) (λ_=>rfl) E.fk ?_;refine sW ?_;refine bp 72 (λe=> #[.pointer (some ⟨g,20,none⟩),iI o.r]) (λe=>(e 5).v) rfl (λe l Lx h=>by(
    have h:=h.fn;refine(sB (cx:=(⟨i,C,p⟩:CX).bK k S.r V) g C.bl S.ws o.r _ T0.1 T0.2 (h.fi 1)).mono ?_;rintro D1 wy⟨vs,rfl,Z⟩;rw[show S.ws.filter (ao o.r)=S.ws.filter (ao (k:Int))by rw[d.out.1]]at Z;exact⟨⟨none,0,vs⟩,rfl,Z.pk 3 [2,1,0]⟩)) ?_
   simp only[aW];refine nL ?_;refine aA ?_;intro e w1 h;have h:=h.fn;obtain⟨dA,dc,hV,H0,I0⟩:=(h.fi 2).eT;obtain⟨r,y⟩:=nM ((S.ws.filter (ao (k:Int))).length);rw[<-y]at hV;rw[hV]at h;have U:=(h.fi 2).nj;have E1:=aa y;clear h H0 I0 E;by_cases a:S.ws.filter (ao (k:Int))=[]
   ·have Z0:r=0:=by rw[y,a];rfl
    have c:=H.1.done H.2 S0 a;have HR:=aa c;have h6:=St.uu (i:=i) (k:=k) (C:=C) (bl:=C.bl) (U.pk 7 [2,5,6,3]);have H6:=aa h6.swap;clear U h6 c a y;subst Z0
    exact ae6
   ·have Z0:¬r=0:=λY=>a (Xz.1 (y▸Y))
    have L1:¬(r:Int)=0:=oM
    obtain⟨B0,K1,A1,A0⟩:=H.out.1.more H.2 S0 a;have C0:=aa (And.intro B0.1 (And.intro (show 0<=S.r.seq/\S.r.seq<=4294967295 by have:=B0.2.1;omega) (And.intro B0.2.2.1 B0.2.2.2)));refine bq (And.intro A1 A0) U λQ0 H5=>?_;clear U a y B0 A1 A0
    go_wp2_with fail
    refine an (I:=I) (L0:=bU B b S.x::ab gl 169 #[iI S.l]::aG 6 dY V S.r.aq::gQ p C.r::L) [⟨none,none,λe=>ab gq 30 (dW {o with i:=0} D J)⟩,⟨none,none,λe=>ak ((⟨i,C,p⟩:CX).bK k S.r V) g C.bl S.ws⟩,⟨none,some 13,λe=>aG 3 bV (.slice dA r dc) (S.ws.filter (ao (k:Int)))⟩,⟨some 13,none,λe=>aB 175 6 dY (e 13).v (dg (k:Int) t S.r.seq (S.ws.filter (ao (k:Int))))⟩] [[],[0],[],[2],[2,3],[],[5],[2,3,4,5,6],[],[8],[8,9],[8,9,10],[],rG 13,rG 14,rG 15,rG 15,rG 16,rG 18] (rG 19) rfl kR kR kR (by rfl) (λ_=>rfl) H5.fk ?_;refine nL ?_;refine mH _ rfl (λe l Lx h=>by(have h:=h.fn;obtain⟨Q,O,z2,j,z4,z5,z6⟩:=(h.ah 0 rfl).seven;obtain⟨u,W,A⟩:=(h.fi 1).bB;have ks:l.cell? ⟨g,22+k*5,none⟩=some (iW S.r.seq):=((A.ah 0 rfl).cell (22+k*5)).trans ((nV ((⟨i,C,p⟩:CX).bK k S.r V) u W d.2).trans (by rw[kx]));go_simp;try rfl)) ?_;simp only[aW];refine Ed ?_;refine mH _ rfl (λe l Lx h=>by(have h:=h.fn;obtain⟨Q,O,z2,j,z4,z5,z6⟩:=(h.ah 0 rfl).seven;obtain⟨u,W,A⟩:=(h.fi 1).bB;have ks:l.cell? ⟨g,22+k*5,none⟩=some (iW S.r.seq):=((A.ah 0 rfl).cell (22+k*5)).trans ((nV ((⟨i,C,p⟩:CX).bK k S.r V) u W d.2).trans (by rw[kx]));go_simp;try rfl)) ?_;simp only[aW];refine bp 22 (λe=> #[.pointer (some ⟨g,4,none⟩),iI o.r]) (λe=> iU t) rfl (λe l Lx h=>by(
     have h:=h.fn;refine(lu g ((⟨i,C,p⟩:CX).bK k S.r V) C.bl S.ws o.r _ (h.fi 1)).mono ?_;rintro D1 wy⟨rfl,Z⟩;exact⟨⟨none,0,default⟩,(by rw[G0.out,show o.r=(k:Int)from d.out.1];rfl),Z.pk 2 [1,0]⟩)) ?_
    simp only[aW];refine Cn ?_;refine mH _ rfl (λe l Lx h=>by(have h:=h.fn;obtain⟨Q,O,z2,j,z4,z5,z6⟩:=(h.ah 0 rfl).seven;obtain⟨u,W,A⟩:=(h.fi 1).bB;have ks:l.cell? ⟨g,22+k*5,none⟩=some (iW S.r.seq):=((A.ah 0 rfl).cell (22+k*5)).trans ((nV ((⟨i,C,p⟩:CX).bK k S.r V) u W d.2).trans (by rw[kx]));go_simp;try rfl)) ?_;simp only[aW];refine nL ?_;refine bp 73 (λe=> #[iI o.r,iU t,iW S.r.seq,.slice dA r dc]) (λe=> .tuple #[(e 13).v,iI 0]) rfl (λe l Lx h=>by(
     have h:=h.fn;refine(SW o.r t S.r.seq (S.ws.filter (ao (k:Int))) dA r dc _ C0.2.1 C0.1 (h.fi 2)).mono ?_;rintro D1 wy⟨vs,rfl,Z⟩;rw[show dg o.r t S.r.seq (S.ws.filter (ao (k:Int)))=dg (k:Int) t S.r.seq (S.ws.filter (ao (k:Int)))by rw[d.out.1]]at Z;exact⟨⟨none,0,vs⟩,(by rw[show o.r=(k:Int)from d.out.1,C0.out.2.2.1];rfl),Z.pk 3 [1,2,0]⟩)) ?_
    simp only[aW];refine sW ?_;refine aA ?_;intro e w1 h;have h:=h.fn;obtain⟨P,R,Y0,H0,I0⟩:=(h.fi 2).eT;obtain⟨z,M0⟩:=nM ((dg (k:Int) t S.r.seq (S.ws.filter (ao (k:Int)))).length);have R0:=aa M0;rw[<-M0]at Y0;rw[Y0]at h;obtain⟨u,W,A⟩:=(h.fi 1).bB;have kz:=(A.ah 0 rfl).frozen;have kp:w1.cell? ⟨g,22+k*5+3,none⟩=some V:=((A.ah 0 rfl).cell (22+k*5+3)).trans ((fv ((⟨i,C,p⟩:CX).bK k S.r V) u W d.2).trans (by rw[kW]));have hs:=St.dN (h.fi 1) (22+k*5+3) (.slice P z R) (lO (⟨i,C,p⟩:CX) S.r V (dg (k:Int) t S.r.seq (S.ws.filter (ao (k:Int)))) (.slice P z R) d.2);obtain⟨vC,uC,hC⟩:=hs.bB;have M1:=(hC.ah 0 rfl).frozen;have k4:World.cell? _ ⟨g,22+k*5+4,none⟩=some (iI S.r.bu):=((hC.ah 0 rfl).cell (22+k*5+4)).trans ((qW ((⟨i,C,p⟩:CX).bK k ⟨S.r.seq,S.r.cS,S.r.dh,dg (k:Int) t S.r.seq (S.ws.filter (ao (k:Int))),S.r.bu⟩ (.slice P z R)) vC uC d.2).trans (by rw[kx]));have N0:=St.dN hs (22+k*5+4) (iI (r:Int)) (uJ (⟨i,C,p⟩:CX) ⟨S.r.seq,S.r.cS,S.r.dh,dg (k:Int) t S.r.seq (S.ws.filter (ao (k:Int))),S.r.bu⟩ (.slice P z R) (r:Int) d.2);obtain⟨vD,uD,hD⟩:=N0.bB;have ks:World.cell? _ ⟨g,22+k*5,none⟩=some (iW S.r.seq):=((hD.ah 0 rfl).cell (22+k*5)).trans ((nV ((⟨i,C,p⟩:CX).bK k ⟨S.r.seq,S.r.cS,S.r.dh,dg (k:Int) t S.r.seq (S.ws.filter (ao (k:Int))),(r:Int)⟩ (.slice P z R)) vD uD d.2).trans (by rw[kx]));have O1:=(hD.ah 0 rfl).frozen;obtain⟨sq,E0⟩:=nM (IntKind.u32.wrap (S.r.seq+(z:Int)));have B1:=St.dN N0 (22+k*5) (iW sq) (yb (⟨i,C,p⟩:CX) ⟨S.r.seq,S.r.cS,S.r.dh,dg (k:Int) t S.r.seq (S.ws.filter (ao (k:Int))),(r:Int)⟩ (.slice P z R) sq d.2);have P1:(z:Int)%4294967296=(z:Int):=Int.emod_eq_of_lt oM (by have:=C0.2.2.2;have:=R0.out;omega);have Q1:IntKind.u32.wrap (S.r.seq+(z:Int))=sq:=E0.symm;have R1:(S.r.seq+(z:Int))%4294967296=sq:=by rw[E0];rfl
    refine bq E0 ((B1.fi 2).nj) λH1 H6=>?_;clear h A hC hD hs N0 B1 E0 M0 H0 I0 H5 u W vC uC vD uD
    go_wp2_with fail
    go_roundg K1
    case measure=>have:=Q0.1;omega
    case rel=>
     refine⟨S.x,l9 k t S,.slice P z R,S.ws,S.l,_,Q0.2,?_⟩;have hx:l9 k t S=⟨sq,S.r.cS,S.r.dh,dg (k:Int) t S.r.seq (S.ws.filter (ao (k:Int))),(r:Int)⟩:=by unfold l9;rw[H1.out,R0.out,E1.out]
     rw[hx];exact H6.sub
  ·have e1:(S.e !=0)=true:=by simp[Y]
   have c:=H.1.bad H.2 Y;have HR:=aa c;have h6:=St.uu (i:=i) (k:=k) (C:=C) (bl:=C.bl) (E.pk 6 [1,3,4,0]);have H6:=aa h6.swap;clear h6 c Y E
   exact ae6
section
structure pY(X:WM)(gv:Nat->Int->Vw)(own:cU)(N:Nat->Rg)(n m:Nat)(T k:Int):Prop where
 g:GI X gv own N n m T
 s:AK X k
 n:n<=200000
 m:m<=110
 T:T<=200
 k0:0<=k
 k:k<=100000
section
variable {X:WM} {a:Nat->Int->Vw} {own:cU} {N:Nat->Rg} {n m:Nat} {T k:Int} {c:Int}
theorem pY.tok(h:pY X a own N n m T k)(D:0<=c)(y:c<3)(r:Int):0<=(X.c c.toNat).tok r/\(X.c c.toNat).tok r<18446744073709551616:=by
 have Z:=h.g.tk c r D y;have G:=h.g.lb;have M:=h.m;omega
theorem pY.wl(h:pY X a own N n m T k)(j:0<=c)(G:c<3):(X.c c.toNat).wr.length<=1000000/\(∀y∈(X.c c.toNat).wr,y.data.length<=1000000)/\(X.c c.toNat).bl.length<=1000000/\∀y∈(X.c c.toNat).bl,y.data.length<=1000000:=by
 have D:=h.g.ci c j G;have M:=h.m;refine⟨by have:(X.c c.toNat).wr.length<=m:=D.i.wl;omega,λy E=> ?_,by have:(X.c c.toNat).bl.length<=6:=D.i.len;omega,λy E=> ?_⟩
 ·have:y.data.length<=23:=(D.w y E).2.2.1.2.2
  omega
 ·have:=(D.b y E).2
  omega
theorem pY.set(h:pY X a own N n m T k)(D:0<=c)(y:c<3)(l:Int){r:Int}{i:Nat}(U:r=(i:Int))(Q:i<4)(R:(X.c c.toNat).wM r=true):Jd X.st c (X.c c.toNat) i l n T/\Px X.st c (X.c c.toNat) i l n T:=by
 subst U;have M:(i:Int).toNat=i:=rfl;have Z:1<=(X.c c.toNat).tok (i:Int):=by
  unfold aY.wM at R;simp only[mf]at R;rw[qe oM oM,M];rcases h.g.hz c D y i with e|e
  ·rw[M,e]at R
   exact absurd R.1.1.2 dC
  ·exact e
 obtain⟨G,_⟩:=h.g.lk c (i:Int) D y oM oM Z;have R:=h.tok D y (i:Int);have J:a i ((X.c c.toNat).tok (i:Int))=⟨(X.c c.toNat).r i,(a i ((X.c c.toNat).tok (i:Int))).f,(a i ((X.c c.toNat).tok (i:Int))).ca⟩:=by
  have:=G.x;rw[M]at this;rw[<-this]
 have d:=h.g.ci c D y;have F:=G.w;rw[M]at F;obtain⟨z,S,_,_⟩:=h.wl D y;have:=h.n;have:=h.m;have:=h.T;exact⟨h.g.w.Xf oM oM c Q ⟨Z,R.2⟩ J (d.p _) z S F l,h.g.w.aaV oM oM oM c Q ⟨Z,R.2⟩ J d F l⟩
end
theorem Ys{I:aK}{L:List az}(_:kL I)(B g:Nat)(b:WX)(X:WM)(o:eH)(E:OA)(t D:Nat)(J:Value)(w:World){gv:Nat->Int->Vw}{own:cU}{N:Nat->Rg}{n m:Nat}{T k:Int}(c:pY X gv own N n m T k)(H:xY o)(K:0<=o.c)(M:o.c<3)(y:o.d=1)
 (h:St I w (ai .u8 (.slice E t D) o.b::ai .i64 J o.p::bU B b X.st::ez b.gv X.sv::cP o.c g (X.c o.c.toNat)::L)):
 Calls prog 34 #[pO B,pO g,.agg (dW o (.slice E t D) J)] w λe O=>∃Z,e= .returned (.tuple #[Z,iI (X.one o).e])/\St I O (ai .u8 Z (X.one o).b::bU B b (X.one o).st::ez b.gv (X.one o).sv::cP o.c g (X.one o).c::L):=by
 have P:X.one o=gJ X.sv X.st (X.c o.c.toNat) o:=rfl;unfold gJ at P;rw[iP y]at P;generalize F:X.c o.c.toNat=C at*;obtain⟨q,d,Q,i,G⟩:=(h.fi 2).zr;refine qK (Vz B g (b.aw (.slice q X.st.aw.length d)) X.sv o _ J w (c.s o.c K M).be (by have:=(c.s o.c K M).len;omega) (by have:=H.n1 oM;omega) (G.pk 6 [0,5,1,2])) λz S=>?_;have U:=St.rK (S.pk 4 [0,2,3,1]);have u:=(U.bH (R:=λw=>ay w .u8 sN []) (λO _=>ay.none_ O _));by_cases W:o.n<0
 ·rw[iP W]at P u⊢
  rw[P];exact⟨_,rfl,u⟩
 ·rw[iN W]at P u⊢
  rw[P];exact⟨_,rfl,u⟩
theorem XT{I:aK}{L:List az}(_:kL I)(B g:Nat)(b:WX)(X:WM)(o:eH)(E:OA)(t D:Nat)(J:Value)(w:World){gv:Nat->Int->Vw}{own:cU}{N:Nat->Rg}{n m:Nat}{T k:Int}(_:pY X gv own N n m T k)(q:xY o)(_:0<=o.c)(_:o.c<3)(y:o.d=2)
 (h:St I w (ai .u8 (.slice E t D) o.b::ai .i64 J o.p::bU B b X.st::ez b.gv X.sv::cP o.c g (X.c o.c.toNat)::L)):
 Calls prog 35 #[pO B,pO g,.agg (dW o (.slice E t D) J)] w λe O=>∃Z,e= .returned (.tuple #[Z,iI (X.one o).e])/\St I O (ai .u8 Z (X.one o).b::bU B b (X.one o).st::ez b.gv (X.one o).sv::cP o.c g (X.one o).c::L):=by
 have P:X.one o=gJ X.sv X.st (X.c o.c.toNat) o:=rfl;unfold gJ at P;rw[iN oM,iP y]at P;generalize F:X.c o.c.toNat=C at*;obtain⟨p,U⟩:=(h.fi 4).zk;refine qK (TC B g ⟨o.c,C,p⟩ C.bl C.wr o _ J w (by have:=q.n1 oM;omega) (U.pk 4 [0,1])) λz S=>?_;by_cases W:o.n<0
 ·rw[iP W]at P S⊢
  rw[P];have u:=St.cH (i:=o.c) (C:=C) (p:=p) S;exact aeF
 ·rw[iN W]at P S⊢
  rw[P];have u:=St.cH (i:=o.c) (C:={C with iZ:=IntKind.u64.wrap (C.iZ+o.n)}) (p:=p) S;exact aeF
theorem Yr{I:aK}{L:List az}(_:kL I)(B g:Nat)(b:WX)(X:WM)(o:eH)(E:OA)(t D:Nat)(J:Value)(w:World){gv:Nat->Int->Vw}{own:cU}{N:Nat->Rg}{n m:Nat}{T k:Int}(c:pY X gv own N n m T k)(_:xY o)(K:0<=o.c)(M:o.c<3)(hd:o.d=3)
 (h:St I w (ai .u8 (.slice E t D) o.b::ai .i64 J o.p::bU B b X.st::ez b.gv X.sv::cP o.c g (X.c o.c.toNat)::L)):
 Calls prog 36 #[pO B,pO g,.agg (dW o (.slice E t D) J)] w λe O=>∃Z,e= .returned (.tuple #[Z,iI (X.one o).e])/\St I O (ai .u8 Z (X.one o).b::bU B b (X.one o).st::ez b.gv (X.one o).sv::cP o.c g (X.one o).c::L):=by
 have P:X.one o=gJ X.sv X.st (X.c o.c.toNat) o:=rfl;unfold gJ at P;rw[iN oM,iN oM,iP hd]at P;generalize F:X.c o.c.toNat=C at*;have hk:=c.k;have C0:=c.k0;have hm:=c.m;have V:=c.s o.c K M;have H:=c.wl K M;rw[F]at V H;have u:∀v,0<=o.r->o.r<4->(ia X.sv o.c C).e=0->v=((ia X.sv o.c C).s.apply ⟨3,o.c,dP (ia X.sv o.c C).c.seq,o.r,2,0,0⟩)->v.e=0->0<=v.v/\v.v<18446744073709551616:=by
  intro v r0 r4 he u j;obtain⟨gF,Q,_,_,_⟩:=c.g.Xl K M (m':=m+1) oM oM;rw[F]at Q;generalize ia X.sv o.c C=Y at*;obtain⟨G0,q,B0⟩:=Q.tb.acquire o.c o.r;have G:=Q.lb;by_cases a:(aP Y.s.a9 o.c).isSome=true
  ·rw[u,jb (.inl rfl) a,PC]at j⊢
   obtain⟨_,_,x,hx,_,D0⟩:=B0 j;have l:=q.i.own o.r.toNat oM x hx;have W:=q.up;have G:Y.s.be.last<=20*((m+1:Nat):Int):=G;have W:(Y.s.be.acquire o.c o.r 2).1.last<=Y.s.be.last+1:=W;show 0<=(Y.s.be.acquire o.c o.r 2).2.1/\(Y.s.be.acquire o.c o.r 2).2.1<18446744073709551616;rw[<-D0];omega
  ·rw[u,sR (.inl rfl) a]at j
   exact absurd j (by show¬(81:Int)=0;decide)
 obtain⟨p,r⟩:=(h.fi 4).zk;obtain⟨S,d,E0,F0,U⟩:=(r.fi 4).zr;refine qK (Mv B g (b.aw (.slice S X.st.aw.length d)) ⟨o.c,C,p⟩ X.sv o _ J k w V K M C0 oM u H.1 H.2.1 (U.pk 8 [0,7,3,4,1,2])) ?_;rintro w1⟨p',y,A⟩;rw[P];have y:∀i,(p' i=p i/\(eB X.sv o.c C o.r).c.r i=C.r i)\/(p' i= sN/\((eB X.sv o.c C o.r).c.r i).aq=[]):=y;have h6:=((A.fi 3).Kl (p':=p') (r':=(eB X.sv o.c C o.r).c.r) (λi=>(y i).imp (λz=>⟨z.1,by rw[z.2]⟩) (λz=>z)));have l:=St.cH (h6.pk 4 [3,0,1,2]);exact adx
theorem Gx(S:gD)(c:Int)(C:aY)(r:Int):(eo S c C r).c.r=C.r/\(eo S c C r).c.bl=C.bl/\(eo S c C r).c.wr=C.wr:=by
 unfold eo
 split
 ·exact aeC
 ·have:=oU S c C r (C.tok r)
  exact⟨this.2.2,this.1,this.2.1⟩
theorem Ml(S:gD)(c:Int)(C:aY)(r:Int):(ie S c C r).c.r=C.r:=by
 unfold ie
 split
 ·rfl
 ·show(({C with seq:=dP C.seq}:aY).gone r).r=C.r
  unfold aY.gone
  split<;>rfl
theorem Yg{I:aK}{L:List az}(_:kL I)(B g:Nat)(b:WX)(X:WM)(o:eH)(E:OA)(t D:Nat)(J:Value)(w:World){gv:Nat->Int->Vw}{own:cU}{N:Nat->Rg}{n m:Nat}{T k:Int}(c:pY X gv own N n m T k)(_:xY o)(K:0<=o.c)(M:o.c<3)(y:o.d=4)
 (h:St I w (ai .u8 (.slice E t D) o.b::ai .i64 J o.p::bU B b X.st::ez b.gv X.sv::cP o.c g (X.c o.c.toNat)::L)):
 Calls prog 37 #[pO B,pO g,.agg (dW o (.slice E t D) J)] w λe O=>∃Z,e= .returned (.tuple #[Z,iI (X.one o).e])/\St I O (ai .u8 Z (X.one o).b::bU B b (X.one o).st::ez b.gv (X.one o).sv::cP o.c g (X.one o).c::L):=by
 have P:X.one o=gJ X.sv X.st (X.c o.c.toNat) o:=rfl;unfold gJ at P;rw[iN oM,iN oM,iN oM,iP y]at P;generalize F:X.c o.c.toNat=C at*;have x:=c.k;have V:=c.s o.c K M;have r:=c.wl K M;have j:=c.tok K M o.r;have a:=λH=>c.g.s0 o.c K M H o.r;rw[F]at V r j a;obtain⟨p,U⟩:=(h.fi 4).zk;obtain⟨q,d,Q,i,G⟩:=(U.fi 4).zr;refine qK (NH B g (b.aw (.slice q X.st.aw.length d)) ⟨o.c,C,p⟩ C.bl C.wr X.sv o _ J k w V K M oM a j (G.pk 8 [0,7,3,4,1,2])) λz S=>?_;rw[P];have Y:(eo X.sv o.c C o.r).c.r=C.r/\(eo X.sv o.c C o.r).c.bl=C.bl/\(eo X.sv o.c C o.r).c.wr=C.wr:=Gx _ _ _ _;have u:St I z (ak ⟨o.c,(eo X.sv o.c C o.r).c,p⟩ g (eo X.sv o.c C o.r).c.bl (eo X.sv o.c C o.r).c.wr::gQ p (eo X.sv o.c C o.r).c.r::ab B 55 (wC (b.aw (.slice q X.st.aw.length d)))::ez b.gv (eo X.sv o.c C o.r).s::aB 184 10 ko (.slice q X.st.aw.length d) X.st.aw::uP b.gs b.gd X.st::L):=by
  rw[Y.1,Y.2.1,Y.2.2];exact S.sub
 have l:=St.cH u;exact adx
theorem XX{I:aK}{L:List az}(_:kL I)(B g:Nat)(b:WX)(X:WM)(o:eH)(E:OA)(t D:Nat)(J:Value)(w:World){gv:Nat->Int->Vw}{own:cU}{N:Nat->Rg}{n m:Nat}{T k:Int}(c:pY X gv own N n m T k)(_:xY o)(K:0<=o.c)(M:o.c<3)(y:o.d=5)
 (h:St I w (ai .u8 (.slice E t D) o.b::ai .i64 J o.p::bU B b X.st::ez b.gv X.sv::cP o.c g (X.c o.c.toNat)::L)):
 Calls prog 38 #[pO B,pO g,.agg (dW o (.slice E t D) J)] w λe O=>∃Z,e= .returned (.tuple #[Z,iI (X.one o).e])/\St I O (ai .u8 Z (X.one o).b::bU B b (X.one o).st::ez b.gv (X.one o).sv::cP o.c g (X.one o).c::L):=by
 have P:X.one o=gJ X.sv X.st (X.c o.c.toNat) o:=rfl;unfold gJ at P;rw[iN oM,iN oM,iN oM,iN oM,iP y]at P;generalize F:X.c o.c.toNat=C at*;have H:=c.wl K M;rw[F]at H;obtain⟨p,U⟩:=(h.fi 4).zk;refine qK (PG B g ⟨o.c,C,p⟩ o E t D J w H.2.2.1 H.1 H.2.1 (U.pk 4 [2,0,1])) λz S=>?_;rw[P];have Y:(dj C o.r o.i o.b).1.r=C.r:=by unfold dj;split<;>rfl
 have u:St I z (ak ⟨o.c,(dj C o.r o.i o.b).1,p⟩ g (dj C o.r o.i o.b).1.bl (dj C o.r o.i o.b).1.wr::gQ p (dj C o.r o.i o.b).1.r::bU B b X.st::ez b.gv X.sv::L):=by
  rw[Y];exact S.sub
 have l:=St.cH u;exact aeG
theorem XW{I:aK}{L:List az}(A:kL I)(B g:Nat)(b:WX)(X:WM)(o:eH)(E:OA)(t D:Nat)(J:Value)(w:World){gv:Nat->Int->Vw}{own:cU}{N:Nat->Rg}{n m:Nat}{T k:Int}(c:pY X gv own N n m T k)(_:xY o)(K:0<=o.c)(M:o.c<3)(y:o.d=6)
 (h:St I w (ai .u8 (.slice E t D) o.b::ai .i64 J o.p::bU B b X.st::ez b.gv X.sv::cP o.c g (X.c o.c.toNat)::L)):
 Calls prog 39 #[pO B,pO g,.agg (dW o (.slice E t D) J)] w λe O=>∃Z,e= .returned (.tuple #[Z,iI (X.one o).e])/\St I O (ai .u8 Z (X.one o).b::bU B b (X.one o).st::ez b.gv (X.one o).sv::cP o.c g (X.one o).c::L):=by
 have P:X.one o=gJ X.sv X.st (X.c o.c.toNat) o:=rfl;unfold gJ at P;rw[iN oM,iN oM,iN oM,iN oM,iN oM,iP y]at P;generalize F:X.c o.c.toNat=C at*;have H:=c.wl K M;have a:=λ(l:Int) (i:Nat) (U:o.r=(i:Int)) (Q:i<4) (R:(X.c o.c.toNat).wM o.r=true)=>(c.set K M l U Q R).1;rw[F]at H a;have W:=c.n;have r:=c.T;refine(Vy A B g b o.c C X.st o _ J w c.g.w.s oM oM (λY i U Q=>a o.n i U Q (nt Y).2.2) H.2.2.1 (λq d=>by have:=H.2.2.2 q d;omega) (h.pk 5 [2,4,3])).mono ?_;rintro e z⟨Z,rfl,S⟩;rw[P];exact⟨_,rfl,S.sub⟩
theorem XV{I:aK}{L:List az}(A:kL I)(B g:Nat)(b:WX)(X:WM)(o:eH)(E:OA)(t D:Nat)(J:Value)(w:World){gv:Nat->Int->Vw}{own:cU}{N:Nat->Rg}{n m:Nat}{T k:Int}(c:pY X gv own N n m T k)(_:xY o)(K:0<=o.c)(M:o.c<3)(y:o.d=7)
 (h:St I w (ai .u8 (.slice E t D) o.b::ai .i64 J o.p::bU B b X.st::ez b.gv X.sv::cP o.c g (X.c o.c.toNat)::L)):
 Calls prog 40 #[pO B,pO g,.agg (dW o (.slice E t D) J)] w λe O=>∃Z,e= .returned (.tuple #[Z,iI (X.one o).e])/\St I O (ai .u8 Z (X.one o).b::bU B b (X.one o).st::ez b.gv (X.one o).sv::cP o.c g (X.one o).c::L):=by
 have P:X.one o=gJ X.sv X.st (X.c o.c.toNat) o:=rfl;unfold gJ at P;rw[iN oM,iN oM,iN oM,iN oM,iN oM,iN oM,iP y]at P;generalize F:X.c o.c.toNat=C at*;have a:=λ(l:Int) (i:Nat) (U:o.r=(i:Int)) (Q:i<4) (d:(X.c o.c.toNat).wM o.r=true)=>(c.set K M l U Q d).2;rw[F]at a;have W:=c.n;have r:=c.T;by_cases Y:C.eI o.r 0=0
 case neg=>
  refine qK (Gs B g b o.c C X.st o _ J w Y (h.pk 5 [2,4,3])) λz S=>?_;exact adg
 refine qK (SL A B g b o.c C X.st o _ J w c.g.w.s oM oM (λi U Q=>a o.n i U Q (nt Y).2.2) (h.pk 5 [2,4,3])) λz S=>?_;exact adg
theorem YD{I:aK}{L:List az}(_:kL I)(B g:Nat)(b:WX)(X:WM)(o:eH)(E:OA)(t D:Nat)(J:Value)(w:World){gv:Nat->Int->Vw}{own:cU}{N:Nat->Rg}{n m:Nat}{T k:Int}(c:pY X gv own N n m T k)(_:xY o)(K:0<=o.c)(M:o.c<3)(y:o.d=8)
 (h:St I w (ai .u8 (.slice E t D) o.b::ai .i64 J o.p::bU B b X.st::ez b.gv X.sv::cP o.c g (X.c o.c.toNat)::L)):
 Calls prog 41 #[pO B,pO g,.agg (dW o (.slice E t D) J)] w λe O=>∃Z,e= .returned (.tuple #[Z,iI (X.one o).e])/\St I O (ai .u8 Z (X.one o).b::bU B b (X.one o).st::ez b.gv (X.one o).sv::cP o.c g (X.one o).c::L):=by
 have P:X.one o=gJ X.sv X.st (X.c o.c.toNat) o:=rfl;unfold gJ at P;rw[iN oM,iN oM,iN oM,iN oM,iN oM,iN oM,iN oM,iP y]at P;generalize F:X.c o.c.toNat=C at*;have x:=c.k;have V:=c.s o.c K M;have H:=c.wl K M;have j:=c.tok K M o.r;have a:=λz=>c.g.s0 o.c K M z o.r;rw[F]at V H j a;obtain⟨p,U⟩:=(h.fi 4).zk;obtain⟨q,d,Q,i,G⟩:=(U.fi 4).zr;refine qK (NP B g (b.aw (.slice q X.st.aw.length d)) ⟨o.c,C,p⟩ X.sv o _ J k w V K M oM a j H.1 H.2.1 (G.pk 8 [0,7,3,4,1,2])) λr S=>?_;rw[P];have Y:(ie X.sv o.c C o.r).c.r=C.r:=Ml _ _ _ _;have u:St I r (ak ⟨o.c,(ie X.sv o.c C o.r).c,p⟩ g (ie X.sv o.c C o.r).c.bl (ie X.sv o.c C o.r).c.wr::gQ p (ie X.sv o.c C o.r).c.r::ab B 55 (wC (b.aw (.slice q X.st.aw.length d)))::ez b.gv (ie X.sv o.c C o.r).s::aB 184 10 ko (.slice q X.st.aw.length d) X.st.aw::uP b.gs b.gd X.st::L):=by
  rw[Y];exact S.sub
 have l:=St.cH u;exact adx
theorem YJ{I:aK}{L:List az}(_:kL I)(B g:Nat)(b:WX)(X:WM)(o:eH)(E:OA)(t D:Nat)(J:Value)(w:World){gv:Nat->Int->Vw}{own:cU}{N:Nat->Rg}{n m:Nat}{T k:Int}(_:pY X gv own N n m T k)(_:xY o)(_:0<=o.c)(_:o.c<3)(y:o.d=9)
 (h:St I w (ai .u8 (.slice E t D) o.b::ai .i64 J o.p::bU B b X.st::ez b.gv X.sv::cP o.c g (X.c o.c.toNat)::L)):
 Calls prog 42 #[pO B,pO g,.agg (dW o (.slice E t D) J)] w λe O=>∃Z,e= .returned (.tuple #[Z,iI (X.one o).e])/\St I O (ai .u8 Z (X.one o).b::bU B b (X.one o).st::ez b.gv (X.one o).sv::cP o.c g (X.one o).c::L):=by
 have P:X.one o=gJ X.sv X.st (X.c o.c.toNat) o:=rfl;unfold gJ at P;rw[iN oM,iN oM,iN oM,iN oM,iN oM,iN oM,iN oM,iN oM,iP y]at P;generalize F:X.c o.c.toNat=C at*;obtain⟨p,U⟩:=(h.fi 4).zk;refine qK (Vu B g ⟨o.c,C,p⟩ C.bl C.wr o _ J w (U.pk 4 [0,1])) λz S=>?_;rw[P];have u:=((S.fi 1).Kl (p':=λ_=> sN) (r':=(aY.zero C.iZ).r) (λi=> .inr ⟨rfl,rfl⟩));have l:=St.cH (i:=o.c) (C:=aY.zero C.iZ) (p:=λ_=> sN) (u.pk 2 [1,0]);exact aeG
theorem VM{I:aK}{L:List az}(A:kL I)(B g:Nat)(b:WX)(X:WM)(o:eH)(E:OA)(t D:Nat)(J:Value)(w:World){gv:Nat->Int->Vw}{own:cU}{N:Nat->Rg}{n m:Nat}{T k:Int}(c:pY X gv own N n m T k)(_:xY o)(_:0<=o.c)(_:o.c<3)(y:o.d=10)
 (h:St I w (ai .u8 (.slice E t D) o.b::ai .i64 J o.p::bU B b X.st::ez b.gv X.sv::cP o.c g (X.c o.c.toNat)::L)):
 Calls prog 43 #[pO B,pO g,.agg (dW o (.slice E t D) J)] w λe O=>∃Z,e= .returned (.tuple #[Z,iI (X.one o).e])/\St I O (ai .u8 Z (X.one o).b::bU B b (X.one o).st::ez b.gv (X.one o).sv::cP o.c g (X.one o).c::L):=by
 have P:X.one o=gJ X.sv X.st (X.c o.c.toNat) o:=rfl;unfold gJ at P;rw[iN oM,iN oM,iN oM,iN oM,iN oM,iN oM,iN oM,iN oM,iN oM,iP y]at P;generalize F:X.c o.c.toNat=C at*;have W:=c.n;have r:=c.T;refine qK (Sy A B g b X.st o _ J w c.g.w.s oM oM (h.pk 2 [])) λz S=>?_;by_cases Y:o.n<0\/(X.st.aw.length:Int)<=o.n
 ·rw[iP Y]at P S⊢
  exact adg
 ·rw[iN Y]at P S⊢
  exact adg
theorem Wi{I:aK}{L:List az}(A:kL I)(B g:Nat)(b:WX)(X:WM)(o:eH)(E:OA)(t D:Nat)(J:Value)(w:World){gv:Nat->Int->Vw}{own:cU}{N:Nat->Rg}{n m:Nat}{T k:Int}(c:pY X gv own N n m T k)(_:xY o)(_:0<=o.c)(_:o.c<3)(y:o.d=11)
 (h:St I w (ai .u8 (.slice E t D) o.b::ai .i64 J o.p::bU B b X.st::ez b.gv X.sv::cP o.c g (X.c o.c.toNat)::L)):
 Calls prog 44 #[pO B,pO g,.agg (dW o (.slice E t D) J)] w λe O=>∃Z,e= .returned (.tuple #[Z,iI (X.one o).e])/\St I O (ai .u8 Z (X.one o).b::bU B b (X.one o).st::ez b.gv (X.one o).sv::cP o.c g (X.one o).c::L):=by
 have P:X.one o=gJ X.sv X.st (X.c o.c.toNat) o:=rfl;unfold gJ at P;rw[iN oM,iN oM,iN oM,iN oM,iN oM,iN oM,iN oM,iN oM,iN oM,iN oM]at P;generalize F:X.c o.c.toNat=C at*;have W:=c.n;have r:=c.T;refine qK (SO A B g b X.st o _ J w c.g.w.s oM oM (h.pk 1 [])) λl S=>?_;by_cases z:o.i≠0
 ·rw[iP z]at P S
  exact adg
 ·rw[iN z]at P S
  exact adg
end
section
open Go.Shelf
abbrev fM(d c r i t:Int)(Z:Value)(e:Int):Vq:= #[iI d,iI c,iI r,iI i,iU t,Z,iI e]
abbrev Eo(d c r i t:Int)(Z:Value)(e:Int):LV:=[iI d,iI c,iI r,iI i,iU t,Z,iI e]
def sV(w:World)(K:LV)(x:jZ):Prop:=∃A c,K=[iI x.d,iI x.c,iI x.r,iI x.i,iU x.t,.slice A x.b.length c,iI x.e]/\ay w .u8 (.slice A x.b.length c) x.b
def IK(b:WX)(c:Nat):Nat:=if c=0 then b.g0 else if c=1 then b.g1 else b.g2
def uj(b:WX)(f:Nat->aY):az:=aX (cP 0 b.g0 (f 0)) (aX (cP 1 b.g1 (f 1)) (cP 2 b.g2 (f 2)))
def NO(b:WX)(f:Nat->aY)(c:Nat):az:=if c=0 then aX (cP 1 b.g1 (f 1)) (cP 2 b.g2 (f 2))else if c=1 then aX (cP 0 b.g0 (f 0)) (cP 2 b.g2 (f 2))else aX (cP 0 b.g0 (f 0)) (cP 1 b.g1 (f 1))
def wmQ(B:Nat)(X:WM)(b:WX):az:=aX (bU B b X.st) (aX (ez b.gv X.sv) (aX (uj b X.c) (aB 34 7 sV b.ev X.ev)))
def tQ(B:Nat)(X:WM):az:=Bc (wmQ B X)
section
variable {I:aK} {w:World} {L:List az} {B:Nat} {X:WM} {b:WX} {f:Nat->aY}
theorem St.wmO(h:St I w (tQ B X::L)):∃b,St I w (bU B b X.st::ez b.gv X.sv::uj b X.c::aB 34 7 sV b.ev X.ev::L):=by
 obtain⟨b,h⟩:=h.ex;have Z:St I w (aX (bU B b X.st) (aX (ez b.gv X.sv) (aX (uj b X.c) (aB 34 7 sV b.ev X.ev)))::L):=h;exact⟨b,(Z.star.swap.star.swap.star.swap).sub⟩
theorem St.Zy(h:St I w (bU B b X.st::ez b.gv X.sv::uj b X.c::aB 34 7 sV b.ev X.ev::L)):St I w (tQ B X::L):=by
 have Z:=(h.pk 4 [2,3,1,0]).aM.swap.aM.swap.aM;exact St.eu (f:=wmQ B X) b Z
theorem St.aaX{c:Nat}(D:c<3)(h:St I w (uj b f::L)):St I w (cP (c:Int) (IK b c) (f c)::NO b f c::L):=by
 have Z:St I w (aX (cP 0 b.g0 (f 0)) (aX (cP 1 b.g1 (f 1)) (cP 2 b.g2 (f 2)))::L):=h;have G:=Z.star.swap.star;have D:c=0\/c=1\/c=2:=oM
 rcases D with rfl|rfl|rfl
 ·have M:=(G.pk 0 []).aM
  exact M.swap
 ·have M:=(G.pk 3 [2,1,0]).aM
  exact M.swap
 ·have M:=(G.pk 3 [2,0,1]).aM
  exact M.swap
theorem St.ZZ{c:Nat}{C:aY}(D:c<3)(h:St I w (cP (c:Int) (IK b c) C::NO b f c::L)):St I w (uj b (aI f c C)::L):=by
 have D:c=0\/c=1\/c=2:=oM
 rcases D with rfl|rfl|rfl
 ·have Z:St I w (cP 0 b.g0 C::aX (cP 1 b.g1 (f 1)) (cP 2 b.g2 (f 2))::L):=h
  exact Z.aM
 ·have Z:St I w (cP 1 b.g1 C::aX (cP 0 b.g0 (f 0)) (cP 2 b.g2 (f 2))::L):=h
  exact((Z.swap.star.pk 3 [2,1,0]).aM).swap.aM
 ·have Z:St I w (cP 2 b.g2 C::aX (cP 0 b.g0 (f 0)) (cP 1 b.g1 (f 1))::L):=h
  exact((Z.swap.star.pk 3 [1,2,0]).aM).swap.aM
theorem VB(b:WX):∀{c:Nat},c<3->(wC b)[3+c]? =some (.pointer (some ⟨IK b c,0,none⟩)):=by
 intro c D;have D:c=0\/c=1\/c=2:=oM
 rcases D with rfl|rfl|rfl<;>rfl
end
theorem Af:fY prog 26 34 (.agg (fM 0 0 0 0 0 sN 0)) 7 72:=⟨underlying26,kR,kR,oM⟩
theorem vN(d c r i t e:Int)(A:OA)(n k:Nat)(w:World):(Instr.buildSlice 26 1 #[(0,.agg (fM d c r i t (.slice A n k) e))]).run prog w= .ok (.slice (aO w.heap.size) 1 1) (w.alloc (.cells (fM d c r i t (.slice A n k) e) 34)):=kR
theorem IP(d c r i t e:Int)(A:OA)(n k:Nat):∀u∈Eo d c r i t (.slice A n k) e,u.oneCell'=true:=by
 have h:(Eo d c r i t (.slice A n k) e).all (λu=>u.oneCell')=true:=rfl;exact AR.1 h
theorem Ps{w:World}{g:Nat}{cs:LV}(h:eK w g 34 cs.toArray)(F:cs.length=7):Sl w Any 7 (aO g) 1 cs:=F▸yl h
theorem St.KU{I:aK}{w:World}{L:List az}{g:Nat}{d0 D Q q t0 S:Int}{a:Value}(h:St I w (ab g 34 (fM d0 D Q q t0 a S)::L))(d c r i t e:Int)(Z:Value):
 St I (((((((w.setCell ⟨g,0,none⟩ (iI d)).setCell ⟨g,1,none⟩ (iI c)).setCell ⟨g,2,none⟩ (iI r)).setCell ⟨g,3,none⟩ (iI i)).setCell ⟨g,4,none⟩ (iU t)).setCell ⟨g,5,none⟩ Z).setCell ⟨g,6,none⟩ (iI e)) (ab g 34 (fM d c r i t Z e)::L):=
 (((((((h.bx 0 (iI d) (fM d D Q q t0 a S) rfl).bx 1 (iI c) (fM d c Q q t0 a S) rfl).bx 2 (iI r) (fM d c r q t0 a S) rfl).bx 3 (iI i) (fM d c r i t0 a S) rfl).bx 4 (iU t) (fM d c r i t a S) rfl).bx 5 Z (fM d c r i t Z S) rfl).bx 6 (iI e) (fM d c r i t Z e) rfl)
theorem WS{I:aK}{L:List az}(B:Nat)(X:WM)(o:eH)(E:OA)(l t:Nat)(d:Value)(w:World)(hl:X.ev.length<=1000000)(a:o.fit=false)
 (h:St I w (tQ B X::L)):
 Calls prog 10 #[pO B,.agg (dW o (.slice E l t) d)] w λe O=>∃A n c,e= .returned (.agg (fM o.d o.c o.r o.i (X.bw o).t (.slice A n c) (X.bw o).e))/\St I O (ai .u8 (.slice A n c) (X.bw o).b::tQ B (X.step o)::L):=by
 have hX:X.step o=⟨X.sv,X.st,X.c,X.ev++[X.bw o]⟩:=iN (by rw[a];exact iu);have hE:X.bw o=⟨o.d,o.c,o.r,o.i,0,[],1⟩:=iN (by rw[a];exact iu);refine iG hl hX hE λY HX D=>?_;obtain⟨b,K⟩:=h.wmO;obtain⟨r,q,B0,_,_⟩:=(K.fi 3).eT;obtain⟨gw,F0,_,_,Z⟩:=K.zr;obtain⟨z,D0⟩:=nM (Value.slice gw X.st.aw.length F0);rw[<-D0]at Z;have Z:St I w (ab B 55 (wC ⟨b.gv,b.gd,b.gs,b.g0,b.g1,b.g2,z,b.ev⟩)::aB 184 10 ko z X.st.aw::uP b.gs b.gd X.st::ez b.gv X.sv::uj b X.c::aB 34 7 sV b.ev X.ev::L):=Z;rw[B0]at Z;have J:=(((Z.alloc 30 (dW o (.slice E l t) d)).alloc 34 (fM 0 0 0 0 0 sN 0)).alloc 34 (fM o.d o.c o.r o.i 0 sN 0));rw[World.size_alloc,World.size_alloc]at J;obtain⟨gq,S⟩:=nM (w.heap.size);obtain⟨k,x⟩:=nM (w.heap.size+1);obtain⟨M,C⟩:=nM (w.heap.size+1+1);have C0:=(Z.alloc 30 (dW o (.slice E l t) d));obtain⟨z0,z1,z2,z3,z4,z5,z6⟩:=(C0.ah 0 rfl).seven;rw[<-C,<-x,<-S]at J;refine bq (And.intro S (And.intro x C)) J λg H=>?_;clear h K Z J C0 S x C hX hE hl B0 D0;have H0:o.d<1\/(¬o.d<1/\o.d>11)\/(¬o.d<1/\¬o.d>11/\o.c<0)\/(¬o.d<1/\¬o.d>11/\¬o.c<0/\o.c≥3):=by
  unfold eH.fit at a;by_cases G:o.d<1;· exact .inl G
  by_cases j:o.d>11;· exact .inr (.inl ⟨G,j⟩)
  by_cases i:o.c<0;· exact .inr (.inr (.inl ⟨G,j,i⟩))
  refine .inr (.inr (.inr ⟨G,j,i,?_⟩));by_cases k4:o.c≥3;· exact k4
  exfalso;rw[decide_eq_true (by omega),decide_eq_true (by omega),decide_eq_true (by omega),decide_eq_true (by omega)]at a
  cases a
 clear a
 go_enter func10,ntmps10
 go_wp2_with fail
 rw[<-g.out.2.2,<-g.out.2.1,<-g.out.1];refine(Kw _ H).mono ?_;rintro e w1⟨gd,rfl,h⟩;obtain⟨z0,z1,z2,z3,z4,z5,z6⟩:=(h.ah 3 rfl).seven;obtain⟨y0,y1,y2,y3,y4,y5,y6⟩:=(h.ah 1 rfl).seven;have yf:=(h.ah 1 rfl).frozen;have V:=(h.fi 1).bx 6 (iI 1) (fM o.d o.c o.r o.i 0 sN 1) rfl;have hp:=V.bH (R:=λw=>sV w (Eo o.d o.c o.r o.i 0 sN 1) (X.bw o)) (λO _=>by rw[D.out];exact⟨none,0,rfl,ay.none_ O _⟩);have N:=aa (hp.pk 11 [5,1,0,10,3,6,7,8,9]);clear h V hp H;rcases H0 with G|⟨G,j⟩|⟨G,j,i⟩|⟨G,j,i,k4⟩
 all_goals(
  go_wp2_with fail
  clear z0 z1 z2 z3 z4 z5 z6 y0 y1 y2 y3 y4 y5 y6 yf;refine an (I:=I) (L0:=ab k 34 (fM 0 0 0 0 0 sN 0)::aB 184 10 ko z X.st.aw::uP b.gs b.gd X.st::ez b.gv X.sv::uj b X.c::L) [⟨none,some 10,λe=>ab B 55 (wC ⟨b.gv,b.gd,b.gs,b.g0,b.g1,b.g2,z,.slice r X.ev.length q⟩)⟩,⟨none,none,λe=>ab M 34 (fM o.d o.c o.r o.i (0) sN (1))⟩,⟨none,none,λe=>bj (λw=>sV w (Eo o.d o.c o.r o.i (0) sN (1)) (X.bw o))⟩,⟨none,some 7,λe=>aB 34 7 sV (.slice r X.ev.length q) X.ev⟩,⟨some 6,none,λe=>ab (e 6).n 34 (fM o.d o.c o.r o.i (0) sN (1))⟩,⟨some 7,none,λe=>aB 34 7 sV (.slice (e 7).A (X.ev.length+1) (e 7).n) (X.ev++[X.bw o])⟩,⟨some 10,none,λe=>ab B 55 (wC ⟨b.gv,b.gd,b.gs,b.g0,b.g1,b.g2,z,.slice (e 7).A (X.ev.length+1) (e 7).n⟩)⟩] [[],[],[1],[1,2],[1,2,3],[],[5],[1,2,3,4,5,6],rG 8,rG 9,rG 10] (rG 11) rfl kR kR kR (by rfl) (λ_=>rfl) N.fk ?_;refine KI ?_;refine GP (λe=> .slice (some ⟨(e 6).n,0,none⟩) 1 1) rfl (λe p P h=>by(
   have h:=h.fn;exact⟨⟨none,p.heap.size,default⟩,_,eY rfl rfl (vN _ _ _ _ _ _ _ _ _ _),((h.alloc 34 (fM o.d o.c o.r o.i (0) sN (1)))).fk⟩)) ?_
  simp only[aW];refine GP (λe=> .slice (e 7).A (X.ev.length+1) (e 7).n) rfl (λe p P h=>by(
   have h:=h.fn;have hz:=Ps (cs:=Eo o.d o.c o.r o.i (0) sN (1)) (h.ah 4 rfl) rfl;obtain⟨A',c',O,E0,J⟩:=((h.jd (Q:=λw=>sV w (Eo o.d o.c o.r o.i (0) sN (1)) (X.bw o))).pk 5 [4,0,3,1,2]).Kg Af _ ⟨(e 6).n,0,none⟩ 1 hz (IP _ _ _ _ _ _ _ _ _) rfl (by have:=Y.out;omega) (by have:=Y.out;omega);exact⟨⟨A',c',default⟩,_,lY rfl rfl rfl E0,J.fk⟩)) ?_
  simp only[aW];refine xQ ?_;refine lM (λe=> .pointer (some ⟨B,7,none⟩)) (λe=> .slice (e 7).A (X.ev.length+1) (e 7).n) rfl rfl (λe p P h=>by(
   have h:=h.fn;have q7:p.cell? (aD B 7)=some (.slice r X.ev.length q):=(h.ah 0 rfl).cell 7;have qf:=(h.ah 0 rfl).frozen;have V:=(h.fi 0).bx 7 (.slice (e 7).A (X.ev.length+1) (e 7).n) (wC ⟨b.gv,b.gd,b.gs,b.g0,b.g1,b.g2,z,.slice (e 7).A (X.ev.length+1) (e 7).n⟩) rfl;exact⟨_,gS,V.fk⟩)) ?_
  simp only[Act.put];refine aA ?_;intro e w1 h;have h:=h.fn;obtain⟨u,G0⟩:=nM ((e 7).A);obtain⟨y,I0⟩:=nM ((e 7).n);rw[<-G0,<-I0]at h;have U:=St.rK (b:=⟨b.gv,b.gd,b.gs,b.g0,b.g1,b.g2,z,.slice u (X.ev.length+1) y⟩) (X:=X.st) (v:=z) (h.pk 8 [4,6,7,0,5,3]);have F:=St.Zy (X:=X.step o) (B:=B) (b:=⟨b.gv,b.gd,b.gs,b.g0,b.g1,b.g2,z,.slice u (X.ev.length+1) y⟩) (L:=ab M 34 (fM o.d o.c o.r o.i (0) sN (1))::ab k 34 (fM 0 0 0 0 0 sN 0)::L) (by rw[HX.out];exact U.pk 6 [0,4,5,3,1,2]);have h7:=(F.fi 1).bH (R:=λw=>ay w .u8 sN []) (λO _=>ay.none_ O _);have W:=h7.pk 4 [1,3,0,2];obtain⟨y0,y1,y2,y3,y4,y5,y6⟩:=(W.ah 0 rfl).seven;have fz:=(W.ah 1 rfl).frozen;obtain⟨r0,r1,r2,r3,r4,r5,r6⟩:=(W.ah 1 rfl).seven;have h9:=(W.fi 1).KU o.d o.c o.r o.i 0 1 sN;have T:=aa h9;clear h U F h7 W h9 N
  go_wp2_with fail
  obtain⟨x0,x1,x2,x3,x4,x5,x6⟩:=(T.ah 0 rfl).seven
  (try simp only[Exit.inBlock,Exit.then])
  refine bodyPost_ret (v:= .agg (fM o.d o.c o.r o.i 0 sN 1)) (aL rfl _ rfl ?_) rfl ⟨none,0,0,by rw[D.out],?_⟩
  ·go_simp
  ·rw[D.out]
   exact T.pk 2 []
 )
end
section
def fw(X:dz):Prop:=X.up=true/\NF X.s.D
section
variable {X:dz} {ev:List jZ} {z:Nat->Int->Vw} {N:Nat->Rg} {n m:Nat} {T:Int} {q:RQ} {r t:Int} {x:dO} {f k:Nat} {ca ws:List PU} {C:aY} {M:Nat->Rg}
theorem ur(F:fw X)(V:fN X N n T)(W:n<=800000)(A:T<256)(c:Int)(d:eV q)(Y:(aE X.s.M q).2=0):(X.ask c q 0).e=0/\fw (X.ask c q 0).x/\(X.ask c q 0).x.s.M=gL X.s.M q/\(X.ask c q 0).l=mu X.s.M q:=by
 obtain⟨d1,d2,d3,d4⟩:=(V.c.same F.1).2.live F.2 oM A d.ok d.b;have B:(X.s.mB 0 8 q !=43)=true:=by rw[d1];exact bne_iff_ne.2 (lI _ _).2.2
 have e:(X.send c q).cI q=⟨X.s.jX 0 8 q,(X.s.mB 0 8 q !=43),X.aw++[(c,q)]⟩:=iP F.1;have l:(X.send c q).hZ q=true:=by
  show(X.up&&(X.s.mB 0 8 q !=43))=true;rw[F.1,B]
  rfl
 have w:X.ask c q 0=⟨(X.send c q).cI q,mu X.s.M q,(aE X.s.M q).2⟩:=by
  unfold dz.ask;rw[iN dC,iN (by rw[d.w];simp),iN (by rw[l];simp)]
 rw[w];exact⟨Y,⟨by rw[e];exact B,by rw[e];exact d3⟩,by rw[e];exact d4,rfl⟩
theorem QD(U:0<=r/\r<4)(d:1<=t/\t<18446744073709551616)(l:(M r.toNat).ax<=t)(V:(M r.toNat).ax=t->(M r.toNat).seq=1):(aE M (gE r t)).2=0:=by
 have C:=uS U (by omega:0<=t/\t<18446744073709551616);have D:(gE r t).bI=true:=rfl;have W:(Rg.next (M r.toNat) (gE r t)).2=0:=by
  have u:(gE r t).token=t:=rfl;have Y:(gE r t).seq=1:=rfl;have P:(gE r t).op=5:=rfl;have g:(gE r t).index=0:=rfl;unfold Rg.next Rg.nC Rg.cT;by_cases Z:(M r.toNat).ax<t
  ·rw[iP oM,iN oM,iN oM,iN oM]
  ·rw[iN oM,iP (by have:=V oM;omega)]
 have b:(gE r t).region=r:=rfl;have R:(gE r t).token=t:=rfl;unfold aE;rw[iN (by rw[C.w];simp),iN oM,iN C.i,iN (by rw[b];omega),iP D,b];exact W
theorem FN(C:eV q)(d:q.bI=false)(l:(M q.region.toNat).ax<=q.token):(aE M q).2=0:=by
 have:=C.r;unfold aE;rw[iN (by rw[C.w];simp),iN oM,iN C.i,iN (by rw[d];simp;omega),iN (by rw[d];simp)]
theorem WI.RL(h:WI X ev z N n T)(W:n<=700000)(A:T<256)(c:Int)(U:0<=r/\r<4)(R:1<=t/\t<18446744073709551616)(J:z r.toNat t=⟨x,f,ca⟩)(y:x.dh=false)(F:fw X)(l:(X.s.M r.toNat).ax<=t):
 (jL X c r t x 0).e=0/\fw (jL X c r t x 0).x/\((jL X c r t x 0).x.s.M r.toNat).ax<=t/\(jL X c r t x 0).l=0:=by
 unfold jL;by_cases a:x.cS=true
 ·rw[iP a]
  exact⟨rfl,F,l,rfl⟩
 rw[iN a];obtain⟨k,Q⟩:=h.p.rm r U.1 U.2;obtain⟨H,O,d,_⟩:=ur F h.s oM A c (uS U oM) (QD U R l (λe=>(Q.Va oM (by rw[e,J];exact y)).1));have H:(X.ask c (gE r t) (0%4)).e=0:=H;rw[iP H];refine⟨rfl,O,?_,rfl⟩;show((X.ask c (gE r t) 0).x.s.M r.toNat).ax<=t;rw[d];rcases Gz X.s.M (gE r t) r.toNat with e|⟨_,e⟩
 ·rw[e];exact l
 ·rw[e];exact cO _
theorem VN(X:dz)(c r t:Int)(x:dO)(l:Int):(ms X c r t x l).x=(X.ask c (jH r t) (l%4)).x/\(ms X c r t x l).l=l/4:=by
 unfold ms
 split
 ·exact ac7
 ·exact afa
theorem WI.Rh(h:WI X ev z N n T)(W:n<=700000)(A:T<256)(c:Int)(U:0<=r/\r<4)(R:1<=t/\t<18446744073709551616)(J:z r.toNat t=⟨x,f,ca⟩)(y:x.dh=false)(a:x.cS=true)(F:fw X)(l:(X.s.M r.toNat).ax<=t):
 (ms X c r t x 0).e=0/\fw (ms X c r t x 0).x/\((ms X c r t x 0).x.s.M r.toNat).ax=t/\(ms X c r t x 0).l=0:=by
 obtain⟨H,O,d,_⟩:=ur F h.s oM A c (uX (r:=r) (t:=t) U oM) (FN (uX U oM) rfl l);obtain⟨_,_,j⟩:=h.log oM A c U R J y a 0;obtain⟨u,Y⟩:=VN X c r t x 0;have u:(ms X c r t x 0).x=(X.ask c (jH r t) 0).x:=u;refine⟨?_,by rw[u];exact O,?_,Y⟩
 ·rcases j with j|j
  ·exact j.1
  ·exact absurd H j.2.2
 ·obtain⟨k,Q⟩:=h.p.rm r U.1 U.2
  have:=Q.fe t R.1 (by rw[J];exact a);rw[u,d,mP rfl];omega
theorem WI.Nu(h:WI X ev z N n T)(W:n<=600000)(A:T<256)(c:Int)(U:0<=r/\r<4)(R:1<=t/\t<18446744073709551616)(J:z r.toNat t=⟨x,f,ca⟩)(y:x.dh=false)(F:fw X)(l:(X.s.M r.toNat).ax<=t):
 (cy X c r t x 0).e=0/\fw (cy X c r t x 0).x/\((cy X c r t x 0).x.s.M r.toNat).ax=t/\(cy X c r t x 0).l=0:=by
 obtain⟨H,O,d,g⟩:=h.RL oM A c U R J y F l;obtain⟨L,Z,G,M⟩:=h.cS oM A c U R J y 0;unfold cy;rw[iN (λh=>h H),g];exact Z.Rh oM A c U R (aS _ _ _ _) (by rw[G];exact y) (M H) O d
theorem Bw(A:T<256)(c:Int)(U:0<=r/\r<4)(R:1<=t/\t<18446744073709551616)(y:x.dh=true)(a:x.cS=true):∀(p:List RQ) (X:dz) (z:Nat->Int->Vw) (N:Nat->Rg) (n:Nat),n+p.length<=700000->WI X ev z N n T->z r.toNat t=⟨{x with aq:=p},f,ca⟩->fw X->(X.s.M r.toNat).ax=t->
 (eO c p X 0).e=0/\fw (eO c p X 0).x/\((eO c p X 0).x.s.M r.toNat).ax=t/\(eO c p X 0).l=0
 |[],_,_,_,_,_,_,_,F,l=>⟨rfl,F,l,rfl⟩
 |q::p,X,z,N,n,W,h,J,F,l=>by
  rw[qR]at W;obtain⟨k,Q⟩:=h.p.rm r U.1 U.2;have o:=h.p.vw r t U.1 U.2 R.1;rw[J]at o;obtain⟨M,P,C,I,e⟩:=o.sq 0 q rfl;have u:=(KK Q (h.p.vw r · U.1 U.2) R.1 U (by rw[J];exact y) (by rw[J]) l).1;obtain⟨H,O,d,_⟩:=ur F h.s oM A c I u;obtain⟨L,_,G⟩:=h.Vd oM A c U R y a J 0;have V:=zM (m:=X.s.M) (q:=q) (r:=r) e M u;have b:(X.ask c q (0%4)).e=0:=H;unfold eO;rw[iN (λh=>h b)];exact Bw A c U R y a p (X.ask c q 0).x _ L (n+1) oM (G H).1 (aS _ _ _ _) O (by rw[d];exact V.1.trans P)
theorem WI.CC(h:WI X ev z N n T)(W:n<=600000)(A:T<256)(c:Int)(U:0<=r/\r<4)(R:1<=t/\t<18446744073709551616)(J:z r.toNat t=⟨x,f,ca⟩)(y:x.dh=true)(P:x.aq.length<=300)(M:(ws.filter (ao r)).map gP=(aC r t ev).p.drop f)(F:fw X)(l:(X.s.M r.toNat).ax=t):
 (Go.Proofs.YtblpaldggenbaaaGreatDoor.mK X c r t x ws 0).e=0/\fw (Go.Proofs.YtblpaldggenbaaaGreatDoor.mK X c r t x ws 0).x/\((Go.Proofs.YtblpaldggenbaaaGreatDoor.mK X c r t x ws 0).x.s.M r.toNat).ax=t/\(Go.Proofs.YtblpaldggenbaaaGreatDoor.mK X c r t x ws 0).l=0:=by
 have o:=h.p.vw r t U.1 U.2 R.1;rw[J]at o;obtain⟨H,O,d,g⟩:=Bw A c U R y (o.rf y) x.aq X z N n oM h J F l;unfold Go.Proofs.YtblpaldggenbaaaGreatDoor.mK;rw[iN (λh=>h H)];exact⟨(Dv o.p0 M o.fp).1,O,d,g⟩
theorem WI.zx(h:WI X ev z N n T)(W:n<=500000)(A:T<256)(c:Int)(U:0<=r/\r<4)(R:1<=t/\t<18446744073709551616)(J:z r.toNat t=⟨x,f,ca⟩)(P:x.aq.length<=300)(M:(ws.filter (ao r)).map gP=(aC r t ev).p.drop f)(F:fw X)(l:(X.s.M r.toNat).ax<=t):
 (Go.Proofs.YtblpaldggenbaaaGreatDoor.cz X c r t x ws 0).e=0/\fw (Go.Proofs.YtblpaldggenbaaaGreatDoor.cz X c r t x ws 0).x/\((Go.Proofs.YtblpaldggenbaaaGreatDoor.cz X c r t x ws 0).x.s.M r.toNat).ax=t/\(Go.Proofs.YtblpaldggenbaaaGreatDoor.cz X c r t x ws 0).l=0:=by
 have o:=h.p.vw r t U.1 U.2 R.1;rw[J]at o;unfold Go.Proofs.YtblpaldggenbaaaGreatDoor.cz;by_cases y:x.dh=true
 ·rw[iP y]
  obtain⟨k,Q⟩:=h.p.rm r U.1 U.2;have:=Q.fe t R.1 (by rw[J];exact o.rf y);exact h.CC oM A c U R J y P M F oM
 ·have y:x.dh=false:=by simpa using y
  obtain⟨H,O,d,g⟩:=h.Nu oM A c U R J y F l;obtain⟨L,Z,G,D,K⟩:=h.VH oM A c U R J y 0;obtain⟨u,b,E⟩:=K H;rw[iN (by rw[y];exact iu),iN (λh=>h H),g];exact Z.CC oM A c U R (aS _ _ _ _) u oM M O d
theorem WI.Ah(h:WI X ev z N n T)(W:n<=290000)(p:m<=120)(A:T<256)(c:Int)(Q:k<4)(R:1<=C.tok (k:Int)/\C.tok (k:Int)<18446744073709551616)(J:z k (C.tok (k:Int))=⟨C.r k,f,ca⟩)(D:lU C m)(M:(C.wr.filter (ao (k:Int))).map gP=(aC (k:Int) (C.tok (k:Int)) ev).p.drop f)(F:fw X)(l:(X.s.M k).ax<=C.tok (k:Int))(K:C.eI (k:Int) 0=0):
 (bz X c C (k:Int) 0).e=0/\fw (bz X c C (k:Int) 0).x/\((bz X c C (k:Int) 0).x.s.M k).ax=C.tok (k:Int):=by
 have U:0<=(k:Int)/\(k:Int)<4:=oM
 obtain⟨H,O,d,g⟩:=h.zx (ws:=C.wr) oM A c U R J (D.p k) M F l;unfold bz;rw[iN (λh=>h K)];have o:fU X c C (k:Int) 0=Go.Proofs.YtblpaldggenbaaaGreatDoor.cz X c (k:Int) (C.tok (k:Int)) (C.r k) C.wr 0:=rfl;rw[o];obtain⟨y,E⟩:=nM (Go.Proofs.YtblpaldggenbaaaGreatDoor.cz X c (k:Int) (C.tok (k:Int)) (C.r k) C.wr 0);have b:=H;rw[<-E]at H O d g⊢;unfold mX;rw[iN (λh=>h H)];by_cases t:y.ws.filter (ao (k:Int))=[]
 ·rw[iP t]
  exact⟨rfl,O,d⟩
 rw[iN t];obtain⟨u,V,I,a,L,f1,B,Y,j⟩:=h.Vm W p A c Q R J D M 0 E H;rw[iN (λh=>h u.2.2.1),g];obtain⟨S,P,G,_⟩:=B.zx (ws:=y.ws) oM A c U R (aS _ _ _ _) V Y O (Zb d);exact⟨S,P,G⟩
theorem WI.Bo(h:WI X ev z N n T)(W:n<=290000)(A:T<256)(c:Int)(Q:k<4)(R:1<=C.tok (k:Int)/\C.tok (k:Int)<18446744073709551616)(J:z k (C.tok (k:Int))=⟨C.r k,f,ca⟩)(D:lU C m)(M:(C.wr.filter (ao (k:Int))).map gP=(aC (k:Int) (C.tok (k:Int)) ev).p.drop f)(F:fw X)(l:(X.s.M k).ax<=C.tok (k:Int)){i:Int}(B:C.eI (k:Int) i=0):
 (df X c C (k:Int) i 0).e=0:=by
 have U:0<=(k:Int)/\(k:Int)<4:=oM
 obtain⟨q,u,_⟩:=nt B;obtain⟨H,O,d,g⟩:=h.zx (ws:=C.wr) oM A c U R J (D.p k) M F l;obtain⟨b,E,G⟩:∃b:Int,(C.r k).seq<=b/\10<=b:=⟨max (C.r k).seq 10,oM,oM⟩;obtain⟨w,p,V⟩:=h.cz (ws:=C.wr) oM A c U R J (D.p k) M E G 0;unfold df;rw[iN (λh=>h B)]
 split
 ·rfl
 have o:fU X c C (k:Int) 0=Go.Proofs.YtblpaldggenbaaaGreatDoor.cz X c (k:Int) (C.tok (k:Int)) (C.r k) C.wr 0:=rfl;rw[o];generalize Go.Proofs.YtblpaldggenbaaaGreatDoor.cz X c (k:Int) (C.tok (k:Int)) (C.r k) C.wr 0=y at*;unfold Au;rw[iN (λh=>h H),g];have j:=wD (r:=(k:Int)) (i:=i) (t:=C.tok (k:Int)) U ⟨q,u⟩ oM;have S:=(ur (N:=w) (n:=n+302) (T:=T) O V.w.s oM A c j (FN j rfl (Zb d))).1;have S:(y.x.ask c (eC (k:Int) i (C.tok (k:Int))) (0%4)).e=0:=S;rw[iN (λh=>h S)]
end
end
section
def vq:WM:=WM.new DZ
theorem dF.new(r:Int):dF (λt=>aC r t []) (λ_=>Vw.zero) Rg.zero (λ_=>0) where
 h0:=cO _
 s1 h:=absurd h acN
 kh _ _:=rfl
 kp _ _:=iD _
 ks _ _:=cO _
 v:=rfl
 lg:=⟨[],0,λ_=>[],⟨rfl,rfl,λ_ h=>(by cases h)⟩⟩
 lk _ _ _ h:=by cases h
 ca _ _ _ h:=by cases h
 fe _ _ h:=by cases h
 vf _ _ _ h:=by cases h
 Va h:=absurd h acN
 fD h:=absurd h acN
theorem GI.new:GI vq (λ_ _=>Vw.zero) (λ_=>(0,0)) DZ.M 0 0 1:=by
 obtain⟨_,S,b,G⟩:=DU;have o:∀k,(DZ.M k).ax=0:=λk=>by rw[S];rfl
 have U:∀r:Int,0<=r->r<4->∃k,dF (λt=>aC r t []) (λ_=>Vw.zero) (DZ.M r.toNat) k:=λr _ _=>⟨_,by rw[S];exact dF.new r⟩;refine⟨⟨⟨.inl ⟨rfl,rfl,b⟩,io _,λp P=>(by cases P)⟩,⟨cO _,λ_=>⟨rfl,G,λp P=>(by cases P)⟩,λk=> .inl (o k),λk=> .inl (o k)⟩,⟨U,U,λr t _ _ _=>Qu.zero _ _ _,λp P=>(by cases P)⟩⟩,λc _ _=>lU.zero _ _,λc r _ _ _ _ h=> ?_,λc r _ _=> ?_,λr t _ _ _=>⟨rfl,rfl⟩,⟨cO _,λ_ _=>iD _,λ_ _ h l=>(by cases l),λ_ _ h l=>(by cases l),λ_ _ h l=>(by cases l),λ_ _=>List.Pairwise.nil⟩,cO _,λ_ _ h l=>(by cases l),λ_ _ h l=>(by cases l),λr _ _ h l=>(by cases l),λr _ _ h l=>(by cases l),λc r _ _ _ _=>cO _,λc _ _ h=>(by cases h),λc _ _ _ r=>rR _ _,λe Y=>(by cases Y),λe Y=>(by cases Y),λc _ _ k=> .inl rfl⟩
 ·have h:1<=(aY.zero 0).tok r:=h
  rw[rR]at h;omega
 ·show 0<=(aY.zero 0).tok r/\(aY.zero 0).tok r<=0
  rw[rR];omega
theorem AK.new:AK vq 0:=λc _ _=>⟨⟨dC,dC,dC,dC,λ_ _=>iD _,λ_ _=>iD _⟩,iD _,cO _,cO _,λh=>(by cases h)⟩
structure mg(X:WM)(gv:Nat->Int->Vw)(own:cU)(N:Nat->Rg)(i:Nat)(T:Int):Prop where
 g:GI X gv own N (610*i) (2*i) T
 s:AK X (2*(i:Int))
theorem mg.new:mg vq (λ_ _=>Vw.zero) (λ_=>(0,0)) DZ.M 0 1:=⟨GI.new,AK.new⟩
section
variable {X:WM} {a:Nat->Int->Vw} {own:cU} {N:Nat->Rg} {i:Nat} {T:Int}
theorem mg.now(h:mg X a own N i T)(z:i<=55)(A:T<=200):pY X a own N (610*i) (2*i) T (2*(i:Int)):=⟨h.g,h.s,oM,oM,A,oM,oM⟩
theorem mg.step(h:mg X a own N i T)(z:i<=55)(A:T<=200){o:eH}(q:xY o){T1:Int}(u:T<=T1)(b:o.d=11->T+1<=T1):∃K k w,mg (X.step o) K k w (i+1) T1/\zS X own o (X.step o) k:=by
 obtain⟨K,k,w,Z,G⟩:=h.g.step oM oM A q u b;refine⟨K,k,w,⟨Z.mono oM oM (cO _),?_⟩,G⟩;have:=h.s.step oM oM o;rwa[show 2*(i:Int)+2=2*((i+1:Nat):Int)by omega]at this
end
theorem cv(X:WM)(o:eH):(X.step o).ev=X.ev++[X.bw o]:=by
 unfold WM.step
 split<;>rfl
def SN(e:jZ):Bool:=(e.d==3)&&(e.e==0)
structure NS(X:WM)(own:cU)(tV:List jZ):Prop where
 o:∀g∈tV,own g.t=(g.r,g.c)/\1<=g.t/\g.t<=X.sv.be.last/\0<=g.r/\g.r<4
 h:∀g∈tV,∀y∈(X.sv.be.r g.r.toNat).h,g.t<=y.t
def Ih(g e:jZ):Bool:=(e.t==0)||((((g.c !=e.c)||(g.r !=e.r))&&(g.t==e.t))||(decide (g.t>e.t)&&(g.r==e.r)))
theorem NS.next{X A:WM}{own k:cU}{P:List jZ}{o:eH}{w:Nat->Rg}{K:Nat->Int->Vw}{n m:Nat}{T:Int}(h:NS X own P)(C:GI A K k w n m T)(J:zS X own o A k)(_:A=X.step o):NS A k P/\(SN (X.bw o)=true->(∀g∈P,Ih g (X.bw o)=false)/\NS A k (P++[X.bw o])):=by
 have Z:NS A k P:=by
  refine⟨λg p=> ?_,λg p y E=> ?_⟩
  ·obtain⟨a,b,c,d,e⟩:=h.o g p
   exact⟨(J.x.vf _ c).trans a,b,tU c J.x.last,d,e⟩
  ·obtain⟨_,_,c,d,e⟩:=h.o g p
   rcases J.x.h g.r.toNat oM y E with M|⟨z,O,_,Y⟩
   ·omega
   ·rw[<-Y];exact h.h g p z O
 refine⟨Z,λF=> ?_⟩;unfold SN at F;simp only[mf,beq_iff_eq]at F;have t:(X.bw o).d=o.d/\(X.bw o).c=o.c/\(X.bw o).r=o.r:=by
  unfold WM.bw
  split
  ·exact aeC
  ·exact aeC
 obtain⟨D,Q,L,y,E,U,I⟩:=J.a (t.1.symm.trans F.1) F.2;have q:=C.tb.own o.r.toNat oM y E;have l:=C.tb.one o.r.toNat oM;have B:∀g∈P,g.r=o.r->g.t<=(X.bw o).t:=λg p R=>by
  rw[<-I];exact Z.h g p y (by rw[R];exact E)
 have r:k (X.bw o).t=(o.r,o.c):=by
  rw[<-I,q.1,Zi Q,U]
 refine⟨λg p=> ?_,⟨λg p=> ?_,λg p z O=> ?_⟩⟩
 ·obtain⟨a,b,c,d,e⟩:=Z.o g p
  unfold Ih;rw[t.2.1,t.2.2];have G:((X.bw o).t==0)=false:=by simp;omega
  have x:(((g.c !=o.c)||(g.r !=o.r))&&(g.t==(X.bw o).t))=false:=by
   cases u:g.t==(X.bw o).t with
   |false=>exact abN
   |true=>
    have u:g.t=(X.bw o).t:=by simpa using u
    rw[u,r]at a;injection a with H j;simp[H,j]
  have i:(decide (g.t>(X.bw o).t)&&(g.r==o.r))=false:=by
   cases u:g.r==o.r with
   |false=>exact abN
   |true=>
    have:=B g p (by simpa using u);exact abS
  rw[G,x,i]
  rfl
 ·rcases oc.1 p with p|p
  ·exact Z.o g p
  ·rw[nN.1 p,t.2.2,t.2.1]
   exact⟨r,oM,oM,Q,L⟩
 ·rcases oc.1 p with p|p
  ·exact Z.h g p z O
  ·rw[nN.1 p,t.2.2]at O
   rw[nN.1 p,<-I,DH l O E];exact cO _
end
end Go.Proofs.YtblpaldggenbaaaGreatDoor
