/- A part. -/
import Derived.Deep.CutBlock
import Derived.Test.YtblpaldggenbaaaGreatDoorMz
namespace Go.Proofs.YtblpaldggenbaaaGreatDoor
open Go.RowKit Go.Proofs.Tryz
set_option maxRecDepth 100000
set_option maxHeartbeats 64000000
section
open Go.Shelf
theorem Ig{n:Int}{k:Nat}(h:n=(k:Int)+1)(Q:k<100):IntKind.i64.wrap (n-1)=(k:Int):=by
 have e:n-1=(k:Int):=oM
 rw[e];exact IntWalk.i64_in _ oM
theorem ns{I:aK}{L:List az}(B:Nat)(X:WM)(o:eH)(E:OA)(t D:Nat)(J:Value)(w:World)(f k:Nat)(hl:X.ev.length<=1000000)(hf:o.fit=true)(hd:o.d=(k:Int)+1)(U0:k<11)(W0:zI[k]? =some (vu f))(X0:t<=140737488355328)
 (hE:∀(args:Vq) (R0:World),Sem.run prog (callFunc f args) R0= .ok (.enter f args) R0)
 (K0:∀(G0:Nat) (b:WX) (w:World) (L:List az),St I w (ai .u8 (.slice E t D) o.b::ai .i64 J o.p::bU B b X.st::ez b.gv X.sv::cP o.c G0 (X.c o.c.toNat)::L)->Calls prog f #[pO B,pO G0,.agg (dW o (.slice E t D) J)] w λe B0=>∃vs,e= .returned (.tuple #[vs,iI (X.one o).e])/\St I B0 (ai .u8 vs (X.one o).b::bU B b (X.one o).st::ez b.gv (X.one o).sv::cP o.c G0 (X.one o).c::L))
 (h:St I w (ai .u8 (.slice E t D) o.b::ai .i64 J o.p::tQ B X::L)):
 Calls prog 10 #[pO B,.agg (dW o (.slice E t D) J)] w λe B0=>∃O0 n c,e= .returned (.agg (fM o.d o.c o.r o.i (X.bw o).t (.slice O0 n c) (X.bw o).e))/\St I B0 (ai .u8 (.slice O0 n c) (X.bw o).b::tQ B (X.step o)::L):=by
 obtain⟨d1,d11,K1,L1⟩:=zH hf;obtain⟨c,hc⟩:∃c:Nat,o.c=(c:Int):=⟨o.c.toNat,oM⟩;have C0:o.c.toNat=c:=oM
 obtain⟨C,hC⟩:=nM (X.c c);obtain⟨Y,hY⟩:=nM (X.one o);have hX:X.step o=⟨Y.sv,Y.st,aI X.c c Y.c,X.ev++[X.bw o]⟩:=by rw[hY,<-C0];exact iP hf
 have hv:X.bw o=o.out C Y:=by rw[hY,hC,<-C0];exact iP hf
 have r:=aa (show(o.d=3/\Y.e=0->(X.bw o).t=Y.c.tok o.r)/\(¬(o.d=3/\Y.e=0)->(X.bw o).t=C.tok o.r)/\(X.bw o).e=Y.e/\(¬(o.d=5/\Y.e=0)->(X.bw o).b=Y.b)/\(o.d=5/\Y.e=0->(X.bw o).b=o.b)/\(X.bw o).d=o.d/\(X.bw o).c=o.c/\(X.bw o).r=o.r/\(X.bw o).i=o.i by
  rw[hv];exact⟨λl=>iP l,λl=>iN l,rfl,λl=>iN l,λl=>iP l,rfl,rfl,rfl,rfl⟩)
 rw[<-hY,C0]at K0;rw[<-hC]at K0;refine ye hl hX (And.intro (show c<3 by omega) hc) (And.intro hd U0) W0 X0 λQ0 HX HC HD D0 B1=>?_;obtain⟨b,h0⟩:=(h.fi 2).wmO;have Z:=St.aaX (c:=c) oM (h0.fi 2);rw[<-hC,<-hc]at Z;have h2:=((((Z.pk 7 [5,6,2,3,0,1,4]).alloc 30 (dW o (.slice E t D) J)).alloc 34 (fM 0 0 0 0 0 sN 0)).alloc 34 (fM o.d o.c o.r o.i 0 sN 0));rw[World.size_alloc,World.size_alloc]at h2;obtain⟨gq,I0⟩:=nM (w.heap.size);obtain⟨d,J0⟩:=nM (w.heap.size+1);obtain⟨g,H0⟩:=nM (w.heap.size+1+1);have Y0:=(Z.alloc 30 (dW o (.slice E t D) J));obtain⟨y,j,z2,z3,z4,z5,z6⟩:=(Y0.ah 0 rfl).seven;rw[<-H0,<-J0,<-I0]at h2;refine bq (And.intro I0 (And.intro J0 H0)) h2 λHG P0=>?_;clear h h0 Z h2 Y0 I0 J0 H0 hX hv hl hC hY hf hd U0 W0 X0 C0 hc;have k1:¬o.d<1:=oM
 have k2:¬o.d>11:=oM
 have A:¬o.c<0:=oM
 have k4:¬o.c≥3:=oM
 go_enter func10,ntmps10
 go_wp2_with fail
 rw[<-HG.out.2.2,<-HG.out.2.1,<-HG.out.1];refine(Kw _ P0).mono ?_;rintro e P⟨R,rfl,h⟩;clear y j z2 z3 z4 z5 z6;have y:P.cell? (aD gq 0)=some (iI o.d):=(h.ah 3 rfl).cell 0;have j:P.cell? (aD gq 1)=some (iI (c:Int)):=by rw[<-HC.out.2];exact(h.ah 3 rfl).cell 1
 rw[HC.out.2]at A k4;obtain⟨gw,F0,_,_,hw⟩:=(h.fi 6).zr;have q3:P.cell? ⟨B,3+c,none⟩=some (.pointer (some ⟨IK b c,0,none⟩)):=((hw.ah 0 rfl).cell (3+c)).trans (VB (b.aw (.slice gw X.st.aw.length F0)) HC.1);have i0:(0:Int)<=(c:Int):=oM
 have i1:(c:Int)<3:=oM
 have H1:=aa (h.pk 11 [3,8,1,0,4,5,6,7,9,10,2]);clear h hw P0
 go_wp2_with fail
 go_quiet (fail)
 go_wp2_with fail
 obtain⟨N0,U⟩:=((H1.drewN nq).fi 1).zk;have H2:=aa U;clear U H1 y j q3 k1 k2 A k4;refine an (I:=I) (L0:=ab R 80 zI::ai .u8 (.slice E t D) o.b::ai .i64 J o.p::bU B b X.st::ez b.gv X.sv::gQ N0 C.r::NO b X.c c::aB 34 7 sV b.ev X.ev::ab d 34 (fM 0 0 0 0 0 sN 0)::L) [⟨none,none,λe=>ab gq 30 (dW o (.slice E t D) J)⟩,⟨none,none,λe=>ak ⟨o.c,C,N0⟩ (IK b c) C.bl C.wr⟩,⟨none,some 7,λe=>ab g 34 (fM o.d o.c o.r o.i (0) sN (0))⟩,⟨some 7,none,λe=>ab g 34 (fM o.d o.c o.r o.i (C.tok o.r) sN (0))⟩] [[],[0],[0,1],[],[3],rG 5,rG 6,rG 7] (rG 8) rfl kR kR kR (by rfl) (λ_=>rfl) H2.fk ?_;refine sW ?_;refine bp 22 (λe=> #[.pointer (some ⟨IK b c,4,none⟩),iI o.r]) (λe=> iU (C.tok o.r)) rfl (λe p O h=>by(
  have h:=h.fn;refine(lu (IK b c) ⟨o.c,C,N0⟩ C.bl C.wr o.r _ (h.fi 1)).mono ?_;rintro A1 wy⟨rfl,Z⟩;exact⟨⟨none,0,default⟩,rfl,Z.pk 2 [1,0]⟩)) ?_
 simp only[aW];refine nL ?_;refine lM (λe=> .pointer (some ⟨g,4,none⟩)) (λe=> iU (C.tok o.r)) rfl rfl (λe p O h=>by(
  have h:=h.fn;obtain⟨G,F,W,q,T,y5,y6⟩:=(h.ah 2 rfl).seven;have yf:=(h.ah 2 rfl).frozen;have V:=(h.fi 2).bx 4 (iU (C.tok o.r)) (fM o.d o.c o.r o.i (C.tok o.r) sN (0)) rfl;exact⟨_,gS,V.fk⟩)) ?_
 simp only[Act.put];refine aA ?_;intro e P h;have h:=h.fn;have u:=St.cH (h.pk 9 [1,8,2,0,3,4,5,6,7]);have H3:=aa u;clear h u H2
 go_wp2_with fail
 refine an (I:=I) (L0:=ai .u8 (.slice E t D) o.b::NO b X.c c::aB 34 7 sV b.ev X.ev::ab d 34 (fM 0 0 0 0 0 sN 0)::L) [⟨none,none,λe=>ab gq 30 (dW o (.slice E t D) J)⟩,⟨none,none,λe=>ab R 80 zI⟩,⟨none,some 9,λe=>ai .u8 (.slice E t D) o.b⟩,⟨none,some 9,λe=>ai .i64 J o.p⟩,⟨none,some 9,λe=>bU B b X.st⟩,⟨none,some 9,λe=>ez b.gv X.sv⟩,⟨none,some 9,λe=>cP o.c (IK b c) C⟩,⟨some 9,none,λe=>ai .u8 (e 9).v Y.b⟩,⟨some 9,none,λe=>bU B b Y.st⟩,⟨some 9,none,λe=>ez b.gv Y.sv⟩,⟨some 9,none,λe=>cP o.c (IK b c) Y.c⟩,⟨none,some 14,λe=>ab g 34 (fM o.d o.c o.r o.i (C.tok o.r) sN (0))⟩,⟨some 14,some 16,λe=>ab g 34 (fM o.d o.c o.r o.i (C.tok o.r) ((e 9).v) (0))⟩,⟨some 16,none,λe=>ab g 34 (fM o.d o.c o.r o.i (C.tok o.r) ((e 9).v) (Y.e))⟩] [[],[],[1],[1,2],rG 4,rG 5,[],[],[],rG 9,rG 10,rG 11,rG 11,rG 12,[0,1,2,3,4,5,6,7,8,9,10,11,13],rG 15,rG 16] (rG 17) rfl kR kR kR (by rfl) (λ_=>rfl) ((H3.jd (Q:=λw=>ay w .u8 (.slice E t D) o.b))).fk ?_;refine xQ ?_;refine mH _ rfl (λe p O h=>by(have h:=h.fn;obtain⟨y,j,z2,z3,z4,z5,z6⟩:=(h.ah 0 rfl).seven;have qd:p.cell? ⟨R,k,none⟩=some (vu f):=((h.ah 1 rfl).cell k).trans D0;go_simp;try rfl)) ?_;simp only[aW];refine mH (λe=> iI (k:Int)) rfl (λe p O h=>by(go_simp;exact Ig HD.1 (by have:=HD.2;omega))) ?_;simp only[aW];refine mH (λe=> .pointer (some ⟨R,k,none⟩)) rfl (λe p O h=>by(have j0:=HD.2;have j1:(k:Int)<11:=oM;have j2:(0:Int)<=(k:Int):=oM;go_simp;(try first|rfl|(intro l;exact absurd l oM)))) ?_;simp only[aW];refine mH _ rfl (λe p O h=>by(have h:=h.fn;obtain⟨y,j,z2,z3,z4,z5,z6⟩:=(h.ah 0 rfl).seven;have qd:p.cell? ⟨R,k,none⟩=some (vu f):=((h.ah 1 rfl).cell k).trans D0;go_simp;try rfl)) ?_;simp only[aW];refine xQ ?_;refine mH _ rfl (λe p O h=>by(have h:=h.fn;obtain⟨y,j,z2,z3,z4,z5,z6⟩:=(h.ah 0 rfl).seven;have qd:p.cell? ⟨R,k,none⟩=some (vu f):=((h.ah 1 rfl).cell k).trans D0;go_simp;try rfl)) ?_;simp only[aW];refine o7 f (λe=> #[pO B,.pointer (some ⟨IK b c,0,none⟩),.agg (dW o (.slice E t D) J)]) (λe=> .tuple #[(e 9).v,iI Y.e]) rfl (λ_=>rfl) (by intro e;rfl) (λe p=>by(unfold vu;go_simp;try exact hE _ _)) (λe p O h=>by(
  have h:=h.fn;refine(K0 (IK b c) b _ _ (h.pk 7 [2,3,4,5,6,0,1])).mono ?_;rintro A1 wy⟨vs,rfl,Z⟩;exact⟨⟨none,0,vs⟩,rfl,Z.pk 6 [4,5,0,1,2,3]⟩)) ?_
 simp only[aW];refine Ed ?_;refine lM (λe=> .pointer (some ⟨g,5,none⟩)) (λe=>(e 9).v) rfl rfl (λe p O h=>by(
  have h:=h.fn;obtain⟨G,F,W,q,T,y5,y6⟩:=(h.ah 6 rfl).seven;have yf:=(h.ah 6 rfl).frozen;obtain⟨vA,H,I1,_⟩:=h.qq (Q:=λw=>ay w .u8 (e 9).v Y.b);have V:=(h.fi 6).bx 5 (e 9).v (fM o.d o.c o.r o.i (C.tok o.r) (e 9).v 0) rfl;exact⟨_,(by(rw[I1];go_simp;try rfl)),V.fk⟩)) ?_
 simp only[Act.put];refine nL ?_;refine lM (λe=> .pointer (some ⟨g,6,none⟩)) (λe=> iI Y.e) rfl rfl (λe p O h=>by(
  have h:=h.fn;obtain⟨G,F,W,q,T,y5,y6⟩:=(h.ah 6 rfl).seven;have yf:=(h.ah 6 rfl).frozen;have V:=(h.fi 6).bx 6 (iI Y.e) (fM o.d o.c o.r o.i (C.tok o.r) (e 9).v Y.e) rfl;exact⟨_,gS,V.fk⟩)) ?_
 simp only[Act.put];refine aA ?_;intro e P h;have h:=h.fn;obtain⟨a,x,S0,_⟩:=h.qq (Q:=λw=>ay w .u8 (e 9).v Y.b);obtain⟨M,M0⟩:=nM (Y.b.length);rw[<-M0]at S0;rw[S0]at h;have J1:=aa M0;have U:=h.pk 8 [0,6,2,7,1,3,4,5];have S:=aa U;obtain⟨y,j,z2,z3,z4,z5,z6⟩:=(U.ah 0 rfl).seven;obtain⟨G,F,W,q,T,y5,y6⟩:=(U.ah 1 rfl).seven;have yf:=(U.ah 1 rfl).frozen;clear h U H3 M0
 go_upto_block 0 with fail
 go_cut [] (λp=>∃K i H,St I p (ab g 34 (fM o.d o.c o.r o.i (X.bw o).t (.slice K i H) (X.bw o).e)::ai .u8 (.slice K i H) (X.bw o).b::bU B b Y.st::ez b.gv Y.sv::cP o.c (IK b c) Y.c::NO b X.c c::aB 34 7 sV b.ev X.ev::ab d 34 (fM 0 0 0 0 0 sN 0)::L))
 case first=>
  by_cases A:o.d=3
  ·have d3:decide (o.d=3)=true:=dZ A
   have b3:(o.d==3)=true:=by simp[A]
   have d5:decide (o.d=5)=false:=decide_eq_false (by omega);have b5:(o.d==5)=false:=by simp;omega
   by_cases N:Y.e=0
   ·have dy:decide (Y.e=0)=true:=dZ N
    have E0:(Y.e==0)=true:=by simp[N]
    go_wp2_with fail
    clear y j z2 z3 z4 z5 z6 G F W q T y5 y6 yf;obtain⟨p2,U⟩:=(S.fi 7).zk;refine an (I:=I) (L0:=ab R 80 zI::ai .u8 (.slice a M x) Y.b::ai .u8 (.slice E t D) o.b::bU B b Y.st::ez b.gv Y.sv::gQ p2 Y.c.r::NO b X.c c::aB 34 7 sV b.ev X.ev::ab d 34 (fM 0 0 0 0 0 sN 0)::L) [⟨none,none,λe=>ab gq 30 (dW o (.slice E t D) J)⟩,⟨none,none,λe=>ak ⟨o.c,Y.c,p2⟩ (IK b c) Y.c.bl Y.c.wr⟩,⟨none,some 7,λe=>ab g 34 (fM o.d o.c o.r o.i (C.tok o.r) (.slice a M x) (Y.e))⟩,⟨some 7,none,λe=>ab g 34 (fM o.d o.c o.r o.i (Y.c.tok o.r) (.slice a M x) (Y.e))⟩] [[],[0],[0,1],[],[3],rG 5,rG 6,rG 7] (rG 8) rfl kR kR kR (by rfl) (λ_=>rfl) U.fk ?_;refine sW ?_;refine bp 22 (λe=> #[.pointer (some ⟨IK b c,4,none⟩),iI o.r]) (λe=> iU (Y.c.tok o.r)) rfl (λe p O h=>by(
     have h:=h.fn;refine(lu (IK b c) ⟨o.c,Y.c,p2⟩ Y.c.bl Y.c.wr o.r _ (h.fi 1)).mono ?_;rintro A1 wy⟨rfl,Z⟩;exact⟨⟨none,0,default⟩,rfl,Z.pk 2 [1,0]⟩)) ?_
    simp only[aW];refine nL ?_;refine lM (λe=> .pointer (some ⟨g,4,none⟩)) (λe=> iU (Y.c.tok o.r)) rfl rfl (λe p O h=>by(
     have h:=h.fn;obtain⟨G,F,W,q,T,y5,y6⟩:=(h.ah 2 rfl).seven;have yf:=(h.ah 2 rfl).frozen;have V:=(h.fi 2).bx 4 (iU (Y.c.tok o.r)) (fM o.d o.c o.r o.i (Y.c.tok o.r) (.slice a M x) (Y.e)) rfl;exact⟨_,gS,V.fk⟩)) ?_
    simp only[Act.put];refine aA ?_;intro e P h;have h:=h.fn;have u:=St.cH (h.pk 9 [1,8,2,4,5,0,3,6,7]);have H6:=aa u;clear h u U
    go_wp2_with fail
    go_meet
    refine⟨a,M,x,?_⟩;rw[show(X.bw o).t=Y.c.tok o.r from r.out.1 ⟨A,N⟩,show(X.bw o).b=Y.b from r.out.2.2.2.1 (λl=>by have:=l.1;omega),r.out.2.2.1];exact H6.sub
   ·exact adw
  ·have d3:decide (o.d=3)=false:=dQ A
   have b3:(o.d==3)=false:=by simp[A]
   by_cases k5:o.d=5
   ·have d5:decide (o.d=5)=true:=dZ k5
    have b5:(o.d==5)=true:=by simp[k5]
    by_cases N:Y.e=0
    ·have dy:decide (Y.e=0)=true:=dZ N
     have E0:(Y.e==0)=true:=by simp[N]
     go_wp2_with fail
     refine(ef E t D o.b _ (by have:=(S.qq (Q:=λw=>ay w .u8 (.slice E t D) o.b)).sl.2.2.2;exact this) B1 S).mono ?_;rintro e w4⟨v4,rfl,h4⟩;obtain⟨A4,c4,rfl⟩:=h4.slice;have U:=h4.ints;obtain⟨G,F,W,q,T,y5,y6⟩:=(U.ah 2 rfl).seven;have yf:=(U.ah 2 rfl).frozen;have V:=(U.fi 2).bx 5 (.slice A4 t c4) (fM o.d o.c o.r o.i (C.tok o.r) (.slice A4 t c4) Y.e) rfl;have H6:=aa V;clear h4 U V y j z2 z3 z4 z5 z6
     go_wp2_with fail
     go_meet
     refine⟨A4,t,c4,?_⟩;rw[r.out.2.1 (λl=>A l.1),show(X.bw o).b=o.b from r.out.2.2.2.2.1 ⟨k5,N⟩,r.out.2.2.1];exact H6.sub
    ·exact adw
   ·have d5:decide (o.d=5)=false:=dQ k5
    have b5:(o.d==5)=false:=by simp[k5]
    go_wp2_with fail
    go_meet
    refine⟨a,M,x,?_⟩;rw[r.out.2.1 (λl=>A l.1),show(X.bw o).b=Y.b from r.out.2.2.2.1 (λl=>k5 l.1),r.out.2.2.1];exact S.sub
 case rest=>
  clear S;obtain⟨K,i,H,h⟩:=hcut;obtain⟨EA,ec,V0,_,_⟩:=(h.fi 6).eT;have T0:=St.ZZ (b:=b) (f:=X.c) (C:=Y.c) HC.1 (by rw[<-HC.out.2];exact h.pk 7 [4,5,2,3,6,0,1]);obtain⟨gw,F0,_,_,Z⟩:=(T0.fi 1).zr;obtain⟨z,Z0⟩:=nM (Value.slice gw Y.st.aw.length F0);rw[<-Z0]at Z;have Z:St I _ (ab B 55 (wC ⟨b.gv,b.gd,b.gs,b.g0,b.g1,b.g2,z,b.ev⟩)::aB 184 10 ko z Y.st.aw::uP b.gs b.gd Y.st::uj b (aI X.c c Y.c)::ez b.gv Y.sv::aB 34 7 sV b.ev X.ev::ab g 34 (fM o.d o.c o.r o.i (X.bw o).t (.slice K i H) (X.bw o).e)::ai .u8 (.slice K i H) (X.bw o).b::ab d 34 (fM 0 0 0 0 0 sN 0)::L):=Z.sub;rw[V0]at Z;have G1:=(Z.qq (Q:=λw=>ay w .u8 (.slice K i H) (X.bw o).b));have hp:=(Z.jd (Q:=λw=>ay w .u8 (.slice K i H) (X.bw o).b)).bC (R':=λw=>sV w (Eo o.d o.c o.r o.i (X.bw o).t (.slice K i H) (X.bw o).e) (X.bw o)) (λB0 hi=>by
   have F1:=hi;obtain⟨A',c',e1,_⟩:=F1;injection e1 with e1 e2 e3;exact⟨K,H,by rw[r.out.2.2.2.2.2.1,r.out.2.2.2.2.2.2.1,r.out.2.2.2.2.2.2.2.1,r.out.2.2.2.2.2.2.2.2,<-e2],by rw[<-e2];exact hi⟩)
  have H8:=aa (hp.sub (L':=ab B 55 (wC ⟨b.gv,b.gd,b.gs,b.g0,b.g1,b.g2,z,.slice EA X.ev.length ec⟩)::ab g 34 (fM o.d o.c o.r o.i (X.bw o).t (.slice K i H) (X.bw o).e)::bj (λw=>sV w (Eo o.d o.c o.r o.i ((X.bw o).t) (.slice K i H) ((X.bw o).e)) (X.bw o))::aB 34 7 sV (.slice EA X.ev.length ec) X.ev::ab d 34 (fM 0 0 0 0 0 sN 0)::aB 184 10 ko z Y.st.aw::uP b.gs b.gd Y.st::ez b.gv Y.sv::uj b (aI X.c c Y.c)::ai .u8 (.slice K i H) (X.bw o).b::L));clear h Z hp T0 V0 Z0 G1
  go_wp2_with fail
  refine an (I:=I) (L0:=ab d 34 (fM 0 0 0 0 0 sN 0)::aB 184 10 ko z Y.st.aw::uP b.gs b.gd Y.st::ez b.gv Y.sv::uj b (aI X.c c Y.c)::ai .u8 (.slice K i H) (X.bw o).b::L) [⟨none,some 10,λe=>ab B 55 (wC ⟨b.gv,b.gd,b.gs,b.g0,b.g1,b.g2,z,.slice EA X.ev.length ec⟩)⟩,⟨none,none,λe=>ab g 34 (fM o.d o.c o.r o.i ((X.bw o).t) (.slice K i H) ((X.bw o).e))⟩,⟨none,none,λe=>bj (λw=>sV w (Eo o.d o.c o.r o.i ((X.bw o).t) (.slice K i H) ((X.bw o).e)) (X.bw o))⟩,⟨none,some 7,λe=>aB 34 7 sV (.slice EA X.ev.length ec) X.ev⟩,⟨some 6,none,λe=>ab (e 6).n 34 (fM o.d o.c o.r o.i ((X.bw o).t) (.slice K i H) ((X.bw o).e))⟩,⟨some 7,none,λe=>aB 34 7 sV (.slice (e 7).A (X.ev.length+1) (e 7).n) (X.ev++[X.bw o])⟩,⟨some 10,none,λe=>ab B 55 (wC ⟨b.gv,b.gd,b.gs,b.g0,b.g1,b.g2,z,.slice (e 7).A (X.ev.length+1) (e 7).n⟩)⟩] [[],[],[1],[1,2],[1,2,3],[],[5],[1,2,3,4,5,6],rG 8,rG 9,rG 10] (rG 11) rfl kR kR kR (by rfl) (λ_=>rfl) H8.fk ?_;refine KI ?_;refine GP (λe=> .slice (some ⟨(e 6).n,0,none⟩) 1 1) rfl (λe p O h=>by(
   have h:=h.fn;exact⟨⟨none,p.heap.size,default⟩,_,eY rfl rfl (vN _ _ _ _ _ _ _ _ _ _),((h.alloc 34 (fM o.d o.c o.r o.i ((X.bw o).t) (.slice K i H) ((X.bw o).e)))).fk⟩)) ?_
  simp only[aW];refine GP (λe=> .slice (e 7).A (X.ev.length+1) (e 7).n) rfl (λe p O h=>by(
   have h:=h.fn;have hz:=Ps (cs:=Eo o.d o.c o.r o.i ((X.bw o).t) (.slice K i H) ((X.bw o).e)) (h.ah 4 rfl) rfl;obtain⟨A',c',B0,C1,h2⟩:=((h.jd (Q:=λw=>sV w (Eo o.d o.c o.r o.i ((X.bw o).t) (.slice K i H) ((X.bw o).e)) (X.bw o))).pk 5 [4,0,3,1,2]).Kg Af _ ⟨(e 6).n,0,none⟩ 1 hz (IP _ _ _ _ _ _ _ _ _) rfl (by have:=Q0.out;omega) (by have:=Q0.out;omega);exact⟨⟨A',c',default⟩,_,lY rfl rfl rfl C1,h2.fk⟩)) ?_
  simp only[aW];refine xQ ?_;refine lM (λe=> .pointer (some ⟨B,7,none⟩)) (λe=> .slice (e 7).A (X.ev.length+1) (e 7).n) rfl rfl (λe p O h=>by(
   have h:=h.fn;have q7:p.cell? (aD B 7)=some (.slice EA X.ev.length ec):=(h.ah 0 rfl).cell 7;have qf:=(h.ah 0 rfl).frozen;have V:=(h.fi 0).bx 7 (.slice (e 7).A (X.ev.length+1) (e 7).n) (wC ⟨b.gv,b.gd,b.gs,b.g0,b.g1,b.g2,z,.slice (e 7).A (X.ev.length+1) (e 7).n⟩) rfl;exact⟨_,gS,V.fk⟩)) ?_
  simp only[Act.put];refine aA ?_;intro e P h;have h:=h.fn;obtain⟨EB,D1⟩:=nM ((e 7).A);obtain⟨ek,E1⟩:=nM ((e 7).n);rw[<-D1,<-E1]at h;have U:=St.rK (b:=⟨b.gv,b.gd,b.gs,b.g0,b.g1,b.g2,z,.slice EB (X.ev.length+1) ek⟩) (X:=Y.st) (v:=z) (h.pk 8 [4,6,7,0,5,3]);have u:=St.Zy (X:=X.step o) (B:=B) (b:=⟨b.gv,b.gd,b.gs,b.g0,b.g1,b.g2,z,.slice EB (X.ev.length+1) ek⟩) (L:=ab g 34 (fM o.d o.c o.r o.i ((X.bw o).t) (.slice K i H) ((X.bw o).e))::ab d 34 (fM 0 0 0 0 0 sN 0)::ai .u8 (.slice K i H) (X.bw o).b::L) (by rw[HX.out];exact U.pk 6 [0,4,5,3,1,2]);have h8:=u.pk 4 [1,2,3,0];obtain⟨G,F,W,q,T,y5,y6⟩:=(h8.ah 0 rfl).seven;have fz:=(h8.ah 1 rfl).frozen;obtain⟨r0,r1,r2,r3,r4,r5,r6⟩:=(h8.ah 1 rfl).seven;have h9:=(h8.fi 1).KU o.d o.c o.r o.i (X.bw o).t (X.bw o).e (.slice K i H);have H9:=aa h9;clear h U u h8 h9 H8
  go_wp2_with fail
  obtain⟨x0,x1,x2,x3,x4,x5,x6⟩:=(H9.ah 0 rfl).seven
  (try simp only[Exit.inBlock,Exit.then])
  refine bodyPost_ret (v:= .agg (fM o.d o.c o.r o.i (X.bw o).t (.slice K i H) (X.bw o).e)) (aL rfl _ rfl ?_) rfl ?_
  ·go_simp
  ·refine⟨K,i,H,rfl,?_⟩
   exact H9.pk 2 []
end
section
open Go.Shelf
theorem ry{I:aK}{L:List az}(u:kL I)(B:Nat)(X:WM)(o:eH)(E:OA)(t D:Nat)(J:Value)(w:World){gv:Nat->Int->Vw}{own:cU}{N:Nat->Rg}{n m:Nat}{T k:Int}(r:pY X gv own N n m T k)(q:xY o)(K:o.b.length<=140737488355328)(F:X.ev.length<=1000000)
 (h:St I w (ai .u8 (.slice E t D) o.b::ai .i64 J o.p::tQ B X::L)):
 Calls prog 10 #[pO B,.agg (dW o (.slice E t D) J)] w λe O=>∃A n c,e= .returned (.agg (fM o.d o.c o.r o.i (X.bw o).t (.slice A n c) (X.bw o).e))/\St I O (ai .u8 (.slice A n c) (X.bw o).b::tQ B (X.step o)::L):=by
 by_cases a:o.fit=true
 case neg=>
  exact(WS B X o E t D J w F (by simpa using a) h.tail.tail)
 obtain⟨d1,d11,d,G⟩:=zH a;have j:t<=140737488355328:=by
  obtain⟨S,U,C,_⟩:=h.get 0 rfl;injection C with _ Y _;omega
 have y:o.d=1\/o.d=2\/o.d=3\/o.d=4\/o.d=5\/o.d=6\/o.d=7\/o.d=8\/o.d=9\/o.d=10\/o.d=11:=oM
 rcases y with y|y|y|y|y|y|y|y|y|y|y
 ·exact ns B X o E t D J w 34 0 F a (by rw[y];rfl) dC rfl j (enters_of func34 kR rfl) (λg b w L h=>Ys u B g b X o E t D J w r q d G y h) h
 ·exact ns B X o E t D J w 35 1 F a (by rw[y];rfl) dC rfl j (enters_of func35 kR rfl) (λg b w L h=>XT u B g b X o E t D J w r q d G y h) h
 ·exact ns B X o E t D J w 36 2 F a (by rw[y];rfl) dC rfl j (enters_of func36 kR rfl) (λg b w L h=>Yr u B g b X o E t D J w r q d G y h) h
 ·exact ns B X o E t D J w 37 3 F a (by rw[y];rfl) dC rfl j (enters_of func37 kR rfl) (λg b w L h=>Yg u B g b X o E t D J w r q d G y h) h
 ·exact ns B X o E t D J w 38 4 F a (by rw[y];rfl) dC rfl j (enters_of func38 kR rfl) (λg b w L h=>XX u B g b X o E t D J w r q d G y h) h
 ·exact ns B X o E t D J w 39 5 F a (by rw[y];rfl) dC rfl j (enters_of func39 kR rfl) (λg b w L h=>XW u B g b X o E t D J w r q d G y h) h
 ·exact ns B X o E t D J w 40 6 F a (by rw[y];rfl) dC rfl j (enters_of func40 kR rfl) (λg b w L h=>XV u B g b X o E t D J w r q d G y h) h
 ·exact ns B X o E t D J w 41 7 F a (by rw[y];rfl) dC rfl j (enters_of func41 kR rfl) (λg b w L h=>YD u B g b X o E t D J w r q d G y h) h
 ·exact ns B X o E t D J w 42 8 F a (by rw[y];rfl) dC rfl j (enters_of func42 kR rfl) (λg b w L h=>YJ u B g b X o E t D J w r q d G y h) h
 ·exact ns B X o E t D J w 43 9 F a (by rw[y];rfl) dC rfl j (enters_of func43 kR rfl) (λg b w L h=>VM u B g b X o E t D J w r q d G y h) h
 ·exact ns B X o E t D J w 44 10 F a (by rw[y];rfl) dC rfl j (enters_of func44 kR rfl) (λg b w L h=>Wi u B g b X o E t D J w r q d G y h) h
end
section
open Go.Shelf
def qB:aH:=⟨0,0,λ_=>⟨[],[]⟩⟩
theorem St.To{I:aK}{w:World}{L:List az}(h:St I w L):St I (w.alloc (.cells (lP 0 0 λ_=>⟨⟨none,0,0⟩,⟨none,0,0⟩⟩) 111)) (bX w.heap.size qB::L):=by
 have U:∀{L:List az},St I w L->St I w (dv (λ_=>⟨⟨none,0,0⟩,⟨none,0,0⟩⟩) qB.r 0::L):=λh=>St.aM ((h.Kh ir 2).Jo cC 273 4);exact St.Qy (T:=qB) ((U (U (U (U h)))).alloc 111 (lP 0 0 λ_=>⟨⟨none,0,0⟩,⟨none,0,0⟩⟩))
theorem QG{I:aK}{L:List az}(w:World)(h:St I w L):Calls prog 18 #[] w λe O=>∃g,e= .returned (pO g)/\St I O (ez g ⟨[],qB⟩::L):=by
 have Z:=h.alloc 103 #[.map none];have G:=Z.Vs.To;rw[World.size_alloc]at G;have M:=G.alloc 113 (fX w.heap.size (w.heap.size+1));rw[World.size_alloc,World.size_alloc]at M;have u:=St.RW (S:=⟨[],qB⟩) (M.pk 3 [0,2,1]);have H:=aa u;clear h Z G M u
 go_enter func18,ntmps18
 go_wp2_with fail
 go_ret
 exact⟨_,rfl,H⟩
theorem Nw(g:Nat)(w:World):(Instr.build 55 #[(0,pO g)]).run prog w= .ok (.agg #[pO g,.pointer none,.pointer none,.pointer none,.pointer none,.pointer none,sN,sN]) w:=kR
theorem Dg(i:Int):cH ⟨i,aY.zero 0,λ_=> sN⟩ sN sN= #[iI i,.bool false,iW 0,iU 0,iI 0,iU 0,iU 0,iI 0,iU 0,iU 0,iI 0,iU 0,iU 0,iI 0,iU 0,iU 0,iU 0,iU 0,iU 0,iU 0,sN,sN,iW 0,.bool false,.bool false,sN,iI 0,iW 0,.bool false,.bool false,sN,iI 0,iW 0,.bool false,.bool false,sN,iI 0,iW 0,.bool false,.bool false,sN,iI 0]:=rfl
theorem CY{I:aK}{w:World}{L:List az}(h:St I w L)(i:Int):St I (w.alloc (.cells (cH ⟨i,aY.zero 0,λ_=> sN⟩ sN sN) 75)) (cP i w.heap.size (aY.zero 0)::L):=by
 have Z:=h.alloc 75 (cH ⟨i,aY.zero 0,λ_=> sN⟩ sN sN);have G:=St.gV (cx:=⟨i,aY.zero 0,λ_=> sN⟩) (((Z.eU 213 3 bV).eU 213 3 bV).pk 3 [2,0,1]);exact St.cH (i:=i) (C:=aY.zero 0) (p:=λ_=> sN) (St.swap G.Sd)
abbrev wN(gv:Nat)(d s a b c:Value):Vq:= #[pO gv,d,s,a,b,c,sN,sN]
abbrev pN(g:Nat):Value:= pO g
def aaB(I:aK)(L:List az)(B gv j g E W t:Nat)(k:Nat)(wr:World):Prop:=(k=0/\St I wr (ab B 55 (wN gv (pN j) (pN g) (.pointer none) (.pointer none) (.pointer none))::ab g 122 (fR 5 j (pO E))::eJ E j W t 0 8 DZ (ez gv ⟨[],qB⟩::L)))\/(k=1/\∃C,St I wr (ab B 55 (wN gv (pN j) (pN g) (pN C) (.pointer none) (.pointer none))::cP 0 C (aY.zero 0)::ab g 122 (fR 5 j (pO E))::eJ E j W t 0 8 DZ (ez gv ⟨[],qB⟩::L)))\/(k=2/\∃C l,St I wr (ab B 55 (wN gv (pN j) (pN g) (pN C) (pN l) (.pointer none))::cP 0 C (aY.zero 0)::cP 1 l (aY.zero 0)::ab g 122 (fR 5 j (pO E))::eJ E j W t 0 8 DZ (ez gv ⟨[],qB⟩::L)))\/(k=3/\∃C l c,St I wr (ab B 55 (wN gv (pN j) (pN g) (pN C) (pN l) (pN c))::cP 0 C (aY.zero 0)::cP 1 l (aY.zero 0)::cP 2 c (aY.zero 0)::ab g 122 (fR 5 j (pO E))::eJ E j W t 0 8 DZ (ez gv ⟨[],qB⟩::L)))
theorem gC{I:aK}{L:List az}(A:kL I)(w:World)(h:St I w L):Calls prog 9 #[] w λe O=>∃B,e= .returned (pO B)/\St I O (tQ B vq::L):=by
 have B0:=Nw;have H:=aa h;clear h
 go_enter func9,ntmps9
 go_wp2_with fail
 refine(QG _ H).mono ?_;rintro e P⟨gv,rfl,h⟩;have Z:=h.alloc 55 (wN gv (.pointer none) (.pointer none) (.pointer none) (.pointer none) (.pointer none));obtain⟨B,d⟩:=nM (P.heap.size);rw[<-d]at Z;refine bq d Z λY F=>?_;clear h Z H d
 go_wp2_with fail
 rw[<-Y.out];refine(Xj 54 oM oM F).mono ?_;rintro e w2⟨gd,rfl,h⟩;have R:=(h.ah 1 rfl).cell 1;have o:=(h.ah 1 rfl).frozen;have V:=(h.fi 1).bx 1 (pN gd) (wN gv (pN gd) (.pointer none) (.pointer none) (.pointer none) (.pointer none)) rfl;have y1:World.cell? _ ⟨B,1,none⟩=some (pN gd):=(V.ah 0 rfl).cell 1;have N:=aa V;clear h V F
 go_wp2_with fail
 refine(SI A gd 10 5 (DS.new 54) _ oM ((Fp (n:=54) oM oM).1.Mx 10) oM DU.1 (N.pk 2 [1,0])).mono ?_;rintro e D⟨g,gs,W,t,rfl,h⟩;have h:St I D (ab g 122 (fR 5 gd (pO gs))::eJ gs gd W t 0 8 DZ (ab B 55 (wN gv (pN gd) (.pointer none) (.pointer none) (.pointer none) (.pointer none))::ez gv ⟨[],qB⟩::L)):=h;have h:=h.sub (L':=ab B 55 (wN gv (pN gd) (.pointer none) (.pointer none) (.pointer none) (.pointer none))::ab g 122 (fR 5 gd (pO gs))::eJ gs gd W t 0 8 DZ (ez gv ⟨[],qB⟩::L)) abP;have x2:=(h.ah 0 rfl).cell 2;have A0:=(h.ah 0 rfl).frozen;have V:=h.bx 2 (pN g) (wN gv (pN gd) (pN g) (.pointer none) (.pointer none) (.pointer none)) rfl;have K:=aa V;clear h V N R o y1
 go_wp2_with fail
 clear x2 A0
 go_loopg [24] 3 (λp E wr=>∃k:Nat,p=3-k/\k<=3/\E= iI (k:Nat)/\aaB I L B gv gd g gs W t k wr)
 case atStart=>exact⟨0,rfl,oM,rfl,.inl ⟨rfl,K⟩⟩
 case round=>
  clear K;obtain⟨k,z,r,rfl,hrel⟩:=hrel;have y:=aa z;clear z r;rcases hrel with⟨rfl,h⟩|⟨rfl,C,h⟩|⟨rfl,C,l,h⟩|⟨rfl,C,l,c,h⟩
  ·have Z:=CY h 0
   rw[Dg]at Z;obtain⟨u,J⟩:=nM (wr.heap.size);rw[<-J]at Z;have Q:World.cell? _ ⟨B,3,none⟩=some (.pointer none):=(Z.ah 1 rfl).cell 3;have o:=(Z.ah 1 rfl).frozen;have T:=(h.ah 0 rfl).frozen;have V:=(Z.fi 1).bx 3 (pN u) (wN gv (pN gd) (pN g) (pN u) (.pointer none) (.pointer none)) rfl;refine bq J V λx q=>?_;clear h Z V J
   go_wp2_with fail
   rw[<-x.out]
   go_roundg 2
   case measure=>have:=y.out;omega
   case rel=>
    refine⟨1,rfl,oM,rfl,.inr (.inl ⟨rfl,u,?_⟩)⟩;exact q.sub abP
  ·have Z:=CY h 1
   rw[Dg]at Z;obtain⟨u,J⟩:=nM (wr.heap.size);rw[<-J]at Z;have Q:World.cell? _ ⟨B,4,none⟩=some (.pointer none):=(Z.ah 1 rfl).cell 4;have o:=(Z.ah 1 rfl).frozen;have T:=(h.ah 0 rfl).frozen;have V:=(Z.fi 1).bx 4 (pN u) (wN gv (pN gd) (pN g) (pN C) (pN u) (.pointer none)) rfl;refine bq J V λx q=>?_;clear h Z V J
   go_wp2_with fail
   rw[<-x.out]
   go_roundg 1
   case measure=>have:=y.out;omega
   case rel=>
    refine⟨2,rfl,oM,rfl,.inr (.inr (.inl ⟨rfl,C,u,?_⟩))⟩;exact q.sub abP
  ·have Z:=CY h 2
   rw[Dg]at Z;obtain⟨u,J⟩:=nM (wr.heap.size);rw[<-J]at Z;have Q:World.cell? _ ⟨B,5,none⟩=some (.pointer none):=(Z.ah 1 rfl).cell 5;have o:=(Z.ah 1 rfl).frozen;have T:=(h.ah 0 rfl).frozen;have V:=(Z.fi 1).bx 5 (pN u) (wN gv (pN gd) (pN g) (pN C) (pN l) (pN u)) rfl;refine bq J V λx q=>?_;clear h Z V J
   go_wp2_with fail
   rw[<-x.out]
   go_roundg 0
   case measure=>have:=y.out;omega
   case rel=>
    refine⟨3,rfl,oM,rfl,.inr (.inr (.inr ⟨rfl,C,l,u,?_⟩))⟩;exact q.sub abP
  ·have Z:=St.Xm (gs:=g) (gd:=gd) (a:=gs) (j:=W) (i:=t) (X:=⟨DZ,true,[]⟩) (h.sub (L':=ab g 122 (fR 5 gd (pO gs))::eJ gs gd W t 0 8 DZ (ab B 55 (wN gv (pN gd) (pN g) (pN C) (pN l) (pN c))::cP 0 C (aY.zero 0)::cP 1 l (aY.zero 0)::cP 2 c (aY.zero 0)::ez gv ⟨[],qB⟩::L)) abP)
   have G:=(Z.eU 184 10 ko).eU 34 7 sV;have M:=St.rK (B:=B) (b:=⟨gv,gd,g,C,l,c,sN,sN⟩) (X:=⟨DZ,true,[]⟩) (v:= sN) (G.pk 8 [3,1,2,4,5,6,7,0]);have S:=(M.pk 4 [2,3,1,0]).aM.swap.aM;have U:=St.Zy (B:=B) (X:=vq) (b:=⟨gv,gd,g,C,l,c,sN,sN⟩) (S.pk 3 [1,2,0]);have q:=aa U;clear h Z G M S U
   go_wp2_with fail
   go_ret
   exact⟨B,rfl,q⟩
end
section
open Go.Shelf
def iH(w:World)(K:LV)(o:eH):Prop:=∃A n c q m k,K=[iI o.d,iI o.c,iI o.r,iI o.i,iI o.n,.slice A n c,.slice q m k]/\ay w .u8 (.slice A n c) o.b/\ay w .i64 (.slice q m k) o.p
theorem Du{w:World}{T:Addr}{k:Nat}{D S P y Q E X:Value}(h:∀j u,[D,S,P,y,Q,E,X][j]? =some u->w.cell? ((T.add (k*7)).add j)=some u):
 w.cell? (T.add (k*7))=some D/\w.cell? ⟨(T.add (k*7)).block,(T.add (k*7)).off+1,none⟩=some S/\w.cell? ⟨(T.add (k*7)).block,(T.add (k*7)).off+2,none⟩=some P/\w.cell? ⟨(T.add (k*7)).block,(T.add (k*7)).off+3,none⟩=some y/\w.cell? ⟨(T.add (k*7)).block,(T.add (k*7)).off+4,none⟩=some Q/\w.cell? ⟨(T.add (k*7)).block,(T.add (k*7)).off+5,none⟩=some E/\w.cell? ⟨(T.add (k*7)).block,(T.add (k*7)).off+6,none⟩=some X:=
 ⟨h 0 _ rfl,h 1 _ rfl,h 2 _ rfl,h 3 _ rfl,h 4 _ rfl,h 5 _ rfl,h 6 _ rfl⟩
section
variable {I:aK} {w:World} {L:List az}
theorem St.Zw{A:OA}{n c k:Nat}{l:List eH}{o:eH}(h:St I w (aG 7 iH (.slice A n c) l::L))(Q:l[k]? =some o):
 ∃T E t D a b M,A=some T/\t=o.b.length/\(∀j u,[Value.int .i64 o.d,iI o.c,iI o.r,iI o.i,iI o.n,.slice E t D,.slice a b M][j]? =some u->w.cell? ((T.add (k*7)).add j)=some u)/\
  St I w (ai .u8 (.slice E t D) o.b::ai .i64 (.slice a b M) o.p::aG 7 iH (.slice A n c) l::L):=by
 obtain⟨T,B,rfl,_,d,⟨E,t,D,a,b,M,rfl,z,P⟩,Z⟩:=h.elem 0 rfl Q;have W:t=o.b.length:=by
  obtain⟨_,_,C,_⟩:=z;injection C
 have G:=Z.bC (R':=λO=>ay O .u8 (.slice E t D) o.b/\ay O .i64 (.slice a b M) o.p) (λO J=>by
  obtain⟨g,r,Y,e,x,F,C,K,S⟩:=J.2;injection C with _ C;injection C with _ C;injection C with _ C;injection C with _ C;injection C with _ C;injection C with p C;injection C with R _;rw[p,R];exact⟨K,S⟩)
 have K:=(G.copy 0 rfl).bC (R':=λO=>ay O .u8 (.slice E t D) o.b) (λ_ J=>J.1);have S:=(K.front (X:=bj (λO=>ay O .u8 (.slice E t D) o.b/\ay O .i64 (.slice a b M) o.p))).bC (R':=λO=>ay O .i64 (.slice a b M) o.p) (λ_ J=>J.2);exact⟨T,E,t,D,a,b,M,rfl,W,d,S.sub⟩
end
def WM.runs(X:WM)(l:List eH):WM:=l.foldl WM.step X
def WM.last:WM->jZ->List eH->jZ
 |_,E,[]=>E
 |X,_,o::l=>WM.last (X.step o) (X.bw o) l
def mz:jZ:=⟨0,0,0,0,0,[],0⟩
theorem zP{g:Type}{l:List g}{k:Nat}{x:g}(h:l[k]? =some x):l.drop k=x::l.drop (k+1):=by
 obtain⟨Q,rfl⟩:=nQ.1 h;exact(IQ Q)
theorem dr(X:WM)(o:eH):(X.bw o).d=o.d/\(X.bw o).c=o.c/\(X.bw o).r=o.r/\(X.bw o).i=o.i:=by
 unfold WM.bw
 split
 ·exact⟨rfl,rfl,rfl,rfl⟩
 ·exact⟨rfl,rfl,rfl,rfl⟩
theorem CU{I:aK}{L:List az}(hT:kL I)(B:Nat)(X:WM)(l:List eH)(A:OA)(n c:Nat)(w:World){gv:Nat->Int->Vw}{own:cU}{N:Nat->Rg}{i:Nat}{T:Int}(hR:mg X gv own N i T)(hi:i+l.length<=50)(E0:T+l.length<=150)(H0:X.ev.length<=1000)(ho:∀o∈l,xY o/\o.b.length<=1000)
 (h:St I w (aG 7 iH (.slice A n c) l::tQ B X::L)):
 Calls prog 17 #[pO B,.slice A n c] w λe O=>∃U n' r,e= .returned (.agg (fM (X.last mz l).d (X.last mz l).c (X.last mz l).r (X.last mz l).i (X.last mz l).t (.slice U n' r) (X.last mz l).e))/\St I O (ai .u8 (.slice U n' r) (X.last mz l).b::tQ B (X.runs l)::aG 7 iH (.slice A n c) l::L):=by
 obtain⟨R,q⟩:=nM (X.last mz l);obtain⟨D0,t⟩:=nM (X.runs l);rw[<-q,<-t];obtain⟨U,r,e,hc,hm⟩:=(h.eM 0 rfl).slice;injection e with e1 e2 e3;have b:=aa e2;have Z:=(h.alloc 34 (fM 0 0 0 0 0 sN 0)).alloc 34 (fM 0 0 0 0 0 sN 0);rw[World.size_alloc]at Z;obtain⟨gr,x⟩:=nM (w.heap.size);obtain⟨ge,Q⟩:=nM (w.heap.size+1);rw[<-Q,<-x]at Z;have HG:=aa (And.intro x Q);have h2:=Z.bH (R:=λw=>ay w .u8 sN []) (λO _=>ay.none_ O _);refine nK (h2.pk 5 [1,0,4,3,2]) hR (And.intro hi (And.intro E0 (And.intro H0 ho))) (And.intro q t) λH L0 V D=>?_;have S0:n<=50:=oM
 clear h Z h2 hc hm e1 e2 e3 x Q hR hi E0 H0 ho q t U r
 go_enter func17,ntmps17
 go_wp2_with fail
 rw[<-HG.out.2,<-HG.out.1]
 go_loopg [6] n (λgh iv wr=>∃(k:Nat) (p:WM) (E:jZ) (gv:Nat->Int->Vw) (own:cU) (N:Nat->Rg) (T1:Int) (d:OA) (C S:Nat),gh=n-k/\k<=n/\iv= iI (k:Nat)/\mg p gv own N (i+k) T1/\T1<=T+(k:Int)/\p.ev.length=X.ev.length+k/\R=p.last E (l.drop k)/\D0=p.runs (l.drop k)/\St I wr (ab ge 34 (fM E.d E.c E.r E.i E.t (.slice d C S) E.e)::ai .u8 (.slice d C S) E.b::tQ B p::aG 7 iH (.slice A n c) l::ab gr 34 (fM 0 0 0 0 0 sN 0)::L))
 case atStart=>exact⟨0,X,mz,gv,own,N,T,none,0,0,rfl,oM,rfl,L0,oM,rfl,D.1,D.2,H⟩
 case round=>
  clear H;obtain⟨k,p,E,P0,gF,N1,T1,d,C,S,M,hk,rfl,F,u,z,j,g,h⟩:=hrel;by_cases R0:k<n
  ·have J:=g7 (l:=l) (i:=k) (by have:=b.out;omega)
   generalize l[k]'(by have:=b.out;omega)=o at J;obtain⟨ad,A0,n0,c0,B0,m0,k0,rfl,N0,F0,Z⟩:=(h.fi 3).Zw J;obtain⟨x0,x1,x2,x3,x4,x5,x6⟩:=Du F0;obtain⟨y0,y1,y2,y3,y4,y5,y6⟩:=(Z.ah 3 rfl).seven;have I0:=qP J;have K:=aa (V.2.2.2 o I0);have Y:=aa (And.intro J (And.intro M (And.intro F (And.intro u (And.intro z (And.intro j g))))));have P:=aa (Z.pk 6 [0,1,5,3,2]);clear h Z F0 J M F u z j g I0 N0 hk
   go_wp2_with fail
   refine(ry hT B p o A0 n0 c0 (.slice B0 m0 k0) _ (Y.2.2.1.now (by have:=V.1;have:=b.out;omega) acu) K.1 (by have:=K.2;omega) (by have:=V.2.2.1;have:=Y.2.2.2.2.1;omega) P).mono ?_;rintro e w3⟨G,n3,c3,rfl,h⟩;have a:=h.fi 2;obtain⟨y0,y1,y2,y3,y4,y5,y6⟩:=(a.ah 0 rfl).seven;have yf:=(a.ah 0 rfl).frozen;have W:=a.KU o.d o.c o.r o.i (p.bw o).t (p.bw o).e (.slice G n3 c3);have y:=aa W;clear h a W P x0 x1 x2 x3 x4 x5 x6
   go_wp2_with fail
   obtain⟨M0,O0,N2,J0,_⟩:=Y.out.2.2.1.step (o:=o) (T1:=T1+1) (by have:=V.1;have:=b.out;omega) acu K.1 oM oM;have K0:=aa J0;clear J0
   go_roundg (n-(k+1))
   case measure=>have:=Y.2.1;omega
   case rel=>
    have e:=dr p o;refine⟨k+1,p.step o,p.bw o,M0,O0,N2,T1+1,G,n3,c3,rfl,oM,rfl,K0,by have:=Y.2.2.2.1;omega,?_,?_,?_,?_⟩
    ·rw[cv,dB,Y.out.2.2.2.2.1]
     simp only[qR,MJ];omega
    ·rw[Y.out.2.2.2.2.2.1,zP Y.out.1]
     rfl
    ·rw[Y.out.2.2.2.2.2.2,zP Y.out.1]
     rfl
    ·rw[e.1,e.2.1,e.2.2.1,e.2.2.2]
     exact y.sub
  ·have Q0:k=n:=oM
   have G0:l.drop k=[]:=by rw[List.drop_eq_nil_iff];have:=b.out;omega
   rw[G0]at j g;have C0:=aa (And.intro j g);have a:=h.fi 4;obtain⟨y0,y1,y2,y3,y4,y5,y6⟩:=(h.ah 0 rfl).seven;obtain⟨r0,r1,r2,r3,r4,r5,r6⟩:=(a.ah 0 rfl).seven;have rf:=(a.ah 0 rfl).frozen;have W:=a.KU E.d E.c E.r E.i E.t E.e (.slice d C S);have y:=aa W;clear h a W j g G0 F u z M
   go_wp2_with fail
   obtain⟨x0,x1,x2,x3,x4,x5,x6⟩:=(y.ah 0 rfl).seven
   (try simp only[Exit.inBlock,Exit.then])
   refine bodyPost_ret (v:= .agg (fM E.d E.c E.r E.i E.t (.slice d C S) E.e)) (aL rfl _ rfl ?_) rfl ?_
   ·go_simp
   ·rw[show R=E from C0.out.1,show D0=p from C0.out.2]
    refine⟨d,C,S,rfl,?_⟩;exact y.pk 2 []
end
section
section
variable {X:WM} {a:Nat->Int->Vw} {own:cU} {N:Nat->Rg} {n m k:Nat} {T:Int} {c i:Int}
theorem GI.YG(h:GI X a own N n m T)(D:0<=c)(y:c<3)(Q:k<4)(R:(X.c c.toNat).wM (k:Int)=true):1<=(X.c c.toNat).tok (k:Int):=by
 have M:(k:Int).toNat=k:=rfl;unfold aY.wM at R;simp only[mf]at R;rw[qe oM oM,M];rcases h.hz c D y k with e|e
 ·rw[M,e]at R
  exact absurd R.1.1.2 dC
 ·exact e
theorem GI.atk(h:GI X a own N n m T)(p:m<=110)(D:0<=c)(y:c<3)(Q:k<4)(R:1<=(X.c c.toNat).tok (k:Int)):
 (1<=(X.c c.toNat).tok (k:Int)/\(X.c c.toNat).tok (k:Int)<18446744073709551616)/\a k ((X.c c.toNat).tok (k:Int))=⟨(X.c c.toNat).r k,(a k ((X.c c.toNat).tok (k:Int))).f,(a k ((X.c c.toNat).tok (k:Int))).ca⟩/\lU (X.c c.toNat) m/\((X.c c.toNat).wr.filter (ao (k:Int))).map gP=(aC (k:Int) ((X.c c.toNat).tok (k:Int)) X.ev).p.drop (a k ((X.c c.toNat).tok (k:Int))).f:=by
 obtain⟨G,_⟩:=h.lk c (k:Int) D y oM oM R;have M:=h.tk c (k:Int) D y;have S:=h.lb;have J:(a k ((X.c c.toNat).tok (k:Int))).x=(X.c c.toNat).r k:=G.x;exact⟨⟨R,oM⟩,by rw[<-J],h.ci c D y,G.w⟩
theorem GI.TV(h:GI X a own N n m T)(W:n<=200000)(p:m<=110)(A:T<=200)(D:0<=c)(y:c<3)(Q:k<4)(F:fw X.st)(l:(X.st.s.M k).ax<=(X.c c.toNat).tok (k:Int))(B:(X.c c.toNat).eI (k:Int) 0=0):
 (bz X.st c (X.c c.toNat) (k:Int) 0).e=0/\fw (bz X.st c (X.c c.toNat) (k:Int) 0).x/\((bz X.st c (X.c c.toNat) (k:Int) 0).x.s.M k).ax=(X.c c.toNat).tok (k:Int):=by
 obtain⟨H,O,d,g⟩:=h.atk p D y Q (h.YG D y Q (nt B).2.2);exact h.w.Ah oM oM oM c Q H O d g F l B
theorem GI.VT(h:GI X a own N n m T)(W:n<=200000)(p:m<=110)(A:T<=200)(D:0<=c)(y:c<3)(Q:k<4)(F:fw X.st)(l:(X.st.s.M k).ax<=(X.c c.toNat).tok (k:Int))(B:(X.c c.toNat).eI (k:Int) i=0):
 (df X.st c (X.c c.toNat) (k:Int) i 0).e=0:=by
 obtain⟨H,O,d,g⟩:=h.atk p D y Q (h.YG D y Q (nt B).2.2);exact h.w.Bo oM oM c Q H O d g F l B
end
theorem GM{S:Int->fT}{k:Int->Nat}(n:Nat):∀m:Nat,(∀t:Int,(n:Nat)<t->t<=(n+m:Nat)->(S t).p=[])->qL S k (n+m)=qL S k n
 |0,_=>rfl
 |m+1,h=>by
  show jG (qL S k (n+m)) ((S ((n+m+1:Nat):Int)).p.take (k ((n+m+1:Nat):Int)))=_;rw[h ((n+m+1:Nat):Int) oM oM,zdo,GM n m (λt Z G=>h t Z oM)]
  rfl
theorem NA{S:Int->fT}{gv:Int->Vw}{x:Rg}{k:Int->Nat}(h:dF S gv x k){t1 t2 i:Int}{b:LI}{y:AI}(Z:1<=t1)(G:t1<t2)(z:0<=i/\i<4)(X:(S t1).p=[⟨i,b⟩])(Y:(S t1).s=1)(d:∀j,t1<j->j<t2->(S j).p=[])(C:(S t2).p=[])(E:y∈(S t2).k)(e:y.i=i):y.d=b:=by
 have T:k t1=1:=by
  have a:=h.ks t1 Z;have c:=h.kp t1 Z;rw[X]at c;have c:k t1<=1:=c;omega
 have F:px (S t2) (ny S k t2) y=true:=by
  have D:=h.lk t2 oM y E;by_cases l:t2<=x.ax
  ·exact D.1 l
  ·exact D.2 oM _
 unfold px at F;rw[C,zdo]at F;have F:NE (ny S k t2) y.i=y.d:=of_decide_eq_true F;rw[<-F,e];have B:ny S k t2=qL S k t1.toNat:=by
  unfold ny;rw[show(t2-1).toNat=t1.toNat+(t2-1-t1).toNat by omega];exact GM _ _ (λt a c=>d t oM oM)
 rw[B,show t1.toNat=(t1.toNat-1)+1 by omega];show NE (jG (qL S k (t1.toNat-1)) ((S ((t1.toNat-1+1:Nat):Int)).p.take (k ((t1.toNat-1+1:Nat):Int)))) i=b;rw[show((t1.toNat-1+1:Nat):Int)=t1 by omega,X,T];show NE (ti (qL S k (t1.toNat-1)) ⟨i,b⟩) i=b;rw[LG (p:=⟨i,b⟩) z,iP rfl]
theorem pC(r t:Int)(l:List jZ)(e:jZ):aC r t (l++[e])=if ku r t e=true then fo (aC r t l) e else aC r t l:=by
 unfold aC;rw[Xn,XI]
 cases h:ku r t e with
 |true=>rw[zdd h,iP rfl];rfl
 |false=>rw[zde (by rw[h];simp),iN abN];rfl
section
variable {X:WM} {o:eH}
theorem aaZ(y:o.d=3):X.one o=⟨(eB X.sv o.c (X.c o.c.toNat) o.r).s,X.st,(eB X.sv o.c (X.c o.c.toNat) o.r).c,[],(eB X.sv o.c (X.c o.c.toNat) o.r).e⟩:=by
 unfold WM.one gJ;rw[iN oM,iN oM,iP y]
theorem aae(y:o.d=6):X.one o=⟨X.sv,(df X.st o.c (X.c o.c.toNat) o.r o.i o.n).x,(df X.st o.c (X.c o.c.toNat) o.r o.i o.n).c,(df X.st o.c (X.c o.c.toNat) o.r o.i o.n).b,(df X.st o.c (X.c o.c.toNat) o.r o.i o.n).e⟩:=by
 unfold WM.one gJ;rw[iN oM,iN oM,iN oM,iN oM,iN oM,iP y]
theorem Ya(y:o.d=7):X.one o=⟨X.sv,(bz X.st o.c (X.c o.c.toNat) o.r o.n).x,(bz X.st o.c (X.c o.c.toNat) o.r o.n).c,[],(bz X.st o.c (X.c o.c.toNat) o.r o.n).e⟩:=by
 unfold WM.one gJ;rw[iN oM,iN oM,iN oM,iN oM,iN oM,iN oM,iP y]
theorem ZG(y:o.d=8):X.one o=⟨(ie X.sv o.c (X.c o.c.toNat) o.r).s,X.st,(ie X.sv o.c (X.c o.c.toNat) o.r).c,[],(ie X.sv o.c (X.c o.c.toNat) o.r).e⟩:=by
 unfold WM.one gJ;rw[iN oM,iN oM,iN oM,iN oM,iN oM,iN oM,iN oM,iP y]
theorem AE(a:o.fit=true){z:gD}{p:dz}{I:aY}{b:LI}{e:Int}(h:X.one o=⟨z,p,I,b,e⟩):X.step o=⟨z,p,aI X.c o.c.toNat I,X.ev++[X.bw o]⟩/\X.bw o=⟨o.d,o.c,o.r,o.i,if o.d=3/\e=0 then I.tok o.r else(X.c o.c.toNat).tok o.r,if o.d=5/\e=0 then o.b else b,e⟩:=by
 rw[WM.oQ a,WM.Kb a,h];exact ac7
end
theorem QP(X:dz)(c:Int)(C:aY)(r n:Int):(bz X c C r n).c.h=C.h:=by
 unfold bz
 split
 ·rfl
 ·unfold mX
  split
  ·rfl
  ·split
   ·rfl
   ·split
    ·rfl
    ·rfl
theorem VG{S:gD}{c:Int}{C:aY}{r t q:Int}(R:C.tok r=t)(d:C.seq=q)(K:t≠0):(ie S c C r).s=(S.apply ⟨4,c,dP q,r,0,t,0⟩).s/\(ie S c C r).e=(S.apply ⟨4,c,dP q,r,0,t,0⟩).e:=by
 unfold ie;rw[R,d,iN K];exact ac7
abbrev oA(c:Int):eH:=⟨3,c,1,0,0,[],[]⟩
abbrev oP:eH:=⟨5,0,1,2,0,[97],[]⟩
abbrev oF(n:Int):eH:=⟨7,0,1,0,n,[],[]⟩
abbrev oR:eH:=⟨8,0,1,0,0,[],[]⟩
abbrev oG:eH:=⟨6,1,1,2,0,[],[]⟩
theorem fC(d c r i:Int){n:Int}(K:0<=n)(Z:n<=1):xY ⟨d,c,r,i,n,[],[]⟩:=⟨λ_ h=>(by cases h),(by show-9223372036854775808<=n;omega),(λ_=>by show n<=1073741824;omega)⟩
theorem LP:xY oP:=⟨λx h=>by rw[nN.1 h];unfold isByte;omega,dC,λ_=>dC⟩
def wa1:WM:=vq.step (oA 0)
def Dn:WM:=wa1.step oP
def Ov:WM:=Dn.step (oF 0)
def Yt:WM:=Ov.step oR
def Wh:WM:=Yt.step (oA 1)
def RZ:WM:=Dn.step (oF 1)
theorem DI:∃gv own N,mg Dn gv own N 2 1:=by
 obtain⟨_,_,_,Z,_⟩:=mg.new.step dC dC (fC 3 0 1 0 (n:=0) dC dC) (cO _) (λh=>by cases h);obtain⟨g,o,N,G,_⟩:=Z.step dC dC LP (cO _) (λh=>by cases h);exact⟨g,o,N,G⟩
theorem Ro:Dn.st=⟨DZ,true,[]⟩:=kR
theorem Yv:(vq.bw (oA 0)).e=0/\(wa1.bw oP)=⟨5,0,1,2,1,[97],0⟩/\(vq.bw oP).e=110:=⟨kR,kR,kR⟩
theorem UU:fw Dn.st:=by
 rw[Ro];exact⟨rfl,DU.2.2.2⟩
theorem UX:(Dn.st.s.M 1).ax<=1:=by
 rw[Ro];show(DZ.M 1).ax<=1;rw[DU.2.1]
 decide
theorem JH{r t:Int}{e:jZ}(h:e.d<5\/7<e.d):ku r t e=false:=by
 unfold ku;rw[KJ h]
 rfl
theorem Pp(X:WM)(o:eH):(X.bw o).d=o.d:=(dr X o).1
section
variable {X:WM} {n:Nat->Int->Vw} {own:cU} {N:Nat->Rg} {i:Nat} {T:Int}
theorem EC(h:mg X n own N i T)(z:i<=55)(A:T<=200)(F:fw X.st)(l:(X.st.s.M 1).ax<=1)(B:(X.c 0).eI 1 0=0)(R:(X.c 0).tok 1=1):X.bw (oF 0)=⟨7,0,1,0,1,[],0⟩/\fw (X.step (oF 0)).st/\((X.step (oF 0)).st.s.M 1).ax=1:=by
 have a:=h.g.TV (k:=1) (c:=0) oM oM A dC dC dC F (tU l (Zb R.symm)) B;have a:(bz X.st 0 (X.c 0) 1 0).e=0/\fw (bz X.st 0 (X.c 0) 1 0).x/\((bz X.st 0 (X.c 0) 1 0).x.s.M 1).ax=(X.c 0).tok 1:=a;obtain⟨u,Y⟩:=AE (X:=X) (o:=oF 0) rfl (Ya rfl);have u:X.step (oF 0)=⟨X.sv,(bz X.st 0 (X.c 0) 1 0).x,aI X.c 0 (bz X.st 0 (X.c 0) 1 0).c,X.ev++[X.bw (oF 0)]⟩:=u;have Y:X.bw (oF 0)=⟨7,0,1,0,if(7:Int)=3/\(bz X.st 0 (X.c 0) 1 0).e=0 then(bz X.st 0 (X.c 0) 1 0).c.tok 1 else(X.c 0).tok 1,if(7:Int)=5/\(bz X.st 0 (X.c 0) 1 0).e=0 then []else [],(bz X.st 0 (X.c 0) 1 0).e⟩:=Y;rw[a.1,iN dC,iN dC,R]at Y;exact⟨Y,by rw[u];exact a.2.1,by rw[u];exact a.2.2.trans R⟩
theorem Mk{q:Int}{Aq:nP}(B:(X.c 0).tok 1=1)(d:(X.c 0).seq=q)(N:X.c 1=aY.zero 0)(T:eB (X.sv.apply ⟨4,0,dP q,1,0,1,0⟩).s 1 (aY.zero 0) 1=Aq)(G:Aq.e=0)(j:Aq.c.tok 1=2):
 (((X.step (oF 0)).step oR).bw (oA 1)).e=0/\(((X.step (oF 0)).step oR).bw (oA 1)).t=2/\(((X.step (oF 0)).step oR).step (oA 1)).st=(X.step (oF 0)).st/\(((X.step (oF 0)).step oR).step (oA 1)).c 1=Aq.c:=by
 obtain⟨u,_⟩:=AE (X:=X) (o:=oF 0) rfl (Ya rfl);have u:X.step (oF 0)=⟨X.sv,(bz X.st 0 (X.c 0) 1 0).x,aI X.c 0 (bz X.st 0 (X.c 0) 1 0).c,X.ev++[X.bw (oF 0)]⟩:=u;have E:=vK X.st 0 (X.c 0) 1 0;have l:=QP X.st 0 (X.c 0) 1 0;generalize bz X.st 0 (X.c 0) 1 0=Z at u E l;generalize X.step (oF 0)=Y at*;obtain⟨i,_⟩:=AE (X:=Y) (o:=oR) rfl (ZG rfl);have i:Y.step oR=⟨(ie Y.sv 0 (Y.c 0) 1).s,Y.st,aI Y.c 0 (ie Y.sv 0 (Y.c 0) 1).c,Y.ev++[Y.bw oR]⟩:=i;have A:Y.c 0=Z.c:=by rw[u];exact aT X.c 0 Z.c
 have b:Y.sv=X.sv:=by rw[u]
 have g:Y.c 1=aY.zero 0:=by rw[u];exact(bS X.c 0 1 Z.c dC).trans N
 have U:=(VG (S:=X.sv) (c:=0) (C:=Z.c) (r:=1) (t:=1) (q:=q) (by rw[xa l];exact B) (E.1.trans d) dC).1;rw[A,b,U]at i;have J:(Y.step oR).sv=(X.sv.apply ⟨4,0,dP q,1,0,1,0⟩).s:=by rw[i]
 have e:(Y.step oR).c 1=aY.zero 0:=by rw[i];exact(bS Y.c 0 1 (ie X.sv 0 Z.c 1).c dC).trans g
 have a:(Y.step oR).st=Y.st:=by rw[i]
 generalize Y.step oR=vs at*;obtain⟨H,O⟩:=AE (X:=vs) (o:=oA 1) rfl (aaZ rfl);have H:vs.step (oA 1)=⟨(eB vs.sv 1 (vs.c 1) 1).s,vs.st,aI vs.c 1 (eB vs.sv 1 (vs.c 1) 1).c,vs.ev++[vs.bw (oA 1)]⟩:=H;have O:vs.bw (oA 1)=⟨3,1,1,0,if(3:Int)=3/\(eB vs.sv 1 (vs.c 1) 1).e=0 then(eB vs.sv 1 (vs.c 1) 1).c.tok 1 else(vs.c 1).tok 1,if(3:Int)=5/\(eB vs.sv 1 (vs.c 1) 1).e=0 then []else [],(eB vs.sv 1 (vs.c 1) 1).e⟩:=O;rw[J,e,T]at H O;rw[G,j,iP ⟨rfl,rfl⟩]at O;exact⟨by rw[O],by rw[O],by rw[H];exact a,by rw[H];exact aT vs.c 1 Aq.c⟩
theorem Hg(h:mg X n own N i T)(z:i<=55)(A:T<=200)(C:fw X.st)(O:(X.st.s.M 1).ax<=2)(B:(X.c 1).eI 1 2=0)(R:(X.c 1).tok 1=2){S u Y P g:jZ}(M:X.ev=[S,u,Y,P,g])(K:S.d=3)(Z:u=⟨5,0,1,2,1,[97],0⟩)(G:Y=⟨7,0,1,0,1,[],0⟩)(D:P.d=8)(d:g.d=3):
 (X.bw oG).e=0/\(X.bw oG).b=[97]:=by
 have F:=h.g.VT (c:=1) (k:=1) (i:=2) oM oM A dC dC dC C (tU O (Zb R.symm)) B;obtain⟨_,_,_,V,_⟩:=h.step (o:=oG) z A (fC 6 1 1 2 dC dC) (T1:=T+1) oM (λ_=>cO _);obtain⟨_,H⟩:=AE (X:=X) (o:=oG) rfl (aae rfl);have H:X.bw oG=⟨6,1,1,2,if(6:Int)=3/\(df X.st 1 (X.c 1) 1 2 0).e=0 then(df X.st 1 (X.c 1) 1 2 0).c.tok 1 else(X.c 1).tok 1,if(6:Int)=5/\(df X.st 1 (X.c 1) 1 2 0).e=0 then []else(df X.st 1 (X.c 1) 1 2 0).b,(df X.st 1 (X.c 1) 1 2 0).e⟩:=H;have F:(df X.st 1 (X.c 1) 1 2 0).e=0:=F;rw[F,R,iN dC,iN dC]at H;generalize(df X.st 1 (X.c 1) 1 2 0).b=bb at H;have a:(X.step oG).ev=[S,u,Y,P,g]++[X.bw oG]:=by rw[cv,M]
 rw[H]at a⊢;refine⟨rfl,?_⟩;show bb=[97];obtain⟨k,Q⟩:=V.g.w.p.rm 1 dC dC;generalize X.step oG=W at*;have x:∀t,aC 1 t W.ev=if ku 1 t ⟨6,1,1,2,2,bb,0⟩=true then fo (if ku 1 t Y=true then fo (if ku 1 t u=true then fo (jB t) u else jB t) Y else(if ku 1 t u=true then fo (jB t) u else jB t)) ⟨6,1,1,2,2,bb,0⟩else(if ku 1 t Y=true then fo (if ku 1 t u=true then fo (jB t) u else jB t) Y else(if ku 1 t u=true then fo (jB t) u else jB t)):=by
  intro t;have r:ku 1 t S=false:=JH (.inl oM);have I:ku 1 t P=false:=JH (.inr oM);have q:ku 1 t g=false:=JH (.inl oM);rw[a,pC,show [S,u,Y,P,g]=[S,u,Y,P]++[g]from rfl,pC,q,iN iu,show [S,u,Y,P]=[S,u,Y]++[P]from rfl,pC,I,iN iu,show [S,u,Y]=[S,u]++[Y]from rfl,pC,show [S,u]=[S]++[u]from rfl,pC,show [S]=[]++[S]from rfl,pC,r,iN iu]
  rfl
 rw[Z,G]at x;refine NA (y:=⟨0,2,bb⟩) (i:=2) (b:=[97]) Q (t1:=1) (t2:=2) dC dC dC ?_ ?_ (λj L e=>oM) ?_ ?_ rfl
 ·show(aC 1 1 W.ev).p=_
  rw[x];rfl
 ·show(aC 1 1 W.ev).s=_
  rw[x];rfl
 ·show(aC 1 2 W.ev).p=_
  rw[x];rfl
 ·show _∈(aC 1 2 W.ev).k
  rw[x];exact nN.2 rfl
end
theorem Zd:(Dn.bw (oF 1)).e=111:=kR
theorem Kx:(Dn.c 0).eI 1 0=0/\(Dn.c 0).tok 1=1/\Dn.c 1=aY.zero 0:=⟨kR,kR,kR⟩
theorem Qz:Dn.ev=[vq.bw (oA 0),⟨5,0,1,2,1,[97],0⟩]:=kR
def aQ:nP:=eB (Dn.sv.apply ⟨4,0,dP (Dn.c 0).seq,1,0,1,0⟩).s 1 (aY.zero 0) 1
theorem Ud:aQ.e=0/\aQ.c.tok 1=2/\aQ.c.eI 1 2=0:=⟨kR,kR,kR⟩
theorem yU:(Dn.bw (oF 0)).e=0/\(Yt.bw (oA 1)).e=0/\(Yt.bw (oA 1)).t=2/\(Wh.bw oG).e=0/\(Wh.bw oG).b=[97]:=by
 obtain⟨c,I,z,G⟩:=DI;obtain⟨f1,f2,f3⟩:=EC G dC dC UU UX Kx.1 Kx.2.1;obtain⟨u,J,Q,b⟩:=Mk (X:=Dn) Kx.2.1 rfl Kx.2.2 (Aq:=aQ) rfl Ud.1 Ud.2.1;obtain⟨L,E,d,M,_⟩:=G.step (o:=oF 0) dC dC (fC 7 0 1 0 dC dC) (cO _) (λh=>by cases h);obtain⟨B,p,g,S,_⟩:=M.step (o:=oR) dC dC (fC 8 0 1 0 dC dC) (cO _) (λh=>by cases h);obtain⟨H,a,e,t,_⟩:=S.step (o:=oA 1) dC dC (fC 3 1 1 0 dC dC) (cO _) (λh=>by cases h);have U:=Hg t dC dC (by rw[Q];exact f2) (by rw[Q,f3];decide) (by rw[b];exact Ud.2.2) (by rw[b];exact Ud.2.1) (by rw[cv,cv,cv,Qz];rfl) (Pp _ _) rfl f1 (Pp _ _) (Pp _ _);exact⟨by rw[f1],u,J,U.1,U.2⟩
theorem KS:RZ.st=Dn.st/\(RZ.c 0).tok 1=1/\(RZ.c 0).eI 1 0=0:=⟨kR,kR,kR⟩
theorem YF:(RZ.bw (oF 0)).e=0:=by
 obtain⟨c,I,z,G⟩:=DI;obtain⟨L,E,d,M,_⟩:=G.step (o:=oF 1) dC dC (fC 7 0 1 0 dC dC) (cO _) (λh=>by cases h);have a:=EC (X:=RZ) M dC dC (by rw[KS.1];exact UU) (by rw[KS.1];exact UX) KS.2.2 KS.2.1;rw[a.1]
end
def la:List eH:=[oA 0,oP,oF 0]
def lb:List eH:=[oR,oA 1]
def ld:List eH:=[oA 0,oP,oF 1]
theorem aaf:(vq.last mz la).e=0:=yU.1
theorem Sv:vq.runs la=Ov:=rfl
theorem TG:Ov.runs lb=Wh:=rfl
theorem Uh:vq.runs ld=RZ:=rfl
theorem YY:(Ov.last mz lb).e=0/\(Ov.last mz lb).t=2:=⟨yU.2.1,yU.2.2.1⟩
theorem aaG:(vq.last mz ld).e=111:=Zd
theorem PS:∃gv own N,mg Ov gv own N 3 1:=by
 obtain⟨c,I,z,G⟩:=DI;obtain⟨L,E,d,M,_⟩:=G.step (o:=oF 0) dC dC (fC 7 0 1 0 dC dC) (cO _) (λh=>by cases h);exact⟨L,E,d,M⟩
theorem Wd:∃gv own N,mg Wh gv own N 5 1:=by
 obtain⟨L,E,d,M⟩:=PS;obtain⟨B,p,g,S,_⟩:=M.step (o:=oR) dC dC (fC 8 0 1 0 dC dC) (cO _) (λh=>by cases h);obtain⟨H,a,e,U,_⟩:=S.step (o:=oA 1) dC dC (fC 3 1 1 0 dC dC) (cO _) (λh=>by cases h);exact⟨H,a,e,U⟩
theorem Vr:∃gv own N,mg RZ gv own N 3 1:=by
 obtain⟨c,I,z,G⟩:=DI;obtain⟨L,E,d,M,_⟩:=G.step (o:=oF 1) dC dC (fC 7 0 1 0 dC dC) (cO _) (λh=>by cases h);exact⟨L,E,d,M⟩
theorem ev3:Ov.ev.length=3/\Wh.ev.length=5/\RZ.ev.length=3:=by
 have G:Dn.ev.length=2:=by rw[Qz];rfl
 have M:Ov.ev.length=3:=by
  show(Dn.step (oF 0)).ev.length=3;rw[cv,dB,G];rfl
 have S:Yt.ev.length=4:=by
  show(Ov.step oR).ev.length=4;rw[cv,dB,M];rfl
 refine⟨M,?_,?_⟩
 ·show(Yt.step (oA 1)).ev.length=5
  rw[cv,dB,S];rfl
 ·show(Dn.step (oF 1)).ev.length=3
  rw[cv,dB,G];rfl
theorem YK:∀o∈la,xY o/\o.b.length<=1000:=λo q=>by
 unfold la at q;exact adU
theorem Yb:∀o∈ld,xY o/\o.b.length<=1000:=λo q=>by
 unfold ld at q;exact adU
theorem Yw:∀o∈lb,xY o/\o.b.length<=1000:=λo q=>by
 unfold lb at q;simp only[qQ,qo,or_false]at q;rcases q with rfl|rfl
 ·exact⟨fC 8 0 1 0 dC dC,dC⟩
 ·exact⟨fC 3 1 1 0 dC dC,dC⟩
section
open Go.Shelf
theorem iH.nil(w:World)(d c r i n:Int):iH w [iI d,iI c,iI r,iI i,iI n,sN,sN] ⟨d,c,r,i,n,[],[]⟩:=⟨none,0,0,none,0,0,rfl,ay.none_ w _,ay.none_ w _⟩
theorem iH.bx{w:World}{g n c:Nat}(h:ay w .u8 (.slice (aO g) n c) [97]):iH w [iI 5,iI 0,iI 1,iI 2,iI 0,.slice (aO g) n c,sN] oP:=⟨_,_,_,none,0,0,rfl,h,ay.none_ w _⟩
theorem ei{I:aK}{L:List az}(A:kL I)(w:World)(h:St I w L):Rt I w 8 #[] (.bool true) L:=by
 obtain⟨W0,Y0,U0,J0⟩:=PS;obtain⟨X0,Z0,V0,K0⟩:=Wd;obtain⟨B1,D1,C1,L0⟩:=Vr;refine nK J0 K0 L0 h λR0 S0 T0 F0=>?_;clear h J0 K0 L0
 go_enter func8,ntmps8
 go_wp2_with fail
 refine(gC A _ F0).mono ?_;rintro e w1⟨l,rfl,h⟩;have H1:=aa h;clear h F0
 go_wp2_with fail
 refine(gC A _ H1).mono ?_;rintro e y⟨c,rfl,h⟩;have Z:St I _ (ai .u8 (.slice (aO y.heap.size) 1 1) [97]::tQ c vq::tQ l vq::L):=h.Kj 5 .u8 [97] abN y.heap.size rfl;have G:=Z.alloc 30 (dW oP (.slice (aO y.heap.size) 1 1) sN);rw[World.size_alloc]at G;obtain⟨a,B,u,D,o,N,b⟩:=(G.ah 0 rfl).seven;have U:=(G.jd (Q:=λw=>ay w .u8 (.slice (aO y.heap.size) 1 1) [97])).bC (R':=λO=>∀p∈([([iI 3,iI 0,iI 1,iI 0,iI 0,sN,sN],oA 0),([iI 5,iI 0,iI 1,iI 2,iI 0,.slice (aO y.heap.size) 1 1,sN],oP),([iI 7,iI 0,iI 1,iI 0,iI 0,sN,sN],oF 0)]:List (LV×eH)),iH O p.1 p.2) (λO C p P=>by
  simp only[qQ,qo,or_false]at P;rcases P with rfl|rfl|rfl
  ·exact iH.nil O _ _ _ _ _
  ·exact iH.bx C
  ·exact iH.nil O _ _ _ _ _)
 have d:St I _ (aG 7 iH (.slice (some ⟨y.heap.size+1+1,0,none⟩) 3 3) la::ab (y.heap.size+1) 30 (dW oP (.slice (aO y.heap.size) 1 1) sN)::ai .u8 (.slice (aO y.heap.size) 1 1) [97]::tQ c vq::tQ l vq::L):=St.uV (size:=7) ([([iI 3,iI 0,iI 1,iI 0,iI 0,sN,sN],oA 0),([iI 5,iI 0,iI 1,iI 2,iI 0,.slice (aO y.heap.size) 1 1,sN],oP),([iI 7,iI 0,iI 1,iI 0,iI 0,sN,sN],oF 0)]:List (LV×eH)) 30 (λp P=>by
  simp only[qQ,qo,or_false]at P;rcases P with rfl|rfl|rfl<;>rfl) U abN (y.heap.size+1+1) abN
 have d:=d.pk 5 [0,4,3,2,1];have H2:=aa d;clear h Z G U d H1
 go_wp2_with fail
 refine(CU A l vq la (some ⟨y.heap.size+1+1,0,none⟩) 3 3 _ mg.new dC dC dC YK H2).mono ?_;rintro e Y⟨H,n1,j,rfl,h⟩;obtain⟨i,x⟩:∃E,E=vq.last mz la:=⟨_,rfl⟩;have N0:=aa x;rw[<-x]at h⊢;rw[Sv]at h;generalize y.heap.size=ga at h⊢;generalize ga+1=gp at h⊢;have Z:=(h.pk 3 [1]).alloc 34 (fM i.d i.c i.r i.i i.t (.slice H n1 j) i.e);have U:=(Z.jd (Q:=λw=>ay w .u8 (.slice (aO ga) 1 1) [97])).bC (R':=λO=>∀p∈([([iI 8,iI 0,iI 1,iI 0,iI 0,sN,sN],oR),([iI 3,iI 1,iI 1,iI 0,iI 0,sN,sN],oA 1)]:List (LV×eH)),iH O p.1 p.2) (λO C p P=>by
  simp only[qQ,qo,or_false]at P;rcases P with rfl|rfl
  ·exact iH.nil O _ _ _ _ _
  ·exact iH.nil O _ _ _ _ _)
 have d:St I _ (aG 7 iH (.slice (some ⟨Y.heap.size+1,0,none⟩) 2 2) lb::ab Y.heap.size 34 (fM i.d i.c i.r i.i i.t (.slice H n1 j) i.e)::tQ l Ov::tQ c vq::ai .u8 (.slice (aO ga) 1 1) [97]::ab gp 30 (dW oP (.slice (aO ga) 1 1) sN)::L):=St.uV (size:=7) ([([iI 8,iI 0,iI 1,iI 0,iI 0,sN,sN],oR),([iI 3,iI 1,iI 1,iI 0,iI 0,sN,sN],oA 1)]:List (LV×eH)) 30 (λp P=>by
  simp only[qQ,qo,or_false]at P;rcases P with rfl|rfl<;>rfl) U abN (Y.heap.size+1) abN
 have H3:=aa (d.pk 3 [0,2,1]);clear h Z U d H2 a B u D o N b x
 go_wp2_with fail
 refine(CU A l Ov lb (some ⟨Y.heap.size+1,0,none⟩) 2 2 _ R0 dC dC (by rw[ev3.1];decide) Yw H3).mono ?_;rintro e w4⟨A2,n2,c2,rfl,h⟩;obtain⟨J,F⟩:∃E,E=Ov.last mz lb:=⟨_,rfl⟩;have G0:=aa F;rw[<-F]at h⊢;rw[TG]at h;generalize Y.heap.size=v1 at h⊢;have Z:=(h.pk 5 [1,4,3]).alloc 34 (fM J.d J.c J.r J.i J.t (.slice A2 n2 c2) J.e);have G:=(Z.bH (R:=λw=>ay w .u8 sN []) (λO _=>ay.none_ O _)).bH (R:=λw=>ay w .i64 sN []) (λO _=>ay.none_ O _);have H4:=aa (G.pk 4 [1,0,3,2]);clear h Z G H3 F
 go_wp2_with fail
 refine(ry A l Wh oG none 0 0 sN _ (S0.now dC dC) (fC 6 1 1 2 dC dC) dC (by rw[ev3.2.1];decide) H4).mono ?_;rintro e z⟨T,q,S,rfl,h⟩;obtain⟨t,A0⟩:∃E,E=Wh.bw oG:=⟨_,rfl⟩;have H0:=aa A0;rw[<-A0]at h⊢;generalize w4.heap.size=v2 at h⊢;have h:=h.pk 4 [0,3,2];have Z:=h.alloc 34 (fM 6 1 1 2 t.t (.slice T q S) t.e);obtain⟨a,B,u,D,o,N,b⟩:=(Z.ah 6 rfl).seven;have U:=(Z.jd (Q:=λw=>ay w .u8 (.slice (aO ga) 1 1) [97])).bC (R':=λO=>∀p∈([([iI 3,iI 0,iI 1,iI 0,iI 0,sN,sN],oA 0),([iI 5,iI 0,iI 1,iI 2,iI 0,.slice (aO ga) 1 1,sN],oP),([iI 7,iI 0,iI 1,iI 0,iI 1,sN,sN],oF 1)]:List (LV×eH)),iH O p.1 p.2) (λO C p P=>by
  simp only[qQ,qo,or_false]at P;rcases P with rfl|rfl|rfl
  ·exact iH.nil O _ _ _ _ _
  ·exact iH.bx C
  ·exact iH.nil O _ _ _ _ _)
 have d:St I _ (aG 7 iH (.slice (some ⟨z.heap.size+1,0,none⟩) 3 3) ld::ab z.heap.size 34 (fM 6 1 1 2 t.t (.slice T q S) t.e)::ai .u8 (.slice T q S) t.b::tQ c vq::ab v2 34 (fM J.d J.c J.r J.i J.t (.slice A2 n2 c2) J.e)::ab v1 34 (fM i.d i.c i.r i.i i.t (.slice H n1 j) i.e)::ai .u8 (.slice (aO ga) 1 1) [97]::ab gp 30 (dW oP (.slice (aO ga) 1 1) sN)::L):=St.uV (size:=7) ([([iI 3,iI 0,iI 1,iI 0,iI 0,sN,sN],oA 0),([iI 5,iI 0,iI 1,iI 2,iI 0,.slice (aO ga) 1 1,sN],oP),([iI 7,iI 0,iI 1,iI 0,iI 1,sN,sN],oF 1)]:List (LV×eH)) 30 (λp P=>by
  simp only[qQ,qo,or_false]at P;rcases P with rfl|rfl|rfl<;>rfl) U abN (z.heap.size+1) abN
 have H5:=aa (d.pk 4 [0,3,1,2]);clear h Z U d H4 A0
 go_wp2_with fail
 refine(CU A c vq ld (some ⟨z.heap.size+1,0,none⟩) 3 3 _ mg.new dC dC dC Yb H5).mono ?_;rintro e w6⟨A4,n4,c4,rfl,h⟩;obtain⟨g,B0⟩:∃E,E=vq.last mz ld:=⟨_,rfl⟩;have O0:=aa B0;rw[<-B0]at h⊢;rw[Uh]at h;generalize z.heap.size=v3 at h⊢;have Z:=(h.pk 5 [1,4,3]).alloc 34 (fM g.d g.c g.r g.i g.t (.slice A4 n4 c4) g.e);have G:=(Z.bH (R:=λw=>ay w .u8 sN []) (λO _=>ay.none_ O _)).bH (R:=λw=>ay w .i64 sN []) (λO _=>ay.none_ O _);have H6:=aa (G.pk 4 [1,0,3,2]);clear h Z G H5 B0 a B u D o N b
 go_wp2_with fail
 refine(ry A c RZ (oF 0) none 0 0 sN _ (T0.now dC dC) (fC 7 0 1 0 dC dC) dC (by rw[ev3.2.2];decide) H6).mono ?_;rintro e w7⟨A5,n5,c5,rfl,h⟩;obtain⟨n,C0⟩:∃E,E=RZ.bw (oF 0):=⟨_,rfl⟩;have P0:=aa C0;rw[<-C0]at h⊢;generalize w6.heap.size=v4 at h⊢;have Z:=(h.pk 2 []).alloc 34 (fM 7 0 1 0 n.t (.slice A5 n5 c5) n.e);have H7:=aa Z;clear h Z H6 C0
 go_wp2_with fail
 refine(gC A _ H7).mono ?_;rintro e w8⟨g3,rfl,h⟩;generalize w7.heap.size=v5 at h⊢;obtain⟨a,B,u,D,o,N,b⟩:=(h.ah 8 rfl).seven;have G:=((h.jd (Q:=λw=>ay w .u8 (.slice (aO ga) 1 1) [97])).bH (R:=λw=>ay w .i64 sN []) (λO _=>ay.none_ O _));have H8:=aa (G.pk 2 [1,0]);clear h G H7
 go_wp2_with fail
 refine(ry A g3 vq oP (aO ga) 1 1 sN _ (mg.new.now dC dC) LP dC dC H8).mono ?_;rintro e k⟨r,n6,K,rfl,h⟩;obtain⟨M,D0⟩:∃E,E=vq.bw oP:=⟨_,rfl⟩;have Q0:=aa D0;rw[<-D0]at h⊢;have Z:=(h.pk 10 [2,3,4,5,6,7]).alloc 34 (fM 5 0 1 2 M.t (.slice r n6 K) M.e);have G:St I ((k.alloc (.cells (fM 5 0 1 2 M.t (.slice r n6 K) M.e) 34)).alloc (.cells #[.int .u8 97] 5)) (ai .u8 (.slice (some ⟨k.heap.size+1,0,none⟩) 1 1) [97]::_):=Z.Kj 5 .u8 [97] abN (k.heap.size+1) abN;have k1:i.e=0:=by rw[N0.out];exact aaf
 have k2:J.e=0:=by rw[G0.out];exact YY.1
 have k3:J.t=2:=by rw[G0.out];exact YY.2
 have k4:t.e=0:=by rw[H0.out];exact yU.2.2.2.1
 have k5:g.e=111:=by rw[O0.out];exact aaG
 have k6:n.e=0:=by rw[P0.out];exact YF
 have k7:M.e=110:=by rw[Q0.out];exact Yv.2.2
 have k8:t.b=[97]:=by rw[H0.out];exact yU.2.2.2.2
 obtain⟨_,_,_,_,t1,b1,q1⟩:=(Z.ah 6 rfl).seven;rw[k1]at q1;obtain⟨_,_,_,_,t2,b2,q2⟩:=(Z.ah 5 rfl).seven;rw[k2]at q2;obtain⟨_,_,_,_,t3,b3,q3⟩:=(Z.ah 4 rfl).seven;rw[k4]at q3;rw[k3]at t2;clear t1 t3 b1 b2;have E0:=G.qq (Q:=λw=>ay w .u8 (.slice T q S) t.b);have I0:=G.get 0 rfl;rw[k8]at E0;refine iG G (And.intro E0 I0) (And.intro k5 (And.intro k6 k7)) λH9 X V=>?_;clear h Z G H8 D0 a B u D o N b k1 k2 k3 k4 k5 k6 k7 k8 E0 I0
 go_wp2_with fail
 refine(IX _ _ [97] [97] _ X.1 X.2).mono ?_;rintro e wa⟨rfl,nn,rfl⟩;have G:=H9.out;clear H9 X;generalize(k.alloc (.cells (fM 5 0 1 2 M.t (.slice r n6 K) M.e) 34)).alloc (.cells #[.int .u8 97] 5)=W at G⊢;have M0:=aa (G.drewN nn);obtain⟨_,_,_,_,t4,b4,q4⟩:=(G.ah 3 rfl).seven;obtain⟨_,_,_,_,t5,b5,q5⟩:=(G.ah 2 rfl).seven;obtain⟨_,_,_,_,t6,b6,q6⟩:=(G.ah 1 rfl).seven;rw[V.out.1]at q4;rw[V.out.2.1]at q5;rw[V.out.2.2]at q6;clear t4 t5 t6 b4 b5 b6;clear G q1 q2 q3 t2 b3
 go_wp2_with fail
 go_ret
 exact⟨rfl,M0.pk 8 []⟩
end
section
open Go.Shelf
def LU(o:eH):Prop:=Bytes o.b/\o.b.length<=140737488355328/\-9223372036854775808<=o.n/\o.n<=9223372036854775807
theorem Jc{o:eH}(h:LU o)(W:¬o.n>1073741824):xY o:=⟨h.1,h.2.2.1,λ_=>oM⟩
end
section
open Go.Shelf
def fG(x:Int):eH:=⟨10,0,0,0,x,[],[]⟩
section
variable {X:WM} {b:Nat->Int->Vw} {own:cU} {N:Nat->Rg} {n m:Nat} {k:Int}
theorem LQ(g:GI X b own N n m 1)(W:n<=200000){p:Int×RQ}(P:p∈X.st.aw):(X.st.cI p.2).s.M=X.st.s.M:=by
 obtain⟨u,J,Q⟩:=g.w.z.nf rfl;obtain⟨_,_,d3,_⟩:=g.w.s.live oM oM u J (g.w.s.g p P);rw[d3];by_cases D:p.2.bI=true
 ·exact Ki (Q p P D)
 ·exact mP (by simpa using D)
theorem Ni(g:GI X b own N n m 1)(W:n<=200000)(s:AK X k)(x:Int):
 ∃w,GI (X.step (fG x)) b own w (n+1) m 1/\AK (X.step (fG x)) k/\(X.step (fG x)).st.s.M=X.st.s.M:=by
 have a:(fG x).fit=true:=rfl;have u:=WM.oQ (X:=X) a;have l:X.one (fG x)=if x<0\/(X.st.aw.length:Int)<=x then⟨X.sv,X.st,X.c 0,[],1⟩else⟨X.sv,X.st.cI ((X.st.aw.getD x.toNat (0,gE 0 0)).2),X.c 0,[],0⟩:=rfl;have B:∀r,(X.bw (fG x)).gO r=false:=λr=>KJ (by rw[(dr X (fG x)).1];exact .inr (show(7:Int)<10 by decide)) r;have H:aI X.c 0 (X.c 0)=X.c:=oK _ _;have y:(X.bw (fG x)).d=5->(X.bw (fG x)).e=0->(X.bw (fG x)).b.length<=23:=λh=>by rw[(dr X (fG x)).1]at h;exact absurd h (show¬(10:Int)=5 by decide)
 by_cases J:x<0\/(X.st.aw.length:Int)<=x
 ·rw[iP J]at l
  have Y:X.step (fG x)=⟨X.sv,X.st,X.c,X.ev++[X.bw (fG x)]⟩:=by
   rw[u,l];show WM.mk X.sv X.st (aI X.c 0 (X.c 0)) _=_;rw[H]
  rw[Y];exact⟨N,(g.bad B y).mono oM (io _) (cO _),s,rfl⟩
 ·rw[iN J]at l
  have t:x.toNat<X.st.aw.length:=oM
  have U:X.st.aw.getD x.toNat (0,gE 0 0)∈X.st.aw:=by
   rw[Iy,g7 t];exact Oq t
  have Y:X.step (fG x)=⟨X.sv,X.st.cI ((X.st.aw.getD x.toNat (0,gE 0 0)).2),X.c,X.ev++[X.bw (fG x)]⟩:=by
   rw[u,l];show WM.mk X.sv _ (aI X.c 0 (X.c 0)) _=_;rw[H]
  obtain⟨w,d⟩:=g.again oM oM U;rw[Y];exact⟨w,d.bad B y,s,LQ g W U⟩
end
theorem wS{I:aK}{L:List az}(B:Nat)(X:WM)(w:World)(y:X.st.up=true)(h:St I w (tQ B X::L)):
 Calls prog 11 #[pO B] w λe O=>∃t K,e= .returned (pO t)/\St I O (dq t X.st.s.M::K::L)/\∀R c,St I R (dq t X.st.s.M::K::c)->St I R (tQ B X::c):=by
 obtain⟨b,h⟩:=h.wmO;obtain⟨q,d,_,_,h⟩:=h.zr;obtain⟨a,j,i,h⟩:=(h.fi 2).stO;have D:II X.st.up a= pO a:=by unfold II;rw[iP y]
 have H:=aa (h.sub (L':=ab b.gs 122 (fR 5 b.gd (II X.st.up a))::ab a 151 (il b.gd j i 0 8 X.st.s.dn)::dq i X.st.s.M::jR j b.gd X.st.s.J::di b.gd X.st.s.D::ab B 55 (wC (b.aw (.slice q X.st.aw.length d)))::aB 184 10 ko (.slice q X.st.aw.length d) X.st.aw::ez b.gv X.sv::uj b X.c::aB 34 7 sV b.ev X.ev::L) abP);have g:∀R c,St I R (dq i X.st.s.M::aX (ab b.gs 122 (fR 5 b.gd (II X.st.up a))) (aX (ab a 151 (il b.gd j i 0 8 X.st.s.dn)) (aX (jR j b.gd X.st.s.J) (aX (di b.gd X.st.s.D) (aX (ab B 55 (wC (b.aw (.slice q X.st.aw.length d)))) (aX (aB 184 10 ko (.slice q X.st.aw.length d) X.st.aw) (aX (ez b.gv X.sv) (aX (uj b X.c) (aB 34 7 sV b.ev X.ev))))))))::c)->St I R (tQ B X::c):=λR c G=>by
  have M:=G.swap.star.swap.star.swap.star.swap.star.swap.star.swap.star.swap.star.swap.star;exact(St.rK (v:= .slice q X.st.aw.length d) ((St.Xm (a:=a) (j:=j) (i:=i) (M.sub (L':=ab b.gs 122 (fR 5 b.gd (II X.st.up a))::eJ a b.gd j i 0 8 X.st.s (ab B 55 (wC (b.aw (.slice q X.st.aw.length d)))::aB 184 10 ko (.slice q X.st.aw.length d) X.st.aw::ez b.gv X.sv::uj b X.c::aB 34 7 sV b.ev X.ev::c)) abP)).pk 3 [1,2,0])).Zy
 have V:=aa g;have P:w.cell? (aD B 2)=some (pO b.gs):=(H.ah 5 rfl).cell 2;have o:=aa D;clear h D g
 go_enter func11,ntmps11
 go_wp2_with fail
 refine(NG b.gs a b.gd j i 5 X.st.s.dn _ (by have:=H.drewN 1;rw[<-o.out];exact H.ah 0 rfl) (H.ah 1 rfl)).mono ?_;rintro e z⟨rfl,rfl⟩
 go_wp2_with fail
 go_ret
 refine⟨i,_,rfl,?_,V⟩;have h:=(H.drewN 0).pk 10 [9,8,7,6,5,4,3,1,0,2];have h:=h.swap.aM.swap.aM.swap.aM.swap.aM.swap.aM.swap.aM.swap.aM.swap.aM;exact h.swap
end
section
open Go.Shelf
theorem iQ{P:Program}{i:Array Oper}{rest:List Oper}{o:Oper}{a:Act}{Q:Exit->Act->World->Prop}{w O:World}{v:Value}(A:o.guard=none)(t:TypeId)(M G:Nat)(C D:Operand)(J x:Value)(q:o.op= .build t #[(M,C),(G,D)])(S:a.eval C=J)(u:a.eval D=x)
 (d:(Instr.build t #[(M,J),(G,x)]).run P w= .ok v O) (h:wpList P i Q rest (a.put o.dst v) O):wpList P i Q (o::rest) a w:=by
 refine wpList_plain A λK N=> ?_;unfold Oper.wp execOp;simp only[q,S,u,CB,nG,zF,Sem.run_bind,Sem.run_pure,Result.andThen_ok,d];exact N _ _ h
theorem ay.DL{w:World}{k:IntKind}{v:Value}{N:LI}(h:ay w k v N):∃A c,v= .slice A N.length c/\N.length<=c/\c<=9223372036854775807:=by
 obtain⟨A,c,e,Z,G,_⟩:=h;exact⟨A,c,e,Z,G⟩
theorem ay.atW{w:World}{k:IntKind}{A:OA}{n c i:Nat}{N:LI}{x:Int}(h:ay w k (.slice A n c) N)(J:N[i]? =some x):∃T,A=some T/\w.cell? (T.add i)=some (.int k x):=by
 obtain⟨W,_,_,V⟩:=h.sl;have z:=(nQ.1 J).1;obtain⟨T,u,o,_,_,y,D⟩:=Sl.at_ V (show i<n by omega);rw[zA,J]at y;obtain rfl:Value.int k x=u:=by simpa using y
 exact⟨T,o,D⟩
theorem mV(k n:Int)(w:World):(Instr.build 30 #[(0,iI k),(4,iI n)]).run prog w= .ok (.agg (dW ⟨k,0,0,0,n,[],[]⟩ sN sN)) w:=kR
structure uw(X0 X:WM)(j:Nat):Prop where
 g:∃gv own N,GI X gv own N (20000+j) 60 1
 s:AK X 60
 m:X.st.s.M=X0.st.s.M
 e:X.ev.length=X0.ev.length+j
theorem uw.next{a X:WM}{j:Nat}(h:uw a X j)(H:j<=1000)(x:Int):uw a (X.step (fG x)) (j+1):=by
 obtain⟨gv,own,N,g⟩:=h.g;obtain⟨w,d,b,l⟩:=Ni g oM h.s x;exact⟨⟨gv,own,w,d⟩,b,l.trans h.m,by rw[cv,dB,h.e];rfl⟩
theorem uw.up{a X:WM}{j:Nat}(h:uw a X j):X.st.up=true:=by
 obtain⟨gv,own,N,g⟩:=h.g;exact(g.w.z.nf rfl).1
end
end Go.Proofs.YtblpaldggenbaaaGreatDoor
