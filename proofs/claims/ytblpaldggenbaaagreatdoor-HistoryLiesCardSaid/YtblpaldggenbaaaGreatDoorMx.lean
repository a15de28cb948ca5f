/- A part. -/
import Derived.Deep.CutBlock
import Derived.Test.YtblpaldggenbaaaGreatDoorMw
namespace Go.Proofs.YtblpaldggenbaaaGreatDoor
open Go.RowKit Go.Proofs.Tryz
set_option maxRecDepth 100000
set_option maxHeartbeats 64000000
section
open Go.Shelf
theorem Iw{n:Int}{k:Nat}(h:n=(k:Int)+1)(F:k<100):IntKind.i64.wrap (n-1)=(k:Int):=by
 have e:n-1=(k:Int):=oM
 rw[e];exact IntWalk.i64_in _ oM
theorem nt{I:aH}{L:List aw}(B:Nat)(X:WM)(o:jd)(r:OA)(a z:Nat)(J:Value)(w:World)(f k:Nat)(hl:X.ev.length<=1000000)(hf:o.fit=true)(hd:o.d=(k:Int)+1)(V0:k<11)(X0:zD[k]? =some (vo f))(Y0:a<=140737488355328)
 (hE:∀(args:Vq) (S0:World),Sem.run prog (callFunc f args) S0= .ok (.enter f args) S0)
 (M0:∀(H0:Nat) (b:WX) (w:World) (L:List aw),St I w (ai .u8 (.slice r a z) o.b::ai .i64 J o.p::cu B b X.st::eK b.gv X.sv::cL o.c H0 (X.c o.c.toNat)::L)->Calls prog f #[pO B,pO H0,.agg (fw o (.slice r a z) J)] w λe B0=>∃D0,e= .returned (.tuple #[D0,iI (X.one o).e])/\St I B0 (ai .u8 D0 (X.one o).b::cu B b (X.one o).st::eK b.gv (X.one o).sv::cL o.c H0 (X.one o).c::L))
 (h:St I w (ai .u8 (.slice r a z) o.b::ai .i64 J o.p::Ka B X::L)):
 Calls prog 10 #[pO B,.agg (fw o (.slice r a z) J)] w λe B0=>∃P0 n c,e= .returned (.agg (kM o.d o.c o.r o.i (X.eA o).t (.slice P0 n c) (X.eA o).e))/\St I B0 (ai .u8 (.slice P0 n c) (X.eA o).b::Ka B (X.step o)::L):=by
 obtain⟨d1,d11,L1,M1⟩:=zC hf;obtain⟨c,hc⟩:∃c:Nat,o.c=(c:Int):=⟨o.c.toNat,oM⟩;have C0:o.c.toNat=c:=oM
 obtain⟨C,hC⟩:=nM (X.c c);obtain⟨Y,hY⟩:=nM (X.one o);have hX:X.step o=⟨Y.sv,Y.st,aJ X.c c Y.c,X.ev++[X.eA o]⟩:=by rw[hY,<-C0];exact iP hf
 have hv:X.eA o=o.out C Y:=by rw[hY,hC,<-C0];exact iP hf
 have j:=aa (show(o.d=3/\Y.e=0->(X.eA o).t=Y.c.tok o.r)/\(¬(o.d=3/\Y.e=0)->(X.eA o).t=C.tok o.r)/\(X.eA o).e=Y.e/\(¬(o.d=5/\Y.e=0)->(X.eA o).b=Y.b)/\(o.d=5/\Y.e=0->(X.eA o).b=o.b)/\(X.eA o).d=o.d/\(X.eA o).c=o.c/\(X.eA o).r=o.r/\(X.eA o).i=o.i by
  rw[hv];exact⟨λH=>iP H,λH=>iN H,rfl,λH=>iN H,λH=>iP H,rfl,rfl,rfl,rfl⟩)
 rw[<-hY,C0]at M0;rw[<-hC]at M0;refine xH hl hX (And.intro (show c<3 by omega) hc) (And.intro hd V0) X0 Y0 λR0 HX HC HD E0 D1=>?_;obtain⟨b,h0⟩:=(h.fi 2).wmO;have Z:=St.abJ (c:=c) oM (h0.fi 2);rw[<-hC,<-hc]at Z;have h2:=((((Z.pk 7 [5,6,2,3,0,1,4]).alloc 30 (fw o (.slice r a z) J)).alloc 34 (kM 0 0 0 0 0 sN 0)).alloc 34 (kM o.d o.c o.r o.i 0 sN 0));rw[World.size_alloc,World.size_alloc]at h2;obtain⟨gq,J0⟩:=nM (w.heap.size);obtain⟨D,K0⟩:=nM (w.heap.size+1);obtain⟨t,I0⟩:=nM (w.heap.size+1+1);have Z0:=(Z.alloc 30 (fw o (.slice r a z) J));obtain⟨y,G,z2,z3,z4,z5,z6⟩:=(Z0.ah 0 rfl).seven;rw[<-I0,<-K0,<-J0]at h2;refine bm (And.intro J0 (And.intro K0 I0)) h2 λHG Q0=>?_;clear h h0 Z h2 Z0 J0 K0 I0 hX hv hl hC hY hf hd V0 X0 Y0 C0 hc;have k1:¬o.d<1:=oM
 have k2:¬o.d>11:=oM
 have d:¬o.c<0:=oM
 have k4:¬o.c≥3:=oM
 go_enter func10,ntmps10
 go_wp2_with fail
 rw[<-HG.out.2.2,<-HG.out.2.1,<-HG.out.1];refine(KR _ Q0).mono ?_;rintro e R⟨N,rfl,h⟩;clear y G z2 z3 z4 z5 z6;have y:R.cell? (aD gq 0)=some (iI o.d):=(h.ah 3 rfl).cell 0;have G:R.cell? (aD gq 1)=some (iI (c:Int)):=by rw[<-HC.out.2];exact(h.ah 3 rfl).cell 1
 rw[HC.out.2]at d k4;obtain⟨gw,G0,_,_,hw⟩:=(h.fi 6).zo;have q3:R.cell? ⟨B,3+c,none⟩=some (.pointer (some ⟨IW b c,0,none⟩)):=((hw.ah 0 rfl).cell (3+c)).trans (Ww (b.az (.slice gw X.st.az.length G0)) HC.1);have i0:(0:Int)<=(c:Int):=oM
 have i1:(c:Int)<3:=oM
 have H1:=aa (h.pk 11 [3,8,1,0,4,5,6,7,9,10,2]);clear h hw Q0
 go_wp2_with fail
 go_quiet (fail)
 go_wp2_with fail
 obtain⟨O0,F⟩:=((H1.drewN nq).fi 1).zg;have H2:=aa F;clear F H1 y G q3 k1 k2 d k4;refine ak (I:=I) (L0:=ab N 80 zD::ai .u8 (.slice r a z) o.b::ai .i64 J o.p::cu B b X.st::eK b.gv X.sv::gM O0 C.r::Oi b X.c c::ay 34 7 qI b.ev X.ev::ab D 34 (kM 0 0 0 0 0 sN 0)::L) [⟨none,none,λe=>ab gq 30 (fw o (.slice r a z) J)⟩,⟨none,none,λe=>an ⟨o.c,C,O0⟩ (IW b c) C.bl C.wr⟩,⟨none,some 7,λe=>ab t 34 (kM o.d o.c o.r o.i (0) sN (0))⟩,⟨some 7,none,λe=>ab t 34 (kM o.d o.c o.r o.i (C.tok o.r) sN (0))⟩] [[],[0],[0,1],[],[3],rG 5,rG 6,rG 7] (rG 8) rfl kR kR kR (by rfl) (λ_=>rfl) H2.fk ?_;refine sO ?_;refine aZ 22 (λe=> #[.pointer (some ⟨IW b c,4,none⟩),iI o.r]) (λe=> iU (C.tok o.r)) rfl (λe p O h=>by(
  have h:=h.fn;refine(mM (IW b c) ⟨o.c,C,O0⟩ C.bl C.wr o.r _ (h.fi 1)).mono ?_;rintro B1 wy⟨rfl,Z⟩;exact⟨⟨none,0,default⟩,rfl,Z.fk⟩)) ?_
 simp only[aR];refine lY ?_;refine jA (λe=> .pointer (some ⟨t,4,none⟩)) (λe=> iU (C.tok o.r)) rfl rfl (λe p O h=>by(
  have h:=h.fn;obtain⟨E,u,V,A,q,y5,y6⟩:=(h.ah 2 rfl).seven;have yf:=(h.ah 2 rfl).frozen;have U:=(h.fi 2).br 4 (iU (C.tok o.r)) (kM o.d o.c o.r o.i (C.tok o.r) sN (0)) rfl;exact⟨_,gS,U.fk⟩)) ?_
 simp only[Act.put];refine ax ?_;intro e R h;have h:=h.fn;have P:=St.cF (h.pk 9 [1,8,2,0,3,4,5,6,7]);have H3:=aa P;clear h P H2
 go_wp2_with fail
 refine ak (I:=I) (L0:=ai .u8 (.slice r a z) o.b::Oi b X.c c::ay 34 7 qI b.ev X.ev::ab D 34 (kM 0 0 0 0 0 sN 0)::L) [⟨none,none,λe=>ab gq 30 (fw o (.slice r a z) J)⟩,⟨none,none,λe=>ab N 80 zD⟩,⟨none,some 9,λe=>ai .u8 (.slice r a z) o.b⟩,⟨none,some 9,λe=>ai .i64 J o.p⟩,⟨none,some 9,λe=>cu B b X.st⟩,⟨none,some 9,λe=>eK b.gv X.sv⟩,⟨none,some 9,λe=>cL o.c (IW b c) C⟩,⟨some 9,none,λe=>ai .u8 (e 9).v Y.b⟩,⟨some 9,none,λe=>cu B b Y.st⟩,⟨some 9,none,λe=>eK b.gv Y.sv⟩,⟨some 9,none,λe=>cL o.c (IW b c) Y.c⟩,⟨none,some 14,λe=>ab t 34 (kM o.d o.c o.r o.i (C.tok o.r) sN (0))⟩,⟨some 14,some 16,λe=>ab t 34 (kM o.d o.c o.r o.i (C.tok o.r) ((e 9).v) (0))⟩,⟨some 16,none,λe=>ab t 34 (kM o.d o.c o.r o.i (C.tok o.r) ((e 9).v) (Y.e))⟩] [[],[],[1],[1,2],rG 4,rG 5,[],[],[],rG 9,rG 10,rG 11,rG 11,rG 12,[0,1,2,3,4,5,6,7,8,9,10,11,13],rG 15,rG 16] (rG 17) rfl kR kR kR (by rfl) (λ_=>rfl) ((H3.jT (Q:=λw=>aA w .u8 (.slice r a z) o.b))).fk ?_;refine vM ?_;refine kj _ rfl (λe p O h=>by(have h:=h.fn;obtain⟨y,G,z2,z3,z4,z5,z6⟩:=(h.ah 0 rfl).seven;have qd:p.cell? ⟨N,k,none⟩=some (vo f):=((h.ah 1 rfl).cell k).trans E0;go_simp;try rfl)) ?_;simp only[aR];refine kj (λe=> iI (k:Int)) rfl (λe p O h=>by(go_simp;exact Iw HD.1 (by have:=HD.2;omega))) ?_;simp only[aR];refine kj (λe=> .pointer (some ⟨N,k,none⟩)) rfl (λe p O h=>by(have j0:=HD.2;have j1:(k:Int)<11:=oM;have j2:(0:Int)<=(k:Int):=oM;go_simp;(try first|rfl|(intro H;exact absurd H oM)))) ?_;simp only[aR];refine kj _ rfl (λe p O h=>by(have h:=h.fn;obtain⟨y,G,z2,z3,z4,z5,z6⟩:=(h.ah 0 rfl).seven;have qd:p.cell? ⟨N,k,none⟩=some (vo f):=((h.ah 1 rfl).cell k).trans E0;go_simp;try rfl)) ?_;simp only[aR];refine vM ?_;refine kj _ rfl (λe p O h=>by(have h:=h.fn;obtain⟨y,G,z2,z3,z4,z5,z6⟩:=(h.ah 0 rfl).seven;have qd:p.cell? ⟨N,k,none⟩=some (vo f):=((h.ah 1 rfl).cell k).trans E0;go_simp;try rfl)) ?_;simp only[aR];refine mU f (λe=> #[pO B,.pointer (some ⟨IW b c,0,none⟩),.agg (fw o (.slice r a z) J)]) (λe=> .tuple #[(e 9).v,iI Y.e]) rfl (λ_=>rfl) (by intro e;rfl) (λe p=>by(unfold vo;go_simp;try exact hE _ _)) (λe p O h=>by(
  have h:=h.fn;refine(M0 (IW b c) b _ _ (h.pk 7 [2,3,4,5,6,0,1])).mono ?_;rintro B1 wy⟨D0,rfl,Z⟩;exact⟨⟨none,0,D0⟩,rfl,Z.fk⟩)) ?_
 simp only[aR];refine AG ?_;refine jA (λe=> .pointer (some ⟨t,5,none⟩)) (λe=>(e 9).v) rfl rfl (λe p O h=>by(
  have h:=h.fn;obtain⟨E,u,V,A,q,y5,y6⟩:=(h.ah 6 rfl).seven;have yf:=(h.ah 6 rfl).frozen;obtain⟨vA,W,J1,_⟩:=h.jr (Q:=λw=>aA w .u8 (e 9).v Y.b);have U:=(h.fi 6).br 5 (e 9).v (kM o.d o.c o.r o.i (C.tok o.r) (e 9).v 0) rfl;exact⟨_,(by(rw[J1];go_simp;try rfl)),U.fk⟩)) ?_
 simp only[Act.put];refine lY ?_;refine jA (λe=> .pointer (some ⟨t,6,none⟩)) (λe=> iI Y.e) rfl rfl (λe p O h=>by(
  have h:=h.fn;obtain⟨E,u,V,A,q,y5,y6⟩:=(h.ah 6 rfl).seven;have yf:=(h.ah 6 rfl).frozen;have U:=(h.fi 6).br 6 (iI Y.e) (kM o.d o.c o.r o.i (C.tok o.r) (e 9).v Y.e) rfl;exact⟨_,gS,U.fk⟩)) ?_
 simp only[Act.put];refine ax ?_;intro e R h;have h:=h.fn;obtain⟨g,K,T0,_⟩:=h.jr (Q:=λw=>aA w .u8 (e 9).v Y.b);obtain⟨l,N0⟩:=nM (Y.b.length);rw[<-N0]at T0;rw[T0]at h;have K1:=aa N0;have F:=h.pk 8 [0,6,2,7,1,3,4,5];have S:=aa F;obtain⟨y,G,z2,z3,z4,z5,z6⟩:=(F.ah 0 rfl).seven;obtain⟨E,u,V,A,q,y5,y6⟩:=(F.ah 1 rfl).seven;have yf:=(F.ah 1 rfl).frozen;clear h F H3 N0
 go_upto_block 0 with fail
 go_cut [] (λp=>∃x i W,St I p (ab t 34 (kM o.d o.c o.r o.i (X.eA o).t (.slice x i W) (X.eA o).e)::ai .u8 (.slice x i W) (X.eA o).b::cu B b Y.st::eK b.gv Y.sv::cL o.c (IW b c) Y.c::Oi b X.c c::ay 34 7 qI b.ev X.ev::ab D 34 (kM 0 0 0 0 0 sN 0)::L))
 case first=>
  by_cases d:o.d=3
  ·have d3:decide (o.d=3)=true:=dZ d
   have b3:(o.d==3)=true:=by simp[d]
   have d5:decide (o.d=5)=false:=decide_eq_false (by omega);have b5:(o.d==5)=false:=by simp;omega
   by_cases T:Y.e=0
   ·have dy:decide (Y.e=0)=true:=dZ T
    have F0:(Y.e==0)=true:=by simp[T]
    go_wp2_with fail
    clear y G z2 z3 z4 z5 z6 E u V A q y5 y6 yf;obtain⟨p2,F⟩:=(S.fi 7).zg;refine ak (I:=I) (L0:=ab N 80 zD::ai .u8 (.slice g l K) Y.b::ai .u8 (.slice r a z) o.b::cu B b Y.st::eK b.gv Y.sv::gM p2 Y.c.r::Oi b X.c c::ay 34 7 qI b.ev X.ev::ab D 34 (kM 0 0 0 0 0 sN 0)::L) [⟨none,none,λe=>ab gq 30 (fw o (.slice r a z) J)⟩,⟨none,none,λe=>an ⟨o.c,Y.c,p2⟩ (IW b c) Y.c.bl Y.c.wr⟩,⟨none,some 7,λe=>ab t 34 (kM o.d o.c o.r o.i (C.tok o.r) (.slice g l K) (Y.e))⟩,⟨some 7,none,λe=>ab t 34 (kM o.d o.c o.r o.i (Y.c.tok o.r) (.slice g l K) (Y.e))⟩] [[],[0],[0,1],[],[3],rG 5,rG 6,rG 7] (rG 8) rfl kR kR kR (by rfl) (λ_=>rfl) F.fk ?_;refine sO ?_;refine aZ 22 (λe=> #[.pointer (some ⟨IW b c,4,none⟩),iI o.r]) (λe=> iU (Y.c.tok o.r)) rfl (λe p O h=>by(
     have h:=h.fn;refine(mM (IW b c) ⟨o.c,Y.c,p2⟩ Y.c.bl Y.c.wr o.r _ (h.fi 1)).mono ?_;rintro B1 wy⟨rfl,Z⟩;exact⟨⟨none,0,default⟩,rfl,Z.fk⟩)) ?_
    simp only[aR];refine lY ?_;refine jA (λe=> .pointer (some ⟨t,4,none⟩)) (λe=> iU (Y.c.tok o.r)) rfl rfl (λe p O h=>by(
     have h:=h.fn;obtain⟨E,u,V,A,q,y5,y6⟩:=(h.ah 2 rfl).seven;have yf:=(h.ah 2 rfl).frozen;have U:=(h.fi 2).br 4 (iU (Y.c.tok o.r)) (kM o.d o.c o.r o.i (Y.c.tok o.r) (.slice g l K) (Y.e)) rfl;exact⟨_,gS,U.fk⟩)) ?_
    simp only[Act.put];refine ax ?_;intro e R h;have h:=h.fn;have P:=St.cF (h.pk 9 [1,8,2,4,5,0,3,6,7]);have H6:=aa P;clear h P F
    go_wp2_with fail
    go_meet
    refine⟨g,l,K,?_⟩;rw[show(X.eA o).t=Y.c.tok o.r from j.out.1 ⟨d,T⟩,show(X.eA o).b=Y.b from j.out.2.2.2.1 (λH=>by have:=H.1;omega),j.out.2.2.1];exact H6.sub
   ·exact aej
  ·have d3:decide (o.d=3)=false:=dQ d
   have b3:(o.d==3)=false:=by simp[d]
   by_cases k5:o.d=5
   ·have d5:decide (o.d=5)=true:=dZ k5
    have b5:(o.d==5)=true:=by simp[k5]
    by_cases T:Y.e=0
    ·have dy:decide (Y.e=0)=true:=dZ T
     have F0:(Y.e==0)=true:=by simp[T]
     go_wp2_with fail
     refine(dY r a z o.b _ (by have:=(S.jr (Q:=λw=>aA w .u8 (.slice r a z) o.b)).sl.2.2.2;exact this) D1 S).mono ?_;rintro e w4⟨v4,rfl,h4⟩;obtain⟨A4,c4,rfl⟩:=h4.slice;have F:=h4.ints;obtain⟨E,u,V,A,q,y5,y6⟩:=(F.ah 2 rfl).seven;have yf:=(F.ah 2 rfl).frozen;have U:=(F.fi 2).br 5 (.slice A4 a c4) (kM o.d o.c o.r o.i (C.tok o.r) (.slice A4 a c4) Y.e) rfl;have H6:=aa U;clear h4 F U y G z2 z3 z4 z5 z6
     go_wp2_with fail
     go_meet
     refine⟨A4,a,c4,?_⟩;rw[j.out.2.1 (λH=>d H.1),show(X.eA o).b=o.b from j.out.2.2.2.2.1 ⟨k5,T⟩,j.out.2.2.1];exact H6.sub
    ·exact aej
   ·have d5:decide (o.d=5)=false:=dQ k5
    have b5:(o.d==5)=false:=by simp[k5]
    go_wp2_with fail
    go_meet
    refine⟨g,l,K,?_⟩;rw[j.out.2.1 (λH=>d H.1),show(X.eA o).b=Y.b from j.out.2.2.2.1 (λH=>k5 H.1),j.out.2.2.1];exact S.sub
 case rest=>
  clear S;obtain⟨x,i,W,h⟩:=hcut;obtain⟨EA,ec,W0,_,_⟩:=(h.fi 6).fx;have U0:=St.aaW (b:=b) (f:=X.c) (C:=Y.c) HC.1 (by rw[<-HC.out.2];exact h.pk 7 [4,5,2,3,6,0,1]);obtain⟨gw,G0,_,_,Z⟩:=(U0.fi 1).zo;obtain⟨M,A1⟩:=nM (Value.slice gw Y.st.az.length G0);rw[<-A1]at Z;have Z:St I _ (ab B 55 (wC ⟨b.gv,b.gd,b.gs,b.g0,b.g1,b.g2,M,b.ev⟩)::ay 184 10 lR M Y.st.az::uN b.gs b.gd Y.st::yO b (aJ X.c c Y.c)::eK b.gv Y.sv::ay 34 7 qI b.ev X.ev::ab t 34 (kM o.d o.c o.r o.i (X.eA o).t (.slice x i W) (X.eA o).e)::ai .u8 (.slice x i W) (X.eA o).b::ab D 34 (kM 0 0 0 0 0 sN 0)::L):=Z.sub;rw[W0]at Z;have I1:=(Z.jr (Q:=λw=>aA w .u8 (.slice x i W) (X.eA o).b));have hp:=(Z.jT (Q:=λw=>aA w .u8 (.slice x i W) (X.eA o).b)).bu (R':=λw=>qI w (OQ o.d o.c o.r o.i (X.eA o).t (.slice x i W) (X.eA o).e) (X.eA o)) (λB0 hi=>by
   have G1:=hi;obtain⟨A',c',e1,_⟩:=G1;injection e1 with e1 e2 e3;exact⟨x,W,by rw[j.out.2.2.2.2.2.1,j.out.2.2.2.2.2.2.1,j.out.2.2.2.2.2.2.2.1,j.out.2.2.2.2.2.2.2.2,<-e2],by rw[<-e2];exact hi⟩)
  have H8:=aa (hp.sub (L':=ab B 55 (wC ⟨b.gv,b.gd,b.gs,b.g0,b.g1,b.g2,M,.slice EA X.ev.length ec⟩)::ab t 34 (kM o.d o.c o.r o.i (X.eA o).t (.slice x i W) (X.eA o).e)::aS (λw=>qI w (OQ o.d o.c o.r o.i ((X.eA o).t) (.slice x i W) ((X.eA o).e)) (X.eA o))::ay 34 7 qI (.slice EA X.ev.length ec) X.ev::ab D 34 (kM 0 0 0 0 0 sN 0)::ay 184 10 lR M Y.st.az::uN b.gs b.gd Y.st::eK b.gv Y.sv::yO b (aJ X.c c Y.c)::ai .u8 (.slice x i W) (X.eA o).b::L));clear h Z hp U0 W0 A1 I1
  go_wp2_with fail
  refine ak (I:=I) (L0:=ab D 34 (kM 0 0 0 0 0 sN 0)::ay 184 10 lR M Y.st.az::uN b.gs b.gd Y.st::eK b.gv Y.sv::yO b (aJ X.c c Y.c)::ai .u8 (.slice x i W) (X.eA o).b::L) [⟨none,some 10,λe=>ab B 55 (wC ⟨b.gv,b.gd,b.gs,b.g0,b.g1,b.g2,M,.slice EA X.ev.length ec⟩)⟩,⟨none,none,λe=>ab t 34 (kM o.d o.c o.r o.i ((X.eA o).t) (.slice x i W) ((X.eA o).e))⟩,⟨none,none,λe=>aS (λw=>qI w (OQ o.d o.c o.r o.i ((X.eA o).t) (.slice x i W) ((X.eA o).e)) (X.eA o))⟩,⟨none,some 7,λe=>ay 34 7 qI (.slice EA X.ev.length ec) X.ev⟩,⟨some 6,none,λe=>ab (e 6).n 34 (kM o.d o.c o.r o.i ((X.eA o).t) (.slice x i W) ((X.eA o).e))⟩,⟨some 7,none,λe=>ay 34 7 qI (.slice (e 7).A (X.ev.length+1) (e 7).n) (X.ev++[X.eA o])⟩,⟨some 10,none,λe=>ab B 55 (wC ⟨b.gv,b.gd,b.gs,b.g0,b.g1,b.g2,M,.slice (e 7).A (X.ev.length+1) (e 7).n⟩)⟩] [[],[],[1],[1,2],[1,2,3],[],[5],[1,2,3,4,5,6],rG 8,rG 9,rG 10] (rG 11) rfl kR kR kR (by rfl) (λ_=>rfl) H8.fk ?_;refine Lb ?_;refine xN (λe=> .slice (some ⟨(e 6).n,0,none⟩) 1 1) rfl (λe p O h=>by(
   have h:=h.fn;exact⟨⟨none,p.heap.size,default⟩,_,cM rfl rfl (vJ _ _ _ _ _ _ _ _ _ _),((h.alloc 34 (kM o.d o.c o.r o.i ((X.eA o).t) (.slice x i W) ((X.eA o).e)))).fk⟩)) ?_
  simp only[aR];refine xN (λe=> .slice (e 7).A (X.ev.length+1) (e 7).n) rfl (λe p O h=>by(
   have h:=h.fn;have hz:=PX (cs:=OQ o.d o.c o.r o.i ((X.eA o).t) (.slice x i W) ((X.eA o).e)) (h.ah 4 rfl) rfl;obtain⟨A',c',B0,C1,h2⟩:=((h.jT (Q:=λw=>qI w (OQ o.d o.c o.r o.i ((X.eA o).t) (.slice x i W) ((X.eA o).e)) (X.eA o))).pk 5 [4,0,3,1,2]).yB uM _ ⟨(e 6).n,0,none⟩ 1 hz (Dh _ _ _ _ _ _ _ _ _) rfl (by have:=R0.out;omega) (by have:=R0.out;omega);exact⟨⟨A',c',default⟩,_,gL rfl rfl rfl C1,h2.fk⟩)) ?_
  simp only[aR];refine vM ?_;refine jA (λe=> .pointer (some ⟨B,7,none⟩)) (λe=> .slice (e 7).A (X.ev.length+1) (e 7).n) rfl rfl (λe p O h=>by(
   have h:=h.fn;have q7:p.cell? (aD B 7)=some (.slice EA X.ev.length ec):=(h.ah 0 rfl).cell 7;have qf:=(h.ah 0 rfl).frozen;have U:=(h.fi 0).br 7 (.slice (e 7).A (X.ev.length+1) (e 7).n) (wC ⟨b.gv,b.gd,b.gs,b.g0,b.g1,b.g2,M,.slice (e 7).A (X.ev.length+1) (e 7).n⟩) rfl;exact⟨_,gS,U.fk⟩)) ?_
  simp only[Act.put];refine ax ?_;intro e R h;have h:=h.fn;obtain⟨EB,E1⟩:=nM ((e 7).A);obtain⟨ek,F1⟩:=nM ((e 7).n);rw[<-E1,<-F1]at h;have F:=St.rD (b:=⟨b.gv,b.gd,b.gs,b.g0,b.g1,b.g2,M,.slice EB (X.ev.length+1) ek⟩) (X:=Y.st) (v:=M) (h.pk 8 [4,6,7,0,5,3]);have P:=St.wmC (X:=X.step o) (B:=B) (b:=⟨b.gv,b.gd,b.gs,b.g0,b.g1,b.g2,M,.slice EB (X.ev.length+1) ek⟩) (L:=ab t 34 (kM o.d o.c o.r o.i ((X.eA o).t) (.slice x i W) ((X.eA o).e))::ab D 34 (kM 0 0 0 0 0 sN 0)::ai .u8 (.slice x i W) (X.eA o).b::L) (by rw[HX.out];exact F.pk 6 [0,4,5,3,1,2]);have h8:=P.pk 4 [1,2,3,0];obtain⟨E,u,V,A,q,y5,y6⟩:=(h8.ah 0 rfl).seven;have fz:=(h8.ah 1 rfl).frozen;obtain⟨r0,r1,r2,r3,r4,r5,r6⟩:=(h8.ah 1 rfl).seven;have h9:=(h8.fi 1).VO o.d o.c o.r o.i (X.eA o).t (X.eA o).e (.slice x i W);have H9:=aa h9;clear h F P h8 h9 H8
  go_wp2_with fail
  obtain⟨x0,x1,x2,x3,x4,x5,x6⟩:=(H9.ah 0 rfl).seven
  (try simp only[Exit.inBlock,Exit.then])
  refine bodyPost_ret (v:= .agg (kM o.d o.c o.r o.i (X.eA o).t (.slice x i W) (X.eA o).e)) (aL rfl _ rfl ?_) rfl ?_
  ·go_simp
  ·refine⟨x,i,W,rfl,?_⟩
   exact H9.pk 2 []
end
section
open Go.Shelf
theorem Qw{I:aH}{L:List aw}(Y:ml I)(B:Nat)(X:WM)(o:jd)(r:OA)(a z:Nat)(J:Value)(w:World){D:Nat->Int->Vw}{own:dj}{N:Nat->Rg}{n m:Nat}{T k:Int}(u:pZ X D own N n m T k)(H:Ia o)(W:o.b.length<=140737488355328)(C:X.ev.length<=1000000)
 (h:St I w (ai .u8 (.slice r a z) o.b::ai .i64 J o.p::Ka B X::L)):
 Calls prog 10 #[pO B,.agg (fw o (.slice r a z) J)] w λe O=>∃A n c,e= .returned (.agg (kM o.d o.c o.r o.i (X.eA o).t (.slice A n c) (X.eA o).e))/\St I O (ai .u8 (.slice A n c) (X.eA o).b::Ka B (X.step o)::L):=by
 by_cases P:o.fit=true
 case neg=>
  exact(XS B X o r a z J w C (by simpa using P) h.tail.tail)
 obtain⟨d1,d11,d,R⟩:=zC P;have M:a<=140737488355328:=by
  obtain⟨G,p,S,_⟩:=h.get 0 rfl;injection S with _ K _;omega
 have q:o.d=1\/o.d=2\/o.d=3\/o.d=4\/o.d=5\/o.d=6\/o.d=7\/o.d=8\/o.d=9\/o.d=10\/o.d=11:=oM
 rcases q with q|q|q|q|q|q|q|q|q|q|q
 ·exact nt B X o r a z J w 34 0 C P (by rw[q];rfl) dC rfl M (enters_of func34 kR rfl) (λg b w L h=>Zn Y B g b X o r a z J w u H d R q h) h
 ·exact nt B X o r a z J w 35 1 C P (by rw[q];rfl) dC rfl M (enters_of func35 kR rfl) (λg b w L h=>YN Y B g b X o r a z J w u H d R q h) h
 ·exact nt B X o r a z J w 36 2 C P (by rw[q];rfl) dC rfl M (enters_of func36 kR rfl) (λg b w L h=>Zm Y B g b X o r a z J w u H d R q h) h
 ·exact nt B X o r a z J w 37 3 C P (by rw[q];rfl) dC rfl M (enters_of func37 kR rfl) (λg b w L h=>Za Y B g b X o r a z J w u H d R q h) h
 ·exact nt B X o r a z J w 38 4 C P (by rw[q];rfl) dC rfl M (enters_of func38 kR rfl) (λg b w L h=>YT Y B g b X o r a z J w u H d R q h) h
 ·exact nt B X o r a z J w 39 5 C P (by rw[q];rfl) dC rfl M (enters_of func39 kR rfl) (λg b w L h=>YS Y B g b X o r a z J w u H d R q h) h
 ·exact nt B X o r a z J w 40 6 C P (by rw[q];rfl) dC rfl M (enters_of func40 kR rfl) (λg b w L h=>YP Y B g b X o r a z J w u H d R q h) h
 ·exact nt B X o r a z J w 41 7 C P (by rw[q];rfl) dC rfl M (enters_of func41 kR rfl) (λg b w L h=>Zx Y B g b X o r a z J w u H d R q h) h
 ·exact nt B X o r a z J w 42 8 C P (by rw[q];rfl) dC rfl M (enters_of func42 kR rfl) (λg b w L h=>ZE Y B g b X o r a z J w u H d R q h) h
 ·exact nt B X o r a z J w 43 9 C P (by rw[q];rfl) dC rfl M (enters_of func43 kR rfl) (λg b w L h=>WN Y B g b X o r a z J w u H d R q h) h
 ·exact nt B X o r a z J w 44 10 C P (by rw[q];rfl) dC rfl M (enters_of func44 kR rfl) (λg b w L h=>Xp Y B g b X o r a z J w u H d R q h) h
end
section
open Go.Shelf
def qB:aI:=⟨0,0,λ_=>⟨[],[]⟩⟩
theorem St.TO{I:aH}{w:World}{L:List aw}(h:St I w L):St I (w.alloc (.cells (lS 0 0 λ_=>⟨⟨none,0,0⟩,⟨none,0,0⟩⟩) 111)) (bW w.heap.size qB::L):=by
 have G:∀{L:List aw},St I w L->St I w (dr (λ_=>⟨⟨none,0,0⟩,⟨none,0,0⟩⟩) qB.r 0::L):=λh=>St.aM ((h.KC il 2).DG cy 273 4);exact St.QW (T:=qB) ((G (G (G (G h)))).alloc 111 (lS 0 0 λ_=>⟨⟨none,0,0⟩,⟨none,0,0⟩⟩))
theorem Re{I:aH}{L:List aw}(w:World)(h:St I w L):Calls prog 18 #[] w λe O=>∃g,e= .returned (pO g)/\St I O (eK g ⟨[],qB⟩::L):=by
 have Z:=h.alloc 103 #[.map none];have V:=Z.Wp.TO;rw[World.size_alloc]at V;have M:=V.alloc 113 (fT w.heap.size (w.heap.size+1));rw[World.size_alloc,World.size_alloc]at M;have Q:=St.Su (S:=⟨[],qB⟩) (M.pk 3 [0,2,1]);have H:=aa Q;clear h Z V M Q
 go_enter func18,ntmps18
 go_wp2_with fail
 go_ret
 exact⟨_,rfl,H⟩
theorem NT(g:Nat)(w:World):(Instr.build 55 #[(0,pO g)]).run prog w= .ok (.agg #[pO g,.pointer none,.pointer none,.pointer none,.pointer none,.pointer none,sN,sN]) w:=kR
theorem Dd(i:Int):cF ⟨i,bq.zero 0,λ_=> sN⟩ sN sN= #[iI i,.bool false,iW 0,iU 0,iI 0,iU 0,iU 0,iI 0,iU 0,iU 0,iI 0,iU 0,iU 0,iI 0,iU 0,iU 0,iU 0,iU 0,iU 0,iU 0,sN,sN,iW 0,.bool false,.bool false,sN,iI 0,iW 0,.bool false,.bool false,sN,iI 0,iW 0,.bool false,.bool false,sN,iI 0,iW 0,.bool false,.bool false,sN,iI 0]:=rfl
theorem CU{I:aH}{w:World}{L:List aw}(h:St I w L)(i:Int):St I (w.alloc (.cells (cF ⟨i,bq.zero 0,λ_=> sN⟩ sN sN) 75)) (cL i w.heap.size (bq.zero 0)::L):=by
 have Z:=h.alloc 75 (cF ⟨i,bq.zero 0,λ_=> sN⟩ sN sN);have V:=St.gT (cx:=⟨i,bq.zero 0,λ_=> sN⟩) (((Z.dU 213 3 bU).dU 213 3 bU).pk 3 [2,0,1]);exact St.cF (i:=i) (C:=bq.zero 0) (p:=λ_=> sN) (St.swap V.SC)
abbrev wN(D:Nat)(d s a b c:Value):Vq:= #[pO D,d,s,a,b,c,sN,sN]
abbrev pN(g:Nat):Value:= pO g
def abk(I:aH)(L:List aw)(B D j g R S W:Nat)(k:Nat)(wr:World):Prop:=(k=0/\St I wr (ab B 55 (wN D (pN j) (pN g) (.pointer none) (.pointer none) (.pointer none))::ab g 122 (gK 5 j (pO R))::eV R j S W 0 8 Hi (eK D ⟨[],qB⟩::L)))\/(k=1/\∃l,St I wr (ab B 55 (wN D (pN j) (pN g) (pN l) (.pointer none) (.pointer none))::cL 0 l (bq.zero 0)::ab g 122 (gK 5 j (pO R))::eV R j S W 0 8 Hi (eK D ⟨[],qB⟩::L)))\/(k=2/\∃l t,St I wr (ab B 55 (wN D (pN j) (pN g) (pN l) (pN t) (.pointer none))::cL 0 l (bq.zero 0)::cL 1 t (bq.zero 0)::ab g 122 (gK 5 j (pO R))::eV R j S W 0 8 Hi (eK D ⟨[],qB⟩::L)))\/(k=3/\∃l t A,St I wr (ab B 55 (wN D (pN j) (pN g) (pN l) (pN t) (pN A))::cL 0 l (bq.zero 0)::cL 1 t (bq.zero 0)::cL 2 A (bq.zero 0)::ab g 122 (gK 5 j (pO R))::eV R j S W 0 8 Hi (eK D ⟨[],qB⟩::L)))
theorem yd{I:aH}{L:List aw}(u:ml I)(w:World)(h:St I w L):Calls prog 9 #[] w λe O=>∃B,e= .returned (pO B)/\St I O (Ka B Wh::L):=by
 have B0:=NT;have H:=aa h;clear h
 go_enter func9,ntmps9
 go_wp2_with fail
 refine(Re _ H).mono ?_;rintro e Y⟨D,rfl,h⟩;have Z:=h.alloc 55 (wN D (.pointer none) (.pointer none) (.pointer none) (.pointer none) (.pointer none));obtain⟨B,z⟩:=nM (Y.heap.size);rw[<-z]at Z;refine bm z Z λR r=>?_;clear h Z H z
 go_wp2_with fail
 rw[<-R.out];refine(Yg 54 oM oM r).mono ?_;rintro e w2⟨gd,rfl,h⟩;have x1:=(h.ah 1 rfl).cell 1;have p:=(h.ah 1 rfl).frozen;have U:=(h.fi 1).br 1 (pN gd) (wN D (pN gd) (.pointer none) (.pointer none) (.pointer none) (.pointer none)) rfl;have y1:World.cell? _ ⟨B,1,none⟩=some (pN gd):=(U.ah 0 rfl).cell 1;have T:=aa U;clear h U r
 go_wp2_with fail
 refine(Tk u gd 10 5 (DS.new 54) _ oM ((Ft (n:=54) oM oM).1.MH 10) oM Sd.1 (T.pk 2 [1,0])).mono ?_;rintro e c⟨g,gs,S,W,rfl,h⟩;have h:St I c (ab g 122 (gK 5 gd (pO gs))::eV gs gd S W 0 8 Hi (ab B 55 (wN D (pN gd) (.pointer none) (.pointer none) (.pointer none) (.pointer none))::eK D ⟨[],qB⟩::L)):=h;have h:=h.sub (L':=ab B 55 (wN D (pN gd) (.pointer none) (.pointer none) (.pointer none) (.pointer none))::ab g 122 (gK 5 gd (pO gs))::eV gs gd S W 0 8 Hi (eK D ⟨[],qB⟩::L)) acB;have x2:=(h.ah 0 rfl).cell 2;have A0:=(h.ah 0 rfl).frozen;have U:=h.br 2 (pN g) (wN D (pN gd) (pN g) (.pointer none) (.pointer none) (.pointer none)) rfl;have N:=aa U;clear h U T x1 p y1
 go_wp2_with fail
 clear x2 A0
 go_loopg [24] 3 (λK E wr=>∃k:Nat,K=3-k/\k<=3/\E= iI (k:Nat)/\abk I L B D gd g gs S W k wr)
 case atStart=>exact⟨0,rfl,oM,rfl,.inl ⟨rfl,N⟩⟩
 case round=>
  clear N;obtain⟨k,P,G,rfl,hrel⟩:=hrel;have y:=aa P;clear P G;rcases hrel with⟨rfl,h⟩|⟨rfl,l,h⟩|⟨rfl,l,t,h⟩|⟨rfl,l,t,A,h⟩
  ·have Z:=CU h 0
   rw[Dd]at Z;obtain⟨o,x⟩:=nM (wr.heap.size);rw[<-x]at Z;have J:World.cell? _ ⟨B,3,none⟩=some (.pointer none):=(Z.ah 1 rfl).cell 3;have p:=(Z.ah 1 rfl).frozen;have C:=(h.ah 0 rfl).frozen;have U:=(Z.fi 1).br 3 (pN o) (wN D (pN gd) (pN g) (pN o) (.pointer none) (.pointer none)) rfl;refine bm x U λq d=>?_;clear h Z U x
   go_wp2_with fail
   rw[<-q.out]
   go_roundg 2
   case measure=>have:=y.out;omega
   case rel=>
    refine⟨1,rfl,oM,rfl,.inr (.inl ⟨rfl,o,?_⟩)⟩;exact d.sub acB
  ·have Z:=CU h 1
   rw[Dd]at Z;obtain⟨o,x⟩:=nM (wr.heap.size);rw[<-x]at Z;have J:World.cell? _ ⟨B,4,none⟩=some (.pointer none):=(Z.ah 1 rfl).cell 4;have p:=(Z.ah 1 rfl).frozen;have C:=(h.ah 0 rfl).frozen;have U:=(Z.fi 1).br 4 (pN o) (wN D (pN gd) (pN g) (pN l) (pN o) (.pointer none)) rfl;refine bm x U λq d=>?_;clear h Z U x
   go_wp2_with fail
   rw[<-q.out]
   go_roundg 1
   case measure=>have:=y.out;omega
   case rel=>
    refine⟨2,rfl,oM,rfl,.inr (.inr (.inl ⟨rfl,l,o,?_⟩))⟩;exact d.sub acB
  ·have Z:=CU h 2
   rw[Dd]at Z;obtain⟨o,x⟩:=nM (wr.heap.size);rw[<-x]at Z;have J:World.cell? _ ⟨B,5,none⟩=some (.pointer none):=(Z.ah 1 rfl).cell 5;have p:=(Z.ah 1 rfl).frozen;have C:=(h.ah 0 rfl).frozen;have U:=(Z.fi 1).br 5 (pN o) (wN D (pN gd) (pN g) (pN l) (pN t) (pN o)) rfl;refine bm x U λq d=>?_;clear h Z U x
   go_wp2_with fail
   rw[<-q.out]
   go_roundg 0
   case measure=>have:=y.out;omega
   case rel=>
    refine⟨3,rfl,oM,rfl,.inr (.inr (.inr ⟨rfl,l,t,o,?_⟩))⟩;exact d.sub acB
  ·have Z:=St.YG (gs:=g) (gd:=gd) (a:=gs) (j:=S) (i:=W) (X:=⟨Hi,true,[]⟩) (h.sub (L':=ab g 122 (gK 5 gd (pO gs))::eV gs gd S W 0 8 Hi (ab B 55 (wN D (pN gd) (pN g) (pN l) (pN t) (pN A))::cL 0 l (bq.zero 0)::cL 1 t (bq.zero 0)::cL 2 A (bq.zero 0)::eK D ⟨[],qB⟩::L)) acB)
   have V:=(Z.dU 184 10 lR).dU 34 7 qI;have M:=St.rD (B:=B) (b:=⟨D,gd,g,l,t,A,sN,sN⟩) (X:=⟨Hi,true,[]⟩) (v:= sN) (V.pk 8 [3,1,2,4,5,6,7,0]);have Q:=(M.pk 4 [2,3,1,0]).aM.swap.aM;have F:=St.wmC (B:=B) (X:=Wh) (b:=⟨D,gd,g,l,t,A,sN,sN⟩) (Q.pk 3 [1,2,0]);have d:=aa F;clear h Z V M Q F
   go_wp2_with fail
   go_ret
   exact⟨B,rfl,d⟩
end
section
open Go.Shelf
def AY(w:World)(N:LV)(o:jd):Prop:=∃A n c S m k,N=[iI o.d,iI o.c,iI o.r,iI o.i,iI o.n,.slice A n c,.slice S m k]/\aA w .u8 (.slice A n c) o.b/\aA w .i64 (.slice S m k) o.p
theorem Rh{w:World}{Y:Addr}{k:Nat}{z U o R T N t:Value}(h:∀j u,[z,U,o,R,T,N,t][j]? =some u->w.cell? ((Y.add (k*7)).add j)=some u):
 w.cell? (Y.add (k*7))=some z/\w.cell? ⟨(Y.add (k*7)).block,(Y.add (k*7)).off+1,none⟩=some U/\w.cell? ⟨(Y.add (k*7)).block,(Y.add (k*7)).off+2,none⟩=some o/\w.cell? ⟨(Y.add (k*7)).block,(Y.add (k*7)).off+3,none⟩=some R/\w.cell? ⟨(Y.add (k*7)).block,(Y.add (k*7)).off+4,none⟩=some T/\w.cell? ⟨(Y.add (k*7)).block,(Y.add (k*7)).off+5,none⟩=some N/\w.cell? ⟨(Y.add (k*7)).block,(Y.add (k*7)).off+6,none⟩=some t:=
 ⟨h 0 _ rfl,h 1 _ rfl,h 2 _ rfl,h 3 _ rfl,h 4 _ rfl,h 5 _ rfl,h 6 _ rfl⟩
section
variable {I:aH} {w:World} {L:List aw}
theorem St.wop{A:OA}{n c k:Nat}{l:List jd}{o:jd}(h:St I w (aB 7 AY (.slice A n c) l::L))(F:l[k]? =some o):
 ∃Y r a z g y p,A=some Y/\a=o.b.length/\(∀j u,[Value.int .i64 o.d,iI o.c,iI o.r,iI o.i,iI o.n,.slice r a z,.slice g y p][j]? =some u->w.cell? ((Y.add (k*7)).add j)=some u)/\
  St I w (ai .u8 (.slice r a z) o.b::ai .i64 (.slice g y p) o.p::aB 7 AY (.slice A n c) l::L):=by
 obtain⟨Y,N,rfl,_,D,⟨r,a,z,g,y,p,rfl,C,P⟩,V⟩:=h.elem 0 rfl F;have W:a=o.b.length:=by
  obtain⟨_,_,S,_⟩:=C;injection S
 have K:=V.bu (R':=λO=>aA O .u8 (.slice r a z) o.b/\aA O .i64 (.slice g y p) o.p) (λO J=>by
  obtain⟨R,T,U,d,x,E,S,M,Q⟩:=J.2;injection S with _ S;injection S with _ S;injection S with _ S;injection S with _ S;injection S with _ S;injection S with Z S;injection S with b _;rw[Z,b];exact⟨M,Q⟩)
 have M:=(K.copy 0 rfl).bu (R':=λO=>aA O .u8 (.slice r a z) o.b) (λ_ J=>J.1);have Q:=(M.front (X:=aS (λO=>aA O .u8 (.slice r a z) o.b/\aA O .i64 (.slice g y p) o.p))).bu (R':=λO=>aA O .i64 (.slice g y p) o.p) (λ_ J=>J.2);exact⟨Y,r,a,z,g,y,p,rfl,W,D,Q.sub⟩
end
theorem RK(X:WM)(o:jd):(X.eA o).d=o.d/\(X.eA o).c=o.c/\(X.eA o).r=o.r/\(X.eA o).i=o.i:=by
 unfold WM.eA
 split
 ·exact⟨rfl,rfl,rfl,rfl⟩
 ·exact⟨rfl,rfl,rfl,rfl⟩
end
abbrev oA(c:Int):jd:=⟨3,c,1,0,0,[],[]⟩
abbrev oP:jd:=⟨5,0,1,2,0,[97],[]⟩
abbrev oF(n:Int):jd:=⟨7,0,1,0,n,[],[]⟩
abbrev oR:jd:=⟨8,0,1,0,0,[],[]⟩
def la:List jd:=[oA 0,oP,oF 0]
def lb:List jd:=[oR,oA 1]
section
open Go.Shelf
def Pd(o:jd):Prop:=Bytes o.b/\o.b.length<=140737488355328/\-9223372036854775808<=o.n/\o.n<=9223372036854775807
theorem Rb{o:jd}(h:Pd o)(W:¬o.n>1073741824):Ia o:=⟨h.1,h.2.2.1,λ_=>oM⟩
end
end Go.Proofs.YtblpaldggenbaaaGreatDoor
