/- A part. -/
import Derived.Test.YtblpaldggenbaaaGreatDoorMv
namespace Go.Proofs.YtblpaldggenbaaaGreatDoor
open Go.RowKit Go.Proofs.Tryz
set_option maxRecDepth 100000
set_option maxHeartbeats 64000000
section
open Go.Shelf
abbrev kM(d c r i t:Int)(E:Value)(e:Int):Vq:= #[iI d,iI c,iI r,iI i,iU t,E,iI e]
abbrev OQ(d c r i t:Int)(E:Value)(e:Int):LV:=[iI d,iI c,iI r,iI i,iU t,E,iI e]
def qI(w:World)(N:LV)(x:eW):Prop:=∃A c,N=[iI x.d,iI x.c,iI x.r,iI x.i,iU x.t,.slice A x.b.length c,iI x.e]/\aA w .u8 (.slice A x.b.length c) x.b
def IW(b:WX)(c:Nat):Nat:=if c=0 then b.g0 else if c=1 then b.g1 else b.g2
def yO(b:WX)(f:Nat->bq):aw:=aX (cL 0 b.g0 (f 0)) (aX (cL 1 b.g1 (f 1)) (cL 2 b.g2 (f 2)))
def Oi(b:WX)(f:Nat->bq)(c:Nat):aw:=if c=0 then aX (cL 1 b.g1 (f 1)) (cL 2 b.g2 (f 2))else if c=1 then aX (cL 0 b.g0 (f 0)) (cL 2 b.g2 (f 2))else aX (cL 0 b.g0 (f 0)) (cL 1 b.g1 (f 1))
def wmQ(B:Nat)(X:WM)(b:WX):aw:=aX (cu B b X.st) (aX (eK b.gv X.sv) (aX (yO b X.c) (ay 34 7 qI b.ev X.ev)))
def Ka(B:Nat)(X:WM):aw:=AU (wmQ B X)
section
variable {I:aH} {w:World} {L:List aw} {B:Nat} {X:WM} {b:WX} {f:Nat->bq}
theorem St.wmO(h:St I w (Ka B X::L)):∃b,St I w (cu B b X.st::eK b.gv X.sv::yO b X.c::ay 34 7 qI b.ev X.ev::L):=by
 obtain⟨b,h⟩:=h.ex;have Z:St I w (aX (cu B b X.st) (aX (eK b.gv X.sv) (aX (yO b X.c) (ay 34 7 qI b.ev X.ev)))::L):=h;exact⟨b,(Z.star.swap.star.swap.star.swap).sub⟩
theorem St.wmC(h:St I w (cu B b X.st::eK b.gv X.sv::yO b X.c::ay 34 7 qI b.ev X.ev::L)):St I w (Ka B X::L):=by
 have Z:=(h.pk 4 [2,3,1,0]).aM.swap.aM.swap.aM;exact St.cZ (f:=wmQ B X) b Z
theorem St.abJ{c:Nat}(D:c<3)(h:St I w (yO b f::L)):St I w (cL (c:Int) (IW b c) (f c)::Oi b f c::L):=by
 have Z:St I w (aX (cL 0 b.g0 (f 0)) (aX (cL 1 b.g1 (f 1)) (cL 2 b.g2 (f 2)))::L):=h;have V:=Z.star.swap.star;have D:c=0\/c=1\/c=2:=oM
 rcases D with rfl|rfl|rfl
 ·have M:=(V.pk 0 []).aM
  exact M.swap
 ·have M:=(V.pk 3 [2,1,0]).aM
  exact M.swap
 ·have M:=(V.pk 3 [2,0,1]).aM
  exact M.swap
theorem St.aaW{c:Nat}{C:bq}(D:c<3)(h:St I w (cL (c:Int) (IW b c) C::Oi b f c::L)):St I w (yO b (aJ f c C)::L):=by
 have D:c=0\/c=1\/c=2:=oM
 rcases D with rfl|rfl|rfl
 ·have Z:St I w (cL 0 b.g0 C::aX (cL 1 b.g1 (f 1)) (cL 2 b.g2 (f 2))::L):=h
  exact Z.aM
 ·have Z:St I w (cL 1 b.g1 C::aX (cL 0 b.g0 (f 0)) (cL 2 b.g2 (f 2))::L):=h
  exact((Z.swap.star.pk 3 [2,1,0]).aM).swap.aM
 ·have Z:St I w (cL 2 b.g2 C::aX (cL 0 b.g0 (f 0)) (cL 1 b.g1 (f 1))::L):=h
  exact((Z.swap.star.pk 3 [1,2,0]).aM).swap.aM
theorem Ww(b:WX):∀{c:Nat},c<3->(wC b)[3+c]? =some (.pointer (some ⟨IW b c,0,none⟩)):=by
 intro c D;have D:c=0\/c=1\/c=2:=oM
 rcases D with rfl|rfl|rfl<;>rfl
end
theorem uM:eB prog 26 34 (.agg (kM 0 0 0 0 0 sN 0)) 7 72:=⟨underlying26,kR,kR,oM⟩
theorem vJ(d c r i t e:Int)(A:OA)(n k:Nat)(w:World):(Instr.buildSlice 26 1 #[(0,.agg (kM d c r i t (.slice A n k) e))]).run prog w= .ok (.slice (aO w.heap.size) 1 1) (w.alloc (.cells (kM d c r i t (.slice A n k) e) 34)):=kR
theorem Dh(d c r i t e:Int)(A:OA)(n k:Nat):∀u∈OQ d c r i t (.slice A n k) e,u.oneCell'=true:=by
 have h:(OQ d c r i t (.slice A n k) e).all (λu=>u.oneCell')=true:=rfl;exact yT.1 h
theorem PX{w:World}{g:Nat}{cs:LV}(h:eF w g 34 cs.toArray)(C:cs.length=7):Sl w Any 7 (aO g) 1 cs:=C▸xZ h
theorem St.VO{I:aH}{w:World}{L:List aw}{g:Nat}{d0 z F q t0 M:Int}{a:Value}(h:St I w (ab g 34 (kM d0 z F q t0 a M)::L))(d c r i t e:Int)(E:Value):
 St I (((((((w.setCell ⟨g,0,none⟩ (iI d)).setCell ⟨g,1,none⟩ (iI c)).setCell ⟨g,2,none⟩ (iI r)).setCell ⟨g,3,none⟩ (iI i)).setCell ⟨g,4,none⟩ (iU t)).setCell ⟨g,5,none⟩ E).setCell ⟨g,6,none⟩ (iI e)) (ab g 34 (kM d c r i t E e)::L):=
 (((((((h.br 0 (iI d) (kM d z F q t0 a M) rfl).br 1 (iI c) (kM d c F q t0 a M) rfl).br 2 (iI r) (kM d c r q t0 a M) rfl).br 3 (iI i) (kM d c r i t0 a M) rfl).br 4 (iU t) (kM d c r i t a M) rfl).br 5 E (kM d c r i t E M) rfl).br 6 (iI e) (kM d c r i t E e) rfl)
theorem XS{I:aH}{L:List aw}(B:Nat)(X:WM)(o:jd)(r:OA)(G z:Nat)(y:Value)(w:World)(hl:X.ev.length<=1000000)(a:o.fit=false)
 (h:St I w (Ka B X::L)):
 Calls prog 10 #[pO B,.agg (fw o (.slice r G z) y)] w λe O=>∃A n c,e= .returned (.agg (kM o.d o.c o.r o.i (X.eA o).t (.slice A n c) (X.eA o).e))/\St I O (ai .u8 (.slice A n c) (X.eA o).b::Ka B (X.step o)::L):=by
 have hX:X.step o=⟨X.sv,X.st,X.c,X.ev++[X.eA o]⟩:=iN (by rw[a];exact gV);have hE:X.eA o=⟨o.d,o.c,o.r,o.i,0,[],1⟩:=iN (by rw[a];exact gV);refine ib hl hX hE λt HX D=>?_;obtain⟨b,K⟩:=h.wmO;obtain⟨u,g,B0,_,_⟩:=(K.fi 3).fx;obtain⟨gw,F0,_,_,Z⟩:=K.zo;obtain⟨M,D0⟩:=nM (Value.slice gw X.st.az.length F0);rw[<-D0]at Z;have Z:St I w (ab B 55 (wC ⟨b.gv,b.gd,b.gs,b.g0,b.g1,b.g2,M,b.ev⟩)::ay 184 10 lR M X.st.az::uN b.gs b.gd X.st::eK b.gv X.sv::yO b X.c::ay 34 7 qI b.ev X.ev::L):=Z;rw[B0]at Z;have J:=(((Z.alloc 30 (fw o (.slice r G z) y)).alloc 34 (kM 0 0 0 0 0 sN 0)).alloc 34 (kM o.d o.c o.r o.i 0 sN 0));rw[World.size_alloc,World.size_alloc]at J;obtain⟨gq,P⟩:=nM (w.heap.size);obtain⟨i,x⟩:=nM (w.heap.size+1);obtain⟨Y,k⟩:=nM (w.heap.size+1+1);have C0:=(Z.alloc 30 (fw o (.slice r G z) y));obtain⟨z0,z1,z2,z3,z4,z5,z6⟩:=(C0.ah 0 rfl).seven;rw[<-k,<-x,<-P]at J;refine bm (And.intro P (And.intro x k)) J λC H=>?_;clear h K Z J C0 P x k hX hE hl B0 D0;have H0:o.d<1\/(¬o.d<1/\o.d>11)\/(¬o.d<1/\¬o.d>11/\o.c<0)\/(¬o.d<1/\¬o.d>11/\¬o.c<0/\o.c≥3):=by
  unfold jd.fit at a;by_cases V:o.d<1;· exact .inl V
  by_cases E:o.d>11;· exact .inr (.inl ⟨V,E⟩)
  by_cases j:o.c<0;· exact .inr (.inr (.inl ⟨V,E,j⟩))
  refine .inr (.inr (.inr ⟨V,E,j,?_⟩));by_cases k4:o.c≥3;· exact k4
  exfalso;rw[decide_eq_true (by omega),decide_eq_true (by omega),decide_eq_true (by omega),decide_eq_true (by omega)]at a
  cases a
 clear a
 go_enter func10,ntmps10
 go_wp2_with fail
 rw[<-C.out.2.2,<-C.out.2.1,<-C.out.1];refine(KR _ H).mono ?_;rintro e w1⟨gd,rfl,h⟩;obtain⟨z0,z1,z2,z3,z4,z5,z6⟩:=(h.ah 3 rfl).seven;obtain⟨y0,y1,y2,y3,y4,y5,y6⟩:=(h.ah 1 rfl).seven;have yf:=(h.ah 1 rfl).frozen;have U:=(h.fi 1).br 6 (iI 1) (kM o.d o.c o.r o.i 0 sN 1) rfl;have hp:=U.bG (R:=λw=>qI w (OQ o.d o.c o.r o.i 0 sN 1) (X.eA o)) (λO _=>by rw[D.out];exact⟨none,0,rfl,aA.none_ O _⟩);have T:=aa (hp.pk 11 [5,1,0,10,3,6,7,8,9]);clear h U hp H;rcases H0 with V|⟨V,E⟩|⟨V,E,j⟩|⟨V,E,j,k4⟩
 all_goals(
  go_wp2_with fail
  clear z0 z1 z2 z3 z4 z5 z6 y0 y1 y2 y3 y4 y5 y6 yf;refine ak (I:=I) (L0:=ab i 34 (kM 0 0 0 0 0 sN 0)::ay 184 10 lR M X.st.az::uN b.gs b.gd X.st::eK b.gv X.sv::yO b X.c::L) [⟨none,some 10,λe=>ab B 55 (wC ⟨b.gv,b.gd,b.gs,b.g0,b.g1,b.g2,M,.slice u X.ev.length g⟩)⟩,⟨none,none,λe=>ab Y 34 (kM o.d o.c o.r o.i (0) sN (1))⟩,⟨none,none,λe=>aS (λw=>qI w (OQ o.d o.c o.r o.i (0) sN (1)) (X.eA o))⟩,⟨none,some 7,λe=>ay 34 7 qI (.slice u X.ev.length g) X.ev⟩,⟨some 6,none,λe=>ab (e 6).n 34 (kM o.d o.c o.r o.i (0) sN (1))⟩,⟨some 7,none,λe=>ay 34 7 qI (.slice (e 7).A (X.ev.length+1) (e 7).n) (X.ev++[X.eA o])⟩,⟨some 10,none,λe=>ab B 55 (wC ⟨b.gv,b.gd,b.gs,b.g0,b.g1,b.g2,M,.slice (e 7).A (X.ev.length+1) (e 7).n⟩)⟩] [[],[],[1],[1,2],[1,2,3],[],[5],[1,2,3,4,5,6],rG 8,rG 9,rG 10] (rG 11) rfl kR kR kR (by rfl) (λ_=>rfl) T.fk ?_;refine Lb ?_;refine xN (λe=> .slice (some ⟨(e 6).n,0,none⟩) 1 1) rfl (λe p d h=>by(
   have h:=h.fn;exact⟨⟨none,p.heap.size,default⟩,_,cM rfl rfl (vJ _ _ _ _ _ _ _ _ _ _),((h.alloc 34 (kM o.d o.c o.r o.i (0) sN (1)))).fk⟩)) ?_
  simp only[aR];refine xN (λe=> .slice (e 7).A (X.ev.length+1) (e 7).n) rfl (λe p d h=>by(
   have h:=h.fn;have hz:=PX (cs:=OQ o.d o.c o.r o.i (0) sN (1)) (h.ah 4 rfl) rfl;obtain⟨A',c',O,E0,J⟩:=((h.jT (Q:=λw=>qI w (OQ o.d o.c o.r o.i (0) sN (1)) (X.eA o))).pk 5 [4,0,3,1,2]).yB uM _ ⟨(e 6).n,0,none⟩ 1 hz (Dh _ _ _ _ _ _ _ _ _) rfl (by have:=t.out;omega) (by have:=t.out;omega);exact⟨⟨A',c',default⟩,_,gL rfl rfl rfl E0,J.fk⟩)) ?_
  simp only[aR];refine vM ?_;refine jA (λe=> .pointer (some ⟨B,7,none⟩)) (λe=> .slice (e 7).A (X.ev.length+1) (e 7).n) rfl rfl (λe p d h=>by(
   have h:=h.fn;have q7:p.cell? (aD B 7)=some (.slice u X.ev.length g):=(h.ah 0 rfl).cell 7;have qf:=(h.ah 0 rfl).frozen;have U:=(h.fi 0).br 7 (.slice (e 7).A (X.ev.length+1) (e 7).n) (wC ⟨b.gv,b.gd,b.gs,b.g0,b.g1,b.g2,M,.slice (e 7).A (X.ev.length+1) (e 7).n⟩) rfl;exact⟨_,gS,U.fk⟩)) ?_
  simp only[Act.put];refine ax ?_;intro e w1 h;have h:=h.fn;obtain⟨l,G0⟩:=nM ((e 7).A);obtain⟨W,I0⟩:=nM ((e 7).n);rw[<-G0,<-I0]at h;have F:=St.rD (b:=⟨b.gv,b.gd,b.gs,b.g0,b.g1,b.g2,M,.slice l (X.ev.length+1) W⟩) (X:=X.st) (v:=M) (h.pk 8 [4,6,7,0,5,3]);have q:=St.wmC (X:=X.step o) (B:=B) (b:=⟨b.gv,b.gd,b.gs,b.g0,b.g1,b.g2,M,.slice l (X.ev.length+1) W⟩) (L:=ab Y 34 (kM o.d o.c o.r o.i (0) sN (1))::ab i 34 (kM 0 0 0 0 0 sN 0)::L) (by rw[HX.out];exact F.pk 6 [0,4,5,3,1,2]);have h7:=(q.fi 1).bG (R:=λw=>aA w .u8 sN []) (λO _=>aA.none_ O _);have S:=h7.pk 4 [1,3,0,2];obtain⟨y0,y1,y2,y3,y4,y5,y6⟩:=(S.ah 0 rfl).seven;have fz:=(S.ah 1 rfl).frozen;obtain⟨r0,r1,r2,r3,r4,r5,r6⟩:=(S.ah 1 rfl).seven;have h9:=(S.fi 1).VO o.d o.c o.r o.i 0 1 sN;have N:=aa h9;clear h F q h7 S h9 T
  go_wp2_with fail
  obtain⟨x0,x1,x2,x3,x4,x5,x6⟩:=(N.ah 0 rfl).seven
  (try simp only[Exit.inBlock,Exit.then])
  refine bodyPost_ret (v:= .agg (kM o.d o.c o.r o.i 0 sN 1)) (aL rfl _ rfl ?_) rfl ⟨none,0,0,by rw[D.out],?_⟩
  ·go_simp
  ·rw[D.out]
   exact N.pk 2 []
 )
end
end Go.Proofs.YtblpaldggenbaaaGreatDoor
