/- A part. -/
import Derived.Test.YtblpaldggenbaaaGreatDoorMv
import Derived.Test.YtblpaldggenbaaaGreatDoorMs
namespace Go.Proofs.YtblpaldggenbaaaGreatDoor
open Go.RowKit Go.Proofs.Tryz
set_option maxRecDepth 100000
set_option maxHeartbeats 64000000
variable{c k:Int}{S:gD}{C:aY}
section
abbrev hdC(x:qO):Vq:= #[iI x.m,iU x.t,iU x.u]
def aY.hd(C:aY)(r:Int):qO:=if cB r=true then C.h r.toNat else qO.zero
section
variable (x:CX) (v u:Value)
theorem JF:∀{i:Nat},i<4->(cH x v u)[4+i*3]? =some (iI (x.c.h i).m)
 |0,_=>rfl
 |1,_=>rfl
 |2,_=>rfl
 |3,_=>rfl
 |n+4,h=>oM
theorem JC:∀{i:Nat},i<4->(cH x v u)[4+i*3+1]? =some (iU (x.c.h i).t)
 |0,_=>rfl
 |1,_=>rfl
 |2,_=>rfl
 |3,_=>rfl
 |n+4,h=>oM
theorem Hq:∀{i:Nat},i<4->(cH x v u)[4+i*3+2]? =some (iU (x.c.h i).u)
 |0,_=>rfl
 |1,_=>rfl
 |2,_=>rfl
 |3,_=>rfl
 |n+4,h=>oM
theorem Rk:∀{i:Nat},i<4->(cH x v u)[4+12+i]? =some (iU (x.c.la i))
 |0,_=>rfl
 |1,_=>rfl
 |2,_=>rfl
 |3,_=>rfl
 |n+4,h=>oM
end
theorem DK{I:aK}{L:List az}(x:CX)(v u:Value)(g:Nat)(r:Int)(w:World)(h:St I w (ab g 75 (cH x v u)::L)):
 Rt I w 45 #[.pointer (some ⟨g,4,none⟩),iI r] (.agg #[iI (x.c.hd r).m,iU (x.c.hd r).t,iU (x.c.hd r).u]) (ab g 75 (cH x v u)::L):=by
 have Z:=h.alloc 62 #[iI 0,iU 0,iU 0]
 cases R:cB r with
 |false=>
  have E:Hid (x.c.hd r=qO.zero):=iN (by rw[R];exact iu);have U:r<0\/4<=r:=by
   by_cases K:r<0
   ·exact .inl K
   ·by_cases S:4<=r
    ·exact .inr S
    ·rw[show cB r=true by unfold cB;simp;omega]at R
     cases R
  have G:=Z;have o:World.cell? _ ⟨w.heap.size,0,none⟩=some (iI 0):=(G.ah 0 rfl).cell 0;have P:World.cell? _ ⟨w.heap.size,1,none⟩=some (iU 0):=(G.ah 0 rfl).cell 1;have d:World.cell? _ ⟨w.heap.size,2,none⟩=some (iU 0):=(G.ah 0 rfl).cell 2;have W:=(Z.ah 0 rfl).frozen;have N:=aa G;clear h Z G R;by_cases K:r<0
  ·have d1:decide (r<0)=true:=dZ K
   exact adD
  ·have d1:decide (r<0)=false:=dQ K
   have d2:decide (r≥4)=true:=decide_eq_true (by omega);have d3:decide (4<=r)=true:=decide_eq_true (by omega);exact adD
 |true=>
  obtain⟨i,rfl,X⟩:=o8 R;have E:Hid (x.c.hd (i:Int)=x.c.h i):=iP R;have l:World.cell? _ ⟨g,4+i*3,none⟩=some (iI (x.c.h i).m):=((Z.ah 1 rfl).cell (4+i*3)).trans (JF x v u X);have j:World.cell? _ ⟨g,4+i*3+1,none⟩=some (iU (x.c.h i).t):=((Z.ah 1 rfl).cell (4+i*3+1)).trans (JC x v u X);have T:World.cell? _ ⟨g,4+i*3+2,none⟩=some (iU (x.c.h i).u):=((Z.ah 1 rfl).cell (4+i*3+2)).trans (Hq x v u X);have W:=(Z.ah 0 rfl).frozen;have G:=h.alloc 62 (hdC (x.c.h i));have o:World.cell? _ ⟨w.heap.size,0,none⟩=some (iI (x.c.h i).m):=(G.ah 0 rfl).cell 0;have P:World.cell? _ ⟨w.heap.size,1,none⟩=some (iU (x.c.h i).t):=(G.ah 0 rfl).cell 1;have d:World.cell? _ ⟨w.heap.size,2,none⟩=some (iU (x.c.h i).u):=(G.ah 0 rfl).cell 2;have N:=aa G;have d1:decide ((i:Int)<0)=false:=decide_eq_false (by omega);have d2:decide ((i:Int)≥4)=false:=decide_eq_false (by omega);have d3:decide (4<=(i:Int))=false:=decide_eq_false (by omega);have q:(0:Int)<=(i:Int):=oM
  have y:(i:Int)<4:=oM
  clear h Z G R
  go_enter func45,ntmps45
  go_wp2_with fail
  rw[E.out];refine bodyPost_ret (v:= .agg (hdC (x.c.h i))) (aL (fn:=Tryz.f45) (t:=4) (ty:=62) rfl _ rfl ?_) rfl ⟨rfl,N.tail⟩;go_simp
theorem QU(a c:Int)(b:Int)(w:World):(Instr.field 62 (.agg #[iI a,iU b,iU c]) 1).run prog w= .ok (iU b) w:=kR
theorem Sz{I:aK}{L:List az}(x:CX)(v u:Value)(g:Nat)(r:Int)(w:World)(h:St I w (ab g 75 (cH x v u)::L)):
 Rt I w 22 #[.pointer (some ⟨g,4,none⟩),iI r] (iU (x.c.tok r)) (ab g 75 (cH x v u)::L):=by
 have E:=aa (show(x.c.hd r).t=x.c.tok r by unfold aY.hd aY.tok;split<;>rfl);have H:=aa h;have a:=QU;clear h
 go_enter func22,ntmps22
 go_wp2_with fail
 refine qH (DK x v u g r _ H) λz F=>?_;clear H
 go_wp2_with fail
 go_ret
 rw[<-E.out];exact⟨rfl,F⟩
theorem OL(a b c:Int)(w:World):Calls prog 160 #[iU a,iU b,iU c] w λe O=>e= .returned (.bool (Fo a b c))/\O=w:=by
 by_cases Z:a<=IntKind.u64.wrap (a+b)
 ·have d1:decide (a<=IntKind.u64.wrap (a+b))=true:=dZ Z
  have d2:decide (IntKind.u64.wrap (a+b)≥a)=true:=dZ Z;have E:=aa (show Fo a b c=decide (IntKind.u64.wrap (a+b)<c)by unfold Fo;rw[d1,Re]);exact afh
 ·have d1:decide (a<=IntKind.u64.wrap (a+b))=false:=dQ Z
  have d2:decide (IntKind.u64.wrap (a+b)≥a)=false:=dQ Z;have E:=aa (show Fo a b c=false by unfold Fo;rw[d1,Zx]);exact afh
end
section
structure WX where
 gv:Nat
 gd:Nat
 gs:Nat
 g0:Nat
 g1:Nat
 g2:Nat
 se:Value
 ev:Value
abbrev wC(b:WX):Vq:= #[pO b.gv,pO b.gd,pO b.gs,pO b.g0,pO b.g1,pO b.g2,b.se,b.ev]
section
variable {I:aK} {w:World} {L:List az} {g:Nat} {bl wr:List PU} {x x':CX}
theorem St.bB(h:St I w (ak x g bl wr::L)):∃v u,St I w (ab g 75 (cH x v u)::aB 213 3 bV v bl::aB 213 3 bV u wr::L):=by
 obtain⟨A,c,q,d,_,_,_,_,Z⟩:=h.nI;exact⟨_,_,Z⟩
theorem St.dN(h:St I w (ak x g bl wr::L))(i:Nat)(y:Value)(J:∀v u,(cH x v u).set! i y=cH x' v u):St I (w.setCell ⟨g,i,none⟩ y) (ak x' g bl wr::L):=by
 obtain⟨v,u,Z⟩:=h.bB;have G:=Z.bx i y (cH x' v u) (by rw[<-J v u];simp);exact G.gV
end
structure Qq(S:gD)(x:CX):Prop where
 be:bD S.be
 len:S.a9.length<=1000
 id0:0<=x.id
 id1:x.id<3
 abG:0<=x.c.seq
 abK:x.c.seq<4294967295
theorem GY{n:Int}(K:0<=n)(Z:n<4294967295):IntKind.u32.wrap (n+1)=n+1:=IntWalk.u32_in _ oM
def dH.of(q:dH)(x:CX):dH:=⟨q.op,x.id,if 2<q.op then x.c.seq+1 else q.seq,q.r,q.m,q.t,q.tm⟩
def CX.nx(x:CX)(q:dH):CX:=if 2<q.op then⟨x.id,{x.c with seq:=x.c.seq+1},x.p⟩else x
theorem uq{I:aK}{L:List az}(B g:Nat)(b:WX)(x:CX)(bl wr:List PU)(S:gD)(q:dH)(w:World)(V:Qq S x)(d:(q.of x).ok)(Y:q.op=3\/q.op=4\/q.op=5)(W:kj S (q.of x))
 (h:St I w (ab B 55 (wC b)::ez b.gv S::ak x g bl wr::L)):
 Rt I w 62 #[pO B,pO g,.agg (dV q)] (.agg (aN (S.apply (q.of x)).e (S.apply (q.of x)).v)) (ab B 55 (wC b)::ez b.gv (S.apply (q.of x)).s::ak (x.nx q) g bl wr::L):=by
 obtain⟨H,P,n,j,y,k⟩:=V;have hw:=GY y k;have d1:decide (q.op>2)=true:=decide_eq_true (by omega);have d2:decide (2<q.op)=true:=decide_eq_true (by omega);have i:q.of x=⟨q.op,x.id,x.c.seq+1,q.r,q.m,q.t,q.tm⟩:=by unfold dH.of;rw[iP oM]
 have z:x.nx q=⟨x.id,{x.c with seq:=x.c.seq+1},x.p⟩:=by unfold CX.nx;rw[iP oM]
 rw[i,z];obtain⟨a,T⟩:=nM (S.apply ⟨q.op,x.id,x.c.seq+1,q.r,q.m,q.t,q.tm⟩);rw[<-T];have Q:=aa T;clear T;refine nK (show Qq S x from⟨H,P,n,j,y,k⟩) d W Y λG p HN B0=>?_;have Z:=((h.alloc 156 (dV q)).alloc 158 (aN 0 0));rw[World.size_alloc]at Z;have o:=Z.pk 5 [1,4,0,2,3];obtain⟨v,u,K⟩:=(o.fi 1).bB;have k0:World.cell? _ ⟨g,0,none⟩=some (iI x.id):=(K.ah 0 rfl).cell 0;have a1:World.cell? _ ⟨w.heap.size,1,none⟩=some (iI q.c):=(o.ah 0 rfl).cell 1;have af:=(o.ah 0 rfl).frozen;have J:=((h.alloc 156 (dV ⟨q.op,x.id,q.seq,q.r,q.m,q.t,q.tm⟩)).alloc 158 (aN 0 0));rw[World.size_alloc]at J;have M:=J.pk 5 [1,4,0,2,3];have b0:World.cell? _ ⟨w.heap.size,0,none⟩=some (iI q.op):=(M.ah 0 rfl).cell 0;obtain⟨v1,u1,E⟩:=(M.fi 1).bB;have b2:World.cell? _ ⟨g,2,none⟩=some (iW x.c.seq):=(E.ah 0 rfl).cell 2;have bf:=(E.ah 0 rfl).frozen;have F:=St.dN (x':=⟨x.id,{x.c with seq:=x.c.seq+1},x.p⟩) (M.front (X:=ak x g bl wr)) 2 (iW (x.c.seq+1)) (λ_ _=>rfl);obtain⟨v2,u2,R⟩:=F.bB;have c2:World.cell? _ ⟨g,2,none⟩=some (iW (x.c.seq+1)):=(R.ah 0 rfl).cell 2;have c3:World.cell? _ ⟨w.heap.size,2,none⟩=some (iW q.seq):=(F.ah 1 rfl).cell 2;have cf:=(F.ah 1 rfl).frozen;have C:=(F.fi 1).bx 2 (iW (x.c.seq+1)) (dV (q.of x)) (by rw[i];rfl);obtain⟨z0,z1,z2,z3,z4,z5,z6⟩:=(C.ah 0 rfl).seven;obtain⟨r,O⟩:=nM (w.heap.size+1);rw[<-O]at C;refine bq O C λA0 l=>?_;clear h Z o K J M E F R C O H P n j y k d W Y
 go_enter func62,ntmps62
 go_wp2_with fail
 rw[<-A0.out];have D:=p.out;rw[i]at D;refine(DX ⟨q.op,x.id,x.c.seq+1,q.r,q.m,q.t,q.tm⟩ _ D l).mono ?_;rintro C0 w1⟨A,c,rfl,h⟩;have y0:w1.cell? (aD B 0)=some (pO b.gv):=(h.ah 4 rfl).cell 0;have N:=aa (h.pk 6 [0,5,3,2,4]);clear h l D
 go_wp2_with fail
 have W:=HN.out;rw[i]at W;have D:=p.out;rw[i]at D;refine qK (EH b.gv S ⟨q.op,x.id,x.c.seq+1,q.r,q.m,q.t,q.tm⟩ A _ c _ D G.be ⟨G.id0,by have:=G.id1;show x.id<16;omega⟩ G.len (λ_=>W) (.inr (.inr (by rcases B0.out with h|h|h;exact .inl h;exact .inr (.inl h);exact .inr (.inr (.inl h))))) N) λU h=>?_;have r0:U.cell? (aD r 0)=some (iI 0):=(h.ah 1 rfl).cell 0;have r1:U.cell? (aD r 1)=some (iU 0):=(h.ah 1 rfl).cell 1;have fz:=(h.ah 1 rfl).frozen;rw[<-Q.out]at h;rw[<-Q.out];have V:=((h.fi 1).bx 0 (iI a.e) (aN a.e 0) rfl).bx 1 (iU a.v) (aN a.e a.v) rfl;have y0:World.cell? _ ⟨r,0,none⟩=some (iI a.e):=(V.ah 0 rfl).cell 0;have y1:World.cell? _ ⟨r,1,none⟩=some (iU a.v):=(V.ah 0 rfl).cell 1;have e:=aa V;clear h V N W D
 go_wp2_with fail
 refine bodyPost_ret (v:= .agg (aN a.e a.v)) (aL (fn:=Tryz.f62) (t:=6) (ty:=158) rfl _ rfl ?_) rfl ⟨rfl,e.sub⟩;go_simp
theorem Em{I:aK}{L:List az}(B g:Nat)(b:WX)(x:CX)(bl wr:List PU)(S:gD)(q:dH)(w:World)(V:Qq S x)(d:(q.of x).ok)(X:q.op=1\/q.op=2)
 (h:St I w (ab B 55 (wC b)::ez b.gv S::ak x g bl wr::L)):
 Rt I w 62 #[pO B,pO g,.agg (dV q)] (.agg (aN (S.apply (q.of x)).e (S.apply (q.of x)).v)) (ab B 55 (wC b)::ez b.gv (S.apply (q.of x)).s::ak (x.nx q) g bl wr::L):=by
 obtain⟨W,H,n,R,y,k⟩:=V;have d1:decide (q.op>2)=false:=decide_eq_false (by omega);have d2:decide (2<q.op)=false:=decide_eq_false (by omega);have i:q.of x=⟨q.op,x.id,q.seq,q.r,q.m,q.t,q.tm⟩:=by unfold dH.of;rw[iN oM]
 have z:x.nx q=x:=by unfold CX.nx;rw[iN oM]
 rw[i,z];obtain⟨a,T⟩:=nM (S.apply ⟨q.op,x.id,q.seq,q.r,q.m,q.t,q.tm⟩);rw[<-T];have Q:=aa T;clear T;refine iG (show Qq S x from⟨W,H,n,R,y,k⟩) d X λG E p=>?_;have Z:=((h.alloc 156 (dV q)).alloc 158 (aN 0 0));rw[World.size_alloc]at Z;have o:=Z.pk 5 [1,4,0,2,3];obtain⟨v,u,K⟩:=(o.fi 1).bB;have k0:World.cell? _ ⟨g,0,none⟩=some (iI x.id):=(K.ah 0 rfl).cell 0;have e:World.cell? _ ⟨w.heap.size,1,none⟩=some (iI q.c):=(o.ah 0 rfl).cell 1;have af:=(o.ah 0 rfl).frozen;have J:=((h.alloc 156 (dV ⟨q.op,x.id,q.seq,q.r,q.m,q.t,q.tm⟩)).alloc 158 (aN 0 0));rw[World.size_alloc]at J;have M:=J.pk 5 [1,4,0,2,3];have b0:World.cell? _ ⟨w.heap.size,0,none⟩=some (iI q.op):=(M.ah 0 rfl).cell 0;have C:=M;obtain⟨z0,z1,z2,z3,z4,z5,z6⟩:=(C.ah 0 rfl).seven;obtain⟨r,O⟩:=nM (w.heap.size+1);rw[<-O]at C;refine bq O C λj l=>?_;clear h Z o K J M C O W H n R y k d X
 go_enter func62,ntmps62
 go_wp2_with fail
 rw[<-j.out];have D:=E.out;rw[i]at D;refine(DX ⟨q.op,x.id,q.seq,q.r,q.m,q.t,q.tm⟩ _ D l).mono ?_;rintro A0 F⟨A,c,rfl,h⟩;have U:F.cell? (aD B 0)=some (pO b.gv):=(h.ah 4 rfl).cell 0;have N:=aa (h.pk 6 [0,5,3,2,4]);clear h l D
 go_wp2_with fail
 have D:=E.out;rw[i]at D;refine qK (EH b.gv S ⟨q.op,x.id,q.seq,q.r,q.m,q.t,q.tm⟩ A _ c _ D G.be ⟨G.id0,by have:=G.id1;show x.id<16;omega⟩ G.len (λh=>absurd (show q.op=3\/q.op=4\/q.op=5 from h) (by have:=p.out;omega)) (by rcases p.out with h|h;exact .inl h;exact .inr (.inl h)) N) λY h=>?_;have r0:Y.cell? (aD r 0)=some (iI 0):=(h.ah 1 rfl).cell 0;have r1:Y.cell? (aD r 1)=some (iU 0):=(h.ah 1 rfl).cell 1;have fz:=(h.ah 1 rfl).frozen;rw[<-Q.out]at h;rw[<-Q.out];have V:=((h.fi 1).bx 0 (iI a.e) (aN a.e 0) rfl).bx 1 (iU a.v) (aN a.e a.v) rfl;have U:World.cell? _ ⟨r,0,none⟩=some (iI a.e):=(V.ah 0 rfl).cell 0;have y1:World.cell? _ ⟨r,1,none⟩=some (iU a.v):=(V.ah 0 rfl).cell 1;have P:=aa V;clear h V N D
 go_wp2_with fail
 refine bodyPost_ret (v:= .agg (aN a.e a.v)) (aL (fn:=Tryz.f62) (t:=6) (ty:=158) rfl _ rfl ?_) rfl ⟨rfl,P.sub⟩;go_simp
end
section
def CX.hold(x:CX)(i:Nat)(y:qO):CX:=⟨x.id,{x.c with h:=aI x.c.h i y},x.p⟩
def CX.last(x:CX)(i:Nat)(t:Int):CX:=⟨x.id,{x.c with la:=aI x.c.la i t},x.p⟩
section
variable {I:aK} {w:World} {L:List az} {g:Nat} {bl wr:List PU} {x:CX}
theorem Xb(x:CX)(y:qO)(m:Int):∀{i:Nat},i<4->∀v u,(cH (x.hold i y) v u).set! (4+i*3) (iI m)=cH (x.hold i ⟨m,y.t,y.u⟩) v u
 |0,_,_,_=>rfl
 |1,_,_,_=>rfl
 |2,_,_,_=>rfl
 |3,_,_,_=>rfl
 |n+4,h,_,_=>oM
theorem WZ(x:CX)(y:qO)(m:Int):∀{i:Nat},i<4->∀v u,(cH (x.hold i y) v u).set! (4+i*3+1) (iU m)=cH (x.hold i ⟨y.m,m,y.u⟩) v u
 |0,_,_,_=>rfl
 |1,_,_,_=>rfl
 |2,_,_,_=>rfl
 |3,_,_,_=>rfl
 |n+4,h,_,_=>oM
theorem WJ(x:CX)(y:qO)(m:Int):∀{i:Nat},i<4->∀v u,(cH (x.hold i y) v u).set! (4+i*3+2) (iU m)=cH (x.hold i ⟨y.m,y.t,m⟩) v u
 |0,_,_,_=>rfl
 |1,_,_,_=>rfl
 |2,_,_,_=>rfl
 |3,_,_,_=>rfl
 |n+4,h,_,_=>oM
theorem Wn(x:CX)(m:Int):∀{i:Nat},i<4->∀v u,(cH x v u).set! (4+12+i) (iU m)=cH (x.last i m) v u
 |0,_,_,_=>rfl
 |1,_,_,_=>rfl
 |2,_,_,_=>rfl
 |3,_,_,_=>rfl
 |n+4,h,_,_=>oM
theorem St.Kn(h:St I w (ak x g bl wr::L)){i:Nat}(z:i<4)(y:qO):
 St I (((w.setCell ⟨g,4+i*3,none⟩ (iI y.m)).setCell ⟨g,4+i*3+1,none⟩ (iU y.t)).setCell ⟨g,4+i*3+2,none⟩ (iU y.u)) (ak (x.hold i y) g bl wr::L):=by
 have K:St I w (ak (x.hold i (x.c.h i)) g bl wr::L):=by
  have:x.hold i (x.c.h i)=x:=by unfold CX.hold;rw[ud]
  rw[this];exact h
 have Z:=St.dN K (4+i*3) (iI y.m) (Xb x (x.c.h i) y.m z);have G:=St.dN Z (4+i*3+1) (iU y.t) (WZ x ⟨y.m,(x.c.h i).t,(x.c.h i).u⟩ y.t z);exact St.dN G (4+i*3+2) (iU y.u) (WJ x ⟨y.m,y.t,(x.c.h i).u⟩ y.u z)
theorem St.UC(h:St I w (ak x g bl wr::L)){i:Nat}(z:i<4)(t:Int):St I (w.setCell ⟨g,4+12+i,none⟩ (iU t)) (ak (x.last i t) g bl wr::L):=St.dN h (4+12+i) (iU t) (Wn x t z)
end
theorem AM{r:Int}(h:cB r=false):r<0\/4<=r:=by
 unfold cB at h;by_cases K:r<0
 ·exact .inl K
 ·by_cases S:4<=r
  ·exact .inr S
  ·simp at h
   omega
theorem Tl{I:aK}{L:List az}(g:Nat)(x:CX)(bl wr:List PU)(r t b:Int)(w:World)(h:St I w (ak x g bl wr::L)):
 Rt I w 102 #[.pointer (some ⟨g,4,none⟩),iI r,iI 2,iU t,iU b] (iI (x.c.my r t)) (ak ⟨x.id,x.c.nS r t b,x.p⟩ g bl wr::L):=by
 cases R:cB r with
 |false=>
  have E:Hid (x.c.my r t=93):=iP R;have J:Hid (x.c.nS r t b=x.c):=iN (by rw[E.out];decide);have H:=aa h;have U:=AM R;clear h R;rw[E.out,J.out];by_cases K:r<0
  ·have d1:decide (r<0)=true:=dZ K
   clear U
   exact afe
  ·have d1:decide (r<0)=false:=dQ K
   have d2:decide (r≥4)=true:=decide_eq_true (by omega);have d3:decide (4<=r)=true:=decide_eq_true (by omega);clear U
   exact afe
 |true=>
  obtain⟨i,rfl,X⟩:=o8 R;have d1:decide ((i:Int)<0)=false:=decide_eq_false (by omega);have d2:decide ((i:Int)≥4)=false:=decide_eq_false (by omega);have d3:decide (4<=(i:Int))=false:=decide_eq_false (by omega);have q:(0:Int)<=(i:Int):=oM
  have y:(i:Int)<4:=oM
  have Y:(i:Int).toNat=i:=rfl;have d:x.c.my (i:Int) t=if t=0\/t<x.c.la i then 92 else 0:=iN (by rw[R];decide);obtain⟨v,u,A⟩:=h.bB;have D:w.cell? ⟨g,4+12+i,none⟩=some (iU (x.c.la i)):=((A.ah 0 rfl).cell (4+12+i)).trans (Rk x v u X);have c:=(A.ah 0 rfl).frozen;have H:=aa h;by_cases o:t=0
  ·subst o
   have E:=aa (show x.c.my (i:Int) 0=92 by rw[d,iP (.inl rfl)]);have J:Hid (x.c.nS (i:Int) 0 b=x.c):=iN (by rw[E.out];decide);clear h R A d;rw[E.out,J.out]
   exact afe
  ·have t0:(t==0)=false:=jM o
   by_cases F:t<x.c.la i
   ·have a:decide (t<x.c.la i)=true:=dZ F
    have E:=aa (show x.c.my (i:Int) t=92 by rw[d,iP (.inr F)]);have J:Hid (x.c.nS (i:Int) t b=x.c):=iN (by rw[E.out];decide);clear h R A d F;rw[E.out,J.out]
    exact afe
   ·have a:decide (t<x.c.la i)=false:=dQ F
    have E:=aa (show x.c.my (i:Int) t=0 by rw[d,iN oM]);have J:=aa (show(⟨x.id,x.c.nS (i:Int) t b,x.p⟩:CX)=(x.hold i ⟨2,t,b⟩).last i t by unfold aY.nS;rw[iP E.out];rfl);have O:=aa X;clear h R A d F;rw[E.out,J.out]
    go_enter func102,ntmps102
    go_wp2_with fail
    refine an (I:=I) (L0:=L) [⟨none,some 12,λe=>ak x g bl wr⟩,⟨some 12,some 16,λe=>ak (x.hold i ⟨2,t,b⟩) g bl wr⟩,⟨some 16,none,λe=>ak ((x.hold i ⟨2,t,b⟩).last i t) g bl wr⟩] [[],[],[],[],[],[],[],[4,5,6],[],[0],[0,9],[0,1,4,5,6,7,9,10],[0,1,4,5,6,7,9,10,11],[2],[2,13],rG 15,rG 16] (rG 17) rfl kR kR kR (by rfl) (λ_=>rfl) H.fk ?_;refine Yi ?_;refine lM (λe=> .pointer (some ⟨g,4+i*3,none⟩)) (λe=> .agg #[iI 2,iU t,iU b]) rfl rfl (λe p l h=>by(
     have h:=h.fn;obtain⟨v,u,A⟩:=(h.fi 0).bB;have Q:p.cell? ⟨g,4+i*3,none⟩=some (iI (x.c.h i).m):=((A.ah 0 rfl).cell (4+i*3)).trans (JF x v u O);have M:p.cell? ⟨g,4+i*3+1,none⟩=some (iU (x.c.h i).t):=((A.ah 0 rfl).cell (4+i*3+1)).trans (JC x v u O);have P:p.cell? ⟨g,4+i*3+2,none⟩=some (iU (x.c.h i).u):=((A.ah 0 rfl).cell (4+i*3+2)).trans (Hq x v u O);have n:=(A.ah 0 rfl).frozen;have V:=(h.fi 0).Kn O ⟨2,t,b⟩;exact⟨_,gS,V.fk⟩)) ?_
    simp only[Act.put];refine Cn ?_;refine lM (λe=> .pointer (some ⟨g,4+12+i,none⟩)) (λe=> iU t) rfl rfl (λe p l h=>by(
     have h:=h.fn;obtain⟨v,u,A⟩:=(h.fi 0).bB;have C:p.cell? ⟨g,4+12+i,none⟩=some (iU (x.c.la i)):=((A.ah 0 rfl).cell (4+12+i)).trans (Rk (x.hold i ⟨2,t,b⟩) v u O);have n:=(A.ah 0 rfl).frozen;have V:=(h.fi 0).UC O t;exact⟨_,gS,V.fk⟩)) ?_
    simp only[Act.put];refine aA ?_;intro e z h;have h:=h.fn;have k:=aa h;clear h H
    go_wp2_with fail
    go_ret
    exact⟨rfl,k⟩
theorem SA{I:aK}{L:List az}(g:Nat)(x:CX)(bl wr:List PU)(r:Int)(w:World)(h:St I w (ak x g bl wr::L)):
 Rt I w 74 #[.pointer (some ⟨g,4,none⟩),iI r] (.tuple #[]) (ak ⟨x.id,x.c.gone r,x.p⟩ g bl wr::L):=by
 cases R:cB r with
 |false=>
  have J:Hid (x.c.gone r=x.c):=iN (by rw[R];decide);have H:=aa h;have U:=AM R;clear h R;rw[J.out];by_cases K:r<0
  ·have d1:decide (r<0)=true:=dZ K
   have d2:decide (r≥0)=false:=decide_eq_false (by omega);have d3:decide (0<=r)=false:=decide_eq_false (by omega);clear U
   go_enter func74,ntmps74
   exact aey
  ·have d2:decide (r≥0)=true:=decide_eq_true (by omega)
   have d3:decide (0<=r)=true:=decide_eq_true (by omega);have d4:decide (r<4)=false:=decide_eq_false (by omega);clear U
   go_enter func74,ntmps74
   exact aey
 |true=>
  obtain⟨i,rfl,X⟩:=o8 R;have d2:decide ((i:Int)≥0)=true:=decide_eq_true (by omega);have d3:decide (0<=(i:Int))=true:=decide_eq_true (by omega);have d4:decide ((i:Int)<4)=true:=decide_eq_true (by omega);have q:(0:Int)<=(i:Int):=oM
  have o:(i:Int)<4:=oM
  have J:=aa (show(⟨x.id,x.c.gone (i:Int),x.p⟩:CX)=x.hold i ⟨0,0,0⟩by unfold aY.gone;rw[iP R];rfl);obtain⟨v,u,A⟩:=h.bB;have k:w.cell? ⟨g,4+i*3,none⟩=some (iI (x.c.h i).m):=((A.ah 0 rfl).cell (4+i*3)).trans (JF x v u X);have M:w.cell? ⟨g,4+i*3+1,none⟩=some (iU (x.c.h i).t):=((A.ah 0 rfl).cell (4+i*3+1)).trans (JC x v u X);have P:w.cell? ⟨g,4+i*3+2,none⟩=some (iU (x.c.h i).u):=((A.ah 0 rfl).cell (4+i*3+2)).trans (Hq x v u X);have a:=(A.ah 0 rfl).frozen;have F:=aa (h.Kn X ⟨0,0,0⟩);clear h R A;rw[J.out]
  go_enter func74,ntmps74
  go_wp2_with fail
  go_end0
  exact⟨rfl,F⟩
theorem XO(m t u:Int)(w:World):(binOp .neq 62 (.agg #[iI m,iU t,iU u]) (.agg #[iI 0,iU 0,iU 0])).run prog w= .ok (.bool (!(qO.mk m t u).none)) w:=by
 by_cases p:m=0
 ·subst p
  by_cases R:t=0
  ·subst R
   by_cases y:u=0
   ·subst y
    kernel_rfl
   ·have b:(u==0)=false:=jM y
    unfold qO.none;go_simp
  ·have b:(t==0)=false:=jM R
   unfold qO.none;go_simp
 ·have b:(m==0)=false:=jM p
  unfold qO.none;go_simp
theorem Wq(C:aY)(r:Int):C.wM r=(!(C.hd r).none&&((C.hd r).m==2)&&Fo C.iZ 3 (C.hd r).u):=by
 unfold aY.wM aY.hd
 cases cB r with
 |true=>exact abN
 |false=>simp[qO.zero,qO.none]
theorem UA{I:aK}{L:List az}(g:Nat)(x:CX)(bl wr:List PU)(r:Int)(w:World)(h:St I w (ak x g bl wr::L)):
 Rt I w 103 #[.pointer (some ⟨g,4,none⟩),iI r,iI 2,iU x.c.iZ] (.bool (x.c.wM r)) (ak x g bl wr::L):=by
 have E:=Wq x.c r;obtain⟨v,u,Z⟩:=h.bB;have H:=aa Z;obtain⟨⟨m,t,b⟩,q⟩:∃y,x.c.hd r=y:=⟨_,rfl⟩;rw[q]at E;have a:=aa q;clear h Z q;have Q:(m=0/\t=0/\b=0)\/(qO.mk m t b).none=false:=by
  by_cases p:m=0
  ·by_cases R:t=0
   ·by_cases C:b=0
    ·exact .inl ⟨p,R,C⟩
    ·exact .inr (by simp[qO.none,C])
   ·exact .inr (by simp[qO.none,R])
  ·exact .inr (by simp[qO.none,p])
 rcases Q with⟨rfl,rfl,rfl⟩|Q
 ·rw[show x.c.wM r=false from E]
  clear E
  go_enter func103,ntmps103
  go_wp2_with fail
  refine qK (DK x v u g r _ H) λz h=>?_;rw[a.out];have G:=h.alloc 62 #[iI (0),iU (0),iU (0)];have D:World.cell? _ ⟨z.heap.size,0,none⟩=some (iI (0)):=(G.ah 0 rfl).cell 0;have S:World.cell? _ ⟨z.heap.size,1,none⟩=some (iU (0)):=(G.ah 0 rfl).cell 1;have P:World.cell? _ ⟨z.heap.size,2,none⟩=some (iU (0)):=(G.ah 0 rfl).cell 2;have N:=aa (St.gV G.tail);clear h G H
  exact ac8
 ·have X:=XO m t b
  rw[Q]at X;rw[show x.c.wM r=((m==2)&&Fo x.c.iZ 3 b)by rw[E,Q];rfl];clear Q E;by_cases p:m=2
  ·subst p
   go_enter func103,ntmps103
   go_wp2_with fail
   refine qK (DK x v u g r _ H) λz h=>?_;rw[a.out];have G:=h.alloc 62 #[iI (2),iU (t),iU (b)];have D:World.cell? _ ⟨z.heap.size,0,none⟩=some (iI (2)):=(G.ah 0 rfl).cell 0;have S:World.cell? _ ⟨z.heap.size,1,none⟩=some (iU (t)):=(G.ah 0 rfl).cell 1;have P:World.cell? _ ⟨z.heap.size,2,none⟩=some (iU (b)):=(G.ah 0 rfl).cell 2;have N:=aa (St.gV G.tail);clear h G H
   go_wp2_with (go_at_call 160;refine(OL x.c.iZ 3 b _).mono ?_;rintro e Y⟨rfl,rfl⟩)
   go_ret
   exact⟨rfl,N⟩
  ·have J:(m==2)=false:=jM p
   rw[J]
   go_enter func103,ntmps103
   go_wp2_with fail
   refine qK (DK x v u g r _ H) λz h=>?_;rw[a.out];have G:=h.alloc 62 #[iI (m),iU (t),iU (b)];have D:World.cell? _ ⟨z.heap.size,0,none⟩=some (iI (m)):=(G.ah 0 rfl).cell 0;have S:World.cell? _ ⟨z.heap.size,1,none⟩=some (iU (t)):=(G.ah 0 rfl).cell 1;have P:World.cell? _ ⟨z.heap.size,2,none⟩=some (iU (b)):=(G.ah 0 rfl).cell 2;have N:=aa (St.gV G.tail);clear h G H
   exact ac8
end
structure da(S:gD)(C:aY)(c k:Int):Prop where
 be:bD S.be
 len:S.a9.length<=6
 Ke:0<=C.seq
 Lq:C.seq<=k
 num:C.a9=true->∀y,aP S.a9 c=some y->y.2=C.seq
theorem GZ:∀(l:List (Int×Int)) (c n:Int),(bR l c n).length=l.length
 |[],_,_=>rfl
 |x::l,c,n=>by
  show(if(x.1==c)=true then(x.1,n)::l else x::bR l c n).length=_
  split
  ·rfl
  ·simp[GZ l c n]
theorem FV:∀(l:List (Int×Int)) (c n:Int),aP (bR l c n) c=(aP l c).map (λy=>(y.1,n))
 |[],_,_=>rfl
 |x::l,c,n=>by
  show aP (if(x.1==c)=true then(x.1,n)::l else x::bR l c n) c=_;by_cases h:(x.1==c)=true
  ·rw[iP h,fL (y:=(x.1,n)) h,fL h];rfl
  ·have E:(x.1==c)=false:=by simpa using h
   rw[iN h,dR E,dR E,FV l c n]
theorem xH:∀(l:List (Int×Int)) {c x:Int} (n:Int),x≠c->aP (bR l c n) x=aP l x
 |[],_,_,_,_=>rfl
 |y::l,c,x,n,J=>by
  show aP (if(y.1==c)=true then(y.1,n)::l else y::bR l c n) x=_;by_cases h:(y.1==c)=true
  ·have e:y.1=c:=by simpa using h
   have Z:(y.1==x)=false:=by simp[e,Vh J]
   rw[iP h,dR (y:=(y.1,n)) Z,dR Z]
  ·rw[iN h]
   by_cases G:(y.1==x)=true
   ·rw[fL G,fL G]
   ·have G:(y.1==x)=false:=by simpa using G
    rw[dR G,dR G,xH l n J]
theorem uH:∀(l:List (Int×Int)) {c x:Int},x≠c->aP (jV l c) x=aP l x
 |[],_,_,_=>rfl
 |y::l,c,x,J=>by
  unfold jV;by_cases h:(y.1==c)=true
  ·have e:y.1=c:=by simpa using h
   have Z:(y.1==x)=false:=by simp[e,Vh J]
   rw[UL (p:=λx:Int×Int=>x.1==c) (a:=y) (l:=l) h,dR Z]
  ·rw[WH (p:=λx:Int×Int=>x.1==c) (a:=y) (l:=l) h]
   by_cases G:(y.1==x)=true
   ·rw[fL G,fL G]
   ·have G:(y.1==x)=false:=by simpa using G
    rw[dR G,dR G];exact uH l J
theorem GK(l:List (Int×Int)){c x:Int}(n:Int)(J:x≠c):aP (l++[(c,n)]) x=aP l x:=by
 unfold aP;rw[Zk];have Z:((c,n).1==x)=false:=by simp[Vh J]
 cases List.find? (λy=>y.1==x) l with
 |some y=>rfl
 |none=>simp only[Uq,Z,List.find?_nil];rfl
theorem Jp(S:gD)(q:dH){x:Int}(J:x≠q.c):aP (S.apply q).s.a9 x=aP S.a9 x:=by
 unfold gD.apply
 split
 ·rfl
 ·split
  ·split
   ·rfl
   ·split
    ·rfl
    ·exact GK _ _ J
  ·split
   ·split
    ·exact uH _ J
    ·rfl
   ·split
    ·exact xH _ _ J
    ·rfl
theorem pE(S:gD)(q:dH)(h:S.a9.length<=6):(S.apply q).s.a9.length<=6:=by
 unfold gD.apply
 split
 ·exact h
 ·split
  ·split
   ·exact h
   ·split
    ·exact h
    ·show(S.a9++[(q.c,0)]).length<=6
     rw[dB];show S.a9.length+1<=6;omega
  ·split
   ·split
    ·exact qJ (zcA) h
    ·exact h
   ·split
    ·exact(GZ _ _ _).symm▸h
    ·exact h
theorem MX{T:aH}(h:bD T)(c:Int):bD (nh T c):=vx c h 4
theorem pw(S:gD)(q:dH)(h:bD S.be)(d:q.tm<=18446744073709551615):bD (S.apply q).s.be:=by
 have E:bD (FF S.be q).1:=by
  unfold FF
  split
  ·exact h.acquire _ _ _
  ·split
   ·exact h.release _ _ _
   ·split
    ·exact h.renew _ _ _
    ·exact h.cancel _ _
 unfold gD.apply
 split
 ·exact h.time d
 ·split
  ·split
   ·exact h
   ·split<;>exact h
  ·split
   ·split
    ·exact MX h _
    ·exact h
   ·split
    ·exact E
    ·exact h
theorem da.next(h:da S C c k)(V:C.a9=true)(Q:k<4294967295)(o r m t a:Int):kj S ⟨o,c,C.seq+1,r,m,t,a⟩:=λy E=>by
 have e:=h.num V y E;have:=h.Ke;have:=h.Lq;exact⟨by show C.seq+1=_;omega,oM,oM⟩
theorem da.Gn(h:da S C c k){o:Int}(q:o=3\/o=4\/o=5)(r m t:Int):da (S.apply ⟨o,c,C.seq+1,r,m,t,0⟩).s {C with seq:=C.seq+1} c (k+1):=by
 refine⟨pw _ _ h.be ab1,pE _ _ h.len,by have:=h.Ke;show 0<=C.seq+1;omega,by have:=h.Lq;show C.seq+1<=k+1;omega,λV y E=> ?_⟩;show y.2=C.seq+1;by_cases a:(aP S.a9 c).isSome=true
 ·rw[jb q a]at E
  have E:aP (bR S.a9 c (C.seq+1)) c=some y:=E;rw[FV]at E
  cases J:aP S.a9 c with
  |none=>rw[J]at a;cases a
  |some z=>rw[J]at E;injection E with E;rw[<-E]
 ·rw[sR q a]at E
  rw[show aP S.a9 c=none by simpa using a]at E
  cases E
theorem da.other(h:da S C c k)(q:dH)(d:c≠q.c)(p:q.tm<=18446744073709551615):da (S.apply q).s C c k:=
 ⟨pw _ _ h.be p,pE _ _ h.len,h.Ke,h.Lq,λV y E=>h.num V y (by rw[Jp S q d]at E;exact E)⟩
theorem da.shut(h:da S C c k)(V:C.a9=false)(q:dH)(p:q.tm<=18446744073709551615):da (S.apply q).s C c k:=
 ⟨pw _ _ h.be p,pE _ _ h.len,h.Ke,h.Lq,λE=>by rw[V]at E;cases E⟩
theorem da.open_(h:da S C c k)(Q:0<=k)(Y:(S.apply ⟨1,c,0,0,0,0,0⟩).e=0):da (S.apply ⟨1,c,0,0,0,0,0⟩).s {C with a9:=true,seq:=0} c k:=by
 refine⟨pw _ _ h.be ab1,pE _ _ h.len,cO 0,Q,λ_ y E=> ?_⟩;show y.2=0;have Z:S.apply ⟨1,c,0,0,0,0,0⟩=if(aP S.a9 c).isSome then⟨S,1,0⟩else if 6<=S.a9.length then⟨S,42,0⟩else⟨⟨S.a9++[(c,0)],S.be⟩,0,0⟩:=rfl;rw[Z]at Y E;by_cases a:(aP S.a9 c).isSome=true
 ·rw[iP a]at Y;exact absurd Y (show¬(1:Int)=0 by decide)
 ·rw[iN a]at Y E
  by_cases u:6<=S.a9.length
  ·rw[iP u]at Y;exact absurd Y (show¬(42:Int)=0 by decide)
  ·rw[iN u]at E
   have W:aP S.a9 c=none:=by simpa using a
   have E:aP (S.a9++[(c,0)]) c=some y:=E;unfold aP at E W;rw[Zk,W]at E;simp at E;rw[<-E]
abbrev dW(o:eH)(D J:Value):Vq:= #[iI o.d,iI o.c,iI o.r,iI o.i,iI o.n,D,J]
theorem XR(x:CX)(r t:Int):dH.of ⟨5,0,0,r,0,t,0⟩ x=⟨5,x.id,x.c.seq+1,r,0,t,0⟩:=rfl
theorem aaC(x:CX)(r t:Int):dH.of ⟨4,0,0,r,0,t,0⟩ x=⟨4,x.id,x.c.seq+1,r,0,t,0⟩:=rfl
theorem Yh(x:CX)(r m:Int):dH.of ⟨3,0,0,r,m,0,0⟩ x=⟨3,x.id,x.c.seq+1,r,m,0,0⟩:=rfl
theorem zO{n:Int}(K:0<=n)(Z:n<4294967295):dP n=n+1:=GY K Z
theorem da.ok{x:CX}{k:Int}(h:da S x.c x.id k)(K:0<=x.id)(M:x.id<3)(Q:k<4294967295):Qq S x:=⟨h.be,by have:=h.len;omega,K,M,h.Ke,by have:=h.Lq;omega⟩
theorem sM{I:aK}{L:List az}(B g:Nat)(x:CX)(bl wr:List PU)(o:eH)(D J:Value)(w:World)(h:St I w (ak x g bl wr::L)):
 Rt I w 65 #[pO B,pO g,.agg (dW o D J)] (iI (x.c.eI o.r o.i)) (ak x g bl wr::L):=by
 have E:=aa (show x.c.eI o.r o.i=if x.c.wM o.r=false then 110 else if o.i<0\/4<=o.i then 101 else 0 from rfl);obtain⟨d,y⟩:∃d,x.c.wM o.r=d:=⟨_,rfl⟩;have Q:=aa y;rw[E.out,y];have z:(o.i<0/\decide (o.i<0)=true)\/(¬o.i<0/\4<=o.i/\decide (o.i<0)=false/\decide (o.i≥4)=true/\decide (4<=o.i)=true)\/(¬o.i<0/\¬4<=o.i/\decide (o.i<0)=false/\decide (o.i≥4)=false/\decide (4<=o.i)=false):=by
  by_cases K:o.i<0
  ·exact .inl ⟨K,dZ K⟩
  ·by_cases S:4<=o.i
   ·exact .inr (.inl ⟨K,S,dQ K,dZ S,dZ S⟩)
   ·exact .inr (.inr ⟨K,S,dQ K,dQ S,dQ S⟩)
 obtain⟨M,a⟩:=nM ((if d=false then(110:Int)else if o.i<0\/4<=o.i then 101 else 0));rw[<-a];refine bq a z λk O=>?_;have Z:=h.alloc 30 (dW o D J);obtain⟨q,c⟩:=nM (w.heap.size);rw[<-c]at Z;refine bq c Z λt H=>?_;clear h Z c y a z
 go_enter func65,ntmps65
 go_wp2_with fail
 rw[<-t.out];refine an (I:=I) (L0:=L) [⟨none,none,λe=>ab q 30 (dW o D J)⟩,⟨none,some 9,λe=>ak x g bl wr⟩,⟨some 9,none,λe=>ak x g bl wr⟩] [[],[0],[0,1],[],[3],[],[5],[5,6],[5,6,7],rG 9,rG 10,rG 11] (rG 12) rfl kR kR kR (by rfl) (λ_=>rfl) H.fk ?_;refine Ed ?_;refine mH _ rfl (λe p l h=>by(have h:=h.fn;obtain⟨j,P,T,Y,C,b,W⟩:=(h.ah 0 rfl).seven;obtain⟨v,u,A⟩:=(h.fi 1).bB;have G:p.cell? (aD g 1)=some (.bool x.c.a9):=(A.ah 0 rfl).cell 1;have i:p.cell? (aD g 3)=some (iU x.c.iZ):=(A.ah 0 rfl).cell 3;go_simp;try rfl)) ?_;simp only[aW];refine Cn ?_;refine mH _ rfl (λe p l h=>by(have h:=h.fn;obtain⟨j,P,T,Y,C,b,W⟩:=(h.ah 0 rfl).seven;obtain⟨v,u,A⟩:=(h.fi 1).bB;have G:p.cell? (aD g 1)=some (.bool x.c.a9):=(A.ah 0 rfl).cell 1;have i:p.cell? (aD g 3)=some (iU x.c.iZ):=(A.ah 0 rfl).cell 3;go_simp;try rfl)) ?_;simp only[aW];refine bp 103 (λe=> #[.pointer (some ⟨g,4,none⟩),iI o.r,iI 2,iU x.c.iZ]) (λe=> .bool d) rfl (λe p l h=>by(
  have h:=h.fn;refine(UA g x bl wr o.r _ (h.fi 1)).mono ?_;rintro u R⟨rfl,Z⟩;exact⟨⟨none,0,default⟩,(by rw[Q.out]),Z.pk 2 [1,0]⟩)) ?_
 simp only[aW];refine xQ ?_;refine aA ?_;intro e r h;have h:=h.fn;have a:=k.out;obtain⟨j,P,T,Y,C,b,W⟩:=(h.ah 0 rfl).seven;have F:=aa (h.fi 1).tail;have N:=aa (h.pk 1 []);clear h H F
 cases d with
 |false=>
  rw[iP rfl]at a;subst a;clear k
  exact ac8
 |true=>
  rw[iN dC]at a;rcases O.out with⟨K,d0⟩|⟨K,S,d0,d1,d2⟩|⟨K,S,d0,d1,d2⟩
  ·rw[iP (.inl K)]at a
   subst a;clear k O K
   exact ac8
  ·rw[iP (.inr S)]at a
   subst a;clear k O K S
   exact ac8
  ·rw[iN oM]at a
   subst a;clear k O K S
   exact ac8
theorem CG{x:CX}{k:Int}(V:da S x.c x.id k)(K:0<=x.id)(M:x.id<3)(Q:k<4294967295){o r m t:Int}(q:1<=o/\o<=7)(U:0<=r/\r<4)(p:0<=m/\m<=255)(R:0<=t/\t<18446744073709551616):dH.ok ⟨o,x.id,x.c.seq+1,r,m,t,0⟩:=by
 have:=V.Ke;have:=V.Lq;refine⟨q,⟨K,?_⟩,⟨U.1,?_⟩,p,⟨?_,?_⟩,R,⟨cO 0,(by decide:(0:Int)<18446744073709551616)⟩⟩
 ·show x.id<=255;omega
 ·show r<=255;omega
 ·show 0<=x.c.seq+1;omega
 ·show x.c.seq+1<4294967296;omega
theorem mW{I:aK}{L:List az}(B g:Nat)(b:WX)(x:CX)(bl wr:List PU)(S:gD)(r t k:Int)(w:World)(V:da S x.c x.id k)(K:0<=x.id)(M:x.id<3)(Q:k<4294967295)(W:x.c.a9=true)(U:0<=r/\r<4)(D:0<=t/\t<18446744073709551616)
 (h:St I w (ab B 55 (wC b)::ez b.gv S::ak x g bl wr::L)):
 Rt I w 64 #[pO B,pO g,iI r,iU t] (iI (cZ S x.id x.c r t).e) (ab B 55 (wC b)::ez b.gv (cZ S x.id x.c r t).s::ak ⟨x.id,(cZ S x.id x.c r t).c,x.p⟩ g bl wr::L):=by
 have R:=V.ok K M Q;have C:=CG V K M Q (o:=5) (r:=r) (m:=0) (t:=t) ⟨dC,dC⟩ U ⟨dC,dC⟩ D;have d:=V.next W Q 5 r 0 t 0;have y:dP x.c.seq=x.c.seq+1:=zO V.Ke (by have:=V.Lq;omega);obtain⟨a,T⟩:=nM (S.apply ⟨5,x.id,x.c.seq+1,r,0,t,0⟩);have E:cZ S x.id x.c r t=if a.e≠0 then⟨a.s,{x.c with seq:=x.c.seq+1},a.e⟩else⟨a.s,({x.c with seq:=x.c.seq+1}:aY).nS r t a.v,({x.c with seq:=x.c.seq+1}:aY).my r t⟩:=by
  show(if(S.apply ⟨5,x.id,dP x.c.seq,r,0,t,0⟩).e≠0 then _ else _)=_;rw[y,<-T]
  rfl
 rw[E];refine AS R C d T h λP X J q H=>?_;clear h V R C d T E W K M Q U D y;by_cases Y:a.e=0
 ·rw[iN (by simp[Y])]
  have A:=aa Y
  go_enter func64,ntmps64
  go_wp2_with fail
  refine qK (uq B g b x bl wr S ⟨5,0,0,r,0,t,0⟩ _ P X (.inr (.inr rfl)) J H) λz h=>?_;rw[XR,<-q.out]at h⊢;rw[A.out];have h:St I z (ab B 55 (wC b)::ez b.gv a.s::ak ⟨x.id,{x.c with seq:=x.c.seq+1},x.p⟩ g bl wr::L):=h;have G:=h.alloc 158 (aN 0 a.v);obtain⟨i,n⟩:=nM (z.heap.size);have j:World.cell? _ ⟨z.heap.size,0,none⟩=some (iI 0):=(G.ah 0 rfl).cell 0;rw[<-n]at G;refine bq n G λc N=>?_;clear h G H n Y
  go_wp2_with fail
  rw[<-c.out];refine an (I:=I) (L0:=ab B 55 (wC b)::ez b.gv a.s::L) [⟨none,none,λe=>ab i 158 (aN 0 a.v)⟩,⟨none,some 7,λe=>ak ⟨x.id,{x.c with seq:=x.c.seq+1},x.p⟩ g bl wr⟩,⟨some 7,none,λe=>ak ⟨x.id,({x.c with seq:=x.c.seq+1}:aY).nS r t a.v,x.p⟩ g bl wr⟩] [[],[0],[0,1],[],[],[],[5],rG 7,rG 8] (rG 9) rfl kR kR kR (by rfl) (λ_=>rfl) N.fk ?_;refine Xi ?_;refine bp 102 (λe=> #[.pointer (some ⟨g,4,none⟩),iI r,iI 2,iU t,iU a.v]) (λe=> iI (({x.c with seq:=x.c.seq+1}:aY).my r t)) rfl (λe F O h=>by(
   have h:=h.fn;refine(Tl g ⟨x.id,{x.c with seq:=x.c.seq+1},x.p⟩ bl wr r t a.v _ (h.fi 1)).mono ?_;rintro u wy⟨rfl,Z⟩;exact⟨⟨none,0,default⟩,rfl,Z.pk 2 [1,0]⟩)) ?_
  simp only[aW];refine nL ?_;refine aA ?_;intro e z h;have h:=h.fn;have p:=aa (h.pk 4 [2,3,1]);clear h N
  go_wp2_with fail
  go_ret
  exact⟨rfl,p⟩
 ·rw[iP Y]
  have l:(a.e !=0)=true:=by simp[Y]
  go_enter func64,ntmps64
  go_wp2_with fail
  refine qK (uq B g b x bl wr S ⟨5,0,0,r,0,t,0⟩ _ P X (.inr (.inr rfl)) J H) λz h=>?_;rw[XR,<-q.out]at h⊢;have h:St I z (ab B 55 (wC b)::ez b.gv a.s::ak ⟨x.id,{x.c with seq:=x.c.seq+1},x.p⟩ g bl wr::L):=h;have G:=h.alloc 158 (aN a.e a.v);have j:World.cell? _ ⟨z.heap.size,0,none⟩=some (iI a.e):=(G.ah 0 rfl).cell 0;have N:=aa G.tail;clear h G H
  exact ac8
theorem lu{I:aK}{L:List az}(g:Nat)(x:CX)(bl wr:List PU)(r:Int)(w:World)(h:St I w (ak x g bl wr::L)):
 Rt I w 22 #[.pointer (some ⟨g,4,none⟩),iI r] (iU (x.c.tok r)) (ak x g bl wr::L):=by
 obtain⟨v,u,Z⟩:=h.bB;refine qK (Sz x v u g r _ Z) λO G=>?_;exact⟨rfl,G.gV⟩
theorem BH{r:Int}(h:C.tok r≠0):0<=r/\r<4:=by
 unfold aY.tok at h
 split at h
 ·next R=>obtain⟨i,z,X⟩:=o8 R;omega
 ·exact absurd rfl h
theorem NH{I:aK}{L:List az}(B g:Nat)(b:WX)(x:CX)(bl wr:List PU)(S:gD)(o:eH)(D J:Value)(k:Int)(w:World)(W:da S x.c x.id k)(K:0<=x.id)(M:x.id<3)(Q:k<4294967295)(q:x.c.a9=false->x.c.tok o.r=0)(R:0<=x.c.tok o.r/\x.c.tok o.r<18446744073709551616)
 (h:St I w (ab B 55 (wC b)::ez b.gv S::ak x g bl wr::L)):
 Rt I w 37 #[pO B,pO g,.agg (dW o D J)] (.tuple #[sN,iI (eo S x.id x.c o.r).e]) (ab B 55 (wC b)::ez b.gv (eo S x.id x.c o.r).s::ak ⟨x.id,(eo S x.id x.c o.r).c,x.p⟩ g bl wr::L):=by
 have d:x.c.tok o.r≠0->(0<=o.r/\o.r<4)/\x.c.a9=true:=λX=>⟨BH X,by
  cases l:x.c.a9 with
  |true=>rfl
  |false=>exact absurd (q l) X⟩
 refine iG W (And.intro K (And.intro M (And.intro Q R))) d λG i r=>?_;obtain⟨A0,E⟩:=nM (eo S x.id x.c o.r);rw[<-E];have a:=aa E;clear d E W K M Q q R;have Z:=h.alloc 30 (dW o D J);obtain⟨F,c⟩:=nM (w.heap.size);rw[<-c]at Z;refine bq c Z λt H=>?_;clear h Z c
 go_enter func37,ntmps37
 go_wp2_with fail
 rw[<-t.out];refine an (I:=I) (L0:=ab B 55 (wC b)::ez b.gv S::L) [⟨none,none,λe=>ab F 30 (dW o D J)⟩,⟨none,some 5,λe=>ak x g bl wr⟩,⟨some 5,none,λe=>ak x g bl wr⟩] [[],[0],[0,1],[],[3],rG 5,rG 6] (rG 7) rfl kR kR kR (by rfl) (λ_=>rfl) H.fk ?_;refine sW ?_;refine bp 22 (λe=> #[.pointer (some ⟨g,4,none⟩),iI o.r]) (λe=> iU (x.c.tok o.r)) rfl (λe wx n h=>by(
  have h:=h.fn;refine(lu g x bl wr o.r _ (h.fi 1)).mono ?_;rintro u wy⟨rfl,Z⟩;exact⟨⟨none,0,default⟩,rfl,Z.pk 2 [1,0]⟩)) ?_
 simp only[aW];refine nL ?_;refine aA ?_;intro e w1 h;have h:=h.fn;obtain⟨y,j,T,Y,O,P,p⟩:=(h.ah 0 rfl).seven;have N:=aa (h.pk 4 [2,3,1]);clear h H;by_cases A:x.c.tok o.r=0
 ·have U:=a.trans (iP A)
  rw[A];subst U;clear a
  exact adJ
 ·have z:(x.c.tok o.r==0)=false:=jM A
  have U:=a.trans (iN A);have V:=aa A;subst U;clear a A
  go_wp2_with fail
  refine qH (mW B g b x bl wr S o.r (x.c.tok o.r) k _ G i.1 i.2.1 i.2.2.1 (r V).2 (r V).1 i.2.2.2 N) λw2 C=>?_;clear N y j T Y O P p
  exact aez
theorem TC{I:aK}{L:List az}(B g:Nat)(x:CX)(bl wr:List PU)(o:eH)(D J:Value)(w:World)(E:o.n<=9223372036854775807)(h:St I w (ak x g bl wr::L)):
 Rt I w 35 #[pO B,pO g,.agg (dW o D J)] (.tuple #[sN,iI (if o.n<0 then 1 else 0)]) (ak ⟨x.id,if o.n<0 then x.c else{x.c with iZ:=IntKind.u64.wrap (x.c.iZ+o.n)},x.p⟩ g bl wr::L):=by
 by_cases W:o.n<0
 ·rw[iP W,iP W]
  have d1:decide (o.n<0)=true:=dZ W;have Z:=h.alloc 30 (dW o D J);obtain⟨q,c⟩:=nM (w.heap.size);obtain⟨l,y,T,Y,C,P,j⟩:=(Z.ah 0 rfl).seven;rw[<-c]at Z;refine bq c Z λt H=>?_;clear h Z c W E
  go_enter func35,ntmps35
  go_wp2_with fail
  go_ret2
  exact aeI
 ·rw[iN W,iN W]
  have d1:decide (o.n<0)=false:=dQ W;have K:IntKind.u64.wrap o.n=o.n:=IntWalk.u64_in _ oM;have Z:=h.alloc 30 (dW o D J);obtain⟨q,c⟩:=nM (w.heap.size);obtain⟨l,y,T,Y,C,P,j⟩:=(Z.ah 0 rfl).seven;rw[<-c]at Z;refine bq c Z λt H=>?_;clear h Z c W E
  go_enter func35,ntmps35
  go_wp2_with fail
  rw[<-t.out];clear l y T Y C P j;refine an (I:=I) (L0:=L) [⟨none,none,λe=>ab q 30 (dW o D J)⟩,⟨none,some 10,λe=>ak x g bl wr⟩,⟨some 10,none,λe=>ak ⟨x.id,{x.c with iZ:=IntKind.u64.wrap (x.c.iZ+o.n)},x.p⟩ g bl wr⟩] [[],[0],[0,1],rG 3,[],[4],[4,5],rG 7,rG 8,rG 9,rG 10] (rG 11) rfl kR kR kR (by rfl) (λ_=>rfl) H.fk ?_;refine Cn ?_;refine mH _ rfl (λe p O h=>by(have h:=h.fn;obtain⟨l,y,T,Y,C,P,j⟩:=(h.ah 0 rfl).seven;obtain⟨v,u,A⟩:=(h.fi 1).bB;have G:p.cell? (aD g 1)=some (.bool x.c.a9):=(A.ah 0 rfl).cell 1;have i:p.cell? (aD g 3)=some (iU x.c.iZ):=(A.ah 0 rfl).cell 3;go_simp;try rfl)) ?_;simp only[aW];refine nL ?_;refine mH _ rfl (λe p O h=>by(have h:=h.fn;obtain⟨l,y,T,Y,C,P,j⟩:=(h.ah 0 rfl).seven;obtain⟨v,u,A⟩:=(h.fi 1).bB;have G:p.cell? (aD g 1)=some (.bool x.c.a9):=(A.ah 0 rfl).cell 1;have i:p.cell? (aD g 3)=some (iU x.c.iZ):=(A.ah 0 rfl).cell 3;go_simp;try rfl)) ?_;simp only[aW];refine Ed ?_;refine lM (λe=> .pointer (some ⟨g,3,none⟩)) (λe=> iU (IntKind.u64.wrap (x.c.iZ+o.n))) rfl rfl (λe p O h=>by(
   have h:=h.fn;obtain⟨v,u,A⟩:=(h.fi 1).bB;have G:p.cell? (aD g 1)=some (.bool x.c.a9):=(A.ah 0 rfl).cell 1;have i:p.cell? (aD g 3)=some (iU x.c.iZ):=(A.ah 0 rfl).cell 3;have n:=(A.ah 0 rfl).frozen;have V:=St.dN (x':=⟨x.id,{x.c with iZ:=IntKind.u64.wrap (x.c.iZ+o.n)},x.p⟩) (h.front (X:=ak x g bl wr)) 3 (iU (IntKind.u64.wrap (x.c.iZ+o.n))) (λ_ _=>rfl);exact⟨_,gS,V.fk⟩)) ?_
  simp only[Act.put];refine aA ?_;intro e z h;have h:=h.fn;have N:=aa (h.pk 1 []);clear h H
  exact adJ
theorem Fk{P:Program}{a:Act}{o:Oper}{w:World}{v J x:Value}{t:TypeId}{M G:Nat}{C D:Operand}(X:o.op= .build t #[(M,C),(G,D)])(K:a.eval C=J)(Z:a.eval D=x)
 (h:(Instr.build t #[(M,J),(G,x)]).run P w= .ok v w):(execOp a.eval o).run P w= .ok (.value v) w:=by
 unfold execOp;simp only[X,K,Z,CB,nG,zF,Sem.run_bind,Sem.run_pure,Result.andThen_ok,h]
theorem Cz(i k:Int)(w:World):(Instr.build 75 #[(0,iI i),(3,iU k)]).run prog w= .ok (.agg (cH ⟨i,aY.zero k,λ_=> sN⟩ sN sN)) w:=kR
theorem OQ:(prog.info? 75).map (·.size)=some 42:=kR
theorem Ul(i k:Int):∀u∈(cH ⟨i,aY.zero k,λ_=> sN⟩ sN sN).toList,u.oneCell'=true:=by
 have h:(cH ⟨i,aY.zero k,λ_=> sN⟩ sN sN).toList.all (λu=>u.oneCell')=true:=rfl;exact AR.1 h
theorem Vu{I:aK}{L:List az}(B g:Nat)(x:CX)(bl wr:List PU)(o:eH)(D J:Value)(w:World)(h:St I w (ak x g bl wr::L)):
 Rt I w 42 #[pO B,pO g,.agg (dW o D J)] (.tuple #[sN,iI 0]) (ak ⟨x.id,aY.zero x.c.iZ,λ_=> sN⟩ g [] []::L):=by
 have G:=Cz;have Z:=h.alloc 30 (dW o D J);obtain⟨q,c⟩:=nM (w.heap.size);obtain⟨l,y,T,Y,C,b,j⟩:=(Z.ah 0 rfl).seven;rw[<-c]at Z;refine bq c Z λt H=>?_;clear h Z c
 go_enter func42,ntmps42
 go_wp2_with fail
 rw[<-t.out];clear l y T Y C b j;refine an (I:=I) (L0:=L) [⟨none,some 11,λe=>ak x g bl wr⟩,⟨some 11,none,λe=>ak ⟨x.id,aY.zero x.c.iZ,λ_=> sN⟩ g [] []⟩] [[],[],[1],[1,2],[1,2,3],[],[5],[5,6],[5,6,7],[1,2,3,4,5,6,7,8],rG 10,rG 11] (rG 12) rfl kR kR kR (by rfl) (λ_=>rfl) H.fk ?_;refine Ed ?_;refine mH _ rfl (λe p O h=>by(have h:=h.fn;obtain⟨v,u,A⟩:=(h.fi 0).bB;have M:p.cell? (aD g 0)=some (iI x.id):=(A.ah 0 rfl).cell 0;have i:p.cell? (aD g 3)=some (iU x.c.iZ):=(A.ah 0 rfl).cell 3;go_simp;try rfl)) ?_;simp only[aW];refine Cn ?_;refine mH _ rfl (λe p O h=>by(have h:=h.fn;obtain⟨v,u,A⟩:=(h.fi 0).bB;have M:p.cell? (aD g 0)=some (iI x.id):=(A.ah 0 rfl).cell 0;have i:p.cell? (aD g 3)=some (iU x.c.iZ):=(A.ah 0 rfl).cell 3;go_simp;try rfl)) ?_;simp only[aW];refine mH (λe=> .agg (cH ⟨x.id,aY.zero x.c.iZ,λ_=> sN⟩ sN sN)) rfl (λe p O h=>by(exact Fk rfl rfl rfl (Cz x.id x.c.iZ p))) ?_;simp only[aW];refine nL ?_;refine lM (λe=> pO g) (λe=> .agg (cH ⟨x.id,aY.zero x.c.iZ,λ_=> sN⟩ sN sN)) rfl rfl (λe p O h=>by(
  have h:=h.fn;obtain⟨v,u,A⟩:=(h.fi 0).bB;have M:p.cell? (aD g 0)=some (iI x.id):=(A.ah 0 rfl).cell 0;have i:p.cell? (aD g 3)=some (iU x.c.iZ):=(A.ah 0 rfl).cell 3;obtain⟨R,U,V⟩:=A.storeAll (P:=prog) (cH ⟨x.id,aY.zero x.c.iZ,λ_=> sN⟩ sN sN) OQ rfl (Ul x.id x.c.iZ);have V:=St.gV (cx:=⟨x.id,aY.zero x.c.iZ,λ_=> sN⟩) ((V.eU 213 3 bV).eU 213 3 bV|>.pk 3 [2,0,1]);exact⟨_,U,V.fk⟩)) ?_
 simp only[Act.put];refine aA ?_;intro e z h;have h:=h.fn;have N:=aa (h.pk 0 []);clear h H
 exact adJ
theorem PG{I:aK}{L:List az}(B g:Nat)(x:CX)(o:eH)(a:OA)(t j:Nat)(J:Value)(w:World)(U:x.c.bl.length<=1000000)(C:x.c.wr.length<=1000000)(K:∀y∈x.c.wr,y.data.length<=1000000)(h:St I w (ai .u8 (.slice a t j) o.b::ak x g x.c.bl x.c.wr::L)):
 Rt I w 38 #[pO B,pO g,.agg (dW o (.slice a t j) J)] (.tuple #[sN,iI (dj x.c o.r o.i o.b).2]) (ak ⟨x.id,(dj x.c o.r o.i o.b).1,x.p⟩ g (dj x.c o.r o.i o.b).1.bl (dj x.c o.r o.i o.b).1.wr::L):=by
 obtain⟨D,d⟩:=nM (Value.slice a t j);by_cases Y:x.c.eI o.r o.i=0
 ·have E:dj x.c o.r o.i o.b=({x.c with bl:=ya x.c.bl x.c.wr ⟨o.r,o.i,o.b⟩,wr:=Az x.c.bl x.c.wr ⟨o.r,o.i,o.b⟩},Dy x.c.bl x.c.wr ⟨o.r,o.i,o.b⟩):=iN (by simp[Y])
  rw[E];refine bq Y (And.intro U (And.intro C K)) λA p=>?_;rw[<-d]at h⊢;have n:=aa d;clear E Y U C K d;have Z:=h.alloc 30 (dW o D J);obtain⟨q,c⟩:=nM (w.heap.size);obtain⟨l,P,T,i,b,r,W⟩:=(Z.ah 0 rfl).seven;rw[<-c]at Z;refine bq c Z λQ H=>?_;clear h Z c
  go_enter func38,ntmps38
  go_wp2_with fail
  rw[<-Q.out];refine qK (sM B g x x.c.bl x.c.wr o D J _ (H.fi 2)) λz h=>?_;rw[A.out];have F:=aa h;clear h H l P T i b r W
  go_wp2_with fail
  refine an (I:=I) (L0:=L) [⟨none,none,λe=>ab q 30 (dW o D J)⟩,⟨none,some 10,λe=>ai .u8 D o.b⟩,⟨none,some 10,λe=>ak x g x.c.bl x.c.wr⟩,⟨some 10,none,λe=>ak x g (ya x.c.bl x.c.wr ⟨o.r,o.i,o.b⟩) (Az x.c.bl x.c.wr ⟨o.r,o.i,o.b⟩)⟩] [[],[0],[0,1],[],[3],[],[5],[3,4,5,6],[],[8],rG 10,rG 11,rG 12] (rG 13) rfl kR kR kR (by rfl) (λ_=>rfl) F.fk ?_;refine PP ?_;refine bp 66 (λe=> #[.pointer (some ⟨g,20,none⟩),.agg #[iI o.r,iI o.i],D]) (λe=> iI (Dy x.c.bl x.c.wr ⟨o.r,o.i,o.b⟩)) rfl (λe R O h=>by(
   have h:=h.fn;refine((n.out▸LX g x.c.bl x.c.wr o.r o.i a t j o.b R p.1 p.2.1 p.2.2 (n.out▸h.sub (L':=ai .u8 D o.b::ak x g x.c.bl x.c.wr::ab q 30 (dW o D J)::O)))).mono ?_;rintro u X⟨rfl,Z⟩;exact⟨⟨none,0,default⟩,rfl,Z.pk 2 [1,0]⟩)) ?_
  simp only[aW];refine xQ ?_;refine aA ?_;intro e z h;have h:=h.fn;have N:Hid (St I z (ak ⟨x.id,{x.c with bl:=ya x.c.bl x.c.wr ⟨o.r,o.i,o.b⟩,wr:=Az x.c.bl x.c.wr ⟨o.r,o.i,o.b⟩},x.p⟩ g (ya x.c.bl x.c.wr ⟨o.r,o.i,o.b⟩) (Az x.c.bl x.c.wr ⟨o.r,o.i,o.b⟩)::L)):=h.pk 1 [];clear h F
  exact adJ
 ·have E:dj x.c o.r o.i o.b=(x.c,x.c.eI o.r o.i):=iP Y
  rw[E];obtain⟨V,G⟩:=nM (x.c.eI o.r o.i);have S:(V !=0)=true:=by rw[G];simp[Y]
  rw[<-G];have k:=aa G;rw[<-d]at h⊢;clear E Y U C K d G;have Z:=h.alloc 30 (dW o D J);obtain⟨q,c⟩:=nM (w.heap.size);obtain⟨l,P,T,i,b,r,W⟩:=(Z.ah 0 rfl).seven;rw[<-c]at Z;refine bq c Z λQ H=>?_;clear h Z c
  go_enter func38,ntmps38
  go_wp2_with fail
  rw[<-Q.out];refine qK (sM B g x x.c.bl x.c.wr o D J _ (H.fi 2)) λz h=>?_;rw[<-k.out];have F:=aa (h.pk 3 [0]);clear h H l P T i b r W
  go_wp2_with fail
  go_ret2
  exact⟨rfl,F⟩
theorem KP(C:aY)(r:Int):(C.gone r).bl=C.bl/\(C.gone r).wr=C.wr:=by
 unfold aY.gone
 split<;>exact⟨rfl,rfl⟩
theorem NX(i:Int)(p:Nat->Value)(g:Nat)(C:aY)(r:Int):ak ⟨i,C.gone r,p⟩ g (C.bl.filter (λy=> !ao r y)) (C.wr.filter (λy=> !ao r y))=ak ⟨i,(C.gone r).drop r,p⟩ g ((C.gone r).drop r).bl ((C.gone r).drop r).wr:=by
 show _=ak ⟨i,C.gone r,p⟩ g ((C.gone r).bl.filter (λy=> !ao r y)) ((C.gone r).wr.filter (λy=> !ao r y));rw[(KP C r).1,(KP C r).2]
theorem NP{I:aK}{L:List az}(B g:Nat)(b:WX)(x:CX)(S:gD)(o:eH)(D J:Value)(k:Int)(w:World)(V:da S x.c x.id k)(K:0<=x.id)(M:x.id<3)(Q:k<4294967295)(X:x.c.a9=false->x.c.tok o.r=0)(ht:0<=x.c.tok o.r/\x.c.tok o.r<18446744073709551616)
 (F:x.c.wr.length<=1000000) (p:∀y∈x.c.wr,y.data.length<=1000000) (h:St I w (ab B 55 (wC b)::ez b.gv S::ak x g x.c.bl x.c.wr::L)):
 Rt I w 41 #[pO B,pO g,.agg (dW o D J)] (.tuple #[sN,iI (ie S x.id x.c o.r).e]) (ab B 55 (wC b)::ez b.gv (ie S x.id x.c o.r).s::ak ⟨x.id,(ie S x.id x.c o.r).c,x.p⟩ g (ie S x.id x.c o.r).c.bl (ie S x.id x.c o.r).c.wr::L):=by
 by_cases A:x.c.tok o.r=0
 ·have E:ie S x.id x.c o.r=⟨S,x.c,110⟩:=iP A
  rw[E];have HZ:=aa A;clear E A V K M Q X ht F p;have Z:=h.alloc 30 (dW o D J);obtain⟨q,c⟩:=nM (w.heap.size);obtain⟨l,j,T,Y,C,P,W⟩:=(Z.ah 0 rfl).seven;rw[<-c]at Z;refine bq c Z λn H=>?_;clear h Z c
  go_enter func41,ntmps41
  go_wp2_with fail
  rw[<-n.out];clear l j T Y C P W;refine an (I:=I) (L0:=ab B 55 (wC b)::ez b.gv S::L) [⟨none,none,λe=>ab q 30 (dW o D J)⟩,⟨none,some 5,λe=>ak x g x.c.bl x.c.wr⟩,⟨some 5,none,λe=>ak x g x.c.bl x.c.wr⟩] [[],[0],[0,1],[],[3],rG 5,rG 6] (rG 7) rfl kR kR kR (by rfl) (λ_=>rfl) H.fk ?_;refine sW ?_;refine bp 22 (λe=> #[.pointer (some ⟨g,4,none⟩),iI o.r]) (λe=> iU (x.c.tok o.r)) rfl (λe wx O h=>by(
   have h:=h.fn;refine(lu g x x.c.bl x.c.wr o.r _ (h.fi 1)).mono ?_;rintro u wy⟨rfl,Z⟩;exact⟨⟨none,0,default⟩,rfl,Z.pk 2 [1,0]⟩)) ?_
  simp only[aW];refine nL ?_;refine aA ?_;intro e z h;have h:=h.fn;rw[HZ.out];have N:=aa (h.pk 4 [2,3,1]);clear h H
  exact adJ
 ·have d:(0<=o.r/\o.r<4)/\x.c.a9=true:=⟨BH A,by
   cases hh:x.c.a9 with
   |true=>rfl
   |false=>exact absurd (X hh) A⟩
  have C0:=V.ok K M Q;have A0:=CG V K M Q (o:=4) (r:=o.r) (m:=0) (t:=x.c.tok o.r) ⟨dC,dC⟩ d.1 ⟨dC,dC⟩ ht;have B0:=V.next d.2 Q 4 o.r 0 (x.c.tok o.r) 0;have hq:dP x.c.seq=x.c.seq+1:=zO V.Ke (by have:=V.Lq;omega);obtain⟨a,U⟩:=nM (S.apply ⟨4,x.id,x.c.seq+1,o.r,0,x.c.tok o.r,0⟩);have E:ie S x.id x.c o.r=⟨a.s,(({x.c with seq:=x.c.seq+1}:aY).gone o.r).drop o.r,a.e⟩:=by
   refine(iN A).trans ?_;rw[U,<-hq]
  rw[E];refine AS C0 A0 B0 U (And.intro F p) λG0 D0 F0 HA HL=>?_;have e1:(x.c.tok o.r==0)=false:=jM A;clear E A V K M Q X ht F p d C0 A0 B0 hq U;have Z:=h.alloc 30 (dW o D J);obtain⟨q,c⟩:=nM (w.heap.size);obtain⟨l,j,T,Y,C,P,W⟩:=(Z.ah 0 rfl).seven;rw[<-c]at Z;refine bq c Z λn H=>?_;clear h Z c
  go_enter func41,ntmps41
  go_wp2_with fail
  rw[<-n.out];clear l j T Y C P W;refine an (I:=I) (L0:=ab B 55 (wC b)::ez b.gv S::L) [⟨none,none,λe=>ab q 30 (dW o D J)⟩,⟨none,some 5,λe=>ak x g x.c.bl x.c.wr⟩,⟨some 5,none,λe=>ak x g x.c.bl x.c.wr⟩] [[],[0],[0,1],[],[3],rG 5,rG 6] (rG 7) rfl kR kR kR (by rfl) (λ_=>rfl) H.fk ?_;refine sW ?_;refine bp 22 (λe=> #[.pointer (some ⟨g,4,none⟩),iI o.r]) (λe=> iU (x.c.tok o.r)) rfl (λe wx O h=>by(
   have h:=h.fn;refine(lu g x x.c.bl x.c.wr o.r _ (h.fi 1)).mono ?_;rintro u wy⟨rfl,Z⟩;exact⟨⟨none,0,default⟩,rfl,Z.pk 2 [1,0]⟩)) ?_
  simp only[aW];refine nL ?_;refine aA ?_;intro e z h;have h:=h.fn;obtain⟨l,j,T,Y,C,P,W⟩:=(h.ah 0 rfl).seven;have H1:=aa (h.pk 4 [2,3,1,0]);clear h H
  go_wp2_with fail
  refine qK (uq B g b x x.c.bl x.c.wr S ⟨4,0,0,o.r,0,x.c.tok o.r,0⟩ _ G0 D0 (.inr (.inl rfl)) F0 H1) λz h=>?_;rw[aaC,<-HA.out]at h⊢;have h:St I z (ab B 55 (wC b)::ez b.gv a.s::ak ⟨x.id,({x.c with seq:=x.c.seq+1}:aY),x.p⟩ g x.c.bl x.c.wr::ab q 30 (dW o D J)::L):=h;have G:=h.alloc 158 (aN a.e a.v);obtain⟨i,R⟩:=nM (z.heap.size);rw[<-R]at G;refine bq R G λE0 N=>?_;clear h G H1 R l j T Y C P W
  go_wp2_with fail
  rw[<-E0.out];refine an (I:=I) (L0:=ab i 158 (aN a.e a.v)::ab B 55 (wC b)::ez b.gv a.s::L) [⟨none,none,λe=>ab q 30 (dW o D J)⟩,⟨none,some 5,λe=>ak ⟨x.id,({x.c with seq:=x.c.seq+1}:aY),x.p⟩ g x.c.bl x.c.wr⟩,⟨some 5,none,λe=>ak ⟨x.id,({x.c with seq:=x.c.seq+1}:aY).gone o.r,x.p⟩ g x.c.bl x.c.wr⟩] [[],[0],[0,1],[],[3],rG 5] (rG 6) rfl kR kR kR (by rfl) (λ_=>rfl) N.fk ?_;refine sW ?_;refine bp 74 (λe=> #[.pointer (some ⟨g,4,none⟩),iI o.r]) (λe=> .tuple #[]) rfl (λe wx O h=>by(
   have h:=h.fn;refine(SA g ⟨x.id,({x.c with seq:=x.c.seq+1}:aY),x.p⟩ x.c.bl x.c.wr o.r _ (h.fi 1)).mono ?_;rintro u wy⟨rfl,Z⟩;exact⟨⟨none,0,default⟩,rfl,Z.pk 2 [1,0]⟩)) ?_
  simp only[aW];refine aA ?_;intro e z h;have h:=h.fn;have H3:=aa h;clear h N
  go_wp2_with fail
  refine an (I:=I) (L0:=ab i 158 (aN a.e a.v)::ab B 55 (wC b)::ez b.gv a.s::L) [⟨none,none,λe=>ab q 30 (dW o D J)⟩,⟨none,some 5,λe=>ak ⟨x.id,({x.c with seq:=x.c.seq+1}:aY).gone o.r,x.p⟩ g x.c.bl x.c.wr⟩,⟨some 5,none,λe=>ak ⟨x.id,({x.c with seq:=x.c.seq+1}:aY).gone o.r,x.p⟩ g (x.c.bl.filter (λy=> !ao o.r y)) (x.c.wr.filter (λy=> !ao o.r y))⟩] [[],[0],[0,1],[],[3],rG 5] (rG 6) rfl kR kR kR (by rfl) (λ_=>rfl) H3.fk ?_;refine sW ?_;refine bp 63 (λe=> #[.pointer (some ⟨g,20,none⟩),iI o.r]) (λe=>(e 5).v) rfl (λe wx O h=>by(
   have h:=h.fn;refine(DF (cx:=⟨x.id,({x.c with seq:=x.c.seq+1}:aY).gone o.r,x.p⟩) g x.c.bl x.c.wr o.r _ HL.1 HL.2 (h.fi 1)).mono ?_;rintro u wy⟨v6,rfl,Z⟩;exact⟨⟨none,0,v6⟩,rfl,Z.pk 3 [2,1]⟩)) ?_
  simp only[aW];refine aA ?_;intro e z h;have h:=h.fn;have y0:z.cell? (aD i 0)=some (iI a.e):=(h.ah 2 rfl).cell 0;have H4:=aa (h.pk 5 [3,4,1]);clear h H3
  go_wp2_with (go_quiet (fail))
  go_ret2
  refine⟨rfl,?_⟩;rw[<-NX x.id x.p g ({x.c with seq:=x.c.seq+1}:aY) o.r];exact H4.drewN nq
theorem Nf(a b:Int)(w:World):(Instr.field 158 (.agg #[iI a,iU b]) 0).run prog w= .ok (iI a) w:=kR
theorem Py(g _ M:Nat)(w:World)(h:w.cell? (aD g 1)=some (pO M)):Calls prog 59 #[pO g] w λe O=>e= .returned (pO M)/\O=w:=by
 go_enter func59,ntmps59
 exact afs
def tmC(S:gD)(n:Int):dH:=⟨7,0,0,0,0,0,IntKind.u64.wrap (S.be.now+n)⟩
theorem wrap_u64(n:Int):0<=IntKind.u64.wrap n/\IntKind.u64.wrap n<18446744073709551616:=by
 unfold IntKind.wrap;simp[IntKind.bits,IntKind.signed];omega
theorem Vz{I:aK}{L:List az}(B g:Nat)(b:WX)(S:gD)(o:eH)(D J:Value)(w:World)(V:bD S.be)(C:S.a9.length<=1000)(j:o.n<=9223372036854775807)(h:St I w (ab B 55 (wC b)::ez b.gv S::L)):
 Rt I w 34 #[pO B,pO g,.agg (dW o D J)] (.tuple #[sN,iI (if o.n<0 then 1 else 0)]) (ab B 55 (wC b)::ez b.gv (if o.n<0 then S else(S.apply (tmC S o.n)).s)::L):=by
 by_cases W:o.n<0
 ·rw[iP W,iP W]
  have d1:decide (o.n<0)=true:=dZ W;have Z:=h.alloc 30 (dW o D J);obtain⟨q,c⟩:=nM (w.heap.size);obtain⟨y,R,T,Y,r,X,k⟩:=(Z.ah 0 rfl).seven;rw[<-c]at Z;refine bq c Z λt H=>?_;clear h Z c W j V C
  go_enter func34,ntmps34
  go_wp2_with fail
  go_ret2
  exact aeI
 ·rw[iN W,iN W]
  have d1:decide (o.n<0)=false:=dQ W;have wn:IntKind.u64.wrap o.n=o.n:=IntWalk.u64_in _ oM;obtain⟨a,d⟩:=nM (IntKind.u64.wrap (S.be.now+o.n));have n:=wrap_u64 (S.be.now+o.n);rw[show tmC S o.n=⟨7,0,0,0,0,0,a⟩by rw[d];rfl];rw[<-d]at n;have wt:=d.symm;have p:=aa (show(dH.mk 7 0 0 0 0 0 a).ok from⟨⟨by show(1:Int)<=7;decide,by show(7:Int)<=7;decide⟩,⟨cO 0,by show(0:Int)<=255;decide⟩,⟨cO 0,by show(0:Int)<=255;decide⟩,⟨cO 0,by show(0:Int)<=255;decide⟩,⟨cO 0,by show(0:Int)<4294967296;decide⟩,⟨cO 0,by show(0:Int)<18446744073709551616;decide⟩,n⟩);have G:=aa (And.intro V C);have x:=aa (show(S.apply (dH.mk 7 0 0 0 0 0 a)).e=0 by unfold gD.apply;rw[iP rfl]);have A:=Nf;have Z:=h.alloc 30 (dW o D J);obtain⟨q,c⟩:=nM (w.heap.size);obtain⟨y,R,T,Y,r,X,k⟩:=(Z.ah 0 rfl).seven;rw[<-c]at Z;refine bq c Z λt H=>?_;clear h Z c W j V C d n
  go_enter func34,ntmps34
  go_wp2_with fail
  rw[<-t.out];clear y R T Y r X k;obtain⟨E,M,U⟩:=(H.fi 2).UF;have H:=aa U;clear U;refine an (I:=I) (L0:=eZ E S.a9::L) [⟨none,none,λe=>ab q 30 (dW o D J)⟩,⟨none,none,λe=>ab B 55 (wC b)⟩,⟨none,none,λe=>ab b.gv 113 (fX E M)⟩,⟨none,some 5,λe=>bX M S.be⟩,⟨some 5,none,λe=>bX M S.be⟩,⟨some 11,none,λe=>ai .u8 (.slice (e 11).A (mL (dH.mk 7 0 0 0 0 0 a)).length (e 11).n) (mL (dH.mk 7 0 0 0 0 0 a))⟩] [[],[0],[0,1],rG 3,rG 4,rG 5,[],[6],[6,7],rG 9,rG 10,rG 11,rG 12,rG 13,rG 13,rG 14,rG 16] (rG 17) rfl kR kR kR (by rfl) (λ_=>rfl) H.fk ?_;refine Ed ?_;refine bp 59 (λe=> #[pO b.gv]) (λe=> pO M) rfl (λe l O h=>by(
   have h:=h.fn;refine(Py b.gv E M _ ((h.ah 2 rfl).cell 1)).mono ?_;rintro u P⟨rfl,rfl⟩;exact⟨⟨none,0,default⟩,rfl,h.pk 0 []⟩)) ?_
  simp only[aW];refine bp 60 (λe=> #[pO M]) (λe=> iU S.be.now) rfl (λe l O h=>by(
   have h:=h.fn;refine(KN M S.be _ (h.fi 3)).mono ?_;rintro u P⟨rfl,Z⟩;exact⟨⟨none,0,default⟩,rfl,Z.pk 4 [1,2,3,0]⟩)) ?_
  simp only[aW];refine sW ?_;refine bp 58 (λe=> #[.agg (dV (dH.mk 7 0 0 0 0 0 a))]) (λe=> .tuple #[.slice (e 11).A (mL (dH.mk 7 0 0 0 0 0 a)).length (e 11).n,iI 0]) rfl (λe l O h=>by(
   have h:=h.fn;refine(DX (dH.mk 7 0 0 0 0 0 a) _ p h).mono ?_;rintro u P⟨N,i,rfl,Z⟩;exact⟨⟨N,i,default⟩,rfl,Z.pk 5 [1,2,3,4,0]⟩)) ?_
  simp only[aW];refine sW ?_;refine aA ?_;intro e z h;have h:=h.fn;have F:Hid (St I z (ai .u8 (.slice (e 11).A (mL (dH.mk 7 0 0 0 0 0 a)).length (e 11).n) (mL (dH.mk 7 0 0 0 0 0 a))::ez b.gv S::ab B 55 (wC b)::L)):=((h.pk 6 [2,5,3,4,1]).RW).swap;have Q:z.cell? (aD B 0)=some (pO b.gv):=(h.ah 1 rfl).cell 0;clear h H
  go_wp2_with fail
  generalize(e 11).A=N at F⊢;generalize(e 11).n=i at F⊢;refine qK (vF b.gv S (dH.mk 7 0 0 0 0 0 a) N _ i _ p G.1 ⟨cO 0,(by decide:(0:Int)<16)⟩ G.2 (λh=>absurd (show(7:Int)=3\/(7:Int)=4\/(7:Int)=5 from h) dC) rfl F) λw2 h=>?_;rw[x.out];have K:=aa h.swap;clear h F
  go_wp2_with fail
  go_ret2
  exact⟨rfl,K⟩
end Go.Proofs.YtblpaldggenbaaaGreatDoor
