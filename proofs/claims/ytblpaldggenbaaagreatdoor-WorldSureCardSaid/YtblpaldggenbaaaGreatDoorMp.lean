/- A part. -/
import Derived.Test.YtblpaldggenbaaaGreatDoorMn
namespace Go.Proofs.YtblpaldggenbaaaGreatDoor
open Go.RowKit Go.Proofs.Tryz
set_option maxRecDepth 100000
set_option maxHeartbeats 64000000
variable{L:List az}{I:aK}{m:Nat->Rg}{r:RQ}{w:World}
theorem eK.SV{b:Nat}{t:TypeId}{q u y V P n a z e X:Value}(h:eK w b t #[q,u,y,V,P,n,a,z,e,X]):
 w.cell? (aD b 0)=some q/\w.cell? (aD b 1)=some u/\w.cell? (aD b 2)=some y/\w.cell? (aD b 3)=some V/\w.cell? (aD b 4)=some P/\w.cell? (aD b 5)=some n/\w.cell? (aD b 6)=some a/\w.cell? (aD b 7)=some z/\w.cell? (aD b 8)=some e/\w.cell? (aD b 9)=some X:=
 ⟨h.cell 0,h.cell 1,h.cell 2,h.cell 3,h.cell 4,h.cell 5,h.cell 6,h.cell 7,h.cell 8,h.cell 9⟩
abbrev iC(k f t i:Int)(ok:Bool)(v:Value):Vq:= #[iI k,iI f,iI t,iU 0,iU i,iU 0,iU 0,.bool ok,v,sN]
abbrev wh(k f t i:Int)(ok:Bool)(v:Value):Value:= .agg (iC k f t i ok v)
theorem St.Ra{g:Nat}{l:TypeId}{J x b k j i a d H c:Value}(h:St I w (ab g l #[J,x,b,k,j,i,a,d,H,c]::L))(q u y V P n X z e N:Value):
 St I ((((((((((w.setCell ⟨g,0,none⟩ q).setCell ⟨g,1,none⟩ u).setCell ⟨g,2,none⟩ y).setCell ⟨g,3,none⟩ V).setCell ⟨g,4,none⟩ P).setCell ⟨g,5,none⟩ n).setCell ⟨g,6,none⟩ X).setCell ⟨g,7,none⟩ z).setCell ⟨g,8,none⟩ e).setCell ⟨g,9,none⟩ N) (ab g l #[q,u,y,V,P,n,X,z,e,N]::L):=by
 have K:St I _ (ab g l #[q,x,b,k,j,i,a,d,H,c]::L):=h.bE 0 q;have Z:St I _ (ab g l #[q,u,b,k,j,i,a,d,H,c]::L):=K.bE 1 u;have G:St I _ (ab g l #[q,u,y,k,j,i,a,d,H,c]::L):=Z.bE 2 y;have M:St I _ (ab g l #[q,u,y,V,j,i,a,d,H,c]::L):=G.bE 3 V;have S:St I _ (ab g l #[q,u,y,V,P,i,a,d,H,c]::L):=M.bE 4 P;have U:St I _ (ab g l #[q,u,y,V,P,n,a,d,H,c]::L):=S.bE 5 n;have Q:St I _ (ab g l #[q,u,y,V,P,n,X,d,H,c]::L):=U.bE 6 X;have Y:St I _ (ab g l #[q,u,y,V,P,n,X,z,H,c]::L):=Q.bE 7 z;have W:St I _ (ab g l #[q,u,y,V,P,n,X,z,e,c]::L):=Y.bE 8 e;have p:St I _ (ab g l #[q,u,y,V,P,n,X,z,e,N]::L):=W.bE 9 N;exact p
theorem Ws(f t i:Int)(r:RQ)(A:OA)(n c:Nat)(w:World)(U:r.ok)(M:r.b9=0)(h:St I w (ai .u8 (.slice A n c) r.data::L)):
 Calls prog 109 #[iI f,iI t,iU i,nv r (.slice A n c)] w λe O=>∃P R,e= .returned (.tuple #[wh 11 f t i false (.slice P (aZ r).length R),iI 0])/\St I O (ai .u8 (.slice P (aZ r).length R) (aZ r)::L):=by
 have Z:=(h.alloc 175 #[iI r.op,iI r.region,iI r.index,iU r.token,iW r.seq,.slice A n c]).alloc 184 (iC 0 0 0 0 false sN);simp only[World.size_alloc]at Z;obtain⟨S,C,Y,d,g,b⟩:=(Z.ah 1 rfl).ng;refine iG (Z.pk 3 [2,0]) M U λH Q l=>?_;clear h Z M U
 go_enter func109,ntmps109
 go_wp2_with fail
 refine(wX r A n c _ l H).mono ?_;rintro e z⟨v,rfl,h⟩;rw[Q.out];obtain⟨P,R,rfl,_,_,_⟩:=h.get 0 rfl;have N:=aa h;obtain⟨y,j,T,D,X,V,K,z7,z8,z9⟩:=(h.ah 1 rfl).SV;have W:=(h.ah 1 rfl).frozen;clear h H S C Y d g b
 go_wp2_with fail
 have u:=N.swap.Ra (iI 11) (iI f) (iI t) (iU 0) (iU i) (iU 0) (iU 0) (.bool false) (.slice P (aZ r).length R) sN;obtain⟨o,a,G,J,x,E,F,p,q,B⟩:=(u.ah 0 rfl).SV;refine bodyPost_ret (v:= .tuple #[wh 11 f t i false (.slice P (aZ r).length R),iI 0]) (eX (fn:=Tryz.f109) (t:=8) (k:=9) (ty:=184) rfl _ rfl ?_) rfl ⟨P,R,rfl,u.tail⟩;go_simp
def kt(code:Int)(l:List (LI)):LI:=aV code 1++aV (l.length:Nat) 1++l.flatMap bG
theorem Pw(l:List (LI)){k:Nat}{x:LI}(h:l[k]? =some x):(l.take (k+1)).flatMap bG=(l.take k).flatMap bG++bG x:=by
 rw[JU,h];exact abN
theorem CQ:∀(l:List (LI)),(l.flatMap bG).length<=l.length*1002
 |[]=>by simp
 |x::r=>by
  have Z:=iJ x;have G:=CQ r;rw[BA,dB,qR];omega
theorem Nj(code:Int)(v:Value)(l:List (LI))(w:World)(hc:0<=code/\code<=1000)(C:l.length<=200)(h:St I w (aG 1 dG v l::L)):
 Calls prog 120 #[iI code,v] w λe O=>∃r P,e= .returned (.slice r (kt code l).length P)/\St I O (ai .u8 (.slice r (kt code l).length P) (kt code l)::L):=by
 obtain⟨A,c,rfl,A0,R⟩:=(h.eM 0 rfl).slice;obtain⟨n,W⟩:=nM (l.length);rw[<-W]at h A0 C⊢;have Z:=St.uv (xs:=[]) ((h.mq 5 1).alloc 83 #[sN]) rfl;refine iG Z W C λH b p=>?_;obtain⟨B,d⟩:=nM (w.heap.size);rw[<-d]at H;have y:=aa d;have w1:IntKind.u64.wrap code=code:=IntWalk.u64_in _ oM;have w2:IntKind.u64.wrap (n:Int)=(n:Int):=IntWalk.u64_in _ oM;clear h Z W C d
 go_enter func120,ntmps120
 go_wp2_with fail
 rw[<-y.out];refine qH (dk B code 1 [] _ abN H) λw3 K=>?_;clear H
 go_wp2_with fail
 refine qK (dk B (n:Int) 1 _ _ (by simp[bM,au]) K) λw4 h=>?_;have h:St I w4 (AQ B (aV code 1++aV (n:Nat) 1++(l.take 0).flatMap bG)::aG 1 dG (.slice A n c) l::L):=by
  have e:([]++bM code 1++bM (n:Int) 1)=aV code 1++aV (n:Nat) 1++(l.take 0).flatMap bG:=by
   rw[Hd,List.flatMap_nil,xd,zm]
   rfl
  rw[<-e];exact h
 have q:=aa h;clear h K
 go_wp2_with fail
 go_loopg [17] n (λu i wr=>∃k,u=n-k/\k<=n/\i= iI (k:Nat)/\St I wr (AQ B (aV code 1++aV (n:Nat) 1++(l.take k).flatMap bG)::aG 1 dG (.slice A n c) l::L))
 case atStart=>exact⟨0,rfl,oM,rfl,q⟩
 case round=>
  obtain⟨k,T,hk,rfl,h⟩:=hrel;have a:=aa T;clear T q;by_cases t:k<n
  ·have J:=g7 (l:=l) (i:=k) abO
   generalize l[k]' abO=x at J;obtain⟨Y,cs,rfl,_,g,⟨vb,rfl,E0⟩,Z⟩:=h.swap.elem 0 rfl J;obtain⟨r,P,rfl,R,B0,D0⟩:=E0;have k0:wr.cell? (Y.add k)=some (.slice r x.length P):=by simpa[Addr.add]using g 0 _ rfl
   have N:=aa (Pw l J);have M:=Z.bC (R':=λO=>ay O .u8 (.slice r x.length P) x) (λO z=>by obtain⟨_,v9,G,z⟩:=z;injection G with G _;rw[G];exact z);have F:=aa (M.pk 3 [2,0,1]);generalize C0:x.length=nx at*;have V:=aa (show(aV code 1++aV (n:Nat) 1++(l.take k).flatMap bG).length<=900000000 by
    have U:=CQ (l.take k);have h6:=b.out;have Q:=p.out;rw[fV]at U;simp only[dB,au];omega)
   clear J g h D0 Z M C0 R B0
   go_wp2_with fail
   refine qH (tF B _ x _ _ V F) λw5 S=>?_;clear F k0
   go_wp2_with fail
   go_roundg (n-(k+1))
   case measure=>exact adI
   case rel=>
    refine⟨k+1,rfl,oM,by go_num,?_⟩;rw[N.out,<-pI];exact S.sub
  ·obtain rfl:k=n:=oM
   have j:(l.take k).flatMap bG=l.flatMap bG:=by rw[oJ ab9]
   rw[j]at h;have E:=aa (show kt code l=aV code 1++aV (k:Nat) 1++l.flatMap bG by unfold kt;rw[<-b.out]);rw[<-E.out]at h;have V:=aa (show(kt code l).length<=1000000000 by
    have U:=CQ l;have h6:=b.out;have Q:=p.out;rw[E.out];simp only[dB,au];omega)
   have F:=aa h;clear h j hk t a E
   go_wp2_with fail
   refine(qu B _ _ V F).mono ?_;rintro e w6⟨v6,rfl,h⟩;have Q:=h.ints;obtain⟨X,D,rfl,_,_,_⟩:=Q.get 0 rfl;have o:=aa Q;clear h Q F
   go_wp2_with fail
   go_ret
   exact⟨X,D,rfl,o.sub⟩
theorem eK.three{b:Nat}{t:TypeId}{q u y:Value}(h:eK w b t #[q,u,y]):w.cell? (aD b 0)=some q/\w.cell? (aD b 1)=some u/\w.cell? (aD b 2)=some y:=⟨h.cell 0,h.cell 1,h.cell 2⟩
abbrev fR(S:Int)(j:Nat)(p:Value):Vq:= #[iI S,pO j,p]
theorem Qn(U:r.ok)(M:r.b9=0):nX (aZ r)=0/\pX (aZ r)=r:=by
 rw[show aZ r=wF r from iP M];exact xr U M
theorem Pc(u:kL I)(g E j W t P:Nat)(S:Int)(s:SM)(r:RQ)(A:OA)(n c:Nat)(w:World)(q:P<=700000)(N:Xr s 0 8 P)(U:r.ok)(B:Bytes r.data)(b:r.b9=0)
 (h:St I w (ai .u8 (.slice A n c) (aZ r)::ab g 122 (fR S j (pO E))::eJ E j W t 0 8 s L)):
 Calls prog 118 #[pO g,.slice A n c] w λe O=>∃Z,e= .returned (.tuple #[Z,iI (s.mB 0 8 r)])/\St I O (aG 1 dG Z (s.mu 0 8 r)::ab g 122 (fR S j (pO E))::eJ E j W t 0 8 (s.jX 0 8 r) L):=by
 obtain⟨J,K,R⟩:=(h.ah 1 rfl).three;refine bq h (Qn U b) λH l=>?_;have p:=aa (show(aZ r).length<=1000000 by have:=yz r;omega);refine iG B U N λV F Y=>?_;clear h B U N
 go_enter func118,ntmps118
 go_wp2_with fail
 refine(wg _ (aZ r) _ (nJ V) p H).mono ?_;rintro e T⟨a,o,y,rfl,h⟩;rw[l.out.1];rw[l.out.2]at h⊢;have G:=h.alloc 175 #[iI r.op,iI r.region,iI r.index,iU r.token,iW r.seq,.slice a o y];obtain⟨k,x⟩:=nM (T.heap.size);have D:=aa x;rw[<-x]at G;have C:=aa (G.sub (L':=ab g 122 (fR S j (pO E))::ab k 175 #[iI r.op,iI r.region,iI r.index,iU r.token,iW r.seq,.slice a o y]::ai .u8 (.slice a o y) r.data::ab E 151 (il j W t 0 8 s.dn)::jR W j s.J::dq t s.M::di j s.D::L) abP);clear h G H x J K R
 go_wp2_with fail
 rw[<-D.out];refine an (I:=I) (L0:=L) [⟨none,none,λe=>ab g 122 (fR S j (pO E))⟩,⟨none,none,λe=>ab k 175 #[iI r.op,iI r.region,iI r.index,iU r.token,iW r.seq,.slice a o y]⟩,⟨none,some 5,λe=>ai .u8 (.slice a o y) r.data⟩,⟨none,some 5,λe=>ab E 151 (il j W t 0 8 s.dn)⟩,⟨none,some 5,λe=>jR W j s.J⟩,⟨none,some 5,λe=>dq t s.M⟩,⟨none,some 5,λe=>di j s.D⟩,⟨some 5,none,λe=>ab E 151 (il j W t 0 8 (s.jX 0 8 r).dn)⟩,⟨some 5,none,λe=>jR W j (s.jX 0 8 r).J⟩,⟨some 5,none,λe=>dq t (s.jX 0 8 r).M⟩,⟨some 5,none,λe=>di j (s.jX 0 8 r).D⟩,⟨some 5,none,λe=>aG 1 dG (e 5).v (s.mu 0 8 r)⟩] [[],[0],[0,1],rG 3,[],rG 5,rG 6,rG 6,rG 8,rG 9] (rG 10) rfl kR kR kR (by rfl) (λ_=>rfl) C.fk ?_;refine sW ?_;refine bp 169 (λe=> #[pO E,nv r (.slice a o y)]) (λe=> .tuple #[(e 5).v,iI (s.mB 0 8 r)]) rfl (λe i M h=>by(
  have h:=h.fn;refine(Wv u E j W t P 0 8 s r a o y _ q Y F (nJ V) (yz r) (show St I i (ai .u8 (.slice a o y) r.data::eJ E j W t 0 8 s (ab g 122 (fR S j (pO E))::ab k 175 #[iI r.op,iI r.region,iI r.index,iU r.token,iW r.seq,.slice a o y]::M))from h.sub abP)).mono ?_;rintro A0 z⟨Z,rfl,G⟩;have Q:St I z (ab g 122 (fR S j (pO E))::ab k 175 #[iI r.op,iI r.region,iI r.index,iU r.token,iW r.seq,.slice a o y]::ab E 151 (il j W t 0 8 (s.jX 0 8 r).dn)::jR W j (s.jX 0 8 r).J::dq t (s.jX 0 8 r).M::di j (s.jX 0 8 r).D::aG 1 dG Z (s.mu 0 8 r)::M):=G.sub abP;exact⟨⟨none,0,Z⟩,rfl,Q⟩)) ?_
 simp only[aW];refine Ed ?_;refine aA ?_;intro e w1 h;have h:=h.fn;obtain⟨Z,d⟩:∃Z,(e 5).v=Z:=⟨_,rfl⟩;rw[d]at h;have X:=aa h;clear h
 go_wp2_with fail
 rw[d];clear d
 go_wp2_with fail
 go_ret2
 exact⟨Z,rfl,X.sub abP⟩
theorem SI(A:kL I)(j P:Nat)(S:Int)(D:DS)(w:World)(p:0<=S/\S<16)(C:dE D P)(q:P<=900000)(k:yK D 0 8)(h:St I w (di j D::L)):
 Calls prog 20 #[iI S,pO j] w λe O=>∃g E W t,e= .returned (.tuple #[pO g,iI 0])/\St I O (ab g 122 (fR S j (pO E))::eJ E j W t 0 8 ⟨mx D 0 8,lK D 0 8,j6 D 0 8,false⟩ L):=by
 have d1:decide (S<0)=false:=decide_eq_false (by omega);have d2:decide (S≥16)=false:=decide_eq_false (by omega);have d3:decide (16<=S)=false:=decide_eq_false (by omega);have H:=aa h;clear h p
 go_enter func20,ntmps20
 go_wp2_with fail
 refine(FQ A j P D 0 8 _ C q k H).mono ?_;rintro e R⟨E,W,t,rfl,h⟩;have N:=aa (h.alloc 122 (fR S j (pO E)));clear h H
 go_wp2_with fail
 go_ret2
 exact⟨R.heap.size,E,W,t,rfl,N⟩
theorem NG(g E j W t:Nat)(S:Int)(k:Bool)(w:World)(h:eK w g 122 (fR S j (pO E)))(G:eK w E 151 (il j W t 0 8 k)):
 Calls prog 24 #[pO g] w λe O=>e= .returned (pO t)/\O=w:=by
 obtain⟨J,d,L⟩:=h.three;have N:=aa G;clear h G
 go_enter func24,ntmps24
 go_wp2_with fail
 refine(RH E j W t 0 8 k _ N).mono ?_;rintro e R⟨rfl,rfl⟩
 exact afs
theorem Nq(u:kL I)(g j:Nat)(S:Int)(p:Value)(D:DS)(v:Value)(G:LI)(w:World)(C:dE D 900000)(k:yK (D.br G) 0 8)(F:dE (D.br G) 10)
 (h:St I w (ab g 122 (fR S j p)::di j D::ai .i64 v G::L)):
 Calls prog 77 #[pO g,v] w λe O=>∃E W t,e= .returned (iI 0)/\St I O (ab g 122 (fR S j (pO E))::eJ E j W t 0 8 ⟨mx (D.br G) 0 8,lK (D.br G) 0 8,j6 (D.br G) 0 8,false⟩ (ai .i64 v G::L)):=by
 obtain⟨A,c,rfl,_,_,_⟩:=h.get 2 rfl;obtain⟨J,d,Q⟩:=(h.ah 0 rfl).three;have H:=aa h;clear h
 go_enter func77,ntmps77
 go_wp2_with fail
 refine qK (QB _ G 0 C.ok (by have:=C.p;omega) rfl (H.pk 3 [1,2,0])) λR h=>?_;obtain⟨J,d,Q⟩:=(h.ah 2 rfl).three;have N:=aa h;clear h H
 go_wp2_with fail
 refine(FQ u j 10 (D.br G) 0 8 _ F oM k N).mono ?_;rintro e Y⟨E,W,t,rfl,h⟩;have M:=h.pk 6 [5,0,1,2,3,4];obtain⟨J,d,Q⟩:=(M.ah 0 rfl).three;have a:=(M.ah 0 rfl).frozen;have K:=aa M;clear h M N
 go_wp2_with fail
 go_ret
 exact⟨E,W,t,rfl,K.bE 2 (pO E)⟩
theorem Mf(w:World)(k f t i:Int)(ok:Bool)(A:OA)(n c:Nat):(Instr.buildSlice 53 1 #[(0,wh k f t i ok (.slice A n c))]).run prog w= .ok (.slice (aO w.heap.size) 1 1) (w.alloc (.cells (iC k f t i ok (.slice A n c)) 184)):=kR
theorem Pv(g j:Nat)(S k f t i:Int)(ok:Bool)(A:OA)(n c:Nat)(w:World)(h:St I w (ab g 122 (fR S j (.pointer none))::L)):
 Rt I w 75 #[pO g,wh k f t i ok (.slice A n c)] sN (ab g 122 (fR S j (.pointer none))::L):=by
 have Z:=h.alloc 184 (iC k f t i ok (.slice A n c));obtain⟨b,x,q,C,X,a,y,z,T,o⟩:=(Z.ah 0 rfl).SV;obtain⟨J,d,O⟩:=(Z.ah 1 rfl).three;have H:=aa Z;clear h Z
 go_enter func75,ntmps75
 go_wp2_with fail
 go_quiet (fail)
 go_wp2_with fail
 go_ret
 exact⟨rfl,(H.drewN _).tail⟩
theorem SQ(hT:kL I)(g E j W t z:Nat)(S f i:Int)(ok:Bool)(s:SM)(r:RQ)(A:OA)(n c:Nat)(w:World)(E0:z<=700000)(X:Xr s 0 8 z)(U:r.ok)(p:Bytes r.data)(V:r.b9=0)
 (d:0<=s.mB 0 8 r/\s.mB 0 8 r<=1000) (k:¬s.mB 0 8 r=43) (y:(s.jX 0 8 r).D.down=false) (F:(s.mu 0 8 r).length<=200)
 (h:St I w (ai .u8 (.slice A n c) (aZ r)::ab g 122 (fR S j (pO E))::eJ E j W t 0 8 s L)):
 Calls prog 75 #[pO g,wh 11 f S i ok (.slice A n c)] w λe D0=>∃B P R,e= .returned (.slice (aO B) 1 1)/\St I D0 (ab B 184 (iC 12 S f i (s.mB 0 8 r==0) (.slice P (kt (s.mB 0 8 r) (s.mu 0 8 r)).length R))::ai .u8 (.slice P (kt (s.mB 0 8 r) (s.mu 0 8 r)).length R) (kt (s.mB 0 8 r) (s.mu 0 8 r))::ab g 122 (fR S j (pO E))::eJ E j W t 0 8 (s.jX 0 8 r) L):=by
 obtain⟨code,b⟩:∃x,x=s.mB 0 8 r:=⟨_,rfl⟩;obtain⟨out,q⟩:∃x,x=s.mu 0 8 r:=⟨_,rfl⟩;obtain⟨s',Y⟩:∃x,x=s.jX 0 8 r:=⟨_,rfl⟩;rw[<-b]at d k⊢;rw[<-q]at F⊢;rw[<-Y]at y⊢;obtain⟨G,Q,C,J⟩:=s';refine iG b q Y λA0 B0 C0=>?_;have Z:=h.alloc 184 (iC 11 f S i ok (.slice A n c));obtain⟨B,O⟩:=nM (w.heap.size);obtain⟨T,o,m2,m3,m4,m5,m6,m7,m8,m9⟩:=(Z.ah 0 rfl).SV;obtain⟨s0,s1,s2⟩:=(Z.ah 2 rfl).three;have H:=aa Z;have dm:(S !=S)=false:=by simp
 refine ye X U p V d F λHS HR HB HW HC HL=>?_;refine bq y O λl a=>?_;have l:Hid (Q.down=false):=l;have d43:(code==43)=false:=by simpa using k
 clear h Z X U p V d F y O k b q Y
 go_enter func75,ntmps75
 go_wp2_with fail
 go_quiet (fail)
 go_wp2_with fail
 refine(Pc hT g E j W t z S s r A n c _ E0 HS HR HB HW ((H.drewN _).sub (L':=ai .u8 (.slice A n c) (aZ r)::ab g 122 (fR S j (pO E))::eJ E j W t 0 8 s (ab w.heap.size 184 (iC 11 f S i ok (.slice A n c))::L)) abP)).mono ?_;rintro e w2⟨vs,rfl,h⟩;rw[<-A0.out];rw[<-B0.out,<-C0.out]at h;obtain⟨u,D,rfl,_,_⟩:=(h.eM 0 rfl).slice;have h:St I w2 (aG 1 dG (.slice u out.length D) out::ab g 122 (fR S j (pO E))::ab E 151 (il j W t 0 8 J)::jR W j C::dq t G::di j Q::ab w.heap.size 184 (iC 11 f S i ok (.slice A n c))::L):=h;rw[<-a.out]at h;obtain⟨T,o,m2,m3,m4,m5,m6,m7,m8,m9⟩:=(h.ah 6 rfl).SV;obtain⟨s0,s1,s2⟩:=(h.ah 1 rfl).three;have N:=aa h;clear h H
 go_wp2_with fail
 refine qK (yq (N.fi 5)) λw3 h=>?_;rw[l.out];have K:=h;clear h N T o m2 m3 m4 m5 m6 m7 m8 m9 s0 s1 s2;have M:=K.pk 7 [2,6,1,3,4,5,0];have N:=aa M;clear K M
 go_wp2_with fail
 rw[<-a.out];refine an (I:=I) (L0:=ab E 151 (il j W t 0 8 J)::jR W j C::dq t G::di j Q::L) [⟨none,none,λe=>ab g 122 (fR S j (pO E))⟩,⟨none,none,λe=>ab B 184 (iC 11 f S i ok (.slice A n c))⟩,⟨none,some 12,λe=>aG 1 dG (.slice u out.length D) out⟩,⟨some 12,none,λe=>ai .u8 (.slice (e 12).A (kt code out).length (e 12).n) (kt code out)⟩,⟨some 14,none,λe=>ab (e 14).n 184 (iC 12 S f i (code==0) (.slice (e 12).A (kt code out).length (e 12).n))⟩] [[],[0],[0,1],rG 3,[],[4],[],[6],[],[8],[],[],[10,11],rG 13,rG 14,rG 15] (rG 16) rfl kR kR kR (by rfl) (λ_=>rfl) N.fk ?_;refine Yi ?_;refine bp 120 (λe=> #[iI code,.slice u out.length D]) (λe=> .slice (e 12).A (kt code out).length (e 12).n) rfl (λe wx Lx h=>by(
  have h:=h.fn;refine(Nj code _ out _ HC HL (h.fi 2)).mono ?_;rintro I0 wy⟨A',c',rfl,Z⟩;exact⟨⟨A',c',default⟩,rfl,Z.pk 3 [1,2,0]⟩)) ?_
 simp only[aW];refine nL ?_;refine GP (λe=> .slice (some ⟨(e 14).n,0,none⟩) 1 1) rfl (λe wx Lx h=>by(
  have h:=h.fn;exact⟨⟨none,wx.heap.size,default⟩,_,eY rfl rfl (Mf _ _ _ _ _ _ _ _ _),((h.alloc 184 (iC 12 S f i (code==0) (.slice (e 12).A (kt code out).length (e 12).n)))).fk⟩)) ?_
 simp only[aW];refine nL ?_;refine aA ?_;intro e w1 h;have h:=h.fn;obtain⟨P,F0⟩:∃x,(e 12).A=x:=⟨_,rfl⟩;obtain⟨R,G0⟩:∃x,(e 12).n=x:=⟨_,rfl⟩;obtain⟨gn,H0⟩:∃x,(e 14).n=x:=⟨_,rfl⟩;have H9:=aa h;clear h N
 go_wp2_with fail
 go_ret
 exact⟨(e 14).n,(e 12).A,(e 12).n,rfl,H9.sub abP⟩
def xE(b:LI):Int×Rd:=(Rd.mk b false).num 1
def KG(b:LI):Int×Rd:=(xE b).2.num 1
def xw(b:LI):List (LI)×Rd:=(KG b).2.dx (KG b).1.toNat
def BR(b:LI):Int:=(xw b).2.kw
theorem SZ(f F0 i:Int)(ok:Bool)(p1 p2 p3:Int)(v9:Value)(J0:∃A n c,v9= .slice A n c)(A:OA)(n c:Nat)(b:LI)(w:World)(hb:Bytes b)(hl:b.length<=1000000)(h:St I w (ai .u8 (.slice A n c) b::L)):
 Calls prog 110 #[.agg #[iI 12,iI f,iI F0,iU p1,iU i,iU p2,iU p3,.bool ok,.slice A n c,v9]] w λe O=>
  (BR b=0->∃vs,e= .returned (.tuple #[vs,iI (xE b).1,iI 0])/\St I O (aG 1 dG vs (xw b).1::L))/\
  (BR b≠0->e= .returned (.tuple #[sN,iI 0,iI (BR b)])/\St I O L):=by
 obtain⟨A9,n9,c9,rfl⟩:=J0;have Z:=h.alloc 184 #[iI 12,iI f,iI F0,iU p1,iU i,iU p2,iU p3,.bool ok,.slice A n c,.slice A9 n9 c9];obtain⟨m0,m1,m2,m3,m4,m5,m6,m7,m8,m9⟩:=(Z.ah 0 rfl).SV;have H:=aa Z.tail;have E0:Rd.Ok (Rd.mk b false):=⟨hb,by show b.length<=140737488355328;omega,λh=>by cases h⟩;have y:=aa E0;obtain⟨l,j⟩:∃x,x=xE b:=⟨_,rfl⟩;obtain⟨D,W⟩:∃x,x=KG b:=⟨_,rfl⟩;obtain⟨T,R⟩:∃x,x=xw b:=⟨_,rfl⟩;obtain⟨C,P⟩:∃x,x=BR b:=⟨_,rfl⟩;have E1:Hid (l=(Rd.mk b false).num 1):=j;have E2:=aa (show D=l.2.num 1 by rw[W,j];rfl);have t:=aa (show T=D.2.dx D.1.toNat by rw[R,W];rfl);have E4:=aa (show C=T.2.kw by rw[P,R];rfl);rw[<-P,<-R,<-j];clear P R W j;clear h Z E0 hb hl
 go_enter func110,ntmps110
 go_wp2_with fail
 refine(ou _ b _ H).mono ?_;rintro e w1⟨g,rfl,h⟩;have H1:=aa h.tO;clear H h m0 m1 m2 m3 m4 m5 m6 m7 m8 m9;refine bq (Rd.mJ y) (y.num 1) λA0 G=>?_
 go_wp2_with fail
 refine qH (bN g _ 1 _ y.hb y.hl y.hz H1) λw2 N=>?_;clear H1;rw[<-E1.out]at N A0 G⊢;obtain⟨b0,b1⟩:=A0.out;refine bq (Rd.mJ G) (G.num 1) λB0 p=>?_;have wc:IntKind.i64.wrap l.1=l.1:=IntWalk.i64_in _ oM
 go_wp2_with fail
 refine qH (bN g _ 1 _ G.hb G.hl G.hz N) λw3 K=>?_;clear N;rw[<-E2.out]at K B0 p⊢;obtain⟨J,F⟩:=B0.out;obtain⟨B,Q⟩:=D;have J:0<=B:=J;have F:B<256:=F;have K:Hid (St I w3 (pu g Q::L)):=K;have p:Hid Q.Ok:=p;have t:Hid (T=Q.dx B.toNat):=t;obtain⟨q,rfl⟩:=BE J;rw[rE]at t;have hq:q<=256:=oM
 clear J F
 go_wp2_with fail
 go_loopg [2,18] q (λgh out i wr=>∃k z X r,gh=q-k/\k<=q/\i= iU (k:Nat)/\out= .slice X z r/\z=k/\St I wr (aB 27 1 dG (.slice X z r) (Q.dx k).1::pu g (Q.dx k).2::L))
 case atStart=>exact⟨0,0,none,0,rfl,oM,rfl,rfl,rfl,(K).eU 27 1 dG⟩
 case round=>
  obtain⟨k,z,X,r,hg,hk,rfl,rfl,o,h⟩:=hrel;have HG:=aa hg;clear hg K;by_cases H0:k<q
  ·have M:=aa o
   refine bq h.swap (p.dx k) λH u=>?_;have O0:z<=1000:=oM
   clear h o
   go_wp2_with fail
   refine(yY g _ _ u.hb u.hl u.hz H).mono ?_;rintro e w5⟨v5,rfl,h⟩;obtain⟨a,E,rfl,_,_,_⟩:=h.get 0 rfl;refine bq (show Q.dx (k+1)=((Q.dx k).1++[(Q.dx k).2.gI.1],(Q.dx k).2.gI.2)from rfl) (Rd.og Q k) λS d=>?_;generalize Q.dx k=lk at*;obtain⟨V,U⟩:=lk;have h:St I w5 (ai .u8 (.slice a U.gI.1.length E) U.gI.1::pu g U.gI.2::aB 27 1 dG (.slice X z r) V::L):=h;have S:Hid (Q.dx (k+1)=(V++[U.gI.1],U.gI.2)):=S;have d:Hid (V.length=k):=d;generalize U.gI.1=x at*;generalize U.gI.2=rk2 at*;generalize C0:x.length=nx at*;have K0:=aa C0;obtain⟨M0,I0,D0,h3⟩:=(h.pk 3 [2,0,1]).cu;refine bq (h3.oH (.cells #[.slice a nx E] 27)) D0 λK G0=>?_;clear h h3 I0 D0 H C0
   go_wp2_with (at_builtin;refine St.fj pz K rfl _ _ rfl rfl (aO w5.heap.size) 1 1 rfl [.slice a nx E] (ux _ _ _) acg oM oM ?_;intro A4 c4 w4 h4)
   go_roundg (q-(k+1))
   case measure=>exact adi
   case rel=>
    refine⟨k+1,z+1,A4,c4,rfl,oM,by go_num,rfl,by rw[M.out],?_⟩;rw[S.out];have h5:=(h4.tW.bC (R':=λO=>dG O [.slice a nx E] x) (λO hi=>⟨_,rfl,hi⟩));have h6:=h5.sX.fS (by rw[d.out,M.out]) rfl G0;exact h6
  ·obtain rfl:k=q:=oM
   have M:=aa o;rw[<-t.out]at h;have L0:=aa (show T.2.Ok by rw[t.out];exact p.dx k);have d:=aa (show T.1.length=k by rw[t.out];exact Rd.og Q k);have H:=aa h.swap;clear h o H0 HG
   go_wp2_with fail
   refine qK (qU g _ _ H) λw6 h=>?_;rw[<-E4.out];have H6:=aa h;clear h H;by_cases Y:C=0
   ·subst Y
    go_wp2_with fail
    exact bodyPost_ret (jr rfl _ _ _) rfl ⟨.slice X z r,rfl,H6.tail.nj⟩
   ·have N0:(C !=0)=true:=by simp[Y]
    have HE:=aa Y;clear Y
    go_wp2_with fail
    exact bodyPost_ret (jr rfl _ _ _) rfl ⟨λh0=>absurd h0 HE,λ_=>⟨rfl,H6.tail.tail⟩⟩
theorem lI(m:Nat->Rg)(r:RQ):0<=(aE m r).2/\(aE m r).2<=1000/\(aE m r).2≠43:=by
 have M:r.b9=0\/r.b9=1\/r.b9=2:=by
  unfold RQ.b9;split;· exact .inr (.inl rfl)
  split;· exact .inr (.inr rfl)
  exact adH
 unfold aE
 split
 ·show 0<=r.b9/\r.b9<=1000/\r.b9≠43
  omega
 split;· decide
 split;· decide
 split;· decide
 split
 ·unfold Rg.next Rg.nC
  have G:∀n,0<=(Rg.cT n r).2/\(Rg.cT n r).2<=1000/\(Rg.cT n r).2≠43:=by
   exact aeW
  exact aeg
 ·decide
theorem yB(p:∀k,(m k).ok)(U:r.ok):(mu m r).length<=4:=by
 unfold mu
 split
 ·unfold Rg.out
  split
  ·show 1<=4;omega
  split
  ·exact(Aw p U _).ll
  ·show 0<=4;omega
 ·show 0<=4;omega
theorem Jm(p:∀k,(m k).ok)(U:r.ok):∀x∈mu m r,x.length<=24:=by
 intro x J;unfold mu at J
 split at J
 ·unfold Rg.out at J
  split at J
  ·rw[nN.1 J]
   exact(Aw p U _).bb _
  split at J
  ·exact(Aw p U _).lb x J
  ·exact absurd J qo
 ·exact absurd J qo
def rL(m:Nat->Rg)(r:RQ):LI:=kt (aE m r).2 (mu m r)
theorem Mt(code:Int)(l:List (LI))(D:0<=code/\code<256)(F:l.length<256)(J:∀x∈l,x.length<=24):xE (kt code l)=(code,⟨aV (l.length:Nat) 1++(l.flatMap bG++[]),false⟩)/\xw (kt code l)=(l,⟨[],false⟩)/\BR (kt code l)=0:=by
 have u:xE (kt code l)=(code,⟨aV (l.length:Nat) 1++(l.flatMap bG++[]),false⟩):=by
  show(Rd.mk (kt code l) false).num ((1:Nat):Int)=_;rw[show kt code l=aV code 1++(aV (l.length:Nat) 1++(l.flatMap bG++[]))by unfold kt;rw[pI,xd]];exact en D.1 (by rw[show(256:Int)^1=256 by decide];exact D.2) oM oM _
 have Y:KG (kt code l)=(((l.length:Nat):Int),⟨l.flatMap bG++[],false⟩):=by
  show(xE (kt code l)).2.num ((1:Nat):Int)=_;rw[u];exact en oM ab4 oM oM _
 have P:xw (kt code l)=(l,⟨[],false⟩):=by
  unfold xw;rw[Y];show Rd.dx ⟨l.flatMap bG++[],false⟩ ((l.length:Int).toNat)=_;rw[rE,wT l [] J _ (io _),MT,Zm]
  rfl
 exact⟨u,P,by unfold BR;rw[P];rfl⟩
theorem JB{code:Int}{l:List (LI)}(h:∀x∈l,Bytes x):Bytes (kt code l):=((cd _ _).append (cd _ _)).append (tp l h)
theorem Co(p:MB m)(U:Bytes r.data):∀x∈mu m r,Bytes x:=by
 have G:=p.gL U;intro x J;unfold mu at J
 split at J
 ·unfold Rg.out at J
  split at J
  ·rw[nN.1 J]
   exact G.b _ _
  split at J
  ·exact G.l _ x J
  ·exact absurd J qo
 ·exact absurd J qo
theorem Tk(u:kL I)(g E j W t P:Nat)(S f i:Int)(ok:Bool)(s:SM)(r:RQ)(A:OA)(n c:Nat)(w:World)(q:P<=700000)(N:Xr s 0 8 P)(U:r.ok)(B:Bytes r.data)(M:r.b9=0)(k:s.mB 0 8 r=43)
 (h:St I w (ai .u8 (.slice A n c) (aZ r)::ab g 122 (fR S j (pO E))::eJ E j W t 0 8 s L)):
 Rt I w 75 #[pO g,wh 11 f S i ok (.slice A n c)] sN (ab g 122 (fR S j (.pointer none))::eJ E j W t 0 8 (s.jX 0 8 r) L):=by
 have Z:=h.alloc 184 (iC 11 f S i ok (.slice A n c));obtain⟨b,x,z,X,y,a,K,T,o,D⟩:=(Z.ah 0 rfl).SV;obtain⟨J,d,O⟩:=(Z.ah 2 rfl).three;have H:=aa Z;have Y:(S !=S)=false:=by simp
 refine AS N U B M k λG l V Q p=>?_;clear h Z N U B M k
 go_enter func75,ntmps75
 go_wp2_with fail
 go_quiet (fail)
 go_wp2_with fail
 refine(Pc u g E j W t P S s r A n c _ q G l V Q ((H.drewN _).sub (L':=ai .u8 (.slice A n c) (aZ r)::ab g 122 (fR S j (pO E))::eJ E j W t 0 8 s L) abP)).mono ?_;rintro e w2⟨vs,rfl,h⟩;rw[p.out];obtain⟨F,R,rfl,_,_⟩:=(h.eM 0 rfl).slice;obtain⟨J,d,O⟩:=(h.ah 1 rfl).three;have fz:=(h.ah 1 rfl).frozen;have C:=aa h.tail;generalize(s.mu 0 8 r).length=nn at*;clear h H b x z X y a K T o D
 go_wp2_with fail
 go_ret
 exact⟨rfl,C.bE 2 (.pointer none)⟩
theorem VL{s:SM}(h:s.mB 0 8 r=(aE s.M r).2):s.mu 0 8 r=mu s.M r:=by
 unfold SM.mu;rw[h]
 split
 ·rfl
 ·rename_i K
  exact(iN K).symm
def Zv(n:Nat)(a:Int)(ring:Nat):SM:=⟨mx (DS.new n) a ring,lK (DS.new n) a ring,j6 (DS.new n) a ring,false⟩
theorem Ww{n:Nat}{a:Int}{ring:Nat}(K:0<=a)(U:1<=ring/\ring<=100)(Z:a+46+(ring:Int)<=(n:Int))(G:n<=512):yK (DS.new n) a ring/\(Zv n a ring).M=tv/\Up (Zv n a ring) a ring 10 1/\NF (Zv n a ring).D:=by
 obtain⟨Z,G,M,S,_⟩:=OI K U Z G;exact⟨Z,G,M,S.nf⟩
abbrev DZ:SM:=Zv 54 0 8
theorem DU:yK (DS.new 54) 0 8/\DZ.M=tv/\Up DZ 0 8 10 1/\NF DZ.D:=Ww oM oM oM oM
end Go.Proofs.YtblpaldggenbaaaGreatDoor
