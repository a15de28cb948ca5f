/- A part. -/
import Derived.Maps.Own
import Derived.Test.YtblpaldggenbaaaGreatDoorMj
namespace Go.Proofs.YtblpaldggenbaaaGreatDoor
open Go.RowKit Go.Proofs.Tryz
set_option maxRecDepth 100000
set_option maxHeartbeats 64000000
variable{α:Type}{T:aI}
section
open Go.Shelf
theorem Fr.NG{w O:World}(h:Fr iY w O){p:Addr}{u:Value}(D:w.cell? p=some u):O.cell? p=some u:=
 (h.cell (p:=p) (World.block_lt_of_cell? _ _ D) (λx=>x)).trans D
theorem Ko{I:aH}{L:List aw}(x:be)(w:World)(h:St I w L):
 Rt I w 210 #[.agg #[iI x.c,iI x.m,iU x.t,iU x.u]] (iI x.c) L:=by
 have Z:=h.alloc 273 #[iI x.c,iI x.m,iU x.t,iU x.u];have G:=(Z.ah 0 rfl).cell 0;have H:=aa Z;clear h Z
 go_enter func210,ntmps210
 go_wp2_with fail
 go_ret
 exact afs
theorem Iv{I:aH}{L:List aw}(j d:Nat)(A:OA)(n c:Nat)(a:Int)(x:be)(w:World)(h:St I w (ab j 338 #[.slice A n c,.func (.func 210) #[] #[]]::ab d 3 #[iI a]::L)):
 Calls prog 224 (#[.agg (cy x).toArray]++ #[pO j,pO d]) w λe O=>e= .returned (.bool (x.c==a))/\St I O (ab j 338 #[.slice A n c,.func (.func 210) #[] #[]]::ab d 3 #[iI a]::L):=by
 have K:=h.alloc 273 #[iI x.c,iI x.m,iU x.t,iU x.u];generalize S:w.heap.size=ge at K;have C:=aa K;clear h K
 go_enter func224,ntmps224
 go_wp2_with fail
 have K:=C.out;clear S C;generalize w.alloc _=w0 at K⊢;refine ak (I:=I) (L0:=L) [⟨none,none,λe=>ab ge 273 #[iI x.c,iI x.m,iU x.t,iU x.u]⟩,⟨none,none,λe=>ab j 338 #[.slice A n c,.func (.func 210) #[] #[]]⟩,⟨none,none,λe=>ab d 3 #[iI a]⟩] [[],[0],[],rG 3,[],rG 5,rG 6] (rG 7) rfl kR kR kR (by rfl) (λ_=>rfl) K.fk ?_;refine yk ?_;refine aZ 210 (λe=> #[.agg #[iI x.c,iI x.m,iU x.t,iU x.u]]) (λe=> iI x.c) rfl (λe p M h=>by(
  have h:=h.fn;refine(Ko x _ h).mono ?_;rintro u W⟨rfl,Z⟩;exact⟨⟨none,0,default⟩,rfl,Z.fk⟩)) ?_
 exact af1
theorem Ed{I:aH}{L:List aw}(A:OA)(n c:Nat)(l:List be)(a:Int)(w:World)(d:∀W,St I W L->fo cy 4 W (.slice A n c) l)(h:St I w L):
 Rt I w 211 #[.agg #[.slice A n c,.func (.func 210) #[] #[]],iI a] (iI (dz (λx=>x.c==a) 0 l)) L:=by
 have Z:=h.alloc 338 #[.slice A n c,.func (.func 210) #[] #[]];generalize b:w.heap.size=gl at Z;have V:=Z.alloc 3 #[iI a];rw[World.size_alloc,b]at V;generalize k:gl+1=gc at V;have j:=(V.ah 1 rfl).cell 0;refine bm V.swap d λH t=>?_;clear h Z V d
 go_enter func211,ntmps211
 go_wp2_with fail
 refine qK (tW 224 #[pO gl,pO gc] (λx=>x.c==a) l A n c _ (enters_of func224 kR rfl) (λW J=>t W J.tail.tail) (λx W _ J=>Iv gl gc A n c a x W J) H) λX h=>?_;have T:=aa h.tail.tail;clear h H j
 exact adW
theorem sA{I:aH}{L:List aw}(g o:Nat)(A:OA)(n c:Nat)(l:List be)(a:Int)(w:World)(D:w.cell? ⟨g,o,none⟩=some (.slice A n c))(d:∀W,St I W L->fo cy 4 W (.slice A n c) l)(h:St I w L):
 Rt I w 188 #[.pointer (some ⟨g,o,none⟩),iI a] (iI (dz (λx=>x.c==a) 0 l)) L:=by
 refine bm d h λt H=>?_;clear h d
 go_enter func188,ntmps188
 go_wp2_with fail
 refine qH (Ed A n c l a _ t H) λX T=>?_;clear H D
 exact adW
theorem IV{I:aH}{L:List aw}(x:cS)(w:World)(h:St I w L):
 Rt I w 213 #[.agg #[iI x.c,iI x.m]] (iI x.c) L:=by
 have Z:=h.alloc 317 #[iI x.c,iI x.m];have G:=(Z.ah 0 rfl).cell 0;have H:=aa Z;clear h Z
 go_enter func213,ntmps213
 go_wp2_with fail
 go_ret
 exact afs
theorem Kh{I:aH}{L:List aw}(j d:Nat)(A:OA)(n c:Nat)(a:Int)(x:cS)(w:World)(h:St I w (ab j 341 #[.slice A n c,.func (.func 213) #[] #[]]::ab d 3 #[iI a]::L)):
 Calls prog 226 (#[.agg (il x).toArray]++ #[pO j,pO d]) w λe O=>e= .returned (.bool (x.c==a))/\St I O (ab j 341 #[.slice A n c,.func (.func 213) #[] #[]]::ab d 3 #[iI a]::L):=by
 have K:=h.alloc 317 #[iI x.c,iI x.m];generalize S:w.heap.size=ge at K;have C:=aa K;clear h K
 go_enter func226,ntmps226
 go_wp2_with fail
 have K:=C.out;clear S C;generalize w.alloc _=w0 at K⊢;refine ak (I:=I) (L0:=L) [⟨none,none,λe=>ab ge 317 #[iI x.c,iI x.m]⟩,⟨none,none,λe=>ab j 341 #[.slice A n c,.func (.func 213) #[] #[]]⟩,⟨none,none,λe=>ab d 3 #[iI a]⟩] [[],[0],[],rG 3,[],rG 5,rG 6] (rG 7) rfl kR kR kR (by rfl) (λ_=>rfl) K.fk ?_;refine yk ?_;refine aZ 213 (λe=> #[.agg #[iI x.c,iI x.m]]) (λe=> iI x.c) rfl (λe p M h=>by(
  have h:=h.fn;refine(IV x _ h).mono ?_;rintro u W⟨rfl,Z⟩;exact⟨⟨none,0,default⟩,rfl,Z.fk⟩)) ?_
 exact af1
theorem En{I:aH}{L:List aw}(A:OA)(n c:Nat)(l:List cS)(a:Int)(w:World)(d:∀W,St I W L->fo il 2 W (.slice A n c) l)(h:St I w L):
 Rt I w 214 #[.agg #[.slice A n c,.func (.func 213) #[] #[]],iI a] (iI (dz (λx=>x.c==a) 0 l)) L:=by
 have Z:=h.alloc 341 #[.slice A n c,.func (.func 213) #[] #[]];generalize b:w.heap.size=gl at Z;have V:=Z.alloc 3 #[iI a];rw[World.size_alloc,b]at V;generalize k:gl+1=gc at V;have j:=(V.ah 1 rfl).cell 0;refine bm V.swap d λH t=>?_;clear h Z V d
 go_enter func214,ntmps214
 go_wp2_with fail
 refine qK (IA 226 #[pO gl,pO gc] (λx=>x.c==a) l A n c _ (enters_of func226 kR rfl) (λW J=>t W J.tail.tail) (λx W _ J=>Kh gl gc A n c a x W J) H) λX h=>?_;have T:=aa h.tail.tail;clear h H j
 exact adW
theorem Bi{I:aH}{L:List aw}(g o:Nat)(A:OA)(n c:Nat)(l:List cS)(a:Int)(w:World)(D:w.cell? ⟨g,o+1,none⟩=some (.slice A n c))(d:∀W,St I W L->fo il 2 W (.slice A n c) l)(h:St I w L):
 Rt I w 191 #[.pointer (some ⟨g,o,none⟩),iI a] (iI (dz (λx=>x.c==a) 0 l)) L:=by
 refine bm d h λt H=>?_;clear h d
 go_enter func191,ntmps191
 go_wp2_with fail
 refine qH (En A n c l a _ t H) λX T=>?_;clear H D
 exact adW
theorem GB{I:aH}{L:List aw}(d:Nat)(m:Int)(x:be)(w:World)(h:St I w (ab d 3 #[iI m]::L)):
 Calls prog 208 (#[.agg (cy x).toArray]++ #[pO d]) w λe O=>e= .returned (.bool (rj m x))/\St I O (ab d 3 #[iI m]::L):=by
 have Z:=h.alloc 273 #[iI x.c,iI x.m,iU x.t,iU x.u];have c:=(Z.ah 0 rfl).cell 1;have z:=(Z.ah 1 rfl).cell 0;have H:=aa Z;clear h Z;obtain⟨d1,G⟩:∃d1,(x.m==2)=d1:=⟨_,rfl⟩;obtain⟨d2,D⟩:∃d2,(m==2)=d2:=⟨_,rfl⟩;have C:=aa (show rj m x=(d1||d2)by unfold rj;rw[G,D])
 go_enter func208,ntmps208
 exact aeZ
theorem RJ{I:aH}{L:List aw}(g o:Nat)(A:OA)(n c:Nat)(l:List be)(m:Int)(w:World)(D:w.cell? ⟨g,o,none⟩=some (.slice A n c))(j:∀W,St I W L->fo cy 4 W (.slice A n c) l)(h:St I w L):
 Rt I w 183 #[.pointer (some ⟨g,o,none⟩),iI m] (.bool (!l.any (rj m))) L:=by
 have t:=aa j;have Z:=h.alloc 3 #[iI m];generalize k:w.heap.size=gc at Z;have G:(w.alloc (.cells #[iI m] 3)).cell? ⟨g,o,none⟩=some (.slice A n c):=((Fr.refl iY w).alloc _).NG D;have H:=aa Z;clear h j Z
 go_enter func183,ntmps183
 go_wp2_with fail
 refine qK (IJ 208 #[pO gc] (rj m) l A n c _ (enters_of func208 kR rfl) (λW J=>t W J.tail) (λx W _ J=>GB gc m x W J) H) λX h=>?_;have T:=aa h.tail;obtain⟨q,d⟩:=nM (l.any (rj m));rw[<-d];have Y:=aa d;clear h H D G d
 go_wp2_with fail
 go_ret
 exact⟨by rw[<-Y.out];try rfl,T⟩
end
section
open Go.Shelf
structure Lv where
 a:OA
 n:Nat
 c:Nat
structure ri where
 h:Lv
 w:Lv
def gQ:List aw->aw
 |[]=>ko True
 |X::r=>aX X (gQ r)
section
variable {I:aH} {w:World}
theorem St.big:∀{e L:List aw},St I w (gQ e::L)->St I w (e++L)
 |[],_,h=>h.wT.2
 |X::r,L,h=>by
  have Z:=h.star;have V:St I w (gQ r::X::L):=Z.swap;have M:St I w (r++X::L):=V.big;exact M.perm (XM)
theorem St.QC:∀{e L:List aw},St I w (e++L)->St I w (gQ e::L)
 |[],_,h=>h.uk trivial
 |X::r,L,h=>by
  have V:St I w (r++X::L):=h.perm XM.symm;have M:St I w (gQ r::X::L):=V.QC;exact M.swap.aM
end
abbrev lS(q last:Int)(U:Nat->ri):Vq:= #[iU q,iU last,
 .slice (U 0).h.a (U 0).h.n (U 0).h.c,.slice (U 0).w.a (U 0).w.n (U 0).w.c,.slice (U 1).h.a (U 1).h.n (U 1).h.c,.slice (U 1).w.a (U 1).w.n (U 1).w.c,
 .slice (U 2).h.a (U 2).h.n (U 2).h.c,.slice (U 2).w.a (U 2).w.n (U 2).w.c,.slice (U 3).h.a (U 3).h.n (U 3).h.c,.slice (U 3).w.a (U 3).w.n (U 3).w.c]
theorem OD{k:Nat}(h:k<4):k=0\/k=1\/k=2\/k=3:=oM
theorem p8(q last:Int)(U:Nat->ri){i:Nat}(z:i<4):(lS q last U)[2+i*2]? =some (.slice (U i).h.a (U i).h.n (U i).h.c):=by
 exact aeL
theorem Ih(q last:Int)(U:Nat->ri){i:Nat}(z:i<4):(lS q last U)[2+i*2+1]? =some (.slice (U i).w.a (U i).w.n (U i).w.c):=by
 exact aeL
theorem wD(q last:Int)(U:Nat->ri){i:Nat}(z:i<4)(u:Lv):(lS q last U).setIfInBounds (2+i*2) (.slice u.a u.n u.c)=lS q last (aJ U i ⟨u,(U i).w⟩):=by
 exact aeL
theorem wz(q last:Int)(U:Nat->ri){i:Nat}(z:i<4)(u:Lv):(lS q last U).setIfInBounds (2+i*2+1) (.slice u.a u.n u.c)=lS q last (aJ U i ⟨(U i).h,u⟩):=by
 exact aeL
abbrev fv(v:Lv)(U:List be):aw:=dV cy 273 4 (.slice v.a v.n v.c) U
abbrev en(v:Lv)(u:List cS):aw:=ns il 2 (.slice v.a v.n v.c) u
def dr(U:Nat->ri)(r:Nat->wb)(j:Nat):aw:=aX (fv (U j).h (r j).h) (en (U j).w (r j).w)
def tO(U:Nat->ri)(r:Nat->wb)(i j:Nat):aw:=if j=i then ko True else dr U r j
def jo(U:Nat->ri)(r:Nat->wb)(i:Nat):aw:=gQ [tO U r i 0,tO U r i 1,tO U r i 2,tO U r i 3]
abbrev iq(g:Nat)(q last:Int)(U:Nat->ri):aw:=ab g 111 (lS q last U)
def bW(g:Nat)(T:aI):aw:=AU λU=>aX (iq g T.now T.last U) (gQ [dr U T.r 0,dr U T.r 1,dr U T.r 2,dr U T.r 3])
theorem fb(f:Nat->α)(i:Nat)(x:α):aJ f i x i=x:=iP rfl
theorem pU(f:Nat->α){i j:Nat}(x:α)(h:j≠i):aJ f i x j=f j:=iN h
theorem FD(f:Nat->α)(i:Nat)(x y:α):aJ (aJ f i x) i y=aJ f i y:=by
 funext j
 unfold aJ
 split<;>rfl
theorem qy{U a:Nat->ri}{r t:Nat->wb}{i:Nat}(Z:∀j,j≠i->U j=a j)(V:∀j,j≠i->r j=t j):jo U r i=jo a t i:=by
 have:∀j,tO U r i j=tO a t i j:=λj=>by
  unfold tO
  split
  ·rfl
  ·rename_i N
   unfold dr;rw[Z j N,V j N]
 unfold jo;rw[this,this,this,this]
section
variable {I:aH} {w:World} {L:List aw} {g:Nat}
theorem St.IT(h:St I w (bW g T::L)):∃U,St I w (iq g T.now T.last U::dr U T.r 0::dr U T.r 1::dr U T.r 2::dr U T.r 3::L):=by
 obtain⟨U,Z⟩:=h.ex;have V:=Z.star.swap.big;exact⟨U,V.perm (XM (l₁:=[dr U T.r 0,dr U T.r 1,dr U T.r 2,dr U T.r 3]))⟩
theorem St.QW{U:Nat->ri}(h:St I w (iq g T.now T.last U::dr U T.r 0::dr U T.r 1::dr U T.r 2::dr U T.r 3::L)):St I w (bW g T::L):=by
 have V:St I w ([dr U T.r 0,dr U T.r 1,dr U T.r 2,dr U T.r 3]++iq g T.now T.last U::L):=h.perm (XM (l₁:=[dr U T.r 0,dr U T.r 1,dr U T.r 2,dr U T.r 3])).symm;exact St.cZ (f:=λU=>aX (iq g T.now T.last U) (gQ [dr U T.r 0,dr U T.r 1,dr U T.r 2,dr U T.r 3])) U V.QC.swap.aM
theorem St.Is{i:Nat}(z:i<4)(h:St I w (bW g T::L)):∃U,St I w (iq g T.now T.last U::fv (U i).h (T.r i).h::en (U i).w (T.r i).w::jo U T.r i::L):=by
 obtain⟨U,Z⟩:=h.IT;refine⟨U,?_⟩;have key:∀{a b c d:aw},St I w (a::b::c::d::fv (U i).h (T.r i).h::en (U i).w (T.r i).w::iq g T.now T.last U::L)->tO U T.r i 0=a->tO U T.r i 1=b->tO U T.r i 2=c->tO U T.r i 3=d->St I w (iq g T.now T.last U::fv (U i).h (T.r i).h::en (U i).w (T.r i).w::jo U T.r i::L):=by
  intro a b c d h M S P t;have V:St I w ([a,b,c,d]++(fv (U i).h (T.r i).h::en (U i).w (T.r i).w::iq g T.now T.last U::L)):=h;have K:=V.QC;unfold jo;rw[M,S,P,t];exact K.sub
 rcases OD z with rfl|rfl|rfl|rfl
 ·exact key ((((Z.fi 1).star).uk (p:=True) trivial).pk 7 [0,4,5,6,1,2,3]) (iP rfl) (iN oM) (iN oM) (iN oM)
 ·exact key ((((Z.fi 2).star).uk (p:=True) trivial).pk 7 [4,0,5,6,1,2,3]) (iN oM) (iP rfl) (iN oM) (iN oM)
 ·exact key ((((Z.fi 3).star).uk (p:=True) trivial).pk 7 [4,5,0,6,1,2,3]) (iN oM) (iN oM) (iP rfl) (iN oM)
 ·exact key ((((Z.fi 4).star).uk (p:=True) trivial).pk 7 [4,5,6,0,1,2,3]) (iN oM) (iN oM) (iN oM) (iP rfl)
theorem St.QL{q last:Int}{r:Nat->wb}{U:Nat->ri}{i:Nat}{K:List be}{u:List cS}(z:i<4)(h:St I w (iq g q last U::fv (U i).h K::en (U i).w u::jo U r i::L)):St I w (bW g ⟨q,last,aJ r i ⟨K,u⟩⟩::L):=by
 obtain⟨a,b,c,d,Q,S,P,t,V⟩:∃a b c d,tO U r i 0=a/\tO U r i 1=b/\tO U r i 2=c/\tO U r i 3=d/\St I w (a::b::c::d::iq g q last U::fv (U i).h K::en (U i).w u::L):=by
  refine⟨_,_,_,_,rfl,rfl,rfl,rfl,?_⟩;have V:=(h.fi 3).big;exact V
 have G:∀j,j≠i->dr U (aJ r i ⟨K,u⟩) j=dr U r j:=λj N=>by
  unfold dr;rw[pU _ _ N]
 have Y:dr U (aJ r i ⟨K,u⟩) i=aX (fv (U i).h K) (en (U i).w u):=by
  unfold dr;rw[fb]
 refine St.QW (T:=⟨q,last,aJ r i ⟨K,u⟩⟩) (U:=U) ?_;show St I w (iq g q last U::dr U (aJ r i ⟨K,u⟩) 0::dr U (aJ r i ⟨K,u⟩) 1::dr U (aJ r i ⟨K,u⟩) 2::dr U (aJ r i ⟨K,u⟩) 3::L);have M:=(V.pk 7 [5,6,0,1,2,3,4]).aM;rw[<-Y]at M;rcases OD z with rfl|rfl|rfl|rfl
 ·have f1:b=dr U r 1:=S.symm.trans (iN oM)
  have f2:c=dr U r 2:=P.symm.trans (iN oM);have f3:d=dr U r 3:=t.symm.trans (iN oM);subst f1;subst f2;subst f3;rw[G 1 oM,G 2 oM,G 3 oM];exact M.sub
 ·have f0:a=dr U r 0:=Q.symm.trans (iN oM)
  have f2:c=dr U r 2:=P.symm.trans (iN oM);have f3:d=dr U r 3:=t.symm.trans (iN oM);subst f0;subst f2;subst f3;rw[G 0 oM,G 2 oM,G 3 oM];exact M.sub
 ·have f0:a=dr U r 0:=Q.symm.trans (iN oM)
  have f1:b=dr U r 1:=S.symm.trans (iN oM);have f3:d=dr U r 3:=t.symm.trans (iN oM);subst f0;subst f1;subst f3;rw[G 0 oM,G 1 oM,G 3 oM];exact M.sub
 ·have f0:a=dr U r 0:=Q.symm.trans (iN oM)
  have f1:b=dr U r 1:=S.symm.trans (iN oM);have f2:c=dr U r 2:=P.symm.trans (iN oM);subst f0;subst f1;subst f2;rw[G 0 oM,G 1 oM,G 2 oM];exact M.sub
end
end
section
def LQ(w:World)(b:Nat)(kv:List (Int×Value)):Prop:=∃arr a,w.heap[b]? =some (.map arr a)/\arr.toList.map (λe=>(e.key,e.val))=kv.map (λp=>(Value.int .i64 p.1,p.2))
def nN(b:Nat)(kv:List (Int×Value)):aw where
 holds _ w F:=(∀x,F x↔x=b)/\LQ w b kv
 lt h hb:=by
  obtain⟨Z,arr,a,y,_⟩:=h;rw[(Z _).1 hb];exact(DZ.1 y).1
 loc h _ _ hb:=by
  obtain⟨Z,arr,a,y,Y⟩:=h;exact⟨Z,arr,a,(hb _ ((Z _).2 rfl)).trans y,Y⟩
def pI(kv:List (Int×Value))(c:Int):Option Value:=(kv.find? (λp=>p.1==c)).map (·.2)
def qz(kv:List (Int×Value))(c:Int):List (Int×Value):=kv.eraseP (λp=>p.1==c)
section
variable {I:aH} {w:World} {L:List aw} {b:Nat} {o:List (Int×Value)} {P:Program} {t k e:TypeId}
theorem St.Aq(h:St I w L)(i:Nat)(z:L[i]? =some (nN b o)):LQ w b o:=by
 exact aeP
theorem St.Df(h:St I w L):St I (w.alloc (.map #[] 0)) (nN w.heap.size []::L):=
 h.add (F':=(·=w.heap.size)) ((Fr.refl _ _).alloc _) (λ_ _=>⟨λ_=>Wb,#[],0,(MapKept.heap_alloc w _).1,rfl⟩) (λ_ B=>ZG B.symm)
theorem pX(c:Int):∀(l:List MapEntry) (o:List (Int×Value)) (i:Nat),l.map (λe=>(e.key,e.val))=o.map (λp=>(Value.int .i64 p.1,p.2))->
 (Instr.findNow (.int .i64) (iI c) l i=some none/\pI o c=none/\qz o c=o)\/∃j v,Instr.findNow (.int .i64) (iI c) l i=some (some (i+j,v))/\pI o c=some v/\qz o c=o.eraseIdx j/\j<o.length
 |[],[],i,_=> .inl ⟨rfl,rfl,rfl⟩
 |[],_::_,i,h=>by simp at h
 |_::_,[],i,h=>by simp at h
 |e::l,p::o,i,h=>by
  rw[li,li,Hc]at h;obtain⟨Z,V⟩:=h;rw[Prod.mk.injEq]at Z;have U:Instr.sameNow (.int .i64) (iI c) e.key=some (c==p.1):=by rw[Z.1];rfl
  by_cases D:p.1=c
  ·refine .inr ⟨0,p.2,?_,?_,?_,by simp⟩
   ·unfold Instr.findNow
    rw[U,show(c==p.1)=true by simp[D]];simp[Z.2]
   ·unfold pI
    rw[UJ,show(p.1==c)=true by simp[D]]
    rfl
   ·unfold qz
    rw[VV (by simp[D])]
    rfl
  ·have B:(p.1==c)=false:=by simp[D]
   have a:Instr.findNow (.int .i64) (iI c) (e::l) i=Instr.findNow (.int .i64) (iI c) l (i+1):=by
    conv=>lhs;unfold Instr.findNow
    rw[U,show(c==p.1)=false by simp[VS D]]
   have u:pI (p::o) c=pI o c:=by
    unfold pI;rw[UJ,B]
   have q:qz (p::o) c=p::qz o c:=by
    unfold qz;rw[WE (by simp[D])]
   rcases pX c l o (i+1) V with⟨d,g,Q⟩|⟨j,v,d,g,Q,C⟩
   ·exact .inl ⟨a.trans d,u.trans g,by rw[q,Q]⟩
   ·exact .inr ⟨j+1,v,by rw[a,d];congr 3;omega,u.trans g,by rw[q,Q];rfl,by simpa using C⟩
theorem rW{α c:Type}(f:α->c):∀(l:List α) (j:Nat),(l.eraseIdx j).map f=(l.map f).eraseIdx j
 |[],_=>by simp
 |_::_,0=>by simp
 |_::l,j+1=>by simp[rW f l j]
theorem nh(R:P.underlying t=some (.map k e))(F:P.underlying k=some (.int .i64)){z:Value}(G:(zeroValue e).run P w= .ok z w)(h:LQ w b o)(c:Int)(ok:Bool):
 (Instr.lookup t (.map (some b)) (iI c) ok).run P w= .ok (if ok=true then .tuple #[(pI o c).getD z,.bool (pI o c).isSome]else(pI o c).getD z) w:=by
 obtain⟨arr,a,y,Y⟩:=h;have l:∀n,(Instr.checkKey n 10000 k (iI c)).run P w= .ok () w:=λn=>MapKept.run_checkKey (k:= iI c) F adi n 9999;rcases pX c arr.toList o 0 Y with⟨d,g,_⟩|⟨j,v,d,g,_⟩
 ·cases ok<;>simp[Instr.lookup,run_underlying R,MapKept.run_getObj_map y,l,MapKept.run_findKey F d,G,g,Result.andThen]
 ·cases ok<;>simp[Instr.lookup,run_underlying R,MapKept.run_getObj_map y,l,MapKept.run_findKey F d,g,Result.andThen]
theorem qg(R:P.underlying t=some (.map k e))(F:P.underlying k=some (.int .i64)){z:Value}(G:(zeroValue e).run P w= .ok z w)(c:Int):(Instr.lookup t (.map none) (iI c) true).run P w= .ok (.tuple #[z,.bool false]) w:=by
 have l:∀n,(Instr.checkKey n 10000 k (iI c)).run P w= .ok () w:=λn=>MapKept.run_checkKey (k:= iI c) F adi n 9999;have a:Instr.findNow (.int .i64) (iI c) ([]:List MapEntry) 0=some none:=rfl;simp[Instr.lookup,run_underlying R,l,MapKept.run_findKey F a,G,Result.andThen]
theorem St.yS(h:St I w (nN b o::L))(R:P.underlying t=some (.map k e))(Q:P.underlying k=some (.int .i64)){c:Int}(D:pI o c=none)(v:Value):
 ∃O,(Instr.mapUpdate t (.map (some b)) (iI c) v).run P w= .ok () O/\St I O (nN b (o++[(c,v)])::L):=by
 obtain⟨M,F,_,_,J,_,C⟩:=h.head;obtain⟨Z,arr,a,y,Y⟩:=J;have l:∀n,(Instr.checkKey n 10000 k (iI c)).run P w= .ok () w:=λn=>MapKept.run_checkKey (k:= iI c) Q adi n 9999;rcases pX c arr.toList o 0 Y with⟨d,_,_⟩|⟨j,H,_,g,_⟩
 ·refine⟨{w with heap:=w.heap.setIfInBounds b (.map (arr.push {key:= iI c,val:=v,born:=a}) (a+1))},?_,?_⟩
  ·simp[Instr.mapUpdate,run_underlying R,MapKept.run_getObj_map y,l,MapKept.run_findKey Q d,MapKept.run_setObj_map _ y,Result.andThen]
  ·have U:=MapKept.heap_set y (o':= .map (arr.push {key:= iI c,val:=v,born:=a}) (a+1))
   refine C _ _ F ⟨rfl,rfl,rfl,by simp,λi z W=>U.2 i (λe=>W ((Z i).2 e))⟩ (λ_=>⟨Z,_,_,U.1,?_⟩) (λ_ B=> .inl B);simp[Y]
 ·rw[D]at g;cases g
theorem St.XI(h:St I w (nN b o::L))(R:P.underlying t=some (.map k e))(W:P.underlying k=some (.int .i64))(c:Int)(T X:TypeId):
 ∃O,(Builtin.delete_ #[t,T] X #[.map (some b),iI c]).run P w= .ok (.tuple #[]) O/\St I O (nN b (qz o c)::L):=by
 obtain⟨M,F,_,_,J,_,C⟩:=h.head;obtain⟨Z,arr,a,y,Y⟩:=J;have l:∀n,(Instr.checkKey n 10000 k (iI c)).run P w= .ok () w:=λn=>MapKept.run_checkKey (k:= iI c) W adi n 9999;rcases pX c arr.toList o 0 Y with⟨d,_,Q⟩|⟨j,g,d,_,Q,H⟩
 ·refine⟨{w with heap:=w.heap.setIfInBounds b (.map arr a)},?_,?_⟩
  ·exact aeA
  ·have U:=MapKept.heap_set y (o':= .map arr a)
   rw[Q];exact C _ _ F ⟨rfl,rfl,rfl,by simp,λi z S=>U.2 i (λe=>S ((Z i).2 e))⟩ (λ_=>⟨Z,_,_,U.1,Y⟩) (λ_ B=> .inl B)
 ·rw[s7]at d
  refine⟨{w with heap:=w.heap.setIfInBounds b (.map (arr.eraseIdxIfInBounds j) a)},?_,?_⟩
  ·exact aeA
  ·have U:=MapKept.heap_set y (o':= .map (arr.eraseIdxIfInBounds j) a)
   refine C _ _ F ⟨rfl,rfl,rfl,by simp,λi z S=>U.2 i (λe=>S ((Z i).2 e))⟩ (λ_=>⟨Z,_,_,U.1,?_⟩) (λ_ B=> .inl B);have N:j<arr.size:=by
    have:=congrArg List.length Y;rw[nL,nL]at this;rw[<-VX];omega
   rw[Q];unfold Array.eraseIdxIfInBounds;rw[dif_pos N,Array.toList_eraseIdx,rW,Y,rW]
theorem QU(R:P.underlying t=some (.map k e))(X:TypeId)(h:LQ w b o):(Builtin.len_ #[t] X #[.map (some b)]).run P w= .ok (iI (o.length:Nat)) w:=by
 obtain⟨arr,a,y,Y⟩:=h;have C:arr.size=o.length:=by
  have:=congrArg List.length Y;rw[nL,nL]at this;rw[<-VX];exact this
 simp[Builtin.len_,run_underlying R,MapKept.run_getObj_map y,Result.andThen,goInt,C]
theorem DU(R:P.underlying t=some (.map k e))(X:TypeId):(Builtin.len_ #[t] X #[.map none]).run P w= .ok (iI 0) w:=by
 simp[Builtin.len_,run_underlying R,Result.andThen,goInt]
end
section
variable {I:aH} {w:World} {L:List aw}
abbrev uX:aw:=ko True
theorem St.CG:∀{Xs:List aw} {i:Nat} {X:aw} {L:List aw},St I w (gQ Xs::L)->Xs[i]? =some X->St I w (X::gQ (Xs.set i uX)::L)
 |[],i,X,L,_,z=>by simp at z
 |Y::r,0,X,L,h,z=>by
  obtain rfl:Y=X:=by simpa using z
  have Z:St I w (aX Y (gQ r)::L):=h;have V:=Z.star;exact((V.swap.uk (p:=True) trivial).aM).swap
 |Y::r,i+1,X,L,h,z=>by
  have Z:St I w (aX Y (gQ r)::L):=h;have M:=St.CG (i:=i) (X:=X) Z.star.swap acA;have Q:St I w (Y::gQ (r.set i uX)::X::L):=M.pick 3 [2,1,0];exact(St.aM (X:=Y) (Y:=gQ (r.set i uX)) Q).swap
theorem St.KE:∀{a:List aw} {i:Nat} {Y:aw} {L:List aw},i<a.length->St I w (Y::gQ (a.set i uX)::L)->St I w (gQ (a.set i Y)::L)
 |[],i,Y,L,z,_=>by simp at z
 |Z::r,0,Y,L,_,h=>by
  have V:St I w (aX uX (gQ r)::Y::L):=h.swap;exact(V.star.tail.swap).aM
 |Z::r,i+1,Y,L,z,h=>by
  have V:St I w (aX Z (gQ (r.set i uX))::Y::L):=h.swap;have J:St I w (Y::gQ (r.set i uX)::Z::L):=V.star.pick 3 [2,1,0];exact((St.KE acA J).swap).aM
theorem St.CF:∀{Xs:List aw} {Y:aw} {L:List aw},St I w (Y::gQ Xs::L)->St I w (gQ (Xs++[Y])::L)
 |[],Y,L,h=>by
  have V:St I w (Y::uX::L):=h;exact V.aM
 |Z::r,Y,L,h=>by
  have K:St I w (aX Z (gQ r)::Y::L):=h.swap;have V:St I w (Y::gQ r::Z::L):=K.star.pick 3 [2,1,0];exact((St.CF V).swap).aM
theorem St.Gx:∀{Xs:List aw} {i:Nat} {L:List aw},i<Xs.length->St I w (gQ Xs::L)->St I w (gQ (Xs.eraseIdx i)::L)
 |[],i,L,z,_=>by simp at z
 |Z::r,0,L,_,h=>by
  have V:St I w (aX Z (gQ r)::L):=h;exact V.star.tail
 |Z::r,i+1,L,z,h=>by
  have V:St I w (aX Z (gQ r)::L):=h;exact((St.Gx acA V.star.swap).swap).aM
end
end
end Go.Proofs.YtblpaldggenbaaaGreatDoor
