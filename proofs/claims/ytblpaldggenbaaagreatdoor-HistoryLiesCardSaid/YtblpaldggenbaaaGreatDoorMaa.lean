/- A part. -/
import Derived.Test.YtblpaldggenbaaaGreatDoorMy
import Derived.Test.YtblpaldggenbaaaGreatDoorMj
namespace Go.Proofs.YtblpaldggenbaaaGreatDoor
open Go.RowKit Go.Proofs.Tryz
set_option maxRecDepth 100000
set_option maxHeartbeats 64000000
variable{k:Nat}{r:Int}{x:eW}
section
open Go.Shelf
abbrev fX:=iO×bp
def Lw(z:fX):aw:=aX (ay 136 2 iE (.slice z.1.p.a z.1.p.n z.1.p.c) z.2.p) (ay 138 3 gD (.slice z.1.k.a z.1.k.n z.1.k.c) z.2.k)
def tz:List fX->aw
 |[]=>aS λ_=>True
 |z::r=>aX (Lw z) (tz r)
section
variable {I:aH} {w:World} {L:List aw}
theorem St.XT(h:St I w L):St I w (tz []::L):=h.bG (λ_ _=>trivial)
theorem St.uR{z:fX}{zs:List fX}(h:St I w (Lw z::tz zs::L)):St I w (tz (z::zs)::L):=h.aM
theorem St.uq{z:fX}{g:List fX}(h:St I w (tz (z::g)::L)):St I w (Lw z::tz g::L):=h.star
theorem St.sK{g R:List fX}(o:g.Perm R):∀{L:List aw},St I w (tz g::L)->St I w (tz R::L):=by
 induction o with
 |nil=>exact λh=>h
 |cons z _ K=>exact λh=>(K h.uq.swap).swap.uR
 |swap a b l=>
  intro L h;have Z:=h.uq;have V:=(Z.swap.uq);have M:=V.pk 3 [2,1,0];have Q:=M.uR;exact(Q.swap).uR
 |trans _ _ c n=>exact λh=>n (c h)
theorem LD{X:Type}{l:List X}{z:X}(h:l[k]? =some z):l.Perm (z::l.eraseIdx k):=by
 obtain⟨F,e⟩:=lQ.1 h;have:l=l.take k++z::l.drop (k+1):=by rw[<-JO h,IY]
 conv=>lhs;rw[this]
 rw[VD];exact XM
theorem Ax{X:Type}{l:List X}(z:X)(h:k<l.length):(z::l.eraseIdx k).Perm (l.set k z):=by
 have Z:(l.set k z)[k]? =some z:=zcJ h;have:=LD Z;rw[List.eraseIdx_set_eq]at this;exact this.symm
end
theorem Ng{X c:Type}{f:X->c}{R T:List c}(o:R.Perm T):∀g:List X,g.map f=T->∃e:List X,e.map f=R/\e.Perm g:=by
 induction o with
 |nil=>exact λg h=>⟨g,h,zc0 _⟩
 | @cons x W k _ K=>
  intro g h
  cases g with
  |nil=>cases h
  |cons z g=>
   rw[li]at h;injection h with Z V;obtain⟨e,M,Q⟩:=K g V;exact⟨z::e,by rw[li,Z,M],Q.cons z⟩
 |swap x y l=>
  intro g h
  match g,h with
  |a::b::g,h=>
   rw[li,li]at h;injection h with Z V;injection V with V M;exact⟨b::a::g,by rw[li,li,Z,V,M],List.Perm.swap a b g⟩
 |trans _ _ n r=>
  intro g h;obtain⟨G,d,O⟩:=r g h;obtain⟨q,H,J⟩:=n G d;exact⟨q,H,J.trans O⟩
theorem NC{I:aH}{L R:List aw}(x:iO)(y:Nat)(a:Vq)(t:Int)(w:World)(Y:a[4]? =some (iU t))(o:At (ab y 34 a) L R)(h:St I w L):
 Calls prog 51 (#[.agg (eo x).toArray]++ #[pO y]) w λe O=>e= .returned (.bool (x.t==t))/\St I O L:=by
 have Z:=h.alloc 131 #[iU x.t,.slice x.p.a x.p.n x.p.c,iI x.s,.slice x.k.a x.k.n x.k.c];have G:=(Z.ah 0 rfl).cell 0;have z:=((Z.tT (At.there o)).cell 4).trans Y;have H:=aa Z.tail;clear h Z
 go_enter func51,ntmps51
 exact adY
theorem Ja{I:aH}{L:List aw}(f:FuncId)(K:Vq)(p:iO->Bool)(l:List iO)(A:OA)(n c:Nat)(w:World)
 (D:∀(args:Vq) (W:World),Sem.run prog (callFunc f args) W= .ok (.enter f args) W)
 (d:∀W,St I W L->fo eo 4 W (.slice A n c) l)
 (hF:∀(x:iO) (W:World),x∈l->St I W L->Calls prog f (#[.agg (eo x).toArray]++K) W λe g=>e= .returned (.bool (p x))/\St I g L)
 (h:St I w L):
 Rt I w 50 #[.slice A n c,.func (.func f) #[] K] (iI (dz p 0 l)) L:=by
 obtain⟨P,N,Z,_⟩:=(d w h).sl;refine xH P d h hF D (show dz p 0 l=dz p 0 (l.drop 0)from rfl) λb t H y V j=>?_;clear h P hF D d
 go_enter func50,ntmps50
 go_wp2_with fail
 go_loopg [8] n (λQ i wr=>∃(k:Nat),Q=n-k/\k<=n/\i= iI (k:Nat)/\dz p 0 l=dz p k (l.drop k)/\St I wr L)
 case atStart=>exact aex
 case round=>
  clear H j;obtain⟨k,u,F,rfl,z,h⟩:=hrel;have R:=aa u;clear u;by_cases B:k<n
  ·have J:=gP (l:=l) (i:=k) acz
   have O:=Eb (l:=l) (i:=k) acz;generalize l[k]' acz=x at J O;have U:dz p k (l.drop k)=if p x=true then(k:Int)else dz p (k+1) (l.drop (k+1)):=by rw[O];rfl
   have G:=aa (pJ J);obtain⟨Y,rfl,a⟩:=(t _ h).at_ lM J;obtain⟨M,S,P,q⟩:=nZ a;refine bm (z.trans U) h λC r=>?_;clear J h a O U z;have X:(0:Int)<=(k:Int):=oM
   have i1:(k:Int)<(n:Int):=oM
   go_wp2_with fail
   rw[V.out,Oper.upon_enter];refine qH (y x _ G r) λw2 T=>?_;clear r M S P q
   cases o:p x with
   |true=>
    exact ad3
   |false=>
    exact ad0
  ·exact adR
end
section
open Go.Shelf
theorem DD{w:World}{b:Nat}{t:TypeId}{cs:LV}(h:eF w b t cs.toArray):Sl w Any cs.length (aO b) 1 cs:=
 ⟨by simp,λ_=>⟨_,rfl,trivial,h.lt,λj u E=>by
  rw[show(⟨b,0,none⟩:Addr).add j=⟨b,j,none⟩by simp[Addr.add];exact Qt,h.cell];simpa using E⟩⟩
theorem Ns:eB prog 128 136 (.agg #[iI 0,sN]) 2 32:=⟨underlying128,kR,kR,oM⟩
theorem ID:eB prog 129 138 (.agg #[iI 0,iI 0,sN]) 3 40:=⟨underlying129,kR,kR,oM⟩
theorem Hv(w:World)(a:Int)(A:OA)(n c:Nat):(Instr.buildSlice 128 1 #[(0,.agg #[iI a,.slice A n c])]).run prog w= .ok (.slice (aO w.heap.size) 1 1) (w.alloc (.cells #[iI a,.slice A n c] 136)):=kR
theorem Fo(w:World)(a b:Int)(A:OA)(n c:Nat):(Instr.buildSlice 129 1 #[(0,.agg #[iI a,iI b,.slice A n c])]).run prog w= .ok (.slice (aO w.heap.size) 1 1) (w.alloc (.cells #[iI a,iI b,.slice A n c] 138)):=kR
theorem Jh(w:World)(t s:Int)(A S:OA)(n c m d:Nat):(Instr.buildSlice 95 1 #[(0,.agg #[iU t,.slice A n c,iI s,.slice S m d])]).run prog w= .ok (.slice (aO w.heap.size) 1 1) (w.alloc (.cells #[iU t,.slice A n c,iI s,.slice S m d] 131)):=kR
theorem QH(a:Int)(A:OA)(n c:Nat):∀u∈([iI a,.slice A n c]:LV),u.oneCell'=true:=by
 exact afv
theorem Nr(a b:Int)(A:OA)(n c:Nat):∀u∈([iI a,iI b,.slice A n c]:LV),u.oneCell'=true:=by
 intro u E;simp only[nO,nK,or_false]at E;exact afA
abbrev YQ(x:eW)(A:OA)(c:Nat):Vq:= #[iI x.d,iI x.c,iI x.r,iI x.i,iU x.t,.slice A x.b.length c,iI x.e]
def Vr(w:World)(N:LV)(x:eW):Prop:=∃A c,N=[iI x.d,iI x.c,iI x.r,iI x.i,iU x.t,.slice A x.b.length c,iI x.e]/\aA w .u8 (.slice A x.b.length c) x.b
theorem Vs{w:World}{p:Addr}{a b c d e f g:Value}(h:∀j u,[a,b,c,d,e,f,g][j]? =some u->w.cell? (p.add j)=some u):w.cell? p=some a/\w.cell? ⟨p.block,p.off+1,none⟩=some b/\w.cell? ⟨p.block,p.off+2,none⟩=some c/\w.cell? ⟨p.block,p.off+3,none⟩=some d/\w.cell? ⟨p.block,p.off+4,none⟩=some e/\w.cell? ⟨p.block,p.off+5,none⟩=some f/\w.cell? ⟨p.block,p.off+6,none⟩=some g:=
 ⟨by simpa[Addr.add]using h 0 a rfl,by simpa[Addr.add]using h 1 b rfl,by simpa[Addr.add]using h 2 c rfl,by simpa[Addr.add]using h 3 d rfl,by simpa[Addr.add]using h 4 e rfl,by simpa[Addr.add]using h 5 f rfl,by simpa[Addr.add]using h 6 g rfl⟩
structure jy(r:Int)(l:List eW)(zs:List fX):Prop where
 eq:zs.map Prod.snd=fZ r l
 ok:∀z∈zs,z.1.t=z.2.t/\z.1.s=z.2.s
 n:zs.length<=l.length
 p:∀z∈zs,z.2.p.length<=l.length/\z.2.k.length<=l.length
theorem Cs(s:bp)(x:eW):(bH s x).p.length<=s.p.length+1/\(bH s x).k.length<=s.k.length+1:=by
 unfold bH
 split
 ·exact acy
 ·split<;>simp
theorem jy.skip{l:List eW}{g:List fX}(h:jy r l g)(u:x.cX r=false):jy r (l++[x]) g:=
 ⟨by rw[lp,iN (by rw[u];exact gV)];exact h.eq,h.ok,by have:=h.n;simp;omega,λz G=>by have:=h.p z G;simp;omega⟩
theorem jy.more{l:List eW}{g:List fX}(h:jy r l g)(u:x.cX r=true)(W:(g.map Prod.fst).find? (λs=>s.t==x.t)=none){a:fX}(G:a.2=bH (gI x.t) x)(H:a.1.t=a.2.t/\a.1.s=a.2.s):
 jy r (l++[x]) ((g++[((⟨x.t,⟨none,0,0⟩,0,⟨none,0,0⟩⟩:iO),gI x.t)]).set g.length a):=by
 have e:(g++[((⟨x.t,⟨none,0,0⟩,0,⟨none,0,0⟩⟩:iO),gI x.t)]).set g.length a=g++[a]:=by simp
 rw[e];have D:∀s∈fZ r l,s.t≠x.t:=by
  rw[<-h.eq];intro s U Y;obtain⟨z,G,rfl⟩:=oK.1 U;have:=Zr.1 W z.1 (oK.2 ⟨z,G,rfl⟩);rw[(h.ok z G).1,Y]at this;simp at this
 refine⟨by rw[lp,iP u,Bp D,xd,h.eq,<-G];rfl,λz G=> ?_,by have:=h.n;simp;omega,λz y=> ?_⟩
 ·rcases lU.1 G with G|G
  ·exact h.ok z G
  ·rw[lA]at G
   rw[G];exact H
 ·rcases lU.1 y with y|y
  ·have:=h.p z y
   exact acC
  ·rw[lA]at y
   rw[y,G];have:=Cs (gI x.t) x;simp[gI]at this⊢;omega
theorem jy.put{l:List eW}{g:List fX}{z a:fX}(h:jy r l g)(u:x.cX r=true)(F:g[k]? =some z)(R:z.1.t=x.t)(D:∀y∈(g.map Prod.fst).take k,(y.t==x.t)=false)(G:a.2=bH z.2 x)(H:a.1.t=a.2.t/\a.1.s=a.2.s):
 jy r (l++[x]) (g.set k a):=by
 have p:=pJ F;have N:(fZ r l)[k]? =some z.2:=by rw[<-h.eq,wO,F];rfl
 refine⟨?_,λy E=> ?_,by have:=h.n;simp;omega,λy E=> ?_⟩
 ·rw[lp,iP u,Ce N ((h.ok z p).1.symm.trans R) (λs U=> ?_),Wj,h.eq,G]
  rw[<-h.eq,<-Sx]at U;obtain⟨y,E,rfl⟩:=oK.1 U;intro Y;have:=D y.1 (by rw[<-Sx];exact oK.2 ⟨y,E,rfl⟩);rw[(h.ok y (Hn E)).1,Y]at this;simp at this
 ·rcases Yy E with E|rfl
  ·exact h.ok y E
  ·exact H
 ·rcases Yy E with E|rfl
  ·have:=h.p y E
   exact acC
  ·rw[G]
   have:=Cs z.2 x;have:=h.p z p;exact acC
theorem St.Aw{I:aH}{w:World}{L:List aw}{z':fX}{P K:aw}{g:List fX}{v:Value}{T ys:List iO}(h:St I w (P::K::tz g::dV eo 131 4 v T::L))(Z:Lw z'=aX P K)(V:T=ys):St I w (tz (z'::g)::dV eo 131 4 v ys::L):=by
 subst V;refine St.uR ?_;rw[Z];exact h.aM
def Wm(z:fX)(c d:Nat->LV):eH:=⟨z.2,z.1.p.a,z.1.p.c,c,z.1.k.a,z.1.k.c,d⟩
theorem St.Zw{I:aH}{w:World}:∀{g:List fX} {L:List aw},St I w (tz g::L)->(∀z∈g,z.1.t=z.2.t/\z.1.s=z.2.s)->∃T:List eH,T.map eH.s=g.map Prod.snd/\St I w (aS (λO=>∀(i:Nat) x z,T[i]? =some x->g[i]? =some z->lH O (eo z.1) x)::L)
 |[],L,h,_=>⟨[],rfl,St.bu (R:=λ_=>True) h (λ_ _ i x z J=>by simp at J)⟩
 |z::g,L,h,H=>by
  have Z:=h.uq.star;obtain⟨Y,V⟩:=Z.kF.ex;obtain⟨o,M⟩:=(V.swap.kF).ex;obtain⟨X,G⟩:=H z acy;have S:=(M.ku (Q:=λO=>lH O (eo z.1) (Wm z Y o)) (λO a b=>by
   have j:=b;have N:=a;obtain⟨_,_,e,_⟩:=j;injection e with _ e _;obtain⟨_,_,A,_⟩:=N;injection A with _ A _;have e:=e.symm;have A:=A.symm;refine⟨?_,?_,?_⟩
   ·show [_,_,_,_]=_
    rw[X,G];show [_,Value.slice z.1.p.a z.1.p.n z.1.p.c,_,Value.slice z.1.k.a z.1.k.n z.1.k.c]=[_,Value.slice z.1.p.a z.2.p.length z.1.p.c,_,Value.slice z.1.k.a z.2.k.length z.1.k.c];rw[e,A]
    rfl
   ·show bF O 2 iE (.slice z.1.p.a z.2.p.length z.1.p.c) Y z.2.p
    rw[e];exact b
   ·show bF O 3 gD (.slice z.1.k.a z.2.k.length z.1.k.c) o z.2.k
    rw[A];exact a)).swap
  obtain⟨T,F,P⟩:=S.Zw (λy E=>H y (by simp[E]));refine⟨Wm z Y o::T,by rw[li,li,F];rfl,P.ku (λO a b i x y J E=> ?_)⟩
  cases i with
  |zero=>
   obtain rfl:Wm z Y o=x:=by simpa using J
   obtain rfl:z=y:=by simpa using E
   exact b
  |succ i=>exact a i x y (by simpa using J) (by simpa using E)
def JG(g:List fX)(i:Nat):LV:=match g[i]? with|some z=>eo z.1|none=>[]
theorem ND{g:List fX}{i:Nat}{z:fX}(h:g[i]? =some z):JG g i=eo z.1:=by unfold JG;rw[h]
theorem St.ZU{I:aH}{w:World}{L:List aw}{v:Value}{g:List fX}{T:List eH}(h:St I w (aS (λO=>∀(i:Nat) x z,T[i]? =some x->g[i]? =some z->lH O (eo z.1) x)::dV eo 131 4 v (g.map Prod.fst)::L))(o:T.map eH.s=g.map Prod.snd):St I w (aB 4 lH v T::L):=by
 have Z:=h.swap.yg;refine St.cZ (f:=λq=>aS (λw=>bF w 4 lH v q T)) (JG g) (Z.ku (λO a b=> ?_));obtain⟨A,c,rfl,V,M,Q⟩:=a;have F:T.length=g.length:=by have:=congrArg List.length o;simpa using this
 refine⟨A,c,by rw[F,nL],by rw[F];simpa using V,M,λi x J=> ?_⟩;have S:i<g.length:=by rw[<-F];exact(lQ.1 J).1
 have G:=gP S;obtain⟨Y,r,D⟩:=fo.at_ (C:=eo) (size:=4) lM (show fo eo 4 O (.slice A (g.map Prod.fst).length c) (g.map Prod.fst)from⟨A,c,rfl,V,M,Q⟩) (k:=i) (x:=g[i].1) (by rw[wO,G];rfl);rw[ND G];refine⟨Y,r,rfl,λj u E=> ?_,b i x _ J G⟩;exact D j u E
theorem Sm:∀{a b c d e:Bool},(!a&& !b&& !c&& !d&& !e)=true->a=false/\b=false/\c=false/\d=false/\e=false:=by intro a b c d e;revert a b c d e;decide
theorem Fh{I:aH}{L:List aw}(v:Value)(r:Int)(l:List eW)(w:World)(Q2:l.length<=1000000)(R1:(fZ r l).length<20)(L1:∀x∈l,x.cX r=true->x.d=5\/x.d=6->x.b.length<=1000)(h:St I w (aB 7 Vr v l::L)):
 Calls prog 31 #[v,iI r] w λe O=>∃(u:Value) (xs:List eH),e= .returned u/\(xs.map eH.s).Perm (fZ r l)/\((xs.map eH.s).map bp.t).Pairwise (·<=·)/\St I O (aB 4 lH u xs::aB 7 Vr v l::L):=by
 obtain⟨Av,cv,rfl,M2,V2⟩:=(h.dJ 0 rfl).slice;obtain⟨n,hn⟩:=nM (l.length);rw[<-hn]at M2 h Q2⊢;refine mr hn L1 R1 ((h.XT).DG eo 131 4) λHN Y1 A2 B1=>?_;clear h hn L1 R1
 go_enter func31,ntmps31
 go_wp2_with fail
 go_loopg [5,12] n (λgh ov iv wr=>∃(j q:Nat) (A:OA) (c:Nat) (zs:List fX),gh=n-j/\j<=n/\ov= .slice A q c/\iv= iI (j:Nat)/\q=zs.length/\jy r (l.take j) zs/\St I wr (dV eo 131 4 (.slice A q c) (zs.map Prod.fst)::tz zs::aB 7 Vr (.slice Av n cv) l::L))
 case atStart=>exact⟨0,0,none,0,[],rfl,oM,rfl,rfl,rfl,⟨rfl,λ_ h=>absurd h nK,by simp,λ_ h=>absurd h nK⟩,B1⟩
 case round=>
  clear B1;obtain⟨j,q,A,c,zs,hg,hj,rfl,rfl,hq,U1,h⟩:=hrel;refine ib hg U1 hq λHG g R=>?_;clear hg U1;by_cases W0:j<n
  ·have hx:=gP (l:=l) (i:=j) (by rw[<-HN.out];exact W0)
   generalize l[j]'(by rw[<-HN.out];exact W0)=x at hx;have P0:=aa (show l.take (j+1)=l.take j++[x]by rw[Et,hx];rfl);have C1:=aa (Y1 x (pJ hx));have Y0:q<=j:=by rw[hq];have:=g.n;rw[fJ]at this;omega
   obtain⟨ad,cs,rfl,_,O1,N2,h⟩:=h.elem 2 rfl hx;obtain⟨t,E,rfl,O2⟩:=N2;obtain⟨e0,e1,e2,e3,e4,e5,e6⟩:=Vs O1;have Z:=(h.bu (R':=λO=>aA O .u8 (.slice t x.b.length E) x.b) (λO hw=>by
    obtain⟨_,G,p,e,hi⟩:=hw;injection e with _ e;injection e with _ e;injection e with _ e;injection e with _ e;injection e with _ e;injection e with e _;rw[e];exact hi)).alloc 34 (YQ x t E)
   generalize hy:wr.heap.size=y at Z;have HY:=aa hy;have j0:(0:Int)<=(j:Int):=oM
   have j1:(j:Int)<(n:Int):=oM
   have H1:=aa Z;obtain⟨a1,I1⟩:∃a1,(x.r !=r)=a1:=⟨_,rfl⟩;obtain⟨a2,J1⟩:∃a2,(x.t==0)=a2:=⟨_,rfl⟩;obtain⟨a3,K1⟩:∃a3,(x.e !=0)=a3:=⟨_,rfl⟩;obtain⟨a4,T0⟩:∃a4,decide (x.d<5)=a4:=⟨_,rfl⟩;obtain⟨a5,J0⟩:∃a5,decide (x.d>7)=a5:=⟨_,rfl⟩;have I2:decide (7<x.d)=a5:=J0;have F0:x.cX r=(!a1&& !a2&& !a3&& !a4&& !a5):=by
    unfold eW.cX;rw[<-I1,<-J1,<-K1,<-T0,<-J0];have e1:decide (5<=x.d)= !decide (x.d<5):=by rw[<-decide_not];exact decide_eq_decide.2 oM
    have e2:decide (x.d<=7)= !decide (x.d>7):=by rw[<-decide_not];exact decide_eq_decide.2 oM
    rw[e1,e2];simp[bne]
   clear h Z hx O1 O2 hy hq;by_cases E0:x.cX r=true
   case neg=>
    have K0:x.cX r=false:=by simpa using E0
    have B0:=aa (show jy r (l.take (j+1)) zs by rw[P0.out];exact g.skip K0);rw[F0]at K0;have T:=aa (H1.pk 2 []);clear H1 E0 F0
    cases a1
    case' true=>skip
    case' false=>cases a2
    case' false.false=>cases a3
    case' false.false.false=>cases a4
    case' false.false.false.false=>cases a5
    case' false.false.false.false.false=>exact absurd K0 dC
    all_goals
     clear K0
     go_wp2_with fail
     go_roundg (n-(j+1))
     case measure=>exact ad5
     case rel=>exact⟨j+1,q,A,c,zs,rfl,oM,rfl,by go_num,R,B0,T⟩
   case pos=>
    rw[E0]at F0;have ha:=Sm F0.symm;obtain⟨rfl,rfl,rfl,rfl,rfl⟩:=ha;have P1:5<=x.d/\x.d<=7:=⟨by have:=of_decide_eq_false T0;omega,by have:=of_decide_eq_false J0;omega⟩;have Z1:=aa P1;have Q1:=λargs I0=>enters_of func51 kR rfl (P:=prog) args I0;refine bm E0 Y0 λG0 C0=>?_;clear F0 E0 P1 Y0
    go_wp2_with fail
    rw[HY.out];refine qK (Ja 51 #[pO y] (λs=>s.t==x.t) (zs.map Prod.fst) A q c _ Q1 (λI0 hW=>hW.eM) (λs I0 _ hW=>NC s y (YQ x t E) x.t I0 rfl (by exact aU) hW) H1) λw2 V=>?_;obtain⟨zi,A1⟩:=nM (dz (λs:iO=>s.t==x.t) 0 (zs.map Prod.fst));rw[<-A1];refine bm A1 (V.pk 4 [2,3,0,1]) λR0 T=>?_;clear V H1 A1 e0 e1 e2 e3 e4 e5 e6 Q1 HY I1 J1 K1 T0 J0 I2
    go_upto_if 44 with fail
    go_cut [5,8] (λov iv N=>∃(J o Y k:Nat) (X:List fX) (z:fX),ov= .slice (aO J) o Y/\iv= iI (k:Nat)/\X[k]? =some z/\o=X.length/\o<=j+1/\(z.2.p.length<=j/\z.2.k.length<=j)/\(z.1.t=z.2.t/\z.1.s=z.2.s)/\(∀z':fX,z'.2=bH z.2 x->z'.1.t=z'.2.t/\z'.1.s=z'.2.s->jy r (l.take (j+1)) (X.set k z'))/\St I N (dV eo 131 4 (.slice (aO J) o Y) (X.map Prod.fst)::tz X::ab y 34 (YQ x t E)::ai .u8 (.slice t x.b.length E) x.b::aB 7 Vr (.slice (some ad) n cv) l::L))
    case first=>
     as_aux_lemma=>
      rcases pj (λs:iO=>s.t==x.t) (zs.map Prod.fst) 0 with⟨H,a⟩|⟨k,s,H,hk,hp,a⟩
      ·have Z0:zi= -1:=R0.trans H
       subst Z0;have HF:=aa (show(zs.map Prod.fst).find? (λs=>s.t==x.t)=none from Zr.2 (λs hs=>by
        have:=XQ.1 a s hs;simpa using this))
       have y4:=(T.ah 2 rfl).cell 4;have h3:=T.alloc 131 #[iU x.t,sN,iI 0,sN];refine bm (h3.ah 0 rfl) ((h3.fi 1).kL.2) λHB H3=>?_;have L2:=Jh;clear H a h3
       go_wp2_with (at_builtin;refine St.dW He H3 rfl _ _ rfl rfl (aO w2.heap.size) 1 1 rfl (eo ⟨x.t,⟨none,0,0⟩,0,⟨none,0,0⟩⟩) (DD (cs:=[iU x.t,sN,iI 0,sN]) HB) (KI _) (by have:=C0.out;omega) (by have:=C0.out;omega) ?_;intro A6 c6 w6 h7)
       obtain⟨J,rfl⟩:=fQ (h7.row 0 rfl) oM;have h8:=St.Dr (C:=eo) (x:=(⟨x.t,⟨none,0,0⟩,0,⟨none,0,0⟩⟩:iO)) h7 (by rw[nL];exact R.out);have h9:=(((h8.dU 138 3 gD).dU 136 2 iE).aM);have F1:=St.uR (z:=((⟨x.t,⟨none,0,0⟩,0,⟨none,0,0⟩⟩:iO),gI x.t)) (zs:=zs) (h9.pk 4 [0,3,1]);have G1:=F1.sK (zc7 ((⟨x.t,⟨none,0,0⟩,0,⟨none,0,0⟩⟩:iO),gI x.t) zs).symm;have X1:=aa G1;clear h7 h8 h9 F1 G1 H3 HB y4 L2
       try go_wp2_with fail
       go_meet
       exact⟨J,q+1,c6,q,zs++[(⟨x.t,⟨none,0,0⟩,0,⟨none,0,0⟩⟩,gI x.t)],(⟨x.t,⟨none,0,0⟩,0,⟨none,0,0⟩⟩,gI x.t),rfl,rfl,by rw[R.out];simp,by rw[R.out];simp,by have:=C0.out;omega,⟨jG _,jG _⟩,⟨rfl,rfl⟩,λz' Z V=>by rw[P0.out,R.out];exact g.more G0 HF Z V,by have:=X1.swap;rw[xd];exact this⟩
      ·have Z0:zi=((k:Nat):Int):=R0.trans (H.trans (by rw[s7]))
       subst Z0;rw[wO]at hk;obtain⟨z,b,rfl⟩:=zcg.1 hk;have P2:=(lQ.1 b).1;refine bm b (show z.1.t=x.t by simpa using hp) λE1 E2=>?_;have C2:=aa (show∀y∈(zs.map Prod.fst).take k,(y.t==x.t)=false from λy hy=>by
        have:=XQ.1 a y hy;simpa using this)
       have B2:=aa (show z.2.p.length<=j/\z.2.k.length<=j by
        have:=g.p z (pJ b);rw[fJ]at this;omega)
       have D0:=aa (g.ok z (pJ b));have kn:decide ((k:Int)<0)=false:=decide_eq_false (by omega);obtain⟨J,K2⟩:=fQ ((T.kL.2).row 0 rfl) (by rw[R.out];omega);subst K2;clear H hk hp a b P2
       go_wp2_with fail
       go_meet
       exact⟨J,q,c,k,zs,z,rfl,rfl,E1,R,by have:=C0.out;omega,B2,D0,λz' Z V=>by rw[P0.out];exact g.put G0 E1 E2 C2 Z V,T⟩
    case rest=>
     as_aux_lemma=>
      clear T R0 R g C0;obtain⟨J,o,Y,k,X,z,rfl,rfl,b,V1,Y0,V0,W1,T1,h⟩:=hcut;obtain⟨xs,d⟩:=nM (X.map Prod.fst);have U:=aa (show xs[k]? =some z.1 by rw[d,wO,b];rfl);have H0:=aa ((lQ.1 b).1);rw[<-d]at h;have F:=(((h.fi 1).sK (LD b)).uq).star;obtain⟨_,X0,_⟩:=F.bK;obtain⟨_,S1,_⟩:=F.swap.bK;refine Cz X0 d V1 T1 W1 λD1 Q0 O0 B0 D0=>?_;have W2:z.1.p.n<=j:=by rw[X0];exact V0.1
      have U2:z.1.k.n<=j:=by rw[S1];exact V0.2
      have k0:(0:Int)<=(k:Int):=oM
      have k1:(k:Int)<(o:Int):=by have:=H0.out;omega
      have H5:=aa F;have y0:=(F.ah 4 rfl).cell 0;clear h F b V1 d X0 S1 T1 W1 V0;by_cases F:x.d=5
      ·have b1:=Ec F
       have W:Hid (bH z.2 x=⟨z.2.t,z.2.p++[⟨x.i,x.b⟩],z.2.s,z.2.k⟩):=iP F;have N0:=aa (show x.b.length<=140737488355328 by have:=C1.out G0 (.inl F);omega);clear F
       go_wp2_with fail
       clear y0;have K:=H5.out;clear H5;refine ak (I:=I) (L0:=ay 138 3 gD (.slice z.1.k.a z.1.k.n z.1.k.c) z.2.k::tz (X.eraseIdx k)::aB 7 Vr (.slice (some ad) n cv) l::L) [⟨none,none,λe=>ab y 34 (YQ x t E)⟩,⟨none,some 15,λe=>dV eo 131 4 (.slice (aO J) o Y) (xs)⟩,⟨none,some 12,λe=>ay 136 2 iE (.slice z.1.p.a z.1.p.n z.1.p.c) z.2.p⟩,⟨none,none,λe=>ai .u8 (.slice t x.b.length E) x.b⟩,⟨some 9,none,λe=>ai .u8 (.slice (e 9).A x.b.length (e 9).n) x.b⟩,⟨some 11,none,λe=>ab (e 11).n 136 #[iI x.i,.slice (e 9).A x.b.length (e 9).n]⟩,⟨some 12,none,λe=>ay 136 2 iE (.slice (e 12).A (z.1.p.n+1) (e 12).n) (z.2.p++[⟨x.i,x.b⟩])⟩,⟨some 15,none,λe=>dV eo 131 4 (.slice (aO J) o Y) (xs.set k ⟨z.1.t,⟨(e 12).A,z.1.p.n+1,(e 12).n⟩,z.1.s,z.1.k⟩)⟩] [[],[],[1],[1,2],[1,2,3],[],[5],[],[7],[7,8],[5,6,7,8,9],[5,6,7,8,9,10],[1,2,3,4,5,6,7,8,9,10,11],rG 13,rG 14,rG 15] (rG 16) rfl kR kR kR (by rfl) (λ_=>rfl) K.fk ?_;refine AG ?_;refine kj _ rfl (λe N M h=>by(have h:=h.fn;have a:=h.eM (C:=eo) (e:=131) (size:=4) (v:= .slice (aO J) o Y) (xs:=xs);obtain⟨x0,x1,x2,x3⟩:=hZ a U;go_simp;try rfl)) ?_;simp only[aR];refine AG ?_;refine aZ 23 (λe=> #[.slice t x.b.length E]) (λe=> .slice (e 9).A x.b.length (e 9).n) rfl (λe N M h=>by(
        have h:=h.fn;refine(dY t x.b.length E x.b _ (h.jr (Q:=λw=>aA w .u8 (.slice t x.b.length E) x.b)).sl.2.2.2 N0 h).mono ?_;rintro u wy⟨v,rfl,Z⟩;obtain⟨G,p,rfl⟩:=Z.slice;have V:=St.ints (k:= .u8) (xs:=x.b) Z;exact⟨⟨G,p,default⟩,rfl,V.fk⟩)) ?_
       simp only[aR];refine lY ?_;refine xN (λe=> .slice (some ⟨(e 11).n,0,none⟩) 1 1) rfl (λe N M h=>by(
        have h:=h.fn;exact⟨⟨none,N.heap.size,default⟩,_,cM rfl rfl (Hv _ _ _ _ _),((h.alloc 136 #[iI x.i,.slice (e 9).A x.b.length (e 9).n])).fk⟩)) ?_
       simp only[aR];refine xN (λe=> .slice (e 12).A (z.1.p.n+1) (e 12).n) rfl (λe N M h=>by(
        have h:=h.fn;have H:=DD (cs:=[iI x.i,.slice (e 9).A x.b.length (e 9).n]) (h.ah 5 rfl);have Z:=(h.jT (Q:=λw=>aA w .u8 (.slice (e 9).A x.b.length (e 9).n) x.b)).bu (R':=λw=>iE w [iI x.i,.slice (e 9).A x.b.length (e 9).n] ⟨x.i,x.b⟩) (λO hw=>⟨_,rfl,hw⟩);obtain⟨G,p,O,M0,V⟩:=(Z.fi 3).yB Ns _ ⟨(e 11).n,0,none⟩ 1 H (QH _ _ _ _) rfl oM oM;exact⟨⟨G,p,default⟩,_,gL rfl rfl rfl M0,V.fk⟩)) ?_
       simp only[aR];refine vM ?_;refine jA (λe=> .pointer (some ⟨J,k*4+1,none⟩)) (λe=> .slice (e 12).A (z.1.p.n+1) (e 12).n) rfl rfl (λe N M h=>by(
        have h:=h.fn;obtain⟨Z,A0,M1⟩:=(h.fi 1).Dp lM (k:=k) (j:=1) (x:=z.1) (y:=⟨z.1.t,⟨(e 12).A,z.1.p.n+1,(e 12).n⟩,z.1.s,z.1.k⟩) (u:= .slice (e 12).A (z.1.p.n+1) (e 12).n) U oM rfl;obtain⟨y0,N1⟩:=zb9.1 A0;exact⟨_,gS,Z.fk⟩)) ?_
       simp only[Act.put];refine ax ?_;intro e w1 h;have h:=h.fn;obtain⟨G,S0⟩:∃G,(e 12).A=G:=⟨_,rfl⟩;obtain⟨p,U0⟩:∃p,(e 12).n=p:=⟨_,rfl⟩;rw[S0,U0]at h;obtain⟨z',B⟩:∃z':fX,z'=(⟨z.1.t,⟨G,z.1.p.n+1,p⟩,z.1.s,z.1.k⟩,bH z.2 x):=⟨_,rfl⟩;have D:=aa B;have Z:=h.pk 8 [4,6,7,5];have S:=aa Z;clear h K Z B
       go_wp2_with fail
       have H7:=aa ((S.Aw (z':=z') (ys:=(X.set k z').map Prod.fst) (by rw[D.out,W.out];rfl) (by rw[Wj,<-Q0.out,D.out])).sK (Ax z' H0)).swap;exact af9
      ·have b1:=kO F
       by_cases h6:x.d=6
       ·have G2:=Ec h6
        have W:Hid (bH z.2 x=⟨z.2.t,z.2.p,z.2.s,z.2.k++[⟨(z.2.p.length:Nat),x.i,x.b⟩]⟩):=(iN F).trans (iP h6);have N0:=aa (show x.b.length<=140737488355328 by have:=C1.out G0 (.inr h6);omega);clear F h6
        go_wp2_with fail
        clear y0;have K:=H5.out;clear H5;refine ak (I:=I) (L0:=ay 136 2 iE (.slice z.1.p.a z.1.p.n z.1.p.c) z.2.p::tz (X.eraseIdx k)::aB 7 Vr (.slice (some ad) n cv) l::L) [⟨none,none,λe=>ab y 34 (YQ x t E)⟩,⟨none,some 20,λe=>dV eo 131 4 (.slice (aO J) o Y) (xs)⟩,⟨none,some 17,λe=>ay 138 3 gD (.slice z.1.k.a z.1.k.n z.1.k.c) z.2.k⟩,⟨none,none,λe=>ai .u8 (.slice t x.b.length E) x.b⟩,⟨some 14,none,λe=>ai .u8 (.slice (e 14).A x.b.length (e 14).n) x.b⟩,⟨some 16,none,λe=>ab (e 16).n 138 #[iI (z.1.p.n:Nat),iI x.i,.slice (e 14).A x.b.length (e 14).n]⟩,⟨some 17,none,λe=>ay 138 3 gD (.slice (e 17).A (z.1.k.n+1) (e 17).n) (z.2.k++[⟨(z.2.p.length:Nat),x.i,x.b⟩])⟩,⟨some 20,none,λe=>dV eo 131 4 (.slice (aO J) o Y) (xs.set k ⟨z.1.t,z.1.p,z.1.s,⟨(e 17).A,z.1.k.n+1,(e 17).n⟩⟩)⟩] [[],[],[1],[1,2],[1,2,3],[],[5],[5,6],[5,6,7],[5,6,7,8],[],[10],[],[12],[12,13],[5,6,7,8,9,10,11,12,13,14],[5,6,7,8,9,10,11,12,13,14,15],[1,2,3,4,5,6,7,8,9,10,11,12,13,14,15,16],rG 18,rG 19,rG 20] (rG 21) rfl kR kR kR (by rfl) (λ_=>rfl) K.fk ?_;refine AG ?_;refine kj _ rfl (λe N M h=>by(have h:=h.fn;have a:=h.eM (C:=eo) (e:=131) (size:=4) (v:= .slice (aO J) o Y) (xs:=xs);obtain⟨x0,x1,x2,x3⟩:=hZ a U;go_simp;try rfl)) ?_;simp only[aR];refine yk ?_;refine kj _ rfl (λe N M h=>by(have h:=h.fn;have a:=h.eM (C:=eo) (e:=131) (size:=4) (v:= .slice (aO J) o Y) (xs:=xs);obtain⟨x0,x1,x2,x3⟩:=hZ a U;go_simp;try rfl)) ?_;simp only[aR];refine sO ?_;refine aZ 23 (λe=> #[.slice t x.b.length E]) (λe=> .slice (e 14).A x.b.length (e 14).n) rfl (λe N M h=>by(
         have h:=h.fn;refine(dY t x.b.length E x.b _ (h.jr (Q:=λw=>aA w .u8 (.slice t x.b.length E) x.b)).sl.2.2.2 N0 h).mono ?_;rintro u wy⟨v,rfl,Z⟩;obtain⟨G,p,rfl⟩:=Z.slice;have V:=St.ints (k:= .u8) (xs:=x.b) Z;exact⟨⟨G,p,default⟩,rfl,V.fk⟩)) ?_
        simp only[aR];refine lY ?_;refine xN (λe=> .slice (some ⟨(e 16).n,0,none⟩) 1 1) rfl (λe N M h=>by(
         have h:=h.fn;exact⟨⟨none,N.heap.size,default⟩,_,cM rfl rfl (Fo _ _ _ _ _ _),((h.alloc 138 #[iI (z.1.p.n:Nat),iI x.i,.slice (e 14).A x.b.length (e 14).n])).fk⟩)) ?_
        simp only[aR];refine xN (λe=> .slice (e 17).A (z.1.k.n+1) (e 17).n) rfl (λe N M h=>by(
         have h:=h.fn;have H:=DD (cs:=[iI (z.1.p.n:Nat),iI x.i,.slice (e 14).A x.b.length (e 14).n]) (h.ah 5 rfl);have Z:=(h.jT (Q:=λw=>aA w .u8 (.slice (e 14).A x.b.length (e 14).n) x.b)).bu (R':=λw=>gD w [iI (z.1.p.n:Nat),iI x.i,.slice (e 14).A x.b.length (e 14).n] ⟨(z.2.p.length:Nat),x.i,x.b⟩) (λO hw=>⟨_,by rw[D1.out],hw⟩);obtain⟨G,p,O,M0,V⟩:=(Z.fi 3).yB ID _ ⟨(e 16).n,0,none⟩ 1 H (Nr _ _ _ _ _) rfl oM oM;exact⟨⟨G,p,default⟩,_,gL rfl rfl rfl M0,V.fk⟩)) ?_
        simp only[aR];refine vM ?_;refine jA (λe=> .pointer (some ⟨J,k*4+3,none⟩)) (λe=> .slice (e 17).A (z.1.k.n+1) (e 17).n) rfl rfl (λe N M h=>by(
         have h:=h.fn;obtain⟨Z,A0,M1⟩:=(h.fi 1).Dp lM (k:=k) (j:=3) (x:=z.1) (y:=⟨z.1.t,z.1.p,z.1.s,⟨(e 17).A,z.1.k.n+1,(e 17).n⟩⟩) (u:= .slice (e 17).A (z.1.k.n+1) (e 17).n) U oM rfl;obtain⟨y0,N1⟩:=zb9.1 A0;exact⟨_,gS,Z.fk⟩)) ?_
        simp only[Act.put];refine ax ?_;intro e w1 h;have h:=h.fn;obtain⟨G,S0⟩:∃G,(e 17).A=G:=⟨_,rfl⟩;obtain⟨p,U0⟩:∃p,(e 17).n=p:=⟨_,rfl⟩;rw[S0,U0]at h;obtain⟨z',B⟩:∃z':fX,z'=(⟨z.1.t,z.1.p,z.1.s,⟨G,z.1.k.n+1,p⟩⟩,bH z.2 x):=⟨_,rfl⟩;have D:=aa B;have Z:=h.pk 8 [4,6,7,5];have S:=aa Z;clear h K Z B
        go_wp2_with fail
        have H7:=aa ((S.swap.Aw (z':=z') (ys:=(X.set k z').map Prod.fst) (by rw[D.out,W.out];rfl) (by rw[Wj,<-Q0.out,D.out])).sK (Ax z' H0)).swap;exact af9
       ·have G2:=kO h6
        have h7:x.d=7:=by have:=Z1.out;omega
        have T2:=Ec h7;have W:Hid (bH z.2 x=⟨z.2.t,z.2.p,(z.2.p.length:Nat),z.2.k⟩):=(iN F).trans (iN h6);clear F h6 h7;obtain⟨h8,A0,M1⟩:=(H5.fi 3).Dp lM (k:=k) (j:=2) (x:=z.1) (y:=⟨z.1.t,z.1.p,(z.1.p.n:Nat),z.1.k⟩) (u:= iI (z.1.p.n:Nat)) U oM rfl;obtain⟨v0,N1⟩:=zb9.1 A0;obtain⟨x0,x1,x2,x3⟩:=hZ (H5.eM (C:=eo) (e:=131) (size:=4) (v:= .slice (aO J) o Y) (xs:=xs)) U;obtain⟨z',B⟩:∃z':fX,z'=(⟨z.1.t,z.1.p,(z.1.p.n:Nat),z.1.k⟩,bH z.2 x):=⟨_,rfl⟩;refine bm B (h8.pk 6 [1,2,3,0]) λD S=>?_;clear h8 A0 B
        go_wp2_with fail
        have H7:=aa ((S.Aw (z':=z') (ys:=(X.set k z').map Prod.fst) (by rw[D.out,W.out];rfl) (by rw[Wj,<-Q0.out,D.out])).sK (Ax z' H0)).swap;clear S
        go_roundg (n-(j+1))
        case measure=>exact ad5
        case rel=>exact⟨j+1,o,some ⟨J,0,none⟩,Y,X.set k z',rfl,oM,rfl,by go_num,by rw[Vx];exact O0,B0 z' (by rw[D.out]) (by rw[D.out,W.out];exact⟨D0.1,by show((z.1.p.n:Nat):Int)=_;rw[D1.out]⟩),H7⟩
  ·obtain rfl:n=j:=oM
   rw[nS (by rw[<-HN.out];exact g9 _)]at g;have X2:q<=n:=by rw[hq,HN.out];exact g.n
   have T:=aa h;have hb:0<q->∃F2,A=some ⟨F2,0,none⟩:=λK=>fQ ((h.kL.2).row 0 rfl) K;have R2:q<20:=by
    have e:=congrArg List.length g.eq;rw[nL]at e;have:=A2.out;omega
   clear h W0 hq
   go_wp2_with fail
   refine qK (Kj A q c (zs.map Prod.fst) _ R2 hb T) ?_;rintro w3⟨ys,hp,hs,h3⟩;obtain⟨S2,e1,p1⟩:=Ng hp zs rfl;subst e1;have D:=aa (λz (H:z∈S2)=>g.ok z (p1.mem_iff.1 H));obtain⟨xs,d,h4⟩:=(h3.swap.sK p1.symm).Zw (λz H=>D z H);refine mr (h4.ZU d) hs d p1 λH3 HS HX D2=>?_;clear h3 T hs p1 hp h4 d
   go_wp2_with fail
   go_ret
   refine⟨_,xs,rfl,?_,?_,H3⟩
   ·rw[HX.out,<-g.out.eq]
    exact D2.map _
   ·rw[HX.out,UW,List.pairwise_map]
    have Z:=List.pairwise_map.1 HS;refine zdi (λha hb J2=> ?_) Z;show _<=_;rw[Function.comp,Function.comp,<-(D.out _ ha).1,<-(D.out _ hb).1];exact J2
end
end Go.Proofs.YtblpaldggenbaaaGreatDoor
