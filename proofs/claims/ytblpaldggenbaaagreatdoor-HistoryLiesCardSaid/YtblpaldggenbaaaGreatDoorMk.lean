/- A part. -/
import Derived.Test.YtblpaldggenbaaaGreatDoorMf
namespace Go.Proofs.YtblpaldggenbaaaGreatDoor
open Go.RowKit Go.Proofs.Tryz
set_option maxRecDepth 100000
set_option maxHeartbeats 64000000
variable{L:List aw}{I:aH}{w:World}{D:DS}{b:LI}{k:Nat}{P:Program}{g gd:Nat}{A:OA}{n:Nat}
def Gv(w:World)(N:LV)(b:LI):Prop:=∃v,N=[v]/\aA w .u8 v b
theorem St.Wt{e:TypeId}{size:Nat}{n c:Nat}{T:LV}(h:St I w (bY e size (.slice A n c) n T::L))(k:Nat)(W:k<=n):St I w (bY e size (.slice A k c) k (T.take (k*size))::L):=by
 have Y:=h.row 0 rfl;obtain⟨M,F,_,_,J,_,o⟩:=h.head;refine o w _ F (Fr.refl _ _) (λ_=>⟨λb=>(J.1 b).trans ?_,?_⟩) (λb B=> .inl B)
 ·cases A<;>exact Wb
 ·have X:k*size<=n*size:=vl _ W
  refine⟨by rw[fJ,Y.1];omega,?_⟩;rcases Y.2 with⟨S,P⟩|⟨g,cap,l,S,Q,u,D,y,U,R⟩
  ·injection S with S _ t
   subst S;subst t;exact .inl ⟨by rw[show k=0 by omega],oM⟩
  ·injection S with S _ t
   subst S;subst t;refine .inr ⟨g,c,l,rfl,Q,u,oM,y,U,?_⟩;rw[<-R,OR]
   exact aeC
theorem TD(k:Nat)(w:World)(Q:k<=1000000)(h:St I w L):
 Calls prog 230 #[sN,iI k] w λe O=>∃A c,e= .returned (.slice A 0 c)/\St I O (bY 5 1 (.slice A 0 c) 0 []::L):=by
 have H:=aa (h.my 5 1);clear h;by_cases K:0<k
 ·have d0:decide ((k:Int)<0)=false:=decide_eq_false (by omega)
  have d1:decide ((k:Int)>0)=true:=decide_eq_true (by omega);have d:decide ((0:Int)<(k:Int))=true:=d1;have d2:IntKind.i64.wrap ((k:Int)-IntKind.i64.wrap (0-0))=(k:Int):=by rw[IntKind.wrap_i64,IntKind.wrap_i64];omega
  have d3:IntKind.i64.wrap ((k:Int)-0)=(k:Int):=by rw[IntKind.wrap_i64];omega
  go_enter func230,ntmps230
  go_wp2_with (at_builtin;obtain⟨n,M,C,F⟩:=St.Ow qt rfl rfl underlying3 H 27 .i64 k oM oM oM;refine Lib.wpList_append_run _ rfl _ _ _ _ rfl _ _ rfl rfl _ _ C ?_;obtain⟨z,N,rfl⟩:=F.slice;rw[s7]at F⊢;have X:=(F.row 0 rfl).2;have P:=F.Wt 0 (jG _);have D:=aa P;clear F C P)
  go_ret
  exact⟨_,_,rfl,by simpa using D.out⟩
 ·obtain rfl:k=0:=oM
  go_enter func230,ntmps230
  go_wp2_with fail
  go_ret
  exact⟨_,_,rfl,H⟩
def lens(l:List (LI)):Nat:=(l.map List.length).sum
theorem sf(l:List (LI)){x:LI}(J:l[k]? =some x):lens (l.take (k+1))=lens (l.take k)+x.length:=by
 rw[Et,J];unfold lens;rw[xd,List.sum_append];exact acy
theorem yh(l:List (LI))(k:Nat):lens (l.take k)<=lens l:=by
 have:lens l=lens (l.take k)+lens (l.drop k):=by
  conv=>lhs;rw[<-IY k l]
  unfold lens;rw[xd,List.sum_append]
 omega
theorem CC(l:List (LI)){x:LI}(J:l[k]? =some x):(l.take (k+1)).flatten=(l.take k).flatten++x:=by
 rw[Et,J,List.flatten_append];exact acy
theorem BW(v:Value)(l:List (LI))(w:World)(C:lens l<=100000)(h:St I w (aB 1 Gv v l::L)):
 Calls prog 223 #[v] w λe O=>∃A c,e= .returned (.slice A (lens l) c)/\St I O (ai .u8 (.slice A (lens l) c) l.flatten::L):=by
 obtain⟨A,c,rfl,hc,hm⟩:=(h.dJ 0 rfl).slice;obtain⟨n,W⟩:=nM (l.length);rw[<-W]at hc h⊢;refine ib W h C λb H p=>?_;clear h W C
 go_enter func223,ntmps223
 go_wp2_with fail
 go_loopg [3,11] n (λM sv y wr=>∃(k s:Nat),M=n-k/\k<=n/\y= iI (k:Nat)/\sv= iI (s:Nat)/\s=lens (l.take k)/\St I wr (aB 1 Gv (.slice A n c) l::L))
 case atStart=>exact⟨0,0,rfl,jG _,rfl,rfl,rfl,H⟩
 case round=>
  clear H;obtain⟨k,s,u,hk,rfl,rfl,U,h⟩:=hrel;have R:=aa u;have C0:s<=100000:=by rw[U];exact qJ (yh l k) p
  have V:=aa U;clear u U;by_cases B:k<n
  ·have J:=gP (l:=l) (i:=k) acz
   generalize l[k]' acz=x at J;obtain⟨t,cs,rfl,_,a,⟨S,rfl,K⟩,_⟩:=h.elem 0 rfl J;have x3:wr.cell? (t.add k)=some S:=by simpa[Addr.add]using a 0 _ rfl
   obtain⟨o,d,rfl,_,_,_⟩:=id K;have g:=aa J;have z:s+x.length<=100000:=by
    have:=sf l J;rw[V.out,<-this];exact qJ (yh l _) p
   have r:=aa h;have k0:(0:Int)<=(k:Int):=oM
   have k1:(k:Int)<(n:Int):=oM
   have w1:IntKind.i64.wrap ((s:Int)+(x.length:Int))=((s+x.length:Nat):Int):=by rw[IntKind.wrap_i64];omega
   have d0:decide (((s+x.length:Nat):Int)<0)=false:=decide_eq_false (by omega);clear J h a K
   go_wp2_with fail
   go_roundg (n-(k+1))
   case measure=>exact aec
   case rel=>exact⟨k+1,s+x.length,rfl,oM,by go_num,rfl,by rw[sf l g.out,V.out],r⟩
  ·obtain rfl:k=n:=oM
   have G:l.take k=l:=nS ac7;have V:Hid (s=lens l):=by have:=V.out;rw[G]at this;exact this
   have r:=aa h;clear h G
   go_wp2_with fail
   refine(TD s _ oM r).mono ?_;rintro e w2⟨X,c2,rfl,F⟩;have T:=aa F;clear F r
   go_wp2_with fail
   go_loopg [6,27] k (λM ov y wr=>∃(j q:Nat) (Q:OA) (E:Nat),M=k-j/\j<=k/\y= iI (j:Nat)/\ov= .slice Q q E/\q=lens (l.take j)/\St I wr (bY 5 1 (.slice Q q E) q (bv (l.take j).flatten)::aB 1 Gv (.slice A k c) l::L))
   case atStart=>exact⟨0,0,X,c2,rfl,jG _,rfl,rfl,rfl,T⟩
   case round=>
    clear T;obtain⟨j,q,Q,E,u,hj,rfl,rfl,P,h⟩:=hrel;have R:=aa u;have A0:q<=100000:=by rw[P];exact qJ (yh l j) p
    have Y:=aa P;clear u P;by_cases B:j<k
    ·have J:=gP (l:=l) (i:=j) acz
     generalize l[j]' acz=x at J;obtain⟨t,cs,rfl,_,a,⟨S,rfl,K⟩,_⟩:=h.elem 1 rfl J;have x3:wr.cell? (t.add j)=some S:=by simpa[Addr.add]using a 0 _ rfl
     obtain⟨o,d,rfl,_,_,z⟩:=K;refine bm z J λD g=>?_;have B0:q+x.length<=100000:=by
      have:=sf l J;rw[Y.out,<-this];exact qJ (yh l _) p
     have T:=aa h;have k0:(0:Int)<=(j:Int):=oM
     have k1:(j:Int)<(k:Int):=oM
     clear J h a z
     go_wp2_with (at_builtin;refine St.dW qt T rfl _ _ rfl rfl o x.length d rfl (bv x) D (jF _) oM oM ?_;intro A' c' w1 Z;have N:=aa Z;clear Z T)
     go_roundg (k-(j+1))
     case measure=>exact aec
     case rel=>exact⟨j+1,q+x.length,_,_,rfl,oM,by go_num,rfl,by rw[sf l g.out,Y.out],by rw[CC l g.out,wJ];exact N.out⟩
    ·obtain rfl:j=k:=oM
     have G:l.take j=l:=nS ac7;rw[G]at h;obtain rfl:q=lens l:=by have:=Y.out;rw[G]at this;exact this
     have T:=aa (h.ints.tS);clear h G
     go_wp2_with fail
     go_ret
     exact⟨_,_,rfl,T⟩
theorem wg{a:Act}{o:Oper}{w O:World}{v A b W:Value}{t:TypeId}{len p V E:Nat}{G c F:Operand}(X:o.op= .buildSlice t len #[(p,G),(V,c),(E,F)])(K:a.eval G=A)(Z:a.eval c=b)(J:a.eval F=W)(h:(Instr.buildSlice t len #[(p,A),(V,b),(E,W)]).run P w= .ok v O):(execOp a.eval o).run P w= .ok (.value v) O:=by
 unfold execOp;simp only[X,K,Z,J,FV,li,BQ,Sem.run_bind,Sem.run_pure,Result.andThen_ok,h]
theorem Po(w:World)(A S C:OA)(n m k c d e:Nat):(Instr.buildSlice 85 3 #[(0,.slice A n c),(1,.slice S m d),(2,.slice C k e)]).run prog w= .ok (.slice (aO w.heap.size) 3 3) (w.alloc (.cells #[.slice A n c,.slice S m d,.slice C k e] 27)):=kR
theorem St.aa9{i U C:Value}{G c F:LI}(e:TypeId)(h:St I w (ai .u8 i G::ai .u8 U c::ai .u8 C F::L)):St I (w.alloc (.cells #[i,U,C] e)) (aB 1 Gv (.slice (aO w.heap.size) 3 3) [G,c,F]::L):=by
 have Z:=h.ku (Q:=λO=>aA O .u8 i G/\aA O .u8 U c) (λO a b=>⟨a,b⟩);have V:=Z.ku (Q:=λO=>∀p∈([([i],G),([U],c),([C],F)]:List (LV×LI)),Gv O p.1 p.2) (λO a b=>by
  intro p o;simp only[nO,nK,or_false]at o;rcases o with rfl|rfl|rfl
  ·exact⟨i,rfl,a.1⟩
  ·exact⟨U,rfl,a.2⟩
  ·exact⟨C,rfl,b⟩)
 exact St.uT [([i],G),([U],c),([C],F)] e (by intro p o;simp only[nO,nK,or_false]at o;rcases o with rfl|rfl|rfl<;>rfl) V acy w.heap.size rfl
theorem St.abx{i U:Value}{G c:LI}(e:TypeId)(h:St I w (ai .u8 i G::ai .u8 U c::L)):St I (w.alloc (.cells #[i,U] e)) (aB 1 Gv (.slice (aO w.heap.size) 2 2) [G,c]::L):=by
 have V:=h.ku (Q:=λO=>∀p∈([([i],G),([U],c)]:List (LV×LI)),Gv O p.1 p.2) (λO a b=>by
  intro p o;simp only[nO,nK,or_false]at o;rcases o with rfl|rfl
  ·exact⟨i,rfl,a⟩
  ·exact⟨U,rfl,b⟩)
 exact St.uT [([i],G),([U],c)] e acL V acy w.heap.size rfl
theorem St.Lp(h:St I w L):St I (w.alloc (.cells #[sN] 83)) (AI w.heap.size []::L):=St.uu (xs:=[]) ((h.my 5 1).alloc 83 #[sN]) rfl
theorem uO(x:Int):bL x 4=aT x 4:=rfl
theorem LR(x:Int):bL x 1=aT x 1:=rfl
theorem oe{x:Int}(h:0<=x/\x<4294967296):IntKind.u64.wrap x=x:=IntWalk.u64_in _ oM
theorem LU(g:Nat)(q e:Int)(T:LI)(w:World)(d:0<=q/\q<4294967296)(Y:0<=e/\e<4294967296)(C:T.length<=1000)(h:St I w (AI g T::L)):
 Calls prog 222 #[pO g,iW q,iW e] w λu O=>u= .returned (.tuple #[])/\St I O (AI g (T++aT q 4++aT e 4)::L):=by
 have H:=aa h;have b:=oe d;have a:=oe Y;have j:=aa C;clear h d Y
 go_enter func222,ntmps222
 go_wp2_with fail
 refine(dg g q 4 T _ oM H).mono ?_;rintro u l⟨rfl,h⟩;rw[uO]at h;have r:=aa h;clear h H
 go_wp2_with fail
 refine(dg g e 4 _ _ (by rw[eG,aq];have:=j.out;omega) r).mono ?_;rintro u X⟨rfl,h⟩;rw[uO]at h;have N:=aa h;clear h r
 go_wp2_with fail
 go_end0
 exact⟨rfl,N⟩
theorem pL(q e:Int)(h:b.length<=43):(lP q e b).length=52:=by
 unfold lP;simp only[eG,aq,bV,Sr];omega
theorem xF(q e:Int)(h:Bytes b):Bytes (lP q e b):=by
 unfold lP;refine((((cg _ _).append (cg _ _)).append (cg _ _)).append h).append ?_;intro x J;rw[zcz J];unfold isByte;omega
theorem dE(q e:Int)(h:b.length<=43):(aP q e b).length=64:=by
 unfold aP;rw[eG,pL q e h];simp only[eG,aq]
theorem er(q e:Int)(h:Bytes b):Bytes (aP q e b):=
 (xF q e h).append (((cg _ _).append (cg _ _)).append (cg _ _))
theorem zx(hT:ml I)(q M:Int)(A:OA)(n c:Nat)(b:LI)(w:World)(hq:0<=q/\q<4294967296)(he:0<=M/\M<4294967296)(hn:n<=43)(hb:Bytes b)(h:St I w (ai .u8 (.slice A n c) b::L)):
 Calls prog 205 #[iW q,iW M,.slice A n c] w λu J0=>∃G o,u= .returned (.tuple #[.slice G 64 o,iI 0])/\St I J0 (ai .u8 (.slice G 64 o) (aP q M b)::ai .u8 (.slice A n c) b::L):=by
 have B0:n=b.length:=(h.get 0 rfl).sl.1;have A0:b.length<=43:=oM
 refine ib hq he (xF q M hb) λY l i=>?_;have d1:decide ((n:Int)>43)=false:=decide_eq_false (by omega);have M0:decide ((43:Int)<(n:Int))=false:=d1;have wn:IntKind.u64.wrap (n:Int)=(n:Int):=IntWalk.u64_in _ oM;obtain⟨k,hk⟩:=nM (43-n);have N0:k<=43:=oM
 have wk:IntKind.i64.wrap (43-(n:Int))=((k:Nat):Int):=(IntWalk.i64_in _ oM).trans oM;obtain⟨xs,a⟩:=nM (aT q 4++aT M 4++aT (n:Nat) 1);have H0:=aa a;have I0:=aa (show xs.length<=1000000000 by rw[a];simp only[eG,aq];omega);have j:=aa (show lens [xs,b,bV k]=52 by
  unfold lens;simp only[li,BQ,List.sum_cons,List.sum_nil,bV,Sr];rw[a];simp only[eG,aq];omega)
 obtain⟨y,z⟩:=nM (lP q M b);have D0:=aa (show [xs,b,bV k].flatten=y by
  rw[z];unfold lP;rw[a,hk,B0];simp)
 have F0:=aa (show aP q M b=y++(aT (rp y) 4++aT q 4++aT M 4)by rw[z];rfl);rw[<-z]at i;have E0:=aa (show y.length=52 by rw[z];exact pL q M A0);have H:=aa h;clear h hq he hk a z B0 hb A0
 go_enter func205,ntmps205
 go_wp2_with fail
 have Z:=H.Lp;generalize hg:w.heap.size=g at Z⊢;have r:=aa Z;clear Z H hg;refine(LU g q M [] _ Y l acy r).mono ?_;rintro u w1⟨rfl,h⟩;have T:=aa h;clear h r
 go_wp2_with fail
 refine(dg g (n:Nat) 1 _ _ (by simp only[xL,eG,aq];omega) T).mono ?_;rintro u w2⟨rfl,h⟩;rw[LR,xL,<-H0.out]at h;have F:=h;clear h T
 go_wp2_with fail
 refine ak (I:=I) (L0:=L) [⟨none,none,λe=>AI g xs⟩,⟨none,none,λe=>ai .u8 (.slice A n c) b⟩,⟨some 0,none,λe=>ai .u8 (.slice (e 0).A xs.length (e 0).n) xs⟩,⟨some 5,none,λe=>ai .u8 (.slice (some ⟨(e 5).n,0,none⟩) k k) (bV k)⟩,⟨some 6,some 7,λe=>aB 1 Gv (.slice (some ⟨(e 6).n,0,none⟩) 3 3) [xs,b,bV k]⟩,⟨some 7,none,λe=>ai .u8 (.slice (e 7).A 52 (e 7).n) y⟩] [[],[],[],[2],[2,3],[2,3,4],rG 6,rG 7,rG 8] (rG 9) rfl kR kR kR (by rfl) (λ_=>rfl) F.fk ?_;refine aZ 27 (λe=> #[pO g]) (λe=> .slice (e 0).A xs.length (e 0).n) rfl (λe p O h=>by(
  have h:=h.fn;refine(qu g xs _ I0 (h.fi 0)).mono ?_;rintro u wy⟨v,rfl,Z⟩;obtain⟨G,o,rfl⟩:=Z.slice;have V:=St.ints (k:= .u8) (xs:=xs) Z;exact⟨⟨G,o,default⟩,rfl,V.fk⟩)) ?_
 simp only[aR];refine yk ?_;refine kj (λe=> iI ((k:Nat):Int)) rfl (λe p O h=>gS) ?_;simp only[aR];refine xN (λe=> .slice (some ⟨(e 5).n,0,none⟩) k k) rfl (λe p O h=>by(
  have h:=h.fn;have V:=St.ints (k:= .u8) (xs:=bV k) (h.oH 5 1 k (bv (List.replicate k 0)) acy oM p.heap.size rfl);exact⟨⟨none,p.heap.size,default⟩,_,zH rfl rfl rfl (Ry k oM _),V.fk⟩)) ?_
 simp only[aR];refine xN (λe=> .slice (some ⟨(e 6).n,0,none⟩) 3 3) rfl (λe p O h=>by(
  have h:=h.fn;have Z:=h.jT (Q:=λw=>aA w .u8 (.slice (some ⟨(e 5).n,0,none⟩) k k) (bV k));have V:=Z.jT (Q:=λw=>aA w .u8 (.slice A n c) b);have h3:=V.jT (Q:=λw=>aA w .u8 (.slice (e 0).A xs.length (e 0).n) xs);have h4:=St.aa9 27 h3;exact⟨⟨none,p.heap.size,default⟩,_,wg rfl rfl rfl rfl (Po _ _ _ _ _ _ _ _ _ _),h4.fk⟩)) ?_
 simp only[aR];refine aZ 223 (λe=> #[.slice (some ⟨(e 6).n,0,none⟩) 3 3]) (λe=> .slice (e 7).A 52 (e 7).n) rfl (λe p O h=>by(
  have h:=h.fn;refine(BW _ [xs,b,bV k] _ (by rw[j.out];omega) (h.fi 4)).mono ?_;rintro u wy⟨G,o,rfl,Z⟩;rw[j.out,D0.out]at Z;rw[j.out];exact⟨⟨G,o,default⟩,rfl,Z.fk⟩)) ?_
 simp only[aR];refine lY ?_;refine ax ?_;intro e w1 h;have h:=h.fn;obtain⟨N,x⟩:∃N,(e 7).A=N:=⟨_,rfl⟩;obtain⟨t,W⟩:∃t,(e 7).n=t:=⟨_,rfl⟩;rw[x,W]at h;have P:=aa (h.pk 5 [4,1]);clear h F
 go_wp2_with fail
 rw[x,W];clear x W;have Z:=P.Lp;generalize K0:w1.heap.size=g2 at Z⊢;have d:=aa Z;clear Z P K0;refine(Pv hT _ y _ i (d.get 1 rfl) d).mono ?_;rintro u w2⟨rfl,h⟩;have K:=aa h;clear h d;obtain⟨s,U⟩:=nM (rp y);have C0:=zj y;rw[<-U]at C0⊢;have HS:=aa U;have ws:=oe C0;clear U
 go_wp2_with fail
 refine(dg g2 s 4 [] _ acy K).mono ?_;rintro u w3⟨rfl,h⟩;rw[uO,xL]at h;have D:=aa h;clear h K
 go_wp2_with fail
 refine(LU g2 q M _ _ Y l (by rw[aq];omega) D).mono ?_;rintro u w4⟨rfl,h⟩;obtain⟨X,R⟩:=nM (aT s 4++aT q 4++aT M 4);rw[<-R]at h;have J:=aa (show X.length=12 by rw[R];simp only[eG,aq]);refine bm R h λG0 B=>?_;clear h D R
 go_wp2_with fail
 refine(qu g2 X _ acR B).mono ?_;rintro u w5⟨v,rfl,h⟩;obtain⟨A8,c8,rfl⟩:=h.slice;rw[J.out]at h⊢;have S:=St.ints (k:= .u8) (xs:=X) h;have C:=aa (S.pk 3 [2,0]);clear h S B
 go_wp2_with fail
 have E:=aa (show lens [y,X]=64 by
  unfold lens;simp only[li,BQ,List.sum_cons,List.sum_nil,E0.out,J.out]
  rfl)
 refine(BW _ [y,X] _ (by rw[E.out];omega) (C.abx 27)).mono ?_;rintro u w6⟨A9,c9,rfl,h⟩;rw[E.out,show [y,X].flatten=aP q M b by rw[F0.out,<-HS.out,<-G0.out];simp]at h;rw[E.out];have H9:=aa h;clear h C
 go_wp2_with fail
 go_ret2
 exact⟨_,_,rfl,H9⟩
def j8(D:DS)(a:Int):Int:=if(aK D a).q=0 then 41 else 0
def gZ(D:DS)(a:Int):LI:=if(aK D a).q=0 then []else(aK D a).b
def lL(D:DS)(a:Int)(b:LI):LI:=aP ((aK D a).q+1) 0 b
def dh(D:DS)(a:Int):Int:=2*a+1-(aK D a).at_
def qb(D:DS)(a:Int)(b:LI):Int:=if(aK D a).q=4294967295 then 42 else D.sync.eU (dh D a) (lL D a b)
def qn(D:DS)(a:Int)(b:LI):DS:=if(aK D a).q=4294967295 then D else D.sync.write (dh D a) (lL D a b)
def cE(D:DS)(a:Int)(b:LI):DS:=if qb D a b=0 then(qn D a b).sync else qn D a b
def g7(D:DS)(a:Int)(b:LI):Int:=if qb D a b=0 then(if(qn D a b).sync.down=true then 43 else 0)else qb D a b
theorem DS.kI(D:DS):D.sync.n=D.n:=by unfold DS.sync;split<;>rfl
theorem DS.zu(D:DS)(i:Int)(b:LI):(D.write i b).n=D.n:=by
 unfold DS.write;split;· rfl
 split;· rfl
 split<;>rfl
theorem DS.EU(D:DS)(i:Int)(b:LI):(D.write i b).au.length<=D.au.length+1:=by
 unfold DS.write;split;· omega
 split;· omega
 split
 ·simp[DS.put,DS.after]
 ·show D.au.length<=_
  omega
theorem DS.Iy(D:DS):D.sync.au.length<=D.au.length:=by
 unfold DS.sync
 split
 ·exact acy
 ·exact g9 _
theorem mK{T U:LI}{o:Nat}(h:Bytes T)(V:Bytes U):Bytes (bh T o U):=by
 intro x J;unfold bh at J;rcases lU.1 J with J|J
 ·rcases lU.1 J with J|J
  ·exact h x (Hn J)
  ·exact V x J
 ·exact h x (Ud J)
theorem jM(k:Nat):Bytes (bV k):=by
 intro x J;rw[zcz J];unfold isByte;omega
theorem DS.Gg(h:Bytes D.seen)(i:Int)(B:Bytes b):Bytes (D.write i b).seen:=by
 unfold DS.write;split;· exact h
 split;· exact h
 split
 ·exact mK h (B.append (jM _))
 ·exact h
theorem DS.vX(D:DS):D.sync.seen=D.seen:=by unfold DS.sync;split<;>rfl
theorem DS.JB(h:Bytes D.seen):Bytes D.sync.seen:=by rw[DS.vX];exact h
structure dB(D:DS)(k:Nat):Prop where
 ok:D.ok
 b:Bytes D.seen
 p:D.au.length<=k
theorem dB.sync(h:dB D k):dB D.sync k:=⟨h.ok.sync,DS.JB h.b,qJ D.Iy h.p⟩
theorem dB.write(h:dB D k)(i:Int)(B:Bytes b):dB (D.write i b) (k+1):=⟨h.ok.write i b,DS.Gg h.b i B,qJ (D.EU i b) (zdn h.p)⟩
theorem dB.mono{k m:Nat}(h:dB D k)(y:k<=m):dB D m:=⟨h.ok,h.b,qJ h.p y⟩
theorem dB.put(h:dB D k)(a:Int)(B:Bytes b):dB (qn D a b) (k+1):=by
 unfold qn
 split
 ·exact h.mono oM
 ·exact h.sync.write _ (er _ _ B)
theorem dB.save(h:dB D k)(a:Int)(B:Bytes b):dB (cE D a b) (k+1):=by
 unfold cE
 split
 ·exact(h.put a B).sync
 ·exact h.put a B
theorem PJ(D:DS)(a:Int)(b:LI):(qn D a b).n=D.n:=by
 unfold qn
 split
 ·rfl
 ·rw[DS.zu,DS.kI]
theorem LM(D:DS)(a:Int)(b:LI):(cE D a b).n=D.n:=by
 unfold cE
 split
 ·rw[DS.kI,PJ]
 ·exact PJ D a b
theorem yA(g:Nat)(D:DS)(a:Int)(w:World)(Q:0<=a/\a+1<(D.n:Int))(h:St I w (da g D::L))(W:D.n<=512):
 Rt I w 138 #[pO g,iI a] (.bool true) (da g D::L):=by
 have d0:decide (a≥0)=true:=dZ Q.1;have C:decide (0<=a)=true:=d0;have l:IntKind.i64.wrap ((D.n:Int)-1)=(D.n:Int)-1:=IntWalk.i64_in _ oM;have d1:decide (a<(D.n:Int)-1)=true:=decide_eq_true (by omega);have H:=aa h;clear h;generalize u:(D.n:Int)=N at*;have b:=aa u;clear u
 go_enter func138,ntmps138
 exact aeN
theorem BE(u:ml I)(g k:Nat)(D:DS)(a:Int)(w:World)(y:dB D k)(Q:0<=a/\a+1<(D.n:Int))(h:St I w (da g D::L)):
 Calls prog 86 #[pO g,iI a] w λe O=>∃A c,e= .returned (.tuple #[.slice A (gZ D a).length c,iW (aK D a).q,iI (j8 D a)])/\St I O (ai .u8 (.slice A (gZ D a).length c) (gZ D a)::da g D::L):=by
 refine bm y Q λP J=>?_;have W:=y.ok.n2;have H:=aa h;clear h y
 go_enter func86,ntmps86
 go_wp2_with fail
 refine qH (yA g D a _ J H W) λz r=>?_;clear H
 go_wp2_with fail
 refine(KY u g D a _ P.ok P.b acR r).mono ?_;rintro e X⟨A,c,rfl,h⟩;obtain⟨o,b⟩:=nM (aK D a);have i:=aa (show gZ D a=if o.q=0 then []else o.b by rw[b];rfl);have l:=aa (show j8 D a=if o.q=0 then 41 else 0 by rw[b];rfl);rw[<-b]at h⊢;have q:=aa b;clear b;have Z:=h.alloc 258 #[iI o.at_,iW o.q,.slice A o.b.length c];have U:=(Z.ah 0 rfl).cell 1;have G:=(Z.ah 0 rfl).cell 2;have T:=aa Z.tail;clear h Z r;by_cases d:o.q=0
 ·have j:=Ec d
  refine ib (i.trans (iP d)) (l.trans (iP d)) d λi l Y=>?_;clear d
  go_wp2_with fail
  ((try simp only[Exit.inBlock,Exit.then]);refine bodyPost_ret (jj rfl _ _ _) rfl ?_)
  refine⟨none,0,by rw[i.out,l.out,<-q.out,Y.out];rfl,?_⟩;rw[i.out];exact(T.tail.bG (R:=λw=>aA w .u8 sN []) (λO _=>aA.none_ O .u8))
 ·have j:=kO d
  refine bm (i.trans (iN d)) (l.trans (iN d)) λi l=>?_;clear d
  go_wp2_with fail
  go_quiet (fail)
  go_wp2_with fail
  ((try simp only[Exit.inBlock,Exit.then]);refine bodyPost_ret (jj rfl _ _ _) rfl ?_)
  refine⟨A,c,by rw[i.out,l.out,<-q.out];rfl,?_⟩;rw[i.out];exact T.drewN _
theorem Qm(E:ml I)(g k:Nat)(D:DS)(a:Int)(A:OA)(n c:Nat)(b:LI)(w:World)(y:dB D k)(hk:k<=900000)(ha:0<=a/\a+1<(D.n:Int))(hn:n<=43)(B:Bytes b)(h:St I w (da g D::ai .u8 (.slice A n c) b::L)):
 Rt I w 177 #[pO g,iI a,.slice A n c] (iI (qb D a b)) (da g (qn D a b)::L):=by
 refine bm y ha λP J=>?_;have B0:=y.ok.n2;refine mr B (show qb D a b=if(aK D a).q=4294967295 then 42 else D.sync.eU (dh D a) (lL D a b)from rfl) (show qn D a b=if(aK D a).q=4294967295 then D else D.sync.write (dh D a) (lL D a b)from rfl) (show lL D a b=aP ((aK D a).q+1) 0 b from rfl) λM i l U=>?_;refine ib (show dh D a=2*a+1-(aK D a).at_ from rfl) (iG y.b a 2) (mX D a 2 (g9 2)) λz R x=>?_;have R:Hid (0<=(aK D a).q/\(aK D a).q<4294967296/\(aK D a).b.length<=43/\Bytes (aK D a).b):=R;have x:Hid ((aK D a).at_=a\/(aK D a).at_=a+1):=x;have H:=aa h;clear h y B
 go_enter func177,ntmps177
 go_wp2_with fail
 refine qH (yA g D a _ J H B0) λw1 Y=>?_;clear H
 go_wp2_with fail
 refine(KY E g D a _ P.ok P.b acR Y).mono ?_;rintro A0 w2⟨t,Q,rfl,h⟩;generalize lL D a b=ps at*;generalize dh D a=pi at*;generalize aK D a=o at*;obtain⟨G,V,F⟩:=o;have i:Hid (qb D a b=if V=4294967295 then 42 else D.sync.eU pi ps):=i;have l:Hid (qn D a b=if V=4294967295 then D else D.sync.write pi ps):=l;have U:Hid (ps=aP (V+1) 0 b):=U;have z:Hid (pi=2*a+1-G):=z;have R:Hid (0<=V/\V<4294967296/\F.length<=43/\Bytes F):=R;have x:Hid (G=a\/G=a+1):=x;have Z:=h.alloc 258 #[iI G,iW V,.slice t F.length Q];have W:=(Z.ah 0 rfl).cell 0;have q:=(Z.ah 0 rfl).cell 1;have T:=aa (Z.pk 4 [3,2,0]);clear h Z Y;obtain⟨u,j⟩:∃u,IntKind.u32.wrap (V+1)=u:=⟨_,rfl⟩;have S:=wrap_u32 (V+1);rw[j]at S;have p:=aa S;clear S
 go_wp2_with fail
 obtain⟨gx,r⟩:=nM (w2.heap.size);rw[<-r]at T W q;rw[<-r];refine(zx E u 0 A n c b _ p dC hn M T).mono ?_;rintro A0 w3⟨K,c3,rfl,h⟩;have y0:=(h.ah 3 rfl).cell 0;have y1:=(h.ah 3 rfl).cell 1;have N:=aa h;clear h T W q r;by_cases d:V=4294967295
 ·have O:=Ec d
  refine bm (i.trans (iP d)) (l.trans (iP d)) λi l=>?_;clear d
  go_wp2_with fail
  go_ret
  rw[i.out,l.out];exact⟨rfl,N.sub⟩
 ·have O:=kO d
  refine bm (i.trans (iN d)) (l.trans (iN d)) λi l=>?_;have U:=aa (show ps=aP u 0 b by
   rw[U.out,<-j,show IntKind.u32.wrap (V+1)=(V+1)%4294967296 from rfl]
   congr 1
   have:=R.out;omega)
  clear d j
  go_wp2_with fail
  refine qK (xU P.ok (by have:=P.p;omega) (N.fi 2)) λw4 h=>?_;have z0:=(h.ah 3 rfl).cell 0;have C:=aa h;clear h N y0 y1;have v1:IntKind.i64.wrap (2*a)=2*a:=IntWalk.i64_in _ acR;have v2:IntKind.i64.wrap (2*a+1)=2*a+1:=IntWalk.i64_in _ acR;have v3:IntKind.i64.wrap (2*a+1-G)=pi:=(IntWalk.i64_in _ (by have:=J.out;have:=x.out;omega)).trans z.symm
  go_wp2_with fail
  have e:=P.sync;refine qK (yw pi (.slice K 64 c3) (aP u 0 b) 0 e.ok (by have:=e.p;omega) rfl C) λw5 h=>?_;rw[<-U.out]at h⊢;have X:=aa h;clear h C
  go_wp2_with fail
  go_ret
  rw[i.out,l.out];exact⟨rfl,X.sub⟩
theorem Bu(u:ml I)(g k:Nat)(D:DS)(a:Int)(A:OA)(n c:Nat)(b:LI)(w:World)(y:dB D k)(F:k<=900000)(Q:0<=a/\a+1<(D.n:Int))(W:n<=43)(B:Bytes b)(h:St I w (da g D::ai .u8 (.slice A n c) b::L)):
 Rt I w 142 #[pO g,iI a,.slice A n c] (iI (g7 D a b)) (da g (cE D a b)::L):=by
 refine mr (y.put a B) (Qm u g k D a A n c b w y F Q W B h) (show g7 D a b=if qb D a b=0 then(if(qn D a b).sync.down=true then 43 else 0)else qb D a b from rfl) (show cE D a b=if qb D a b=0 then(qn D a b).sync else qn D a b from rfl) λd V i l=>?_;generalize qb D a b=pe at*;generalize qn D a b=pd at*;clear h y B
 go_enter func142,ntmps142
 go_wp2_with fail
 refine qH V λz r=>?_;clear V;by_cases o:pe=0
 ·subst o
  refine bm (i.trans (iP rfl)) (l.trans (iP rfl)) λi l=>?_
  go_wp2_with fail
  refine qH (xU d.ok (by have:=d.p;omega) r) λX T=>?_;clear r;obtain⟨t,R⟩:∃t,pd.sync.down=t:=⟨_,rfl⟩
  go_wp2_with fail
  refine qK (ya T) λY h=>?_;rw[R];refine bm h R λN j=>?_;clear h T R
  cases t
  all_goals
   go_wp2_with fail
   go_ret
   rw[i.out,l.out,j.out];exact⟨rfl,N⟩
 ·have O:=kO o
  refine bm (i.trans (iN o)) (l.trans (iN o)) λi l=>?_;clear o
  go_wp2_with fail
  go_ret
  rw[i.out,l.out];exact⟨rfl,r⟩
structure SB where
 ar:Int
 nu:Int
 sz:Int
 ok:Bool
def Cr:SB:=⟨1,0,0,false⟩
def YH(b:LI):Rd:=((((Rd.mk b false).num 1).2.num 4).2.num 2).2
def Dv(b:LI):SB:=⟨((Rd.mk b false).num 1).1,(((Rd.mk b false).num 1).2.num 4).1,((((Rd.mk b false).num 1).2.num 4).2.num 2).1,true⟩
def nU(b:LI):SB:=if(YH b).kx≠0\/(Dv b).ar>1 then Cr else Dv b
def cJ(D:DS)(a:Int):SB:=if j8 D a=0 then nU (gZ D a)else Cr
def eX(m:SB):LI:=aT m.ar 1++aT m.nu 4++aT m.sz 2
theorem Gp(h:Bytes b)(C:b.length<=100000):0<=(nU b).ar/\(nU b).ar<=1/\0<=(nU b).nu/\(nU b).nu<4294967296/\0<=(nU b).sz/\(nU b).sz<65536:=by
 have K:Rd.Ok (Rd.mk b false):=⟨h,by show b.length<=140737488355328;omega,λh=>by cases h⟩;unfold nU
 split
 ·decide
 ·rename_i D
  have Z:=Rd.mO K;have V:=Rd.lC (K.num 1);have M:=Rd.Ar (((Rd.mk b false).num 1).2.num 4).2 ((K.num 1).num 4).hb 2 oM oM;have Q:¬(Dv b).ar>1:=λh=>D (.inr h);exact⟨Z.1,oM,V.1,V.2,M.1,M.2⟩
theorem iz(h:Bytes D.seen)(a:Int):0<=(cJ D a).ar/\(cJ D a).ar<=1/\0<=(cJ D a).nu/\(cJ D a).nu<4294967296/\0<=(cJ D a).sz/\(cJ D a).sz<65536:=by
 unfold cJ
 split
 ·have R:=iG h a 2
  refine Gp ?_ ?_
  ·unfold gZ
   split
   ·exact Bytes.nil
   ·exact R.2.2.2
  ·unfold gZ
   split
   ·exact acy
   ·have:=R.2.2.1
    show(dH D a 2).b.length<=_;omega
 ·decide
theorem Bf(h:Bytes D.seen)(a:Int):(gZ D a).length<=43/\Bytes (gZ D a):=by
 have R:=iG h a 2;unfold gZ
 split
 ·exact⟨by simp,Bytes.nil⟩
 ·exact⟨R.2.2.1,R.2.2.2⟩
theorem BC(g:Nat)(D:DS)(a:Int)(w:World)(Q:0<=a/\a+44<=(D.n:Int))(W:D.n<=512)(h:St I w (da g D::L)):
 Rt I w 128 #[pO g,iI a,iI 21] (iI 0) (da g D::L):=by
 have d0:decide (a<0)=false:=decide_eq_false (by omega);have H:=aa h;clear h;generalize u:(D.n:Int)=N at*;have l:IntKind.i64.wrap (N-2)=N-2:=IntWalk.i64_in _ oM;have X:IntKind.i64.wrap (N-2-42)=N-2-42:=IntWalk.i64_in _ oM;have d1:decide (a>N-2-42)=false:=decide_eq_false (by omega);have d:decide (N-2-42<a)=false:=d1;have b:=aa u;clear u
 go_enter func128,ntmps128
 exact aeN
theorem JQ(w:World):Calls prog 130 #[iI 21] w λe O=>e= .returned (iI 903)/\∃n,O=w.drewN n:=by
 go_enter func130,ntmps130
 go_wp2_with fail
 go_ret
 exact⟨rfl,0,rfl⟩
theorem Ey(hT:ml I)(g k:Nat)(D:DS)(a:Int)(w:World)(y:dB D k)(ha:0<=a/\a+1<(D.n:Int))(h:St I w (da g D::L)):
 Rt I w 129 #[pO g,iI a] (.tuple #[.agg #[iI (cJ D a).ar,iW (cJ D a).nu,iI (cJ D a).sz],.bool (cJ D a).ok]) (da g D::L):=by
 refine mr y ha (Bf y.b a) (show cJ D a=if j8 D a=0 then nU (gZ D a)else Cr from rfl) λHD S c C=>?_;have Z:=h.alloc 246 #[iI 0,iW 0,iI 0];obtain⟨gr,J⟩:=nM (w.heap.size);rw[<-J]at Z;refine bm Z.swap J λH t=>?_;clear h Z y J
 go_enter func129,ntmps129
 go_wp2_with fail
 rw[<-t.out];refine(BE hT g k D a _ HD S H).mono ?_;rintro B0 w1⟨A,G0,rfl,h⟩;have r:=aa h;clear h H;generalize gZ D a=b at*;generalize j8 D a=le at*;generalize(aK D a).q=lq at*;by_cases X:le=0
 ·have i:=aa (C.trans (iP X))
  subst X;have Q:=aa (show nU b=if(YH b).kx≠0\/(Dv b).ar>1 then Cr else Dv b from rfl);have O:Rd.Ok (Rd.mk b false):=⟨c.2,by show b.length<=140737488355328;have:=c.1;omega,λh=>by cases h⟩;have q:=aa O;have U:=aa (show YH b=((((Rd.mk b false).num 1).2.num 4).2.num 2).2 from rfl);have z:=aa (show Dv b=⟨((Rd.mk b false).num 1).1,(((Rd.mk b false).num 1).2.num 4).1,((((Rd.mk b false).num 1).2.num 4).2.num 2).1,true⟩from rfl);clear O C
  go_wp2_with fail
  refine(ox _ b _ r).mono ?_;rintro B0 w2⟨M,rfl,h⟩;have T:=aa h;clear h r
  go_wp2_with fail
  refine bm (Rd.mO q) (q.num 1) λe V=>?_;refine qH (bM M _ 1 _ q.hb q.hl q.hz T) λw3 N=>?_;clear T;generalize YH b=rr at*;generalize Dv b=mo at*;generalize((Rd.mk b false).num 1).2=r1 at*;generalize((Rd.mk b false).num 1).1=x0 at*;have v0:IntKind.i64.wrap x0=x0:=IntWalk.i64_in _ (by have:=e.out;omega)
  go_wp2_with fail
  refine bm (Rd.lC V) (V.num 4) λA0 F=>?_;refine qH (bM M _ 4 _ V.hb V.hl V.hz N) λw4 d=>?_;clear N;generalize(r1.num 4).2=r2 at*;generalize(r1.num 4).1=x1 at*;have v1:IntKind.u32.wrap x1=x1:=eT A0
  go_wp2_with fail
  refine bm (Rd.Ar r2 F.hb 2 oM oM) (F.num 2) λx F0=>?_;refine qK (bM M _ 2 _ F.hb F.hl F.hz d) λw5 h=>?_;have x:Hid (0<=(r2.num 2).1/\(r2.num 2).1<65536):=x;generalize(r2.num 2).2=r3 at*;generalize(r2.num 2).1=x2 at*;have v2:IntKind.i64.wrap x2=x2:=IntWalk.i64_in _ (by have:=x.out;omega);have P:=h.alloc 246 #[iI x0,iW x1,iI x2];obtain⟨gm,l⟩:=nM (w5.heap.size);rw[<-l]at P;refine bm P.swap l λK G=>?_;clear h P d l
  go_wp2_with fail
  rw[<-G.out];refine qK (qP M r3 _ K) λw6 h=>?_;have o:=aa (h.pk 5 [4,1,3]);obtain⟨y0,y1,y2⟩:=(o.ah 0 rfl).three;have f:=(o.ah 0 rfl).frozen;obtain⟨z0,z1,z2⟩:=(o.ah 1 rfl).three;clear h K G t;have U:Hid (rr=r3):=U;have z:Hid (mo=⟨x0,x1,x2,true⟩):=z;obtain⟨t1,C0⟩:∃t1,(r3.kx !=0)=t1:=⟨_,rfl⟩;obtain⟨t2,W⟩:∃t2,decide (x0>1)=t2:=⟨_,rfl⟩;have H0:decide (1<x0)=t2:=W;have n:=aa (show nU b=if(t1||t2)=true then Cr else mo by
   rw[Q.out,U.out,z.out]
   congr 1
   rw[<-C0,<-W];simp)
  by_cases R:(t1||t2)=true
  ·have Y:=aa (i.trans (n.trans (iP R)))
   have j:=((o.br 0 (iI 1) #[iI 1,iW 0,iI 0]).br 1 (iW 0) #[iI 1,iW 0,iI 0]).br 2 (iI 0) #[iI 1,iW 0,iI 0];obtain⟨p,E,u⟩:=(j.ah 0 rfl).three;have B:=aa j.tail.tail;clear j o
   cases t1
   case' false=>cases t2
   case' false.false=>exact absurd R dC
   all_goals
    clear R
    go_wp2_with fail
    refine bodyPost_ret (eZ (v:= .agg #[iI 1,iW 0,iI 0]) rfl _ rfl ?_) rfl (by rw[Y.out];exact⟨rfl,B⟩);go_simp
  ·have Y:=aa (i.trans (n.trans (iN R)))
   have j:=((o.br 0 (iI x0) #[iI x0,iW 0,iI 0]).br 1 (iW x1) #[iI x0,iW x1,iI 0]).br 2 (iI x2) #[iI x0,iW x1,iI x2];obtain⟨p,E,u⟩:=(j.ah 0 rfl).three;have B:=aa j.tail.tail;clear j o;have D0:t1=false/\t2=false:=by simpa using R
   obtain⟨rfl,rfl⟩:=D0;clear R
   go_wp2_with fail
   refine bodyPost_ret (eZ (v:= .agg #[iI x0,iW x1,iI x2]) rfl _ rfl ?_) rfl (by rw[Y.out,z.out];exact⟨rfl,B⟩);go_simp
 ·have i:=aa (C.trans (iN X))
  have b1:=OC X;have T:=aa (r.pk 3 [2,1]);obtain⟨y0,y1,y2⟩:=(T.ah 0 rfl).three;have f:=(T.ah 0 rfl).frozen;have j:=((T.br 0 (iI 1) #[iI 1,iW 0,iI 0]).br 1 (iW 0) #[iI 1,iW 0,iI 0]).br 2 (iI 0) #[iI 1,iW 0,iI 0];obtain⟨p,E,u⟩:=(j.ah 0 rfl).three;have B:=aa j.tail;clear j r T X t
  go_wp2_with fail
  refine bodyPost_ret (eZ (v:= .agg #[iI 1,iW 0,iI 0]) rfl _ rfl ?_) rfl (by rw[i.out];exact⟨rfl,B⟩);go_simp
theorem Ot(m:SB)(w:World)(K:0<=m.ar/\m.ar<=1)(Z:0<=m.nu/\m.nu<4294967296)(V:0<=m.sz/\m.sz<=100000)(h:St I w L):
 Calls prog 232 #[.agg #[iI m.ar,iW m.nu,iI m.sz]] w λe O=>∃A c,e= .returned (.slice A 7 c)/\St I O (ai .u8 (.slice A 7 c) (eX m)::L):=by
 obtain⟨d,g,E,_⟩:=m;have i:IntKind.u64.wrap d=d:=IntWalk.u64_in _ (by show 0<=d/\_;have:0<=d/\d<=1:=K;omega);have U:IntKind.u64.wrap g=g:=oe Z;have p:IntKind.u64.wrap E=E:=IntWalk.u64_in _ (by show 0<=E/\_;have:0<=E/\E<=100000:=V;omega);have M:=h.alloc 246 #[iI d,iW g,iI E];obtain⟨u,a⟩:=nM (w.heap.size);rw[<-a]at M;have Q:=M.Lp;rw[World.size_alloc]at Q;have z:=(Q.ah 1 rfl).cell 0;rw[a]at z;refine bm Q a λH R=>?_;clear h K Z V M Q a
 go_enter func232,ntmps232
 go_wp2_with fail
 refine qK (dg (w.heap.size+1) d 1 [] _ acy H) λl h=>?_;rw[LR,xL]at h;have Y:=(h.ah 1 rfl).cell 1;have r:=aa h;clear h H z;rw[R.out]at Y
 go_wp2_with fail
 refine qK (dg (w.heap.size+1) g 4 _ _ (by simp only[aq];omega) r) λX h=>?_;rw[uO]at h;have o:=(h.ah 1 rfl).cell 2;have T:=aa h;clear h r Y;rw[R.out]at o
 go_wp2_with fail
 refine qK (dg (w.heap.size+1) E 2 _ _ (by simp only[eG,aq];omega) T) λG h=>?_;rw[show bL E 2=aT E 2 from rfl]at h;have N:=aa h;clear h T o
 go_wp2_with fail
 refine(qu (w.heap.size+1) _ _ (by simp only[eG,aq];omega) N).mono ?_;rintro e t⟨v,rfl,h⟩;obtain⟨A,c,rfl⟩:=h.slice;have F:=St.ints (k:= .u8) (xs:=aT d 1++aT g 4++aT E 2) h;have C:(aT d 1++aT g 4++aT E 2).length=7:=by simp only[eG,aq]
 rw[C]at F⊢;have S:=aa (F.pk 3 [0]);clear h F N C
 go_wp2_with fail
 go_ret
 exact⟨A,c,rfl,S⟩
def SA(D:DS)(a d:Int)(i:Nat):PM:=cn D (a+2+d*21+(i:Nat))
def SN(p:PM)(i:Nat)(g E:Int)(len:Nat):Bool:=p.ok&& !(p.q !=((i:Nat):Int)+1)&& !(p.e !=g)&& !((p.b.length:Int) !=min 43 (E-(len:Nat)))
def mw(D:DS)(a d g E:Int):Nat->Option (LI)
 |0=>some []
 |i+1=>(mw D a d g E i).bind λout=>if((i:Nat):Int)*43<E then(if SN (SA D a d i) i g E out.length=true then some (out++(SA D a d i).b)else none)else some out
def iZ(D:DS)(a:Int):Option (LI):=if(cJ D a).ok=false\/(cJ D a).sz>903 then none else mw D a (cJ D a).ar (cJ D a).nu (cJ D a).sz 21
def ic(D:DS)(a:Int):Int:=if(iZ D a).isSome=true then 0 else 41
def fV(D:DS)(a:Int):LI:=(iZ D a).getD []
theorem r8{D:DS}{a d g E:Int}{i:Nat}(h:mw D a d g E i=none):∀j,mw D a d g E (i+j)=none
 |0=>h
 |j+1=>by
  show(mw D a d g E (i+j)).bind _=none;rw[r8 h j]
  rfl
theorem Cc{D:DS}{a ar nu E:Int}{i:Nat}(h:¬((i:Nat):Int)*43<E):∀j,mw D a ar nu E (i+j)=mw D a ar nu E i
 |0=>rfl
 |j+1=>by
  show(mw D a ar nu E (i+j)).bind _=_;rw[Cc h j]
  cases mw D a ar nu E i with
  |none=>rfl
  |some out=>exact iN (show¬(((i+j:Nat):Int)*43<E)by omega)
theorem MX{a d g E:Int}{i:Nat}{out:LI}(h:mw D a d g E i=some out)(z:((i:Nat):Int)*43<E):mw D a d g E (i+1)=if SN (SA D a d i) i g E out.length=true then some (out++(SA D a d i).b)else none:=by
 show(mw D a d g E i).bind _=_;rw[h];exact iP z
theorem RI(hT:ml I)(g k:Nat)(D:DS)(a:Int)(w:World)(H:dB D k)(ha:0<=a/\a+44<=(D.n:Int))(h:St I w (da g D::L)):
 Calls prog 83 #[pO g,iI a,iI 21] w λA0 O=>∃A c,A0= .returned (.tuple #[.slice A (fV D a).length c,iI (ic D a)])/\St I O (ai .u8 (.slice A (fV D a).length c) (fV D a)::da g D::L):=by
 refine bm H ha λW J=>?_;have M0:=H.ok.n2;refine Cz h (iz H.b a) (show iZ D a=if(cJ D a).ok=false\/(cJ D a).sz>903 then none else mw D a (cJ D a).ar (cJ D a).nu (cJ D a).sz 21 from rfl) (show ic D a=if(iZ D a).isSome=true then 0 else 41 from rfl) (show fV D a=(iZ D a).getD []from rfl) λF0 z X E1 E2=>?_;have x:=aa (λ(hn:iZ D a=none)=>(⟨E1.trans (by rw[hn];rfl),E2.trans (by rw[hn];rfl)⟩:ic D a=41/\fV D a=[]));clear h H
 go_enter func83,ntmps83
 go_wp2_with fail
 refine qH (BC g D a _ J M0 F0) λw1 H1=>?_;clear F0
 go_wp2_with fail
 refine qK (Ey hT g k D a _ W acR H1) λw2 h=>?_;generalize cJ D a=m at*;obtain⟨ar,nu,E,ok⟩:=m;have z:Hid (0<=ar/\ar<=1/\0<=nu/\nu<4294967296/\0<=E/\E<65536):=z;have X:Hid (iZ D a=if ok=false\/E>903 then none else mw D a ar nu E 21):=X;have h1:=h.alloc 246 #[iI ar,iW nu,iI E];have t:=(h1.ah 0 rfl).cell 2;have V:=aa h1;clear h h1 H1;by_cases B:ok=false\/E>903
 ·have n:=aa (x (X.trans (iP B)))
  obtain⟨t2,e⟩:∃t2,decide (E>903)=t2:=⟨_,rfl⟩;have W0:decide (903<E)=t2:=e;have I0:(!ok||t2)=true:=by rw[<-e];simpa using B
  have N:=aa (V.tail.bG (R:=λw=>aA w .u8 sN []) (λO _=>aA.none_ O .u8));clear B
  cases ok
  case' true=>cases t2
  case' true.false=>exact absurd I0 dC
  all_goals
   clear I0
   go_wp2_with fail
   go_quiet ((go_at_call 130;exact Calls.quiet_of (JQ _)))
   go_wp2_with fail
   go_ret2
   rw[n.out.1,n.out.2];exact⟨none,0,rfl,N.drewN _⟩
 ·have U:=aa (X.trans (iN B))
  have N0:ok=true:=by cases ok with
   |true=>rfl
   |false=>exact absurd (.inl rfl) B
  subst N0;have mT:E<=903:=by
   rcases Int.lt_or_le 903 E with h|h
   ·exact absurd (.inr h) B
   ·exact h
  have d2:decide (E>903)=false:=decide_eq_false (by omega);have S0:decide (903<E)=false:=d2;clear B
  go_wp2_with fail
  go_quiet ((go_at_call 130;exact Calls.quiet_of (JQ _)))
  have h3:=(V.drewN nq).my 5 1;obtain⟨gm,J0⟩:=nM (w2.heap.size);rw[<-J0]at h3⊢;have N:=aa h3;clear h3 V J0 t
  go_wp2_with fail
  go_loopg [11,12] 22 (λgh ov iv wr=>∃(i q:Nat) (A:OA) (c:Nat) (out:LI),gh=22-i/\i<=21/\iv= iI (i:Nat)/\ov= .slice A q c/\q=out.length/\q<=i*43/\mw D a ar nu E i=some out/\St I wr (bY 5 1 (.slice A q c) q (bv out)::ab gm 246 #[iI ar,iW nu,iI E]::da g D::L))
  case atStart=>exact⟨0,0,none,0,[],rfl,oM,rfl,rfl,rfl,oM,rfl,N⟩
  case round=>
   clear N;obtain⟨i,q,A,c,out,hg,hi,rfl,rfl,hq,V0,K0,h⟩:=hrel;refine ib hg hq K0 λHG r G0=>?_;have c0:=(h.ah 1 rfl).cell 0;have t:=(h.ah 1 rfl).cell 2;have N:=aa h;have v1:IntKind.i64.wrap ((i:Int)*43)=(i:Int)*43:=IntWalk.i64_in _ oM;clear hg hq K0 h;by_cases M:(i:Int)*43<E
   ·have T0:i<=20:=oM
    have v2:IntKind.i64.wrap (a+2)=a+2:=IntWalk.i64_in _ acR;have v3:IntKind.i64.wrap (ar*21)=ar*21:=IntWalk.i64_in _ ade;have v4:IntKind.i64.wrap (a+2+ar*21)=a+2+ar*21:=IntWalk.i64_in _ (by have:=z.out;have:=J.out;omega);obtain⟨l,T⟩:=nM (a+2+ar*21+(i:Int));have v5:IntKind.i64.wrap (a+2+ar*21+(i:Int))=l:=(IntWalk.i64_in _ (by have:=z.out;have:=J.out;omega)).trans T.symm;have v6:IntKind.i64.wrap ((i:Int)+1)=(i:Int)+1:=IntWalk.i64_in _ oM;have v8:IntKind.i64.wrap (E-(q:Int))=E-(q:Int):=IntWalk.i64_in _ ade;refine bm T (MX G0 M) λQ0 b=>?_;have hp:SA D a ar i=cn D l:=by rw[T];rfl
    rw[hp]at b;clear hp T;have d3:decide ((i:Int)*43<E)=true:=dZ M;clear M
    go_wp2_with fail
    refine(vI l W.ok (N.fi 2)).mono ?_;rintro A0 w4⟨A1,c1,rfl,h⟩;have d:=aa h;clear h N c0 t
    go_wp2_with fail
    refine(zb hT A1 _ c1 _ _ (DS.fU W.b l) (by have:=DS.rH D l;omega) d).mono ?_;rintro A0 w5⟨A2,t,rfl,h⟩;have B0:cn D l=cQ (D.read l):=rfl;rw[<-B0]at h⊢;have F:=aa (iJ (DS.fU W.b l));rw[<-B0]at F;generalize cn D l=p at*;obtain⟨y,Q,C,L0⟩:=p;have F:Hid (0<=y/\y<4294967296/\0<=Q/\Q<4294967296/\C.length<=43):=F;have b:Hid (mw D a ar nu E (i+1)=if(L0&& !(y !=((i:Nat):Int)+1)&& !(Q !=nu)&& !((C.length:Int) !=min 43 (E-(out.length:Nat))))=true then some (out++C)else none):=b;rw[<-r.out]at b;have K:=aa (h.pk 5 [3,0,4,2]);have c1:=(K.ah 2 rfl).cell 1;have R0:=(K.ah 2 rfl).cell 2;clear h B0 d;have v7:IntKind.i64.wrap y=y:=IntWalk.i64_in _ (by have:=F.out;omega);obtain⟨t2,e⟩:∃t2,(y !=(i:Int)+1)=t2:=⟨_,rfl⟩;obtain⟨t3,P0⟩:∃t3,(Q !=nu)=t3:=⟨_,rfl⟩;rw[e,P0]at b
    cases L0
    case' true=>cases t2
    case' true.true=>skip
    case' true.false=>cases t3
    case' true.false.true=>skip
    case true.false.false=>
     have O0:=F.2.2.2.2;obtain⟨u,C0⟩:=nM (C.length);rw[<-C0]at O0 K b⊢;have H0:=aa C0;clear C0;by_cases hm:E-(q:Int)<43
     ·have dm:decide (E-(q:Int)<43)=true:=dZ hm
      rw[Int.min_eq_right oM]at b;by_cases Y:(u:Int)=E-(q:Int)
      ·exact afV
      ·exact agb
     ·have dm:decide (E-(q:Int)<43)=false:=dQ hm
      have U0:43<=E-(q:Int):=oM
      rw[Int.min_eq_left oM]at b;by_cases Y:(u:Int)=43
      ·exact afV
      ·exact agb
    all_goals
     have G:=aa (b.trans (iN acy));exact adX
   ·have D0:=Cc (D:=D) (a:=a) (ar:=ar) (nu:=nu) M (21-i)
    rw[show i+(21-i)=21 by omega,G0.out]at D0;have EV:=aa (U.trans D0);have d3:decide ((i:Int)*43<E)=false:=dQ M;clear M D0;have d:=aa (St.ints (k:= .u8) (xs:=out) N)
    go_wp2_with fail
    go_ret2
    rw[E1.out,E2.out,EV.out];refine⟨A,c,?_,?_⟩
    ·rw[r.out];rfl
    ·show St I _ (ai .u8 (.slice A out.length c) out::_)
     rw[<-r.out];exact d.sub
section
open Go.Shelf
attribute [local go_sem] Oper.semAt_some
abbrev OP(fn:FuncId)(tmps:Vq)(A:Array Tmp)(assign body:Code)(D:Nat)(p:LoopState)(j:Option Code):Loop:={state:=p,pending:=j,fn:=fn,tmps:=tmps,params:=A,assign:=assign,body:=body,defers:=D}
theorem AX{g:Operand}{A:Array Tmp}{assign b:Code}{Q:Exit->Act->World->Prop}{a:Act}{gf:Nat}{lb:Vq}
 (u:a.eval g= .func (.func gf) #[] lb) (l:∀args w,(callFunc gf args).run P w= .ok (.enter gf args) w) (h:St I w L)
 (o:∀(Y:FuncId) (y D:Nat) (O:World) (i:LoopState->Option Code->Loop),i=(λs j=>OP Y a.tmps A assign b D s j)->St I O (ff y (.loop (i .ready none))::ff D (.deferred (some []))::L)->
  CallsIn Fence.wide (n-1) P gf (#[.func (.yield y) #[] #[]]++lb) O λe k=>(∃v,e= .returned v)/\∃t s j,s≠LoopState.busy/\St I k (ff y (.loop (i s j))::ff D (.deferred (some []))::t)/\
   (∀r,St I r (ff D (.deferred (some []))::t)->match j with
    |none=>Q .normal {a with defers:={target:= .collected D,args:= #[]}::a.defers} r
    |some c=>c.wpIn Fence.wide n P Q {a with defers:={target:= .collected D,args:= #[]}::a.defers} r)):
 (Code.rangeFunc g A assign b).wpIn Fence.wide n P Q a w:=by
 refine wpIn_rangeFunc ?_;intro Y _;have Z:=(h.Cy (.deferred (some []))).Cy (.loop (OP Y a.tmps A assign b w.heap.size .ready none));rw[World.size_alloc]at Z;refine⟨w.heap.size+1,[{target:= .collected w.heap.size,args:= #[]}],(w.alloc (.deferred (some []))).alloc (.loop (OP Y a.tmps A assign b w.heap.size .ready none)),{target:= .fn (.func gf) lb,args:= #[.func (.yield (w.heap.size+1)) #[] #[]]},(w.alloc (.deferred (some []))).alloc (.loop (OP Y a.tmps A assign b w.heap.size .ready none)),gf,
  #[.func (.yield (w.heap.size+1)) #[] #[]]++lb,(w.alloc (.deferred (some []))).alloc (.loop (OP Y a.tmps A assign b w.heap.size .ready none)),?_,?_,?_,?_,λq=> ?_,?_⟩
 ·exact run_enterLoop_outer _ _ _ _ _
 ·simp only[resolve,u]
  exact adl
 ·intro E _
  trivial
 ·simp[invoke,go_sem,l]
 ·simp[Fence.wide]at q
 ·refine(o Y (w.heap.size+1) w.heap.size _ _ rfl Z).mono ?_
  rintro e k⟨⟨v,rfl⟩,t,s,j,U,V,d⟩;have C:=V.obj 0 rfl;refine⟨j,_,run_endLoop C U,?_⟩
  cases j with
  |none=>exact d _ (V.ul _).tail
  |some c=>exact d _ (V.ul _).tail
theorem Mn{y D:Nat}{Y:FuncId}{tmps args:Vq}{A:Array Tmp}{assign b:Code}{W:World}{i:LoopState->Option Code->Loop}(d:i=λs j=>OP Y tmps A assign b D s j)(L':List aw)(Z:List aw->Prop)(T:Act)
 (h:St I W (ff y (.loop (i .ready none))::L)) (U:args.size=A.size)
 (a:∀(O:World) (K:Act->World->Prop),K T O->assign.wpIn (Fence.wide.inRound y) n P (Exit.then K (λ_ _ _=>False)) {tmps:=(A.zip args).foldl (λt (p,v)=>t.setIfInBounds p v) tmps,defers:=[]} O)
 (c:∀O,St I O (ff y (.loop (i .busy none))::L)->b.wpIn (Fence.wide.inRound y) n P (λe _ k=>(e= .normal/\St I k (ff y (.loop (i .busy none))::L'))\/(e= .ret/\∃R,Z R/\St I k (ff y (.loop (i .busy none))::R))) T O):
 YieldAt Fence.wide n P y args W λe k=>(e= .returned (.bool true)/\St I k (ff y (.loop (i .ready none))::L'))\/(e= .returned (.bool false)/\∃R,Z R/\St I k (ff y (.loop (i .done (some .ret)))::R)):=by
 subst d;have C:=h.obj 0 rfl;refine⟨Y,_,assign,b,run_yield C U,roundIn_of_wpIn trivial (a W _ ⟨_,run_beginRound C rfl,?_⟩)⟩;refine wpIn_mono (c _ (h.ul _)) ?_;rintro e Q r(⟨rfl,M⟩|⟨rfl,R,G,M⟩)
 ·have o:=M.obj 0 rfl
  exact⟨_,_,run_endRound none o,.inl ⟨rfl,M.ul _⟩⟩
 ·have o:=M.obj 0 rfl
  exact⟨_,_,run_endRound (some .ret) o,.inr ⟨rfl,R,G,M.ul _⟩⟩
theorem aA.part{k:IntKind}{n c m p:Nat}{T:LI}(h:aA w k (.slice A n c) T)(y:m+p<=n)(o:0<p):aA w k (.slice (A.map (·.add m)) p p) ((T.drop m).take p):=by
 obtain⟨K,Z,V,M⟩:=h.sl;have Q:=h.drop (m:=m) oM (A.map (·.add m)) (λ_=>rfl);have F:=Q.cut (m:=p) oM;obtain⟨S,_,_,P⟩:=F.sl;refine⟨_,p,by rw[<-S],by rw[<-S];exact g9 _,by unfold maxLen;omega,by rw[<-S];exact P⟩
theorem Vu(b:LI)(A:OA)(n c X t y m:Nat)(T:Nat->List aw)(Z:List aw->Prop)(w:World)(hn:n<=1000)
 (L:∀(j:Nat) (W:World) (G:OA) (p:Nat),43*j<n->p=min 43 (n-43*j)->St I W (ai .u8 (.slice G p p) ((b.drop (43*j)).take 43)::ab X 27 #[.slice A n c]::ab t 3 #[iI 43]::ai .u8 (.slice A n c) b::T j)->
  YieldAt Fence.wide (m-1) prog y #[.slice G p p] W λe K=>(e= .returned (.bool true)/\St I K (ab X 27 #[.slice A n c]::ab t 3 #[iI 43]::ai .u8 (.slice A n c) b::T (j+1)))\/(e= .returned (.bool false)/\∃R,Z R/\St I K R))
 (h:St I w (ab X 27 #[.slice A n c]::ab t 3 #[iI 43]::ai .u8 (.slice A n c) b::T 0)):
 CallsIn Fence.wide m prog 234 #[.func (.yield y) #[] #[],pO X,pO t] w λe O=>(∃v,e= .returned v)/\(St I O (ab X 27 #[.slice A n c]::ab t 3 #[iI 43]::ai .u8 (.slice A n c) b::T ((n+42)/43))\/∃R,Z R/\St I O R):=by
 obtain⟨a,D0,B0,_⟩:=(h.get 2 rfl).sl;refine ib a L h λV U H=>?_;clear h L a;refine callsIn_of_wp func234 rfl trivial ?_ rfl;simp only[ntmps234,So,oO,OV,Nat.reduceAdd,Nat.reduceSub,Yt,Yj,YE,YC,xL,MV]
 gi_wp2_with fail
 gi_loopw [4] (λi wr=>∃j k:Nat,k=43*j/\k<n+43/\i= iI (k:Nat)/\St I wr (ab X 27 #[.slice A n c]::ab t 3 #[iI 43]::ai .u8 (.slice A n c) b::T j)) (λi _=>n-(intOf i).toNat)
 case atStart=>exact⟨0,0,rfl,oM,rfl,H⟩
 case round=>
  obtain⟨j,k,F,r,rfl,h⟩:=hrel;have o:=(h.ah 0 rfl).cell 0;have E:=(h.ah 1 rfl).cell 0;have C:=aa (λW G p=>U j W G p);clear H;have H:=aa h;clear h;rw[<-F]at C;have u:=aa F;clear F;by_cases x:k<n
  ·gi_wp2_with fail
   refine wpIn_wide.2 ?_;have i0:(0:Int)<=(k:Int):=oM
   have i1:(k:Int)<=(n:Int):=oM
   have i2:(n:Int)<=(c:Int):=oM
   refine bQ (λW=>W.cell? (aD X 0)=some (.slice A n c)/\W.cell? (aD t 0)=some (iI 43)) 7 (rG 7) [] kR kR (λd=>by cases d<;>exact λ_ _ _ _ h=>h) (λW J=> ?_);have z:=aa (show St I W (ab X 27 #[.slice A n c]::ab t 3 #[iI 43]::ai .u8 (.slice A n c) b::T j)by
    rw[J];exact H.drew)
   clear J H o E;refine⟨⟨(z.out.ah 0 rfl).cell 0,(z.out.ah 1 rfl).cell 0⟩,?_⟩
   iterate 7 (refine bN rfl rfl (λW J=>by(rcases J with⟨_,_⟩;go_simp;try rfl)) ?_;simp only[aR])
   refine take_nil (cN ?_);obtain⟨p,P⟩:=nM (min 43 (n-k));rw[show(if((n-k:Nat):Int)<43 then((n-k:Nat):Int)else 43)=(p:Int)by split<;>omega];have o:=(z.out.ah 0 rfl).cell 0;have E:=(z.out.ah 1 rfl).cell 0;have p1:0<p:=oM
   have p2:(k:Int)+(p:Int)<=(c:Int):=oM
   have p3:(k:Int)<=(k:Int)+(p:Int):=oM
   have p4:(0:Int)<=(k:Int)+(p:Int):=oM
   have C0:k+43<2000:=oM
   have E0:p<=43:=oM
   obtain⟨fn,tm,A0,bd,q,g⟩:=C.out W (A.map (·.add k)) p x P (by
    have Y:=(z.out.copy 2 rfl).bu (R':=λw=>aA w .u8 (.slice (A.map (·.add k)) p p) ((b.drop k).take p)) (λO l=>l.part oM p1);rwa[show(b.drop k).take p=(b.drop k).take 43 by
     have:=V.out;rcases zdk 43 (n-k)with Q|Q
     ·rw[show p=43 by omega]
     ·rw[nS acO,nS acO]]at Y)
   clear P r
   gi_wp2_with fail
   refine⟨λS=>by simp[Fence.wide]at S,g.mono ?_⟩;rintro e W3(⟨rfl,M⟩|⟨rfl,R,B,M⟩)
   ·have o:=(M.ah 0 rfl).cell 0
    have E:=(M.ah 1 rfl).cell 0;have N:=aa M;clear M g z q
    gi_wp2_with fail
    go_roundw
    case rel=>exact⟨j+1,k+43,by have:=u.out;omega,oM,by go_num,N⟩
    case measure=>exact aeI
   ·have N:=aa M
    have D:=aa B;clear M g z q B
    gi_wp2_with fail
    ((try simp only[Exit.inBlock,Exit.then]);refine bodyPost_ret (results_none rfl _ _ _) rfl ?_)
    exact⟨⟨_,rfl⟩,.inr ⟨R,D,N⟩⟩
  ·gi_wp2_with fail
   go_end0
   refine⟨⟨_,rfl⟩,.inl ?_⟩;rw[show(n+42)/43=j by have:=u.out;omega];exact H.out
theorem Mw(A:OA)(n c:Nat)(w:World)(h:St I w L):
 Calls prog 231 #[.slice A n c,iI 43] w λe O=>∃X t,e= .returned (.func (.func 234) #[] #[pO X,pO t])/\St I O (ab X 27 #[.slice A n c]::ab t 3 #[iI 43]::L):=by
 have H:=aa ((h.alloc 27 #[.slice A n c]).alloc 3 #[iI 43]);clear h
 go_enter func231,ntmps231
 exact ae8
end
section
open Go.Shelf
attribute [local go_sem] Oper.semAt_some
def iF(b:LI)(j:Nat):LI:=(b.drop (43*j)).take 43
def If(a d:Int)(j:Nat):Int:=a+2+d*21+(j:Nat)
def fC(D:DS)(a d g:Int)(b:LI):Nat->DS×Int
 |0=>(D,0)
 |j+1=>if(fC D a d g b j).2=0 then((fC D a d g b j).1.write (If a d j) (aP (((j:Nat):Int)+1) g (iF b j)),(fC D a d g b j).1.eU (If a d j) (aP (((j:Nat):Int)+1) g (iF b j)))else fC D a d g b j
def cP(D:DS)(a:Int)(b:LI):SB:=⟨1-(cJ D a).ar,(cJ D a).nu+1,(b.length:Nat),true⟩
def cG(D:DS)(a:Int)(b:LI):DS×Int:=fC D a (cP D a b).ar (cP D a b).nu b ((b.length+42)/43)
def qj(D:DS)(a:Int)(b:LI):Int:=if(cJ D a).nu=4294967295 then 42 else if(cG D a b).2=0 then g7 (cG D a b).1.sync a (eX (cP D a b))else(cG D a b).2
def fG(D:DS)(a:Int)(b:LI):DS:=if(cJ D a).nu=4294967295 then D else if(cG D a b).2=0 then cE (cG D a b).1.sync a (eX (cP D a b))else(cG D a b).1
theorem Dq{a d g:Int}{j:Nat}(h:(fC D a d g b j).2=0):fC D a d g b (j+1)=((fC D a d g b j).1.write (If a d j) (aP (((j:Nat):Int)+1) g (iF b j)),(fC D a d g b j).1.eU (If a d j) (aP (((j:Nat):Int)+1) g (iF b j))):=iP h
theorem sy{D:DS}{a d g:Int}{b:LI}{j:Nat}(h:(fC D a d g b j).2≠0):∀i,fC D a d g b (j+i)=fC D a d g b j
 |0=>rfl
 |i+1=>by
  have:=sy h i;show(if(fC D a d g b (j+i)).2=0 then _ else _)=_;rw[iN (by rw[this];exact h)];exact this
theorem ru(h:Bytes b)(j:Nat):Bytes (iF b j):=(h.drop _).take _
theorem ye{D:DS}{k:Nat}{a ar nu:Int}{b:LI}(h:dB D k)(B:Bytes b):∀j,dB (fC D a ar nu b j).1 (k+j)/\(fC D a ar nu b j).1.n=D.n
 |0=>⟨h,rfl⟩
 |j+1=>by
  obtain⟨Z,V⟩:=ye h B j;unfold fC
  split
  ·exact⟨Z.write _ (er _ _ (ru B j)),by rw[DS.zu];exact V⟩
  ·exact⟨Z.mono oM,V⟩
theorem rN(m:SB):Bytes (eX m):=((cg _ _).append (cg _ _)).append (cg _ _)
theorem qi(m:SB):(eX m).length=7:=by simp only[eX,eG,aq]
theorem Gn(a:Int)(h:dB D k)(B:Bytes b)(C:b.length<=903):dB (fG D a b) (k+22)/\(fG D a b).n=D.n:=by
 have Z:=ye (a:=a) (ar:=(cP D a b).ar) (nu:=(cP D a b).nu) h B ((b.length+42)/43);have y:(b.length+42)/43<=21:=oM
 unfold fG
 split
 ·exact⟨h.mono oM,rfl⟩
 ·split
  ·exact⟨((Z.1.sync).save a (rN _)).mono oM,by rw[LM,DS.kI];exact Z.2⟩
  ·exact⟨Z.1.mono oM,Z.2⟩
theorem oG{Y:Func}{t:Nat}{X:TypeId}{v:Value}{a:Addr}(h:Y.results= #[.cell t X])(b:Vq)(Q:b.getD t undef= .pointer (some a))(C:(loadVar X a).run P w= .ok v w):
 (results Y b).run P w= .ok v w:=th h b Q C
theorem QP(hT:ml I)(g k:Nat)(D:DS)(a:Int)(A:OA)(n c:Nat)(b:LI)(w:World)(hD:dB D k)(hk:k<=800000)(ha:0<=a/\a+44<=(D.n:Int))(hn:n<=903)(hb:Bytes b)(h:St I w (da g D::ai .u8 (.slice A n c) b::L)):
 Rt I w 228 #[pO g,iI a,iI 21,.slice A n c] (iI (qj D a b)) (da g (fG D a b)::L):=by
 have G1:n=b.length:=(h.get 1 rfl).sl.1;refine ib G1 hD ha λD0 HD J=>?_;have Z1:=hD.ok.n2;refine xH hb (iz hD.b a) (show qj D a b=if(cJ D a).nu=4294967295 then 42 else if(cG D a b).2=0 then g7 (cG D a b).1.sync a (eX (cP D a b))else(cG D a b).2 from rfl) (show fG D a b=if(cJ D a).nu=4294967295 then D else if(cG D a b).2=0 then cE (cG D a b).1.sync a (eX (cP D a b))else(cG D a b).1 from rfl) (show cG D a b=fC D a (cP D a b).ar (cP D a b).nu b ((b.length+42)/43)from rfl) (show cP D a b=⟨1-(cJ D a).ar,(cJ D a).nu+1,(b.length:Nat),true⟩from rfl) λHB z i l E3 T=>?_;have Z:=h.alloc 49 #[pO g];have V:=Z.alloc 3 #[iI a];have M:=V.alloc 3 #[iI 21];have Q:=M.alloc 32 #[iI 0];simp only[World.size_alloc]at V M Q;have c4:=(Q.ah 3 rfl).cell 0;have c5:=(Q.ah 2 rfl).cell 0;have c6:=(Q.ah 1 rfl).cell 0;have P0:=aa (Q.fi 4);clear h Z V M Q hD hb G1;refine(callsIn_wide (n:=12)).1 ?_;refine callsIn_of_wp_marks func228 rfl trivial ?_ rfl;simp only[ntmps228,So,oO,OV,Nat.reduceAdd,Nat.reduceSub,Yt,Yj,YE,YC,xL,MV]
 gi_wp2_with fail
 refine⟨trivial,(callsIn_wide.2 (BC g D a _ J Z1 P0)).mono ?_⟩;rintro e w1⟨rfl,h⟩;obtain⟨B,B1⟩:∃x,x=w.heap.size+1+1+1:=⟨_,rfl⟩;obtain⟨g6,A1⟩:∃x,x=w.heap.size+1+1:=⟨_,rfl⟩;obtain⟨g5,Z0⟩:∃x,x=w.heap.size+1:=⟨_,rfl⟩;obtain⟨g4,Y0⟩:∃x,x=w.heap.size:=⟨_,rfl⟩;rw[<-B1,<-A1,<-Z0,<-Y0]at h⊢;have H1:=aa h;have c4:=(h.ah 4 rfl).cell 0;have c5:=(h.ah 3 rfl).cell 0;clear h P0 B1 A1 Z0 Y0
 gi_wp2_with fail
 refine⟨trivial,(callsIn_wide.2 (Ey hT g k D a _ HD acR H1)).mono ?_⟩;rintro e w2⟨rfl,h⟩;generalize cJ D a=m at*;obtain⟨ar,nu,y,ok⟩:=m;have z:Hid (0<=ar/\ar<=1/\0<=nu/\nu<4294967296/\0<=y/\y<65536):=z;have T:Hid (cP D a b=⟨1-ar,nu+1,(b.length:Nat),true⟩):=T;have i:Hid (qj D a b=if nu=4294967295 then 42 else if(cG D a b).2=0 then g7 (cG D a b).1.sync a (eX (cP D a b))else(cG D a b).2):=i;have l:Hid (fG D a b=if nu=4294967295 then D else if(cG D a b).2=0 then cE (cG D a b).1.sync a (eX (cP D a b))else(cG D a b).1):=l;have Z:=h.alloc 246 #[iI ar,iW nu,iI y];obtain⟨S,I0⟩:∃x,x=w2.heap.size:=⟨_,rfl⟩;rw[<-I0]at Z;have c6:=(Z.ah 3 rfl).cell 0;refine bm Z I0 λY R0=>?_;clear h Z H1 c4 c5 I0
 gi_wp2_with fail
 rw[<-R0.out];refine⟨trivial,(callsIn_wide.2 (JQ _)).mono ?_⟩;rintro e w3⟨rfl,q3,rfl⟩;have N:=aa (Y.drewN q3);have z0:=(N.ah 0 rfl).cell 0;have z1:=(N.ah 0 rfl).cell 1;have d0:decide ((n:Int)>903)=false:=decide_eq_false (by omega);have I2:decide ((903:Int)<(n:Int))=false:=d0;clear Y c6 R0;by_cases q:nu=4294967295
 ·have b1:=Ec q
  have y8:=(N.ah 2 rfl).cell 0;have f8:=(N.ah 2 rfl).frozen;have u:=(N.fi 2).br 0 (iI 42) #[iI 42];have k0:=(u.ah 0 rfl).cell 0;refine ib u (i.trans (iP q)) (l.trans (iP q)) λH7 i l=>?_;clear u N q
  gi_wp2_with fail
  refine⟨iI 42,oG rfl _ rfl ?_,?_⟩
  ·go_simp
  ·rw[i.out,l.out]
   exact⟨rfl,H7.sub⟩
 ·have b1:=kO q
  refine bm (i.trans (iN q)) (l.trans (iN q)) λi l=>?_;have v1:IntKind.i64.wrap (1-ar)=1-ar:=IntWalk.i64_in _ ade;have v2:IntKind.u32.wrap (nu+1)=nu+1:=eT ade;have S0:=aa (show nu+1<4294967296 by have:=z.out;omega);have z2:=(N.ah 0 rfl).cell 2;have f:=(N.ah 0 rfl).frozen;have u:=((N.br 0 (iI (1-ar)) #[iI (1-ar),iW nu,iI y]).br 1 (iW (nu+1)) #[iI (1-ar),iW (nu+1),iI y]).br 2 (iI (n:Nat)) #[iI (1-ar),iW (nu+1),iI (n:Nat)];have W:=u.alloc 3 #[iI 0];rw[show((((((w2.alloc (Obj.cells #[Value.int IntKind.i64 ar,Value.int IntKind.u32 nu,Value.int IntKind.i64 y] 246)).drewN q3).setCell ⟨S,0,none⟩ (Value.int IntKind.i64 (1-ar))).setCell ⟨S,1,none⟩ (Value.int IntKind.u32 (nu+1))).setCell ⟨S,2,none⟩ (Value.int IntKind.i64 (n:Nat))).heap.size)=w2.heap.size+1 by simp[World.setCell]]at W;have H7:=aa W;clear u W N q
  gi_wp2_with fail
  refine⟨trivial,(callsIn_wide.2 (Mw A n c _ H7)).mono ?_⟩;rintro e w4⟨bs,bn,rfl,h⟩;obtain⟨gi,C1⟩:∃x,x=w2.heap.size+1:=⟨_,rfl⟩;rw[<-C1]at h⊢;have C:=aa h;clear h H7 C1
  gi_wp2_with fail
  obtain⟨d,X0⟩:=nM (1-ar);obtain⟨r,q⟩:=nM (nu+1);rw[<-X0,<-q]at C T⊢;have B0:=aa (show 0<=d/\d<=1 by have:=z.out;omega);have T0:=aa (show 0<=r/\r<4294967296 by have:=z.out;have:=S0.out;omega);have EG:=aa (show cG D a b=fC D a d r b ((n+42)/43)by rw[E3.out,T.out,D0.out]);clear X0 q S0 v1 v2 z0 z1 z2 f;refine AX (n:=12) (gf:=234) (lb:= #[pO bs,pO bn]) rfl (enters_of func234 kR rfl) C ?_;intro fn lr U W1 rc J1 W0;have U0:=aa J1;clear J1;have K1:St I W1 (ab gi 3 #[iI ((0:Nat):Int)]::_):=W0.fi 4;have L1:St I W1 (da g (fC D a d r b 0).1::_):=K1.fi 6;refine(Vu b A n c bs bn lr 11 (λj=>ko ((fC D a d r b j).2=0)::ff lr (.loop (rc .ready none))::ff U (.deferred (some []))::ab B 32 #[iI 0]::ab g4 49 #[pO g]::ab g5 3 #[iI a]::ab g6 3 #[iI 21]::ab S 246 #[iI d,iW r,iI (n:Nat)]::ab gi 3 #[iI (j:Nat)]::da g (fC D a d r b j).1::L)
   (λvs=>∃j,j<(n+42)/43/\(fC D a d r b (j+1)).2≠0/\vs=ff lr (.loop (rc .done (some .ret)))::ff U (.deferred (some []))::ab B 32 #[iI (fC D a d r b (j+1)).2]::da g (fC D a d r b (j+1)).1::L) W1 oM ?_ ((L1.uk (show(fC D a d r b 0).2=0 from rfl)).sub)).mono ?_
  ·intro j G2 A' p hj hp hW
   refine bm hp hj λHP HJ=>?_;have t:=(hW.fi 4).wT;refine ib (ye (a:=a) (ar:=d) (nu:=r) HD HB j) (Dq t.1) (ru HB j) λV0 C0 S1=>?_;have K0:(b.drop (43*j)).take 43=iF b j:=rfl;have I1:(iF b j).length=p:=by unfold iF;rw[fJ,km,<-D0.out];omega
   rw[K0]at hW;have V:=t.2;rw[K0]at V;have D2:=aa I1;have M:=V.fi 4;have J2:j<=21:=oM
   have A2:p<=43:=oM
   generalize iF b j=pt at*;generalize(fC D a d r b j).1=Dj at*;clear hp hj hW t V K0 I1;have key:=Mn (P:=prog) (n:=10) U0 (L':=ff U (.deferred (some []))::ab bs 27 #[.slice A n c]::ab bn 3 #[iI 43]::ai .u8 (.slice A n c) b::ko ((fC D a d r b (j+1)).2=0)::ab B 32 #[iI 0]::ab g4 49 #[pO g]::ab g5 3 #[iI a]::ab g6 3 #[iI 21]::ab S 246 #[iI d,iW r,iI (n:Nat)]::ab gi 3 #[iI ((j+1:Nat):Int)]::da g (fC D a d r b (j+1)).1::L)
    (λvs=>(fC D a d r b (j+1)).2≠0/\vs=ff U (.deferred (some []))::ab B 32 #[iI (fC D a d r b (j+1)).2]::da g (fC D a d r b (j+1)).1::L) ?_ (args:= #[.slice A' p p]) M rfl ?_ ?_
   ·obtain⟨X1,B2,U1,V1,hy,hR⟩:=key
    refine⟨X1,B2,U1,V1,hy,hR.mono ?_⟩;rintro e W'(⟨X,Q⟩|⟨X,vs,⟨G,rfl⟩,Q⟩)
    ·exact .inl ⟨X,Q.sub⟩
    ·exact .inr ⟨X,_,⟨j,by have:=HJ.out;omega,G,rfl⟩,Q⟩
   rotate_left
   ·intro W2 F2 hK
    gi_wp2
    exact hK
   ·intro W2 V
    have y0:=(V.ah 11 rfl).cell 0;have y1:=(V.ah 10 rfl).cell 1;have u1:IntKind.i64.wrap ((j:Int)+1)=(j:Int)+1:=IntWalk.i64_in _ oM;have u2:IntKind.u32.wrap ((j:Int)+1)=(j:Int)+1:=eT oM;obtain⟨ix,J0⟩:=nM (If a d j);obtain⟨O0,N0⟩:=nM (aP ((j:Int)+1) r pt);have F1:ix=a+2+d*21+(j:Int):=J0;rw[<-J0,<-N0]at C0;have u3:IntKind.i64.wrap (a+2)=a+2:=IntWalk.i64_in _ acR;have u4:IntKind.i64.wrap (d*21)=d*21:=IntWalk.i64_in _ (by have:=B0.out;omega);have u5:IntKind.i64.wrap (a+2+d*21)=a+2+d*21:=IntWalk.i64_in _ (by have:=B0.out;have:=J.out;omega);have u6:IntKind.i64.wrap (a+2+d*21+(j:Int))=ix:=(IntWalk.i64_in _ (by have:=B0.out;have:=J.out;omega)).trans F1.symm;refine bm N0 (V.fi 1) λT1 Y=>?_;clear V M J0 N0 F1
    gi_wp2_with fail
    refine⟨trivial,(CallsIn.inRound lr (callsIn_wide.2 (zx hT ((j:Int)+1) r A' p p pt _ oM T0 A2 S1 Y))).mono ?_⟩;rintro e w5⟨A5,c5,rfl,h⟩;rw[<-T1.out]at h;have F:=h.fi 13;have x4:=(F.ah 9 rfl).cell 0;have x5:=(F.ah 10 rfl).cell 0;have x6:=(F.ah 11 rfl).cell 0;have xm:=(F.ah 12 rfl).cell 0;have xi:=(F.ah 13 rfl).cell 0;have H5:=aa F;clear h F Y y0 y1
    gi_wp2_with fail
    refine⟨trivial,(CallsIn.inRound lr (callsIn_wide.2 (yw ix (.slice A5 64 c5) O0 0 V0.1.ok (by have:=V0.1.p;omega) rfl H5))).mono ?_⟩;rintro e w6⟨rfl,h⟩;refine bm (show(fC D a d r b (j+1)).1=Dj.write ix O0 by rw[C0.out]) (show(fC D a d r b (j+1)).2=Dj.eU ix O0 by rw[C0.out]) λM1 N1=>?_;rw[<-M1.out]at h;rw[<-N1.out];clear H5 x4 x5 x6 xm xi u1 u2 u3 u4 u5 u6;by_cases G:(fC D a d r b (j+1)).2=0
    ·have b2:((fC D a d r b (j+1)).2 !=0)=false:=El G
     have xi:=(h.ah 13 rfl).cell 0;have fi:=(h.ah 13 rfl).frozen;have u1:IntKind.i64.wrap ((j:Int)+1)=(j:Int)+1:=IntWalk.i64_in _ oM;have u:=(h.fi 13).br 0 (iI ((j:Int)+1)) #[iI ((j:Int)+1)];have W:=u.uk G;have C:=aa W;clear h u W G
     gi_wp2_with fail
     exact C.sub
    ·have b2:((fC D a d r b (j+1)).2 !=0)=true:=OC G
     have HZ:=aa G;have x8:=(h.ah 8 rfl).cell 0;have f8:=(h.ah 8 rfl).frozen;have u:=(h.fi 8).br 0 (iI (fC D a d r b (j+1)).2) #[iI (fC D a d r b (j+1)).2];have C:=aa u;clear h u G
     gi_wp2_with fail
     exact⟨_,⟨HZ,rfl⟩,C.sub⟩
  ·rintro e W2⟨X,Y1⟩
   refine⟨X,?_⟩;clear C W0 K1 L1 U0;rcases Y1 with V|⟨vs,⟨j,hj,G,rfl⟩,V⟩
   ·have t:=(V.fi 3).wT
    rw[<-EG.out]at t;refine ib (i.trans (iP t.1)) (l.trans (iP t.1)) (ye (a:=a) (ar:=d) (nu:=r) HD HB ((n+42)/43)) λi l H=>?_;rw[<-EG.out]at H;refine⟨_,.ready,none,by simp,t.2.pk 12 [3,4,11,6,7,9,5],?_⟩;clear V t;intro W3 M;have y4:=(M.ah 2 rfl).cell 0;have N:=aa (M.fi 1);clear M
    gi_wp2_with fail
    refine⟨trivial,(callsIn_wide.2 (xU H.1.ok (by have:=H.1.p;omega) N)).mono ?_⟩;rintro e w7⟨rfl,h⟩;have h0:=h.pk 6 [2,3,4,0,5,1];clear h N y4
    gi_wp2_with fail
    obtain⟨E,F0⟩:=nM ((cG D a b).1.sync);obtain⟨O,A0⟩:=nM (eX (cP D a b));obtain⟨Dz,G0⟩:=nM (cE E a O);obtain⟨K,H0⟩:=nM (g7 E a O);rw[<-F0]at h0 i l;rw[<-A0,<-H0]at i;rw[<-A0,<-G0]at l;have Q0:=aa (show dB E (k+21)/\E.n=D.n by rw[F0];exact⟨H.1.sync.mono oM,by rw[DS.kI];exact H.2⟩);have Q1:=aa (show eX ⟨d,r,(n:Nat),true⟩=O by rw[A0,T.out,<-D0.out]);have R1:=aa (show Bytes O by rw[A0];exact rN _);refine bm G0 H0 λP1 O1=>?_;clear F0 A0 G0 H0 H;refine wpIn_wide.2 ?_;refine ak (I:=I) (L0:=ff U (.deferred (some []))::L) [⟨none,none,λe=>ab g4 49 #[pO g]⟩,⟨none,none,λe=>ab g5 3 #[iI a]⟩,⟨none,none,λe=>ab S 246 #[iI d,iW r,iI (n:Nat)]⟩,⟨none,some 4,λe=>da g E⟩,⟨none,some 5,λe=>ab B 32 #[iI 0]⟩,⟨some 3,some 4,λe=>ai .u8 (.slice (e 3).A 7 (e 3).n) O⟩,⟨some 4,none,λe=>da g Dz⟩,⟨some 5,none,λe=>ab B 32 #[iI K]⟩] [[],[],[],[2],rG 4,rG 5] (rG 6) rfl kR kR kR (by rfl) (λ_=>rfl) h0.fk ?_;refine yk ?_;refine aZ 232 (λe=> #[.agg #[iI d,iW r,iI (n:Nat)]]) (λe=> .slice (e 3).A 7 (e 3).n) rfl (λe wx Lx h=>by(
     have h:=h.fn;refine(Ot ⟨d,r,(n:Nat),true⟩ _ B0 T0 (by show(0:Int)<=(n:Int)/\(n:Int)<=100000;omega) h).mono ?_;rintro C2 wy⟨A',c',rfl,Z⟩;rw[Q1.out]at Z;exact⟨⟨A',c',default⟩,rfl,Z.fk⟩)) ?_
    simp only[aR];refine aZ 142 (λe=> #[pO g,iI a,.slice (e 3).A 7 (e 3).n]) (λe=> iI K) rfl (λe wx Lx h=>by(
     have h:=h.fn;refine(Bu hT g (k+21) E a (e 3).A 7 (e 3).n O _ Q0.1 oM (by have:=J.out;have:=Q0.2;omega) oM R1 ((h.fi 5).fi 4)).mono ?_;rintro C2 wy⟨rfl,Z⟩;rw[<-P1.out]at Z;exact⟨⟨none,0,default⟩,(by rw[O1.out]),Z.fk⟩)) ?_
    simp only[aR];refine jA (λe=> pO B) (λe=> iI K) rfl rfl (λe wx Lx h=>by(
     have h:=h.fn;have x8:=(h.ah 3 rfl).cell 0;have f8:=(h.ah 3 rfl).frozen;have Z:=(h.fi 3).br 0 (iI K) #[iI K];exact⟨_,gS,Z.fk⟩)) ?_
    simp only[Act.put];refine ax ?_;intro e w1 h;have h:=h.fn;have h9:=h.pk 5 [4,3];have H9:=aa h9;clear h h0 h9
    gi_wp2_with fail
    have E0:=H9.SZ (o:= .deferred (some [])) (b:=U);refine⟨by simp,.inl ⟨_,_,rfl,run_takeDeferred E0,?_⟩⟩;have R:=(H9.fi 2).ul (.deferred none);have k0:=(R.ah 1 rfl).cell 0;refine⟨iI K,oG rfl _ rfl ?_,?_⟩
    ·go_simp
    ·rw[i.out,l.out]
     exact⟨rfl,R.sub⟩
   ·have M0:=sy G ((n+42)/43-(j+1))
    rw[show j+1+((n+42)/43-(j+1))=(n+42)/43 by omega,<-EG.out]at M0;rw[<-M0]at G V;refine bm (i.trans (iN G)) (l.trans (iN G)) λi l=>?_;refine⟨_,.done,some .ret,by simp,V,?_⟩;clear V G M0;intro W3 M;have k0:=(M.ah 1 rfl).cell 0;have N:=aa M;clear M
    gi_wp2_with fail
    have E0:=N.SZ (o:= .deferred (some [])) (b:=U);refine⟨by simp,.inl ⟨_,_,rfl,run_takeDeferred E0,?_⟩⟩;have R:=(N.fi 0).ul (.deferred none);have k0:=(R.ah 1 rfl).cell 0;refine⟨iI (cG D a b).2,oG rfl _ rfl ?_,?_⟩
    ·go_simp
    ·rw[i.out,l.out]
     exact⟨rfl,R.sub⟩
end
abbrev lV:=Int×LI
structure JM where
 at_:Int
 n:Nat
 first:Int
 ep:Int
 low:Int
 held:List lV
def JM.next(J:JM):Int:=J.first+(J.held.length:Nat)
def JM.sec(J:JM)(q:Int):Int:=J.at_+2+q%(J.n:Nat)
def JM.slot(J:JM):LI:=aT J.first 4++aT J.ep 4++aT J.low 4
structure vR(J:JM):Prop where
 a0:0<=J.at_/\J.at_<=1000
 n0:1<=J.n/\J.n<=100
 f0:0<=J.first/\J.first<=4000000000
 e0:0<=J.ep/\J.ep<4294967296
 l0:0<=J.low/\J.low<4294967296
 h0:J.held.length<=J.n
 b0:∀x∈J.held,x.2.length<=43/\Bytes x.2/\0<=x.1/\x.1<4294967296
structure SJ where
 a:OA
 n:Nat
 c:Nat
def fN(w:World)(N:LV)(x:lV):Prop:=∃A c,N=[iW x.1,.slice A x.2.length c]/\aA w .u8 (.slice A x.2.length c) x.2
def jC(gd:Nat)(J:JM)(v:SJ):Vq:= #[pO gd,iI J.at_,iI (J.n:Nat),iW J.first,iW J.ep,iW J.low,.slice v.a v.n v.c]
def jR(g gd:Nat)(J:JM):aw:=AU λv:SJ=>aX (ab g 196 (jC gd J v)) (ay 262 2 fN (.slice v.a v.n v.c) J.held)
theorem St.jO{J:JM}(h:St I w (jR g gd J::L)):∃A c,St I w (ab g 196 #[pO gd,iI J.at_,iI (J.n:Nat),iW J.first,iW J.ep,iW J.low,.slice A J.held.length c]::ay 262 2 fN (.slice A J.held.length c) J.held::L):=by
 obtain⟨⟨A,n,c⟩,h⟩:=h.ex;have Z:=h.star;obtain⟨_,W,_,_⟩:=Z.swap.bK;have W:n=J.held.length:=W;subst W;exact⟨A,c,Z⟩
theorem St.jC_{J:JM}{n c:Nat}(h:St I w (ab g 196 #[pO gd,iI J.at_,iI (J.n:Nat),iW J.first,iW J.ep,iW J.low,.slice A n c]::ay 262 2 fN (.slice A n c) J.held::L)):St I w (jR g gd J::L):=
 St.cZ (f:=λv:SJ=>aX (ab g 196 (jC gd J v)) (ay 262 2 fN (.slice v.a v.n v.c) J.held)) ⟨A,n,c⟩ h.aM
theorem DR(g gd:Nat)(a:Int)(x:Nat)(f e l:Int)(A:OA)(k c:Nat)(w:World)(P:0<=f/\f<4294967296)(F:k<=1000)(B:eF w g 196 #[pO gd,iI a,iI (x:Nat),iW f,iW e,iW l,.slice A k c]):
 Calls prog 140 #[pO g] w λu O=>u= .returned (iU (f+(k:Nat)))/\∃n,O=w.drewN n:=by
 have R:=B.cell 3;have t:=B.cell 6;have Y:IntKind.u64.wrap f=f:=oe P;have U:IntKind.u64.wrap (k:Int)=(k:Int):=IntWalk.u64_in _ oM;have q:IntKind.u64.wrap (f+(k:Int))=f+(k:Int):=IntWalk.u64_in _ oM;clear B P
 go_enter func140,ntmps140
 exact afk
theorem Hg(g gd:Nat)(a:Int)(x:Nat)(f e l q:Int)(A:OA)(k c:Nat)(w:World)(d:0<=q/\q<4294967296)(Q:0<=a/\a<=1000)(W:1<=x/\x<=100)(B:eF w g 196 #[pO gd,iI a,iI (x:Nat),iW f,iW e,iW l,.slice A k c]):
 Calls prog 141 #[pO g,iW q] w λu O=>u= .returned (iI (a+2+q%(x:Nat)))/\∃n,O=w.drewN n:=by
 have Y:=B.cell 1;have o:=B.cell 2;have z:IntKind.i64.wrap (a+2)=a+2:=IntWalk.i64_in _ oM;have X:IntKind.u32.wrap (x:Int)=(x:Int):=eT oM;have G:IntKind.u32.wrap (q%(x:Int))=q%(x:Int):=eT acI;have t:IntKind.i64.wrap (q%(x:Int))=q%(x:Int):=IntWalk.i64_in _ acI;have M:IntKind.i64.wrap (a+2+q%(x:Int))=a+2+q%(x:Int):=IntWalk.i64_in _ acI;have S:((x:Int)==0)=false:=kO oM;have b:¬(x:Int)=0:=oM
 have i:¬x=0:=oM
 clear B
 go_enter func141,ntmps141
 exact afk
theorem St.uI{U:Int}{S:Nat}{b z o:Int}{C:List lV}{k c:Nat}(h:St I w (ab g 196 #[pO gd,iI U,iI (S:Nat),iW b,iW z,iW o,.slice A k c]::ay 262 2 fN (.slice A k c) C::L)):St I w (jR g gd ⟨U,S,b,z,o,C⟩::L):=St.jC_ (J:=⟨U,S,b,z,o,C⟩) h
theorem KV(g gd:Nat)(J:JM)(w:World)(h:St I w (jR g gd J::L)):
 Rt I w 217 #[pO g] (iI (J.held.length:Nat)) (jR g gd J::L):=by
 obtain⟨A,c,Z⟩:=h.jO;have t:=(Z.ah 0 rfl).cell 6;have H:=aa h;clear h Z
 go_enter func217,ntmps217
 exact adY
theorem GM(g gd k:Nat)(D:DS)(J:JM)(w:World)(y:dB D k)(F:k<=900000)(h:St I w (jR g gd J::da gd D::L)):
 Rt I w 221 #[pO g] (.tuple #[]) (jR g gd J::da gd D.sync::L):=by
 obtain⟨A,c,Z⟩:=h.jO;have z:=(Z.ah 0 rfl).cell 0;refine bm y h.swap λP H=>?_;clear h Z y
 go_enter func221,ntmps221
 go_wp2_with fail
 refine qK (xU P.ok (by have:=P.p;omega) H) λl h=>?_;have r:=aa h.swap;clear h H z
 go_wp2_with fail
 go_end0
 exact⟨rfl,r⟩
theorem Ff(W:ml I)(g gd F:Nat)(D:DS)(J:JM)(w:World)(y:dB D F)(A0:F<=900000)(q:vR J)(Q:0<=J.at_/\J.at_+1<(D.n:Int))(h:St I w (jR g gd J::da gd D::L)):
 Rt I w 89 #[pO g] (iI (g7 D J.at_ J.slot)) (jR g gd J::da gd (cE D J.at_ J.slot)::L):=by
 obtain⟨A,c,Z⟩:=h.jO;have r3:=q.f0;have j:IntKind.u64.wrap J.first=J.first:=IntWalk.u64_in _ oM;have x:IntKind.u64.wrap J.ep=J.ep:=oe q.e0;have n:IntKind.u64.wrap J.low=J.low:=oe q.l0;obtain⟨U,S,b,z,o,C⟩:=J;have j:IntKind.u64.wrap b=b:=j;have x:IntKind.u64.wrap z=z:=x;have n:IntKind.u64.wrap o=o:=n;have u:Hid (0<=U/\U+1<(D.n:Int)):=Q;have N:=aa y;have E:Hid (JM.slot ⟨U,S,b,z,o,C⟩=aT b 4++aT z 4++aT o 4):=rfl;have Z:St I w (ab g 196 #[pO gd,iI U,iI (S:Nat),iW b,iW z,iW o,.slice A C.length c]::ay 262 2 fN (.slice A C.length c) C::da gd D::L):=Z;generalize C.length=k at Z;have V:=Z.Lp;obtain⟨B,P⟩:=nM (w.heap.size);rw[<-P]at V;have Y:=(V.ah 1 rfl).cell 3;refine bm V P λH R=>?_;clear h Z V y q Q r3 P
 go_enter func89,ntmps89
 go_wp2_with fail
 rw[<-R.out];refine qK (dg B b 4 [] _ acy H) λw1 h=>?_;rw[uO,xL]at h;have t:=(h.ah 1 rfl).cell 4;have r:=aa h;clear h H Y R
 go_wp2_with fail
 refine qK (dg B z 4 _ _ (by simp only[aq];omega) r) λw2 h=>?_;rw[uO]at h;have l:=(h.ah 1 rfl).cell 5;have T:=aa h;clear h r t
 go_wp2_with fail
 refine qK (dg B o 4 _ _ (by simp only[eG,aq];omega) T) λw3 h=>?_;rw[uO]at h;obtain⟨xs,M⟩:=nM (aT b 4++aT z 4++aT o 4);rw[<-M]at h;have a:=aa (show xs.length=12 by rw[M];simp only[eG,aq]);have d:=aa (show Bytes xs by rw[M];exact((cg _ _).append (cg _ _)).append (cg _ _));have E:Hid (JM.slot ⟨U,S,b,z,o,C⟩=xs):=by rw[M];exact E.out
 have K:=h.pk 4 [1,0,3,2];clear h T l M j x n
 go_wp2_with fail
 refine ak (I:=I) (L0:=ay 262 2 fN (.slice A k c) C::L) [⟨none,none,λe=>ab g 196 #[pO gd,iI U,iI (S:Nat),iW b,iW z,iW o,.slice A k c]⟩,⟨none,none,λe=>AI B xs⟩,⟨none,some 9,λe=>da gd D⟩,⟨some 8,some 9,λe=>ai .u8 (.slice (e 8).A 12 (e 8).n) xs⟩,⟨some 9,none,λe=>da gd (cE D U xs)⟩] [[],[0],[0,1],rG 3,[],[4],[4,5],[4,5,6],[],rG 9,rG 10] (rG 11) rfl kR kR kR (by rfl) (λ_=>rfl) K.fk ?_;refine Sq ?_;refine aZ 27 (λe=> #[pO B]) (λe=> .slice (e 8).A 12 (e 8).n) rfl (λe wx O h=>by(
  have h:=h.fn;refine(qu B xs _ (by have:=a.out;omega) (h.fi 1)).mono ?_;rintro B0 wy⟨v,rfl,Z⟩;obtain⟨G,X,rfl⟩:=Z.slice;rw[a.out]at Z⊢;have V:=St.ints (k:= .u8) (xs:=xs) Z;exact⟨⟨G,X,default⟩,rfl,V.fk⟩)) ?_
 simp only[aR];refine aZ 142 (λe=> #[pO gd,iI U,.slice (e 8).A 12 (e 8).n]) (λe=> iI (g7 D U xs)) rfl (λe wx O h=>by(
  have h:=h.fn;refine(Bu W gd F D U (e 8).A 12 (e 8).n xs _ N A0 u oM d ((h.fi 3).fi 3)).mono ?_;rintro B0 wy⟨rfl,Z⟩;exact⟨⟨none,0,default⟩,rfl,Z.fk⟩)) ?_
 simp only[aR];refine lY ?_;refine ax ?_;intro e w1 h;have h:=h.fn;have p:=h.pk 4 [0,3,2];have i:=aa p;clear h K p
 go_wp2_with fail
 go_ret
 rw[E.out];exact⟨rfl,St.uI i⟩
def kQ(b:LI):Int×Rd:=(Rd.mk b false).num 4
def mD(b:LI):Int×Rd:=(kQ b).2.num 4
def mB(b:LI):Int×Rd:=(mD b).2.num 4
def vF(b:LI):Bool:=((mB b).2.kx==0)&&decide ((kQ b).1>0)&&decide ((mB b).1<=(mD b).1)
theorem Zq(g:Nat)(r:Rd)(A:OA)(n c:Nat)(w:World)(W:n=r.xs.length)(B:eF w g 303 #[.slice A n c,.bool r.s]):
 Calls prog 137 #[pO g] w λe O=>e= .returned (iI r.kx)/\∃n,O=w.drewN n:=by
 obtain⟨T,s⟩:=r;have W:n=T.length:=W;subst W;have z:=B.cell 0;have Y:=B.cell 1;have Y:w.cell? (aD g 1)=some (.bool s):=Y;clear B;unfold Rd.kx
 cases s with
 |true=>
  go_enter func137,ntmps137
  go_wp2
  go_ret
  exact⟨rfl,0,rfl⟩
 |false=>
  by_cases K:0<T.length
  ·exact afC
  ·exact afC
theorem Rn(g gd:Nat)(J:JM)(v:Value)(b:LI)(w:World)(B:Bytes b)(hl:b.length<=100000)(h:St I w (jR g gd J::ai .u8 v b::L)):
 Rt I w 87 #[pO g,v] (.bool (vF b)) (jR g gd {J with first:=(kQ b).1,ep:=(mD b).1,low:=(mB b).1}::L):=by
 obtain⟨A,c,Z⟩:=h.jO;obtain⟨U,S,jf,i,o,p⟩:=J;have Z:St I w (ab g 196 #[pO gd,iI U,iI (S:Nat),iW jf,iW i,iW o,.slice A p.length c]::ay 262 2 fN (.slice A p.length c) p::ai .u8 v b::L):=Z;generalize p.length=k at Z;have K:Rd.Ok (Rd.mk b false):=⟨B,by show b.length<=140737488355328;omega,λh=>by cases h⟩;refine ib (show vF b=(((mB b).2.kx==0)&&decide ((kQ b).1>0)&&decide ((mB b).1<=(mD b).1))from rfl) (Z.fi 2) K λE H q=>?_;clear h Z K B hl
 go_enter func87,ntmps87
 go_wp2_with fail
 refine(ox v b _ H).mono ?_;rintro D0 w1⟨M,rfl,h⟩;have r:=aa h;clear h H
 go_wp2_with fail
 refine bm (Rd.lC q) (q.num 4) λQ V=>?_;refine qH (bM M _ 4 _ q.hb q.hl q.hz r) λw2 T=>?_;clear r;have Q:Hid (0<=(kQ b).1/\(kQ b).1<4294967296):=Q;have V:Hid (kQ b).2.Ok:=V;have T:Hid (St I w2 (po M (kQ b).2::_)):=T;have R:IntKind.u32.wrap (kQ b).1=(kQ b).1:=eT Q;have R:IntKind.u32.wrap ((Rd.mk b false).num 4).1=(kQ b).1:=R
 go_wp2_with fail
 refine bm (Rd.lC V) (V.num 4) λd F=>?_;refine qK (bM M _ 4 _ V.hb V.hl V.hz T) λw3 h=>?_;have d:Hid (0<=(mD b).1/\(mD b).1<4294967296):=d;have F:Hid (mD b).2.Ok:=F;have N:Hid (St I w3 (po M (mD b).2::_)):=aa h;clear h T;have v1:IntKind.u32.wrap ((kQ b).2.num 4).1=(mD b).1:=eT d
 go_wp2_with fail
 have x:=aa (Rd.lC F);refine qK (bM M _ 4 _ F.hb F.hl F.hz N) λw4 h=>?_;have x:Hid (0<=(mB b).1/\(mB b).1<4294967296):=x;have P:St I w4 (po M (mB b).2::_):=h;have v2:IntKind.u32.wrap ((mD b).2.num 4).1=(mB b).1:=eT x;generalize W:(kQ b).1=m1 at*;generalize O:(mD b).1=m2 at*;generalize y:(mB b).1=m3 at*;generalize(mB b).2=rc at*;have D:=P.fi 2;have f:=(D.ah 0 rfl).frozen;have y3:=(D.ah 0 rfl).cell 3;have y4:=(D.ah 0 rfl).cell 4;have y5:=(D.ah 0 rfl).cell 5;have G:=((D.br 3 (iW m1) #[pO gd,iI U,iI (S:Nat),iW m1,iW i,iW o,.slice A k c]).br 4 (iW m2) #[pO gd,iI U,iI (S:Nat),iW m1,iW m2,iW o,.slice A k c]).br 5 (iW m3) #[pO gd,iI U,iI (S:Nat),iW m1,iW m2,iW m3,.slice A k c];obtain⟨t,Y,X,A0,j⟩:=(G.fi 1).rd;have x3:=(j.ah 2 rfl).cell 3;have x4:=(j.ah 2 rfl).cell 4;have x5:=(j.ah 2 rfl).cell 5;refine bm (λn=>Zq M rc t _ Y _ rfl ((j.ah 0 rfl).drewN n)) (j.pk 4 [2]) λl C=>?_;clear h P D G j N X A0;obtain⟨t1,B0⟩:∃t1,(rc.kx==0)=t1:=⟨_,rfl⟩;obtain⟨t2,z⟩:∃t2,decide (m1>0)=t2:=⟨_,rfl⟩;have E0:decide (0<m1)=t2:=z;obtain⟨t3,C0⟩:∃t3,decide (m3<=m2)=t3:=⟨_,rfl⟩;have E:Hid (vF b=(t1&&t2&&t3)):=aa (by rw[E.out,<-B0,<-z,<-C0]);refine ib W O y λa e u=>?_;clear W O y
 cases t1
 case' true=>cases t2
 case' true.true=>cases t3
 all_goals
  go_wp2_with fail
  go_quiet ((go_at_call 137;exact Calls.quiet_of (l _)))
  go_wp2_with fail
  go_ret
  refine⟨by rw[E.out];rfl,?_⟩;rw[a.out,e.out,u.out];exact St.uI (C.drewN _)
section
open Go.Shelf
def qh(p:PM)(q low c:Int):Bool:=p.ok&& !(p.q !=q)&& !decide (p.e<low)&& !decide (p.e>c)
def kS(D:DS)(a:Int)(n:Nat)(first:Int)(k:Nat):PM:=cn D (a+2+(first+(k:Nat))%(n:Nat))
def nF(D:DS)(a:Int)(n:Nat)(first c:Int):Nat->Int->List lV->List lV
 |0,_,b=>b
 |f+1,low,b=>if qh (kS D a n first b.length) (first+(b.length:Nat)) low c=true then nF D a n first c f (kS D a n first b.length).e (b++[((kS D a n first b.length).e,(kS D a n first b.length).b)])else b
def JM.scan(J:JM)(D:DS):List lV:=nF D J.at_ J.n J.first J.ep J.n J.low []
theorem zS{a:Int}{first ep:Int}{f:Nat}{low:Int}{acc:List lV}(h:qh (kS D a n first acc.length) (first+(acc.length:Nat)) low ep=true):nF D a n first ep (f+1) low acc=nF D a n first ep f (kS D a n first acc.length).e (acc++[((kS D a n first acc.length).e,(kS D a n first acc.length).b)]):=iP h
theorem vg{a:Int}{first ep:Int}{f:Nat}{low:Int}{acc:List lV}(h:qh (kS D a n first acc.length) (first+(acc.length:Nat)) low ep=false):nF D a n first ep (f+1) low acc=acc:=iN (by rw[h];exact gV)
theorem BN:eB prog 194 262 (.agg #[iW 0,sN]) 2 32:=⟨underlying194,kR,kR,oM⟩
theorem FA(e:Int)(A:OA)(n c:Nat):∀u∈([iW e,.slice A n c]:LV),u.oneCell'=true:=by
 exact afv
theorem Kf(w:World)(e:Int)(A:OA)(n c:Nat):(Instr.buildSlice 194 1 #[(0,.agg #[iW e,.slice A n c])]).run prog w= .ok (.slice (aO w.heap.size) 1 1) (w.alloc (.cells #[iW e,.slice A n c] 262)):=kR
theorem LA{b:Nat}{t:TypeId}{cs:LV}(h:eF w b t cs.toArray):Sl w Any cs.length (aO b) 1 cs:=
 ⟨by simp,λ_=>⟨_,rfl,trivial,h.lt,λj u E=>by
  rw[show(⟨b,0,none⟩:Addr).add j=⟨b,j,none⟩by simp[Addr.add];exact Qt,h.cell];simpa using E⟩⟩
theorem St.zQ{U:Int}{S k:Nat}{b z o:Int}{hl:List lV}{c:Nat}(F:k=hl.length)(h:St I w (ab g 196 #[pO gd,iI U,iI (S:Nat),iW b,iW z,iW o,.slice A k c]::ay 262 2 fN (.slice A k c) hl::L)):St I w (jR g gd ⟨U,S,b,z,o,hl⟩::L):=by subst F;exact St.uI h
theorem Sc(hT:ml I)(g gd kk:Nat)(D:DS)(J:JM)(w:World)(hD:dB D kk)(H:vR J)(K:J.held=[])(h:St I w (jR g gd J::da gd D::L)):
 Rt I w 88 #[pO g] (.tuple #[]) (jR g gd {J with held:=J.scan D}::da gd D::L):=by
 obtain⟨A,c,Z⟩:=h.jO;obtain⟨U,S,b,z,o,N1⟩:=J;have K:N1=[]:=K;subst K;refine xH (show 0<=U/\U<=1000 from H.a0) (show 1<=S/\S<=100 from H.n0) (show 0<=b/\b<=4000000000 from H.f0) (show 0<=z/\z<4294967296 from H.e0) (show 0<=o/\o<4294967296 from H.l0) hD λI1 J0 J1 R1 K1 HD=>?_;have E:Hid (JM.scan ⟨U,S,b,z,o,[]⟩ D=nF D U S b z S o []):=rfl;have Z:St I w (ab g 196 #[pO gd,iI U,iI (S:Nat),iW b,iW z,iW o,.slice A 0 c]::ay 262 2 fN (.slice A 0 c) []::da gd D::L):=Z;have c5:=(Z.ah 0 rfl).cell 5;have I0:=aa Z;clear h Z H hD;obtain⟨C0,hR⟩:=nM (nF D U S b z S o []);have HR:=aa hR;rw[<-hR]at E;clear hR
 go_enter func88,ntmps88
 go_wp2_with fail
 go_step3
 go_wp2_with fail
 go_step3
 go_wp2_with fail
 clear c5
 go_loopg [2] S (λgh lv wr=>∃(k:Nat) (low:Int) (A:OA) (c:Nat) (acc:List lV),gh=S-k/\k<=S/\lv= iW low/\k=acc.length/\nF D U S b z (S-k) low acc=C0/\(0<=low/\low<4294967296)/\St I wr (ab g 196 #[pO gd,iI U,iI (S:Nat),iW b,iW z,iW o,.slice A k c]::ay 262 2 fN (.slice A k c) acc::da gd D::L))
 case atStart=>exact⟨0,o,A,c,[],rfl,oM,rfl,rfl,by rw[HR.out];rfl,K1,I0⟩
 case round=>
  clear I0;obtain⟨k,low,A,c,acc,hg,hk,rfl,R0,A1,S0,h⟩:=hrel;refine mr hg R0 A1 S0 λHG u B0 S1=>?_;have X1:S<=100:=J0.2;have W1:0<=b/\b<=4000000000:=J1.out;have Y:=(h.ah 0 rfl).cell 2;have c6:=(h.ah 0 rfl).cell 6;refine bm (λn=>DR g gd U S b z o A k c (wr.drewN n) oM oM ((h.ah 0 rfl).drewN n)) h λM H1=>?_;clear hg R0 A1 S0 h;by_cases G0:k<S
  ·have d0:decide ((k:Int)<(S:Int))=true:=decide_eq_true (by omega)
   have P0:decide (k<S)=true:=dZ G0;have d1:decide (b+(k:Int)<=4294967295)=true:=decide_eq_true (by omega)
   go_wp2_with fail
   go_quiet ((go_at_call 140;exact Calls.quiet_of (M _)))
   go_wp2_with fail
   have K:=(H1.drewN nq).pk 3 [0,2,1];obtain⟨q,hq⟩:=nM (b+(k:Int));obtain⟨l,F0⟩:=nM (U+2+q%(S:Nat));obtain⟨T,N⟩:=nM (D.read l);obtain⟨rl,Z0⟩:=nM (T.length);obtain⟨re,Y0⟩:=nM (D.Pp l);have O1:0<=q/\q<4294967296:=oM
   have wq:IntKind.u32.wrap q=q:=eT O1;refine Cz hq F0 N Z0 Y0 λHQ G1 N0 O0 L1=>?_;have B1:kS D U S b acc.length=cn D l:=by rw[F0,hq,<-u.out];rfl
   have X0:Bytes T:=by rw[N];exact DS.fU HD.b l
   have W0:T.length<=64:=by rw[N];exact DS.rH D l
   have T0:cn D l=cQ T:=by rw[N];rfl
   refine bm (zS (D:=D) (a:=U) (n:=S) (first:=b) (ep:=z) (f:=S-k-1) (low:=low) (acc:=acc)) (vg (D:=D) (a:=U) (n:=S) (first:=b) (ep:=z) (f:=S-k-1) (low:=low) (acc:=acc)) λd P=>?_;rw[B1,<-u.out,<-hq,show S-k-1+1=S-k by omega,B0.out]at d P;refine ib X0 W0 T0 λj M0 K0=>?_;clear H1 M Y c6 d0 P0 d1 hq F0 N Z0 Y0 B1 X0 W0 T0 B0;refine ak (I:=I) (L0:=ay 262 2 fN (.slice A k c) acc::L) [⟨none,none,λe=>ab g 196 #[pO gd,iI U,iI (S:Nat),iW b,iW z,iW o,.slice A k c]⟩,⟨none,none,λe=>da gd D⟩,⟨some 9,none,λe=>ai .u8 (.slice (e 9).A rl (e 9).n) T⟩] [[],[0],[0,1],rG 3,[],[],[5],[5,6],[4,5,6,7],rG 9,rG 10,rG 11,rG 11,rG 12,rG 14] (rG 15) rfl kR kR kR (by rfl) (λ_=>rfl) K.fk ?_;refine Lb ?_;refine aZ 140 (λe=> #[pO g]) (λe=> iU q) rfl (λe wx O h=>by(
    have h:=h.fn;refine(DR g gd U S b z o A k c _ oM oM (h.ah 0 rfl)).mono ?_;rintro E1 wy⟨rfl,x,hw⟩;rw[<-HQ.out];have hk:St I wy (ab g 196 #[pO gd,iI U,iI (S:Nat),iW b,iW z,iW o,.slice A k c]::da gd D::O):=(by rw[hw];exact(h.drewN x).sub);exact⟨⟨none,0,default⟩,rfl,hk⟩)) ?_
   simp only[aR];refine kj (λe=> iW q) rfl (λe wx O h=>gS) ?_;simp only[aR];refine aZ 141 (λe=> #[pO g,iW q]) (λe=> iI l) rfl (λe wx O h=>by(
    have h:=h.fn;refine(Hg g gd U S b z o q A k c _ oM I1 J0 (h.ah 0 rfl)).mono ?_;rintro E1 wy⟨rfl,x,hw⟩;rw[<-G1.out];have hk:St I wy (ab g 196 #[pO gd,iI U,iI (S:Nat),iW b,iW z,iW o,.slice A k c]::da gd D::O):=(by rw[hw];exact(h.drewN x).sub);exact⟨⟨none,0,default⟩,rfl,hk⟩)) ?_
   simp only[aR];refine aZ 131 (λe=> #[pO gd,iI l]) (λe=> .tuple #[.slice (e 9).A rl (e 9).n,iI re]) rfl (λe wx O h=>by(
    have h:=h.fn;refine(vI l HD.ok (h.fi 1)).mono ?_;rintro E1 wy⟨A',c',rfl,Z⟩;rw[<-N0.out,<-O0.out]at Z;rw[<-N0.out,<-O0.out,<-L1.out];exact⟨⟨A',c',default⟩,rfl,Z.fk⟩)) ?_
   simp only[aR];refine sO ?_;refine ax ?_;intro e w1 h;have h:=h.fn;obtain⟨A9,D0⟩:∃A9,(e 9).A=A9:=⟨_,rfl⟩;obtain⟨c9,E0⟩:∃c9,(e 9).n=c9:=⟨_,rfl⟩;rw[D0,E0]at h;have H3:=aa (h.pk 3 [2,0,1]);clear h K
   go_wp2_with fail
   rw[D0,E0];clear D0 E0;refine(zb hT A9 rl c9 T _ j (by have:=M0.out;omega) H3).mono ?_;rintro e w5⟨t,Y,rfl,h⟩;refine bm (iJ j) (mQ j) λF PB=>?_;rw[<-K0.out]at h F PB⊢;generalize cn D l=p at*;obtain⟨y,Q,C,H0⟩:=p;have F:Hid (0<=y/\y<4294967296/\0<=Q/\Q<4294967296/\C.length<=43):=F;have PB:Hid (Bytes C):=PB;have d:Hid ((H0&& !(y !=q)&& !decide (Q<low)&& !decide (Q>z))=true->C0=nF D U S b z (S-k-1) Q (acc++[(Q,C)])):=d;have P:Hid ((H0&& !(y !=q)&& !decide (Q<low)&& !decide (Q>z))=false->C0=acc):=P;have R:=aa ((h.ah 2 rfl));have c4:=R.cell 4;have M:=aa (DR g gd U S b z o A k c _ oM oM R);have h5:=(h.front (X:=ai .u8 (.slice t C.length Y) C)).bu (R':=λw=>fN w [iW Q,.slice t C.length Y] (Q,C)) (λT1 hi=>⟨t,Y,rfl,hi⟩);have H5:=aa (h5.pk 5 [4,0,2,3]);clear h5;have w7:IntKind.u64.wrap y=y:=oe (by have:=F.out;omega);clear h H3 K0 j M0;have V0:b+(k:Int)=q:=HQ.symm;rw[V0]at M;obtain⟨t2,P1⟩:∃t2,(y !=q)=t2:=⟨_,rfl⟩;obtain⟨t3,Q1⟩:∃t3,decide (Q<low)=t3:=⟨_,rfl⟩;obtain⟨t4,C1⟩:∃t4,decide (Q>z)=t4:=⟨_,rfl⟩;have Y1:decide (z<Q)=t4:=C1;rw[P1,Q1,C1]at d P;clear V0
   cases H0
   case' true=>cases t2
   case' true.true=>skip
   case' true.false=>cases t3
   case' true.false.true=>skip
   case' true.false.false=>cases t4
   case true.false.false.false=>
    refine bm (d rfl) (show∀n,eF (w5.drewN n) g 196 #[pO gd,iI U,iI (S:Nat),iW b,iW z,iW o,.slice A k c]from λn=>R.drewN n) λV r=>?_
    go_wp2_with (first|(go_at_call 140;refine M.mono ?_;rintro e w6⟨rfl,x,rfl⟩;clear c4;have d4:=(r x).cell 4;have h7:=(H5.drewN x).alloc 262 #[iW Q,.slice t C.length Y];have d6:=(h7.ah 3 rfl).cell 6;have M1:=(r x).cell 6;have B:=aa h7;clear h7 H5)|(at_builtin;have G:=LA (cs:=[iW Q,.slice t C.length Y]) (B.ah 0 rfl);obtain⟨U1,U0,D1,h8⟩:=B.out.tail.bK;refine St.dW BN h8 rfl _ _ rfl rfl (aO _) 1 1 rfl [iW Q,.slice t C.length Y] G (FA _ _ _ _) oM oM ?_;intro A7 c7 w7 W;have A0:=W.fR U0 rfl D1;have f:=(A0.ah 1 rfl).frozen;have x6:=(A0.ah 1 rfl).cell 6;have Q0:=(A0.swap).br 6 (.slice A7 (k+1) c7) #[pO gd,iI U,iI (S:Nat),iW b,iW z,iW o,.slice A7 (k+1) c7];have F1:=aa Q0;clear G h8 W A0 Q0 B U0 D1 d4 d6 M1))
    go_roundg (S-(k+1))
    case rel=>exact⟨k+1,Q,A7,c7,acc++[(Q,C)],rfl,oM,rfl,by rw[eG,<-u.out];rfl,by rw[show S-(k+1)=S-k-1 by omega];exact V.symm,⟨F.2.2.1,F.2.2.2.1⟩,F1⟩
    case measure=>have V1:=HG.out;omega
   all_goals
    refine ib (P rfl) (show∀n,eF (w5.drewN n) g 196 #[pO gd,iI U,iI (S:Nat),iW b,iW z,iW o,.slice A k c]from λn=>R.drewN n) (show St I w5 (ay 262 2 fN (.slice A k c) acc::ab g 196 #[pO gd,iI U,iI (S:Nat),iW b,iW z,iW o,.slice A k c]::da gd D::L)from H5.sub) λV r i=>?_
    go_wp2_with (go_at_call 140;refine M.mono ?_;rintro e w6⟨rfl,x,rfl⟩;clear c4;have d4:=(r x).cell 4;have B:=aa (i.drewN x);clear i;have i:=B;clear B)
    rw[Exit.noGoto_normal]
    go_end0
    rw[E.out,V.out];exact⟨rfl,by have W:=i.out;rw[u.out]at W;exact St.uI (W.pk 2 [1,0])⟩
  ·obtain rfl:k=S:=oM
   have G:nF D U k b z (k-k) low acc=acc:=by rw[UC];rfl
   have V:=aa (B0.symm.trans G);have d0:decide ((k:Int)<(k:Int))=false:=decide_eq_false (by omega);have P0:decide (k<k)=false:=dQ G0;clear G G0
   go_wp2_with fail
   go_quiet ((go_at_call 140;exact Calls.quiet_of (M _)))
   go_wp2_with fail
   rw[Exit.noGoto_normal]
   go_end0
   rw[E.out,V.out];exact⟨rfl,St.zQ u (H1.drewN nq)⟩
end
end Go.Proofs.YtblpaldggenbaaaGreatDoor
