/- A part. -/
import Derived.Test.YtblpaldggenbaaaGreatDoorMb
namespace Go.Proofs.YtblpaldggenbaaaGreatDoor
open Go.RowKit Go.Proofs.Tryz
set_option maxRecDepth 100000
set_option maxHeartbeats 64000000
variable{L:List aw}{I:aH}{w:World}{α:Type}{i:Nat}
def AI(g:Nat)(T:LI):aw:=AU λv=>aX (ab g 83 #[v]) (bY 5 1 v T.length (bv T))
theorem St.wr{g:Nat}{T:LI}(h:St I w (AI g T::L)):∃A c q,q=T.length/\St I w (ab g 83 #[.slice A q c]::bY 5 1 (.slice A q c) q (bv T)::L):=by
 obtain⟨v,h⟩:=h.ex;have h:=h.star;obtain⟨A,c,rfl⟩:=h.swap.slice;exact⟨A,c,_,rfl,h⟩
theorem St.uu{g q:Nat}{v:Value}{xs:LI}(h:St I w (ab g 83 #[v]::bY 5 1 v q (bv xs)::L))(d:q=xs.length):St I w (AI g xs::L):=by
 subst d;exact h.aM.cZ (f:=λv=>aX (ab g 83 #[v]) (bY 5 1 v xs.length (bv xs))) v
theorem Vf:(prog.info? 5).map (λi=>(i.zero,i.size,i.bytes))=some (some (.int .u8 0),1,1):=kR
theorem QE(w:World)(x:Int):(Instr.buildSlice 27 1 #[(0,.int .u8 x)]).run prog w= .ok (.slice (aO w.heap.size) 1 1) (w.alloc (.cells #[.int .u8 x] 5)):=by
 go_simp
theorem EM{e:TypeId}{size:Nat}{v:Value}{n:Nat}{T:LV}{g:Nat}{t:TypeId}{u:Value}(h:St I w (bY e size v n T::ab g t #[u]::L)):
 (Instr.storeAt 27 (pO g) v).run prog w= .ok () (w.setCell ⟨g,0,none⟩ v):=by
 have Z:=(h.ah 1 rfl).cell 0;have V:=(h.ah 1 rfl).frozen 0;rcases(h.row 0 rfl).2 with⟨rfl,_⟩|⟨a,cap,l,rfl,_⟩<;>go_simp
theorem XC(g:Nat)(n size:Int)(w:World)(U:size<1\/8<size)(h:St I w L):
 Rt I w 25 #[pO g,iU n,iI size] (.tuple #[]) L:=by
 rcases U with U|U
 rotate_left
 have Z:¬size<1:=oM
 rotate_left
 all_goals
  go_enter func25,ntmps25
  go_wp2
  ((try simp only[Exit.inBlock,Exit.then]);refine bodyPost_ret (results_none rfl _ _ _) rfl ?_)
  exact⟨rfl,h⟩
theorem Uf(g:Nat)(n:Int)(k:Nat)(T:LI)(w:World)(F:1<=k)(h8:k<=8)(hl:T.length<=1000000000)(h:St I w (AI g T::L)):
 Rt I w 25 #[pO g,iU n,iI k] (.tuple #[]) (AI g (T++aT n k)::L):=by
 have H:=aa h;clear h;have A0:¬(k:Int)<1:=oM
 have B0:¬(8:Int)<k:=oM
 go_enter func25,ntmps25
 go_wp2
 go_loopg [14] k (λQ i wr=>∃j:Nat,Q=k-j/\j<=k/\i= iI j/\St I wr (AI g (T++aT n j)::L))
 case atStart=>exact⟨0,rfl,jG _,rfl,by rw[Ch,rX];exact H.out⟩
 case round=>
  clear H;obtain⟨j,u,hj,rfl,U⟩:=hrel;have R:=aa u;have D:=aq n j;have C0:(T++aT n j).length<=1000000008:=by rw[eG];omega
  have V:=aa U;clear u U D;by_cases X:j<k
  ·obtain⟨A,c,q,P,U⟩:=V.out.wr
   clear V;have p:=aa (NH n j);generalize b:T++aT n j=ys at*;refine bm b P λC r=>?_;have D0:q<=1000000008:=oM
   clear b P;generalize K:Value.slice A q c=v at U;have e:=aa K;clear K;have z:=(U.ah 0 rfl).cell 0;have f0:=(U.ah 0 rfl).frozen 0;have H:=aa U;clear U
   go_wp2
   have S:IntKind.i64.wrap (8*(j:Int))=8*(j:Int):=IntWalk.i64_in _ oM;have Z:(0:Int)<=8*(j:Int):=oM
   have y:8*(j:Int)<=64:=oM
   have G:(8*(j:Int)).toNat=8*j:=oM
   refine bQ (λW=>W.cell? (aD g 0)=some v/\W.frozen? ⟨g,0,none⟩=false) 12 (rG 10) [10,11,12,13,14] kR kR
    (λd=>by cases d<;>exact λ_ _ _ _ h=>h) (λW J=> ?_)
   refine⟨⟨by rw[J];exact z,by rw[J];exact f0⟩,?_⟩
   iterate 10 (refine bN rfl rfl (λW J=>by(rcases J with⟨_,_⟩;go_simp;try rfl)) ?_;simp only[aR])
   clear S Z y G;refine take_nil ?_;have U:=H.grow (show Fr iY wr W by rw[J];exact(Fr.refl _ _).drew);clear J H z f0;have B:IntKind.u8.wrap (n/2^(8*j))=n/256^j%256:=by rw[IntKind.wrap_u8,Int.pow_mul];rfl
   generalize IntKind.u8.wrap (n/2^(8*j))=x at B⊢;have t:=aa B;clear B;refine bX rfl rfl 27 1 0 _ (.int .u8 x) rfl rfl (QE W x) (λ_=>⟨?_,?_⟩) ?_
   ·exact((U.nP _).ah 0 rfl).cell 0
   ·exact((U.nP _).ah 0 rfl).frozen 0
   simp only[aR];have N:=U.nP (.cells #[.int .u8 x] 5);refine Az rfl rfl _ _ 27 rfl 0 5 _ 1 1 underlying27 Vf kR oM v q (bv ys) rfl (N.row 1 rfl) ⟨W.heap.size,0,none⟩ 1 1 rfl [.int .u8 x] rfl ?_ (jF [x]) oM oM (jG _) (λl O o hF Y=> ?_)
   ·intro i E0 E
    match i,E with
    |0,E=>exact(U.alloc 5 #[.int .u8 x]|>.ah 0 rfl|>.cell 0).trans E
    |i+1,E=>simp at E
   have M:=N.swap.oU (n':=(ys++[x]).length) (xs':=bv (ys++[x])) (NJ o (by simp[r.out]) (UO ys x).symm) hF Y;clear U N o hF Y;have z:=(M.ah 1 rfl).cell 0;have f0:=(M.ah 1 rfl).frozen 0;refine⟨λ_=>⟨z,f0⟩,?_⟩;simp only[aR]
   (refine bD rfl rfl gS nD ?_;simp only[aR])
   (refine bD rfl rfl gS nD ?_;simp only[aR])
   refine dp rfl rfl 27 _ _ (pO g) l rfl rfl rfl (EM M) nD ?_;simp only[Act.put];refine cN ?_;have a:=M.swap.bI 0 l;generalize O.setCell ⟨g,0,none⟩ l=w3 at a⊢;have H:=aa (St.uu a rfl);clear M a z f0
   go_wp2
   go_roundg (k-(j+1))
   case measure=>exact aec
   case rel=>exact⟨j+1,rfl,X,rfl,by rw[p.out,<-nX,C.out,<-t.out];exact H.out⟩
  ·obtain rfl:j=k:=oM
   go_wp2
   go_end0
   exact⟨rfl,V⟩
theorem dg(g:Nat)(n size:Int)(T:LI)(w:World)(C:T.length<=1000000000)(h:St I w (AI g T::L)):
 Rt I w 25 #[pO g,iU n,iI size] (.tuple #[]) (AI g (T++bL n size)::L):=by
 unfold bL;by_cases U:size<1\/8<size
 ·rw[iP U,rX]
  exact XC g n size w U h
 ·rw[iN U]
  obtain⟨k,rfl⟩:=zY (show 0<=size by omega);exact Uf g n k T w oM oM C h
theorem qu(g:Nat)(T:LI)(w:World)(C:T.length<=1000000000)(h:St I w (AI g T::L)):
 Calls prog 27 #[pO g] w λe O=>∃v,e= .returned v/\St I O (bY 5 1 v T.length (bv T)::AI g T::L):=by
 obtain⟨A,c,q,d,h⟩:=h.wr;have z:=(h.ah 0 rfl).cell 0;refine bm (dY A q c T w h.swap.sl oM h) d λV Y=>?_;clear h d
 go_enter func27,ntmps27
 go_wp2_with fail
 refine V.mono ?_;rintro e l⟨U,rfl,Z⟩
 go_wp2_with fail
 go_ret
 rw[<-Y.out];exact⟨U,rfl,(St.uu Z.sh Y).swap⟩
theorem NQ(X:LI):X.take 1000=X.take (min 1000 X.length):=by
 rcases zdk 1000 X.length with Z|Z
 ·rw[Ho Z]
 ·rw[Nat.min_eq_right Z,nS Z,MS]
theorem TW(X:LI):bE X=bL (min 1000 X.length:Nat) 2++X.take (min 1000 X.length):=by
 unfold bE;rw[NQ,fJ,Ho (Nat.min_le_right _ _)]
 rfl
theorem tG(g:Nat)(v:Value)(X T:LI)(w:World)(R:T.length<=900000000)(h:St I w (AI g T::aS (λO=>aA O .u8 v X)::L)):
 Rt I w 26 #[pO g,v] (.tuple #[]) (AI g (T++bE X)::aS (λO=>aA O .u8 v X)::L):=by
 obtain⟨A,c,rfl,D,Q,_⟩:=h.get 1 rfl;unfold maxLen at Q;have K:(0:Int)<=(X.length:Int):=oM
 refine bm (TW X) (fJ (i:=min 1000 X.length) (l:=X)) λC j=>?_;generalize W:X.length=n at*;have b:=aa W;clear W;have r:Hid (∀k O,k<=n->aA O .u8 (.slice A n c) X->Sl O Any 1 A k (bv (X.take k))):=aa (λk O F S=>by
  have Z:=(S.cut F).sl;exact Z.2.2.2)
 have u:=dM n 2;have x:=dM 1000 2;rcases(by omega:n<=1000\/1000<n)with Z|Z;have V:(n:Int)<=1000:=oM
 have M:(n:Int)<=(c:Int):=oM
 rw[Nat.min_eq_right Z]at C j;have H:=aa h;clear h Z x
 go_enter func26,ntmps26
 go_wp2_with fail
 refine qK (dg g n 2 T _ oM H) λz Z=>?_;clear H;obtain⟨t,o,q,d,Z⟩:=Z.wr;have a:=(Z.ah 0 rfl).cell 0;have f0:=(Z.ah 0 rfl).frozen 0;rw[eG]at d;have e:q<=900000008:=oM
 refine bm d Z λY H=>?_;clear Z d
 go_wp2_with (at_builtin;refine St.dW qt H.swap rfl _ _ rfl rfl A _ c rfl (bv (X.take n)) (r n _ oM (H.get 2 rfl)) (jF _) oM oM ?_;intro G p z Z;have U:=(Z.ah 1 rfl).cell 0;have f1:=(Z.ah 1 rfl).frozen 0)
 rotate_left
 have V:¬(n:Int)<=1000:=oM
 have M:(1000:Int)<=(c:Int):=oM
 rw[Ho (show 1000<=n by omega)]at C j;rw[show((1000:Nat):Int)=1000 from rfl]at C;have H:=aa h;clear h u
 go_enter func26,ntmps26
 go_wp2_with fail
 refine qK (dg g 1000 2 T _ oM H) λz Z=>?_;clear H;obtain⟨t,o,q,d,Z⟩:=Z.wr;have a:=(Z.ah 0 rfl).cell 0;have f0:=(Z.ah 0 rfl).frozen 0;rw[eG]at d;have e:q<=900000008:=oM
 refine bm d Z λY H=>?_;clear Z d
 go_wp2_with (at_builtin;refine St.dW qt H.swap rfl _ _ rfl rfl A _ c rfl (bv (X.take 1000)) (r 1000 _ oM (H.get 2 rfl)) (jF _) oM oM ?_;intro G p z Z;have U:=(Z.ah 1 rfl).cell 0;have f1:=(Z.ah 1 rfl).frozen 0)
 rotate_left
 all_goals
  go_end0
  refine⟨rfl,St.uu (((Z.swap.bI 0 _).swap.Xl rfl ?_).swap) ?_⟩
  ·rw[C.out];simp[bv]
  ·rw[C.out,Y.out,eG,eG,j.out];omega
theorem yR(g:Nat)(r:Rd)(w:World)(B:Bytes r.xs)(C:r.xs.length<=140737488355328)(G:r.s=true->r.xs=[])(h:St I w (po g r::L)):
 Calls prog 135 #[pO g] w λe O=>∃v,e= .returned v/\St I O (ai .u8 v r.gE.1::po g r.gE.2::L):=by
 have b:=aa (bM g r 2 w B C G h);have a:=r.Nq 2 B C;have J:=r.VF B;clear h G;unfold Rd.gE;generalize(r.num 2).1=n at*;generalize(r.num 2).2=N at*;obtain⟨K,W,M,p⟩:=a;clear p;have T:=aa (λw (h:St I w (po g N::L))=>Lu g N (Rd.count n N) w h);have D:=N.take_len (Rd.count n N);have i:Rd.count n N=if 1000<n then N.xs.length+1 else n.toNat:=rfl;generalize(N.take (Rd.count n N)).1=out at*;generalize(N.take (Rd.count n N)).2=r2 at*;generalize Rd.count n N=k at*
 go_enter func135,ntmps135
 have V:=aa i;clear i
 go_wp2_with fail
 refine qK b λl h=>?_;clear b;have E:IntKind.i64.wrap n=n:=IntWalk.i64_in _ oM;obtain⟨u,P⟩:=N;obtain⟨R,Y,q,c,Z⟩:=h.rd;simp only at q Z K W;have z:=(Z.ah 0 rfl).cell 0;have H:=aa h;clear h Z;by_cases d:1000<n;have F:k=u.length+1:=by rw[V.out,iP d]
 subst F
 rotate_left
 have F:n=(k:Int):=by rw[V.out,iN d];omega
 subst F;clear E q c W J M
 rotate_left
 all_goals
  go_wp2_with fail
  refine(T _ H).mono ?_;rintro e X⟨v,rfl,h⟩;obtain⟨t,o,rfl,_,_,U⟩:=h.get 0 rfl;have j:=aa (dY t out.length o out X U oM h.tail);clear T H h U
  go_wp2_with fail
  refine j.mono ?_;rintro e x⟨v,rfl,h⟩
  go_wp2_with fail
  go_ret
  exact⟨v,rfl,h.ints⟩
structure Ti where
 k:Int
 n:Int
 b:LI
def isKind(k:Int):Bool:=k==1||k==2||k==4||k==8||k==9
def Md(f:Ti):LI:=if f.k=9 then bE f.b else bL f.n f.k
def r9(f:Ti):Bool:=f.k==9&&decide (1000<f.b.length)
def Rd.PT(r:Rd)(k:Int):Ti×Rd:=if k=9 then(⟨9,0,r.gE.1⟩,r.gE.2)else(⟨k,(r.num k).1,[]⟩,(r.num k).2)
def Ti.norm(f:Ti):Ti:=if f.k=9 then⟨9,0,f.b⟩else⟨f.k,f.n%256^f.k.toNat,[]⟩
theorem uK{k:Int}(h:isKind k=true):k=9\/∃m:Nat,k=m/\1<=m/\m<=8:=by
 unfold isKind at h;simp only[Mo,beq_iff_eq]at h;rcases h with(((h|h)|h)|h)|h
 ·exact .inr ⟨1,h,oM,oM⟩
 ·exact .inr ⟨2,h,oM,oM⟩
 ·exact .inr ⟨4,h,oM,oM⟩
 ·exact .inr ⟨8,h,oM,oM⟩
 ·exact .inl h
theorem Rd.Qi(f:Ti)(K:0<=f.n)(F:isKind f.k=true)(C:r9 f=false)(rest:LI):Rd.PT ⟨Md f++rest,false⟩ f.k=(f.norm,⟨rest,false⟩):=by
 obtain⟨k,n,b⟩:=f;obtain⟨n,rfl⟩:=zY K;simp only at F;unfold Rd.PT Md Ti.norm;rcases uK F with rfl|⟨m,rfl,Z,S⟩
 ·have j:b.length<=1000:=by
   unfold r9 at C;simp at C;exact C
  simp only[iP];unfold Rd.gE bE;rw[nS j,nX];have V:=Rd.pR b.length 2 oM oM (b++rest);rw[show((2:Nat):Int)=2 from rfl,show b.length%256^2=b.length from Wg oM]at V;rw[V];have M:Rd.count (b.length:Int) ⟨b++rest,false⟩=b.length:=by
   unfold Rd.count;rw[iN oM];omega
  rw[M,Rd.take_append]
 ·have I:¬((m:Nat):Int)=9:=oM
  simp only[iN I];have e:bL (n:Int) (m:Int)=aT n m:=by
   unfold bL;rw[iN oM];exact acy
  rw[e,Rd.pR n m Z S rest];exact acy
theorem Rd.PY{r:Rd}{k:Int}(B:Bytes r.xs)(F:isKind k=true)(h:(r.PT k).2.s=false):
 r.s=false/\r.xs=Md (r.PT k).1++(r.PT k).2.xs/\(r.PT k).1.k=k/\r9 (r.PT k).1=false/\0<=(r.PT k).1.n:=by
 unfold Rd.PT at h⊢;rcases uK F with rfl|⟨m,rfl,Z,S⟩
 ·simp only[iP]at h⊢
  unfold Rd.gE at h⊢;obtain⟨t,A,L⟩:=Rd.Bx h;have V:=Rd.zB (m:=2) B oM oM t;rw[show((2:Nat):Int)=2 from rfl]at V;obtain⟨P,o,u⟩:=V;have W:=r.VF B;generalize(r.num 2).1=n at*;generalize(r.num 2).2=r1 at*;have a:¬1000<n:=by
   intro d;have e:Rd.count n r1=r1.xs.length+1:=by unfold Rd.count;rw[iP d]
   rw[e]at h;unfold Rd.take at h;rw[iP (.inr (Nat.lt_succ_self _))]at h
   cases h
  have e:Rd.count n r1=n.toNat:=by unfold Rd.count;rw[iN a]
  rw[e]at A L⊢;generalize(r1.take n.toNat).1=b at*;generalize(r1.take n.toNat).2.xs=zs at*;refine⟨P,?_,trivial,?_,ef 0⟩
  ·unfold Md bE
   rw[iP rfl];simp only;rw[nS oM,L,o,A,nX,show((n.toNat:Nat):Int)=n by omega]
  ·unfold r9
   exact acC
 ·have I:¬((m:Nat):Int)=9:=oM
  simp only[iN I]at h⊢;obtain⟨t,A,L⟩:=Rd.zB B Z S h;refine⟨t,?_,trivial,?_,L⟩
  ·unfold Md bL
   simp only;rw[iN I,iN oM];simpa using A
  ·unfold r9
   exact acy
structure jc where
 seq:Int
 iy:Bool
 eY:Bool
 au:List RQ
 bS:Int
def jc.zero:jc:=⟨0,false,false,[],0⟩
structure qx where
 m:Int
 t:Int
 u:Int
def qx.zero:qx:=⟨0,0,0⟩
structure bq where
 bi:Bool
 seq:Int
 jg:Int
 h:Nat->qx
 la:Nat->Int
 bl:List PU
 wr:List PU
 r:Nat->jc
structure CX where
 id:Int
 c:bq
 p:Nat->Value
abbrev cF(x:CX)(v u:Value):Vq:=
 #[iI x.id,.bool x.c.bi,iW x.c.seq,iU x.c.jg,
  iI (x.c.h 0).m,iU (x.c.h 0).t,iU (x.c.h 0).u,iI (x.c.h 1).m,iU (x.c.h 1).t,iU (x.c.h 1).u,
  iI (x.c.h 2).m,iU (x.c.h 2).t,iU (x.c.h 2).u,iI (x.c.h 3).m,iU (x.c.h 3).t,iU (x.c.h 3).u,
  iU (x.c.la 0),iU (x.c.la 1),iU (x.c.la 2),iU (x.c.la 3),v,u,
  iW (x.c.r 0).seq,.bool (x.c.r 0).iy,.bool (x.c.r 0).eY,x.p 0,iI (x.c.r 0).bS,
  iW (x.c.r 1).seq,.bool (x.c.r 1).iy,.bool (x.c.r 1).eY,x.p 1,iI (x.c.r 1).bS,
  iW (x.c.r 2).seq,.bool (x.c.r 2).iy,.bool (x.c.r 2).eY,x.p 2,iI (x.c.r 2).bS,
  iW (x.c.r 3).seq,.bool (x.c.r 3).iy,.bool (x.c.r 3).eY,x.p 3,iI (x.c.r 3).bS]
theorem JC(p:PU)(A:OA)(n c:Nat)(w:World)(h:St I w (ai .u8 (.slice A n c) p.data::L)):
 Calls prog 112 #[tU p (.slice A n c)] w λe O=>∃v,e= .returned (.tuple #[v,iI (jL p)])/\St I O (ai .u8 v (Dn p)::L):=by
 obtain⟨region,index,data⟩:=p;obtain⟨W,_,_,P⟩:=(h.get 0 rfl).sl;have H:=aa (h.alloc 213 #[iI region,iI index,.slice A n c]);have key:∀x,jL ⟨region,index,data⟩=x->Hid (jL ⟨region,index,data⟩=x):=λ_ h=>h;have C:=aa (show Dn ⟨region,index,data⟩=if jL ⟨region,index,data⟩=0 then index::data else []from rfl);simp only at W;have b:=aa W;clear h P W;by_cases K:index<0
 ·have E:=key 101 (iP (.inl K))
  have d0:decide (index<0)=true:=dZ K;clear key K
  exact aed
 have d0:decide (index<0)=false:=dQ K;by_cases Q:4<=index
 ·have E:=key 101 (iP (.inr Q))
  have d4:decide (4<=index)=true:=dZ Q;clear key K
  exact aed
 have d4:decide (4<=index)=false:=dQ Q;have D:¬(index<0\/4<=index):=oM
 by_cases o:23<n
 ·have E:=key 2 (by unfold jL;rw[iN D,iP (by rw[<-b.out];exact o)])
  have d:decide ((23:Int)<(n:Int))=true:=decide_eq_true (by omega);clear key K Q D o
  exact aed
 ·have E:=key 0 (by unfold jL;rw[iN D,iN (by rw[<-b.out];exact o)])
  have d:decide ((23:Int)<(n:Int))=false:=decide_eq_false (by omega);have q:0<=index:=oM
  have a:index<4:=oM
  clear key D
  go_enter func112,ntmps112
  go_wp2_with (at_builtin;refine St.dW qt (H.oH 5 1 1 (bv [index]) rfl oM (w.heap.size+1) acy) rfl _ _ rfl rfl A n c rfl (bv data) ((H.oH 5 1 1 (bv [index]) rfl oM (w.heap.size+1) acy).get 2 rfl).sl.2.2.2 (jF _) oM oM ?_;intro r T t J)
  go_ret2
  rw[show bv [index]++bv data=bv (index::data)from rfl]at J;have F:=J.ints;exact⟨.slice r (1+n) T,by rw[E.out];try rfl,by rw[C.out,E.out];exact F.pick 3 [0]⟩
structure be where
 c:Int
 m:Int
 t:Int
 u:Int
structure cS where
 c:Int
 m:Int
structure wb where
 h:List be
 w:List cS
structure aI where
 now:Int
 last:Int
 r:Nat->wb
def fH(q:Int):Int:=if q>18446744073709551605 then 18446744073709551615 else q+10
def rj(m:Int)(h:be):Bool:=(h.m==2)||(m==2)
def ub(n:Int):Bool:=decide (0<=n)&&decide (n<16)
def cD(n:Int):Bool:=decide (0<=n)&&decide (n<4)
def Bk(n:Int):Bool:=(n==1)||(n==2)
def cO(c r:Int):Int:=if ub c=false then 31 else if cD r=false then 93 else 0
def fF(q:Int):List cS->List be->Int->List cS×List be×Int
 |[],U,last=>([],U,last)
 |x::u,U,last=>if U.length<4/\U.any (rj x.m)=false/\last<18446744073709551615 then fF q u (U++[⟨x.c,x.m,last+1,fH q⟩]) (last+1)else(x::u,U,last)
def aI.fh(T:aI)(i:Nat):aI:=
 ⟨T.now,(fF T.now (T.r i).w (T.r i).h T.last).2.2,aJ T.r i ⟨(fF T.now (T.r i).w (T.r i).h T.last).2.1,(fF T.now (T.r i).w (T.r i).h T.last).1⟩⟩
def aI.vS(T:aI)(i:Nat)(U:List be):aI:=⟨T.now,T.last,aJ T.r i ⟨U,(T.r i).w⟩⟩
def aI.cY(T:aI)(i:Nat)(ws:List cS):aI:=⟨T.now,T.last,aJ T.r i ⟨(T.r i).h,ws⟩⟩
def lK(U:List be)(c:Int):Option be:=U.find? (λh=>h.c==c)
def vk(u:List cS)(c:Int):Option cS:=u.find? (λw=>w.c==c)
def aI.Al(T:aI)(c:Int)(i:Nat)(q:Int):aI×Int×Int:=
 match lK ((((T.cY i ((T.r i).w++[⟨c,q⟩])).fh i).r i).h) c with
 |some h=>((T.cY i ((T.r i).w++[⟨c,q⟩])).fh i,h.t,0)
 |none=>((T.cY i ((T.r i).w++[⟨c,q⟩])).fh i,0,90)
def aI.oE(T:aI)(c:Int)(i:Nat)(q:Int):aI×Int×Int:=
 match lK (T.r i).h c with
 |some h=>if h.m=q then(T,h.t,0)else(T,0,91)
 |none=>match vk (T.r i).w c with
  |some w=>if w.m=q then(T,0,90)else(T,0,91)
  |none=>if 4<=(T.r i).w.length\/T.last=18446744073709551615 then(T,0,42)else T.Al c i q
def aI.acquire(T:aI)(c r q:Int):aI×Int×Int:=
 if cO c r≠0 then(T,0,cO c r)else if Bk q=false then(T,0,91)else T.oE c r.toNat q
def aI.fY(T:aI)(c r t:Int):Int:=
 if cO c r≠0 then cO c r else match lK (T.r r.toNat).h c with
 |some h=>if h.t=t then 0 else 92
 |none=>92
def xo(U:List be)(c:Int):List be:=U.eraseP (λh=>h.c==c)
def qF(u:List cS)(c:Int):List cS:=u.eraseP (λw=>w.c==c)
def aI.release(T:aI)(c r t:Int):aI×Int:=
 if T.fY c r t≠0 then(T,T.fY c r t)else((T.vS r.toNat (xo (T.r r.toNat).h c)).fh r.toNat,0)
def iD:List be->Int->Int->List be
 |[],_,_=>[]
 |h::r,c,u=>if h.c==c then⟨h.c,h.m,h.t,u⟩::r else h::iD r c u
def aI.renew(T:aI)(c r t:Int):aI×Int×Int:=
 if T.fY c r t≠0 then(T,0,T.fY c r t)else(T.vS r.toNat (iD (T.r r.toNat).h c (fH T.now)),fH T.now,0)
def aI.cancel(T:aI)(c r:Int):aI×Int:=
 if cO c r≠0 then(T,cO c r)else match vk (T.r r.toNat).w c with
 |some _=>((T.cY r.toNat (qF (T.r r.toNat).w c)).fh r.toNat,0)
 |none=>(T,41)
def aI.time(T:aI)(q:Int):aI:=
 if q<=T.now then T else
 ((((aI.mk q T.last (λi=>⟨(T.r i).h.filter (λh=> !decide (h.u<=q)),(T.r i).w⟩)).fh 0).fh 1).fh 2).fh 3
def aI.ly(T:aI)(r:Int):List be:=if cD r=true then(T.r r.toNat).h else []
structure bC(T:aI):Prop where
 AZ:0<=T.now
 Ee:T.now<=18446744073709551615
 qD:0<=T.last
 uh:T.last<=18446744073709551615
 hl:∀i,i<4->(T.r i).h.length<=4
 wl:∀i,i<4->(T.r i).w.length<=4
theorem Fi(q:Int):∀(u:List cS) (U:List be) (last:Int),0<=last->last<=18446744073709551615->U.length<=4->
 (fF q u U last).1.length<=u.length/\(fF q u U last).2.1.length<=4/\last<=(fF q u U last).2.2/\(fF q u U last).2.2<=18446744073709551615
 |[],U,last,K,Z,V=>⟨by simp[fF],V,ef _,Z⟩
 |x::u,U,last,K,Z,V=>by
  unfold fF
  split
  ·rename_i D
   obtain⟨a,b,c,d⟩:=Fi q u (U++[⟨x.c,x.m,last+1,fH q⟩]) (last+1) oM oM acC;exact⟨by simp;omega,b,oM,d⟩
  ·exact⟨g9 _,V,ef _,Z⟩
theorem bC.fh{T:aI}(h:bC T)(z:i<4):bC (T.fh i):=by
 obtain⟨a,b,c,d⟩:=Fi T.now (T.r i).w (T.r i).h T.last h.qD h.uh (h.hl i z);have U:=h.wl i z;refine⟨h.AZ,h.Ee,xK h.qD c,d,λj N=> ?_,λj N=> ?_⟩
 ·show(aJ T.r i _ j).h.length<=4
  unfold aJ
  split
  ·exact b
  ·exact h.hl j N
 ·show(aJ T.r i _ j).w.length<=4
  unfold aJ
  split
  ·exact qJ a U
  ·exact h.wl j N
theorem bC.vS{T:aI}(h:bC T){U:List be}(C:U.length<=4):bC (T.vS i U):=by
 refine⟨h.AZ,h.Ee,h.qD,h.uh,λj N=> ?_,λj N=> ?_⟩
 ·show(aJ T.r i _ j).h.length<=4
  unfold aJ
  split
  ·exact C
  ·exact h.hl j N
 ·show(aJ T.r i _ j).w.length<=4
  unfold aJ
  split
  ·rename_i e
   subst e;exact h.wl _ N
  ·exact h.wl j N
theorem bC.cY{T:aI}(h:bC T){ws:List cS}(C:ws.length<=4):bC (T.cY i ws):=by
 refine⟨h.AZ,h.Ee,h.qD,h.uh,λj N=> ?_,λj N=> ?_⟩
 ·show(aJ T.r i _ j).h.length<=4
  unfold aJ
  split
  ·rename_i e
   subst e;exact h.hl _ N
  ·exact h.hl j N
 ·show(aJ T.r i _ j).w.length<=4
  unfold aJ
  split
  ·exact C
  ·exact h.wl j N
theorem jZ{c r:Int}(h:cO c r=0):0<=c/\c<16/\0<=r/\r<4:=by
 unfold cO at h
 split at h
 ·omega
 ·rename_i Z
  split at h
  ·omega
  ·rename_i V
   unfold ub at Z;unfold cD at V;simp at Z V;omega
theorem AT(U:List be)(c u:Int):(iD U c u).length=U.length:=by
 induction U with
 |nil=>rfl
 |cons h r K=>
  unfold iD
  split
  ·rfl
  ·simp[K]
theorem bC.acquire{T:aI}(h:bC T)(c r q:Int):bC (T.acquire c r q).1:=by
 unfold aI.acquire
 split
 ·exact h
 ·rename_i G
  have G:=jZ (by omega:cO c r=0)
  split
  ·exact h
  ·unfold aI.oE
   split
   ·split<;>exact h
   ·split
    ·split<;>exact h
    ·split
     ·exact h
     ·rename_i W
      have U:bC (((T.cY r.toNat ((T.r r.toNat).w++[⟨c,q⟩]))).fh r.toNat):=(h.cY acC).fh oM;unfold aI.Al
      split<;>exact U
theorem bC.release{T:aI}(h:bC T)(c r t:Int):bC (T.release c r t).1:=by
 unfold aI.release
 split
 ·exact h
 ·rename_i Y
  have G:cO c r=0:=by
   exact afd
  have G:=jZ G;refine(h.vS ?_).fh oM;have:=h.hl r.toNat oM;exact qJ (zcO) this
theorem bC.renew{T:aI}(h:bC T)(c r t:Int):bC (T.renew c r t).1:=by
 unfold aI.renew
 split
 ·exact h
 ·rename_i Y
  have G:cO c r=0:=by
   exact afd
  have G:=jZ G;refine h.vS ?_;rw[AT];exact h.hl r.toNat oM
theorem bC.cancel{T:aI}(h:bC T)(c r:Int):bC (T.cancel c r).1:=by
 unfold aI.cancel
 split
 ·exact h
 ·rename_i Y
  have G:=jZ (by omega:cO c r=0)
  split
  ·refine(h.cY ?_).fh oM
   exact qJ (zcO) (h.wl r.toNat oM)
  ·exact h
theorem bC.time{T:aI}(h:bC T){q:Int}(Z:q<=18446744073709551615):bC (T.time q):=by
 unfold aI.time
 split
 ·exact h
 ·rename_i W
  have K:=h.AZ;have:bC (aI.mk q T.last (λi=>⟨(T.r i).h.filter (λh=> !decide (h.u<=q)),(T.r i).w⟩)):=
   ⟨by show 0<=q;omega,Z,h.qD,h.uh,λj N=>qJ (VP _ _) (h.hl j N),λj N=>h.wl j N⟩
  exact(((this.fh oM).fh oM).fh oM).fh oM
structure fj where
 i:Int
 d:LI
structure mG where
 a:Int
 i:Int
 d:LI
structure bp where
 t:Int
 p:List fj
 s:Int
 k:List mG
abbrev kZ:=Nat->LI
def PZ:kZ:=λ_=>[]
def kT(b:kZ)(p:fj):kZ:=if 0<=p.i/\p.i<4 then aJ b p.i.toNat p.d else b
def dq(b:kZ)(l:List fj):kZ:=l.foldl kT b
def xM(b:kZ)(i:Int):LI:=if 0<=i/\i<4 then b i.toNat else []
def iT(s:bp)(b:kZ)(k:mG):Bool:=decide (xM (dq b (s.p.take k.a.toNat)) k.i=k.d)
def jI(s:bp)(b:kZ):Bool:=s.k.all (iT s b)
def bp.ways(s:bp):Nat:=s.p.length-s.s.toNat+1
def iS:List bp->Nat
 |[]=>1
 |s::r=>s.ways*iS r
def CR:List bp->Nat->List Nat
 |[],_=>[]
 |s::r,w=>(s.p.length-w/iS r)::CR r (w%iS r)
def vH:List bp->List Nat->kZ->Bool
 |[],_,_=>true
 |s::r,g,b=>jI s b&&vH r g.tail (dq b (s.p.take (g.headD 0)))
def jB{α:Type}(f:Nat->Option α):Nat->Nat->Option α
 |0,_=>none
 |n+1,k=>(f k).or (jB f n (k+1))
def eN:List bp->kZ->Option (List Nat)
 |[],_=>some []
 |s::r,b=>if jI s b then jB (λq=>(eN r (dq b (s.p.take (s.p.length-q)))).map ((s.p.length-q)::·)) s.ways 0 else none
theorem oy{α:Type}{f:Nat->Option α}:∀(n k:Nat),jB f n k=none↔∀q,q<n->f (k+q)=none
 |0,k=>⟨λ_ q d=>oM,λ_=>rfl⟩
 |n+1,k=>by
  unfold jB;rw[Option.or_eq_none_iff,oy n (k+1)];refine⟨λ⟨Z,V⟩ q d=> ?_,λh=>⟨by simpa using h 0 oM,λq d=> ?_⟩⟩
  ·cases q with
   |zero=>exact Z
   |succ q=>have:=V q oM;rwa[show k+(q+1)=k+1+q by omega]
  ·have:=h (q+1) oM;rwa[show k+1+q=k+(q+1)by omega]
theorem ry{α:Type}{f:Nat->Option α}{x:α}:∀(n k:Nat),jB f n k=some x->∃q,q<n/\f (k+q)=some x/\∀p,p<q->f (k+p)=none
 |0,k,h=>by cases h
 |n+1,k,h=>by
  unfold jB at h;rcases Option.or_eq_some_iff.1 h with h|⟨K,h⟩
  ·exact⟨0,oM,h,λp o=>oM⟩
  ·obtain⟨q,Z,V,M⟩:=ry n (k+1) h
   refine⟨q+1,oM,by rwa[show k+(q+1)=k+1+q by omega],λp o=> ?_⟩
   cases p with
   |zero=>exact K
   |succ p=>have:=M p oM;rwa[show k+(p+1)=k+1+p by omega]
theorem FI{f:Nat->Option α}{n k:Nat}(F:k<=n)(h:∀q,q<k->f q=none):jB f n 0=jB f (n-k) k:=by
 have:∀(m j:Nat),j+m=k->jB f (n-j) j=jB f (n-k) k:=by
  intro m
  induction m with
  |zero=>intro j N;rw[show j=k by omega]
  |succ m K=>
   intro j N;rw[show n-j=(n-(j+1))+1 by omega];show(f j).or (jB f (n-(j+1)) (j+1))=_;rw[h j oM,Option.none_or,K (j+1) oM]
 exact this k 0 oM
theorem Bt:∀l,0<iS l
 |[]=>Nat.one_pos
 |s::r=>Nat.mul_pos (by unfold bp.ways;omega) (Bt r)
theorem p9:∀(l:List bp) (b:kZ),
 (∀g,eN l b=some g->∃w,w<iS l/\g=CR l w/\vH l g b=true/\∀v,v<w->vH l (CR l v) b=false)/\
 (eN l b=none->∀v,v<iS l->vH l (CR l v) b=false)
 |[],b=>⟨λg h=>⟨0,Nat.one_pos,by simpa[eN,CR]using h.symm,rfl,λv K=>oM⟩,λh=>by cases h⟩
 |s::r,b=>by
  have o:=Bt r;have G:∀v,vH (s::r) (CR (s::r) v) b=(jI s b&&vH r (CR r (v%iS r)) (dq b (s.p.take (s.p.length-v/iS r)))):=λv=>rfl;have N:∀v,v<iS (s::r)->v/iS r<s.ways:=λv K=>Nat.div_lt_of_lt_mul (by rw[Xn];exact K);unfold eN;by_cases B:jI s b=true
  ·rw[iP B]
   refine⟨λg h=> ?_,λh v K=> ?_⟩
   ·obtain⟨q,Z,V,M⟩:=ry _ _ h
    rw[s7]at V;obtain⟨c,Q,rfl⟩:=zcg.1 V;obtain⟨w,F,rfl,j,t⟩:=(p9 r _).1 c Q;have S:(q*iS r+w)/iS r=q:=by
     rw[Xn,Nat.mul_add_div o,Nat.div_eq_of_lt F,vt]
    have P:(q*iS r+w)%iS r=w:=by
     rw[Xn,Nat.mul_add_mod,Wg F]
    refine⟨q*iS r+w,?_,?_,?_,λv K=> ?_⟩
    ·show _<s.ways*iS r
     have:(q+1)*iS r<=s.ways*iS r:=vl _ Z;rw[Nat.succ_mul]at this;omega
    ·show _=(s.p.length-_)::CR r _
     rw[S,P]
    ·show(jI s b&&_)=true
     rw[B,MM];exact j
    ·rw[G,B,MM]
     by_cases d:v/iS r=q
     ·rw[d]
      refine t _ ?_;have:=Nat.div_add_mod v (iS r);rw[d,Xn]at this;omega
     ·have e:v/iS r<q:=by
       have:v/iS r<=q:=by rw[<-S];exact Nat.div_le_div_right oM
       omega
      have:=M _ e;rw[s7,zcK]at this;exact(p9 r _).2 this _ (Zf _ o)
   ·rw[G,B,MM]
    have:=(oy _ _).1 h _ (N v K);rw[s7,zcK]at this;exact(p9 r _).2 this _ (Zf _ o)
  ·rw[iN B]
   have a:jI s b=false:=by simpa using B
   refine⟨λg h=> ?_,λ_ v _=> ?_⟩
   ·cases h
   ·rw[G,a,ZR]
theorem xu:∀(l:List bp) (w:Nat),(CR l w).length=l.length
 |[],_=>rfl
 |_::r,_=>congrArg (·+1) (xu r _)
theorem AF(l:List fj):∀(a b:kZ),(∀j,j<4->a j=b j)->∀j,j<4->dq a l j=dq b l j:=by
 induction l with
 |nil=>exact λa b h=>h
 |cons p r K=>
  intro a b h;refine K (kT a p) (kT b p) (λj N=> ?_);unfold kT
  split
  ·unfold aJ
   split
   ·rfl
   ·exact h j N
  ·exact h j N
theorem OL{a b:kZ}(h:∀j,j<4->a j=b j)(i:Int):xM a i=xM b i:=by
 unfold xM
 split
 ·exact h _ oM
 ·rfl
theorem DF{a b:kZ}(h:∀j,j<4->a j=b j)(s:bp):jI s a=jI s b:=by
 unfold jI
 congr 1
 funext k
 unfold iT;rw[OL (AF _ _ _ h)]
theorem xz:∀(l:List bp) (a b:kZ),(∀j,j<4->a j=b j)->eN l a=eN l b
 |[],_,_,_=>rfl
 |s::r,a,b,h=>by
  unfold eN;rw[DF h s]
  split
  ·congr 1
   funext q
   rw[xz r _ _ (AF _ _ _ h)]
  ·rfl
theorem Nz(b:kZ){l:List fj}{k:Nat}{x:fj}(h:l[k]? =some x):dq b (l.take (k+1))=kT (dq b (l.take k)) x:=by
 unfold dq;rw[Et,h,XU]
 rfl
def dz{α:Type}(p:α->Bool):Nat->List α->Int
 |_,[]=> -1
 |i,x::r=>if p x=true then(i:Int)else dz p (i+1) r
theorem pj(p:α->Bool)(l:List α):∀i:Nat,(dz p i l= -1/\l.any p=false)\/∃(k:Nat) (x:α),dz p i l=((i+k:Nat):Int)/\l[k]? =some x/\p x=true/\(l.take k).any p=false:=by
 induction l with
 |nil=>exact λi=> .inl ⟨rfl,rfl⟩
 |cons y r K=>
  intro i;by_cases E:p y=true
  ·exact .inr ⟨0,y,iP E,rfl,E,rfl⟩
  ·have e:dz p i (y::r)=dz p (i+1) r:=iN E
   have E:p y=false:=by simpa using E
   rcases K (i+1)with⟨Z,V⟩|⟨k,x,Z,V,M,Q⟩
   ·exact .inl ⟨e.trans Z,by rw[Yh,E,V];rfl⟩
   ·exact .inr ⟨k+1,x,by rw[e,Z];congr 1;omega,V,M,by rw[Kx,Yh,E,Q];rfl⟩
theorem Ak(p:α->Bool)(l:List α):decide (dz p 0 l≥0)=l.any p:=by
 rcases pj p l 0 with⟨Z,V⟩|⟨k,x,Z,V,M,_⟩
 ·rw[Z,V];rfl
 ·rw[Z,zdm.2 ⟨x,pJ V,M⟩]
  exact decide_eq_true (by omega)
end Go.Proofs.YtblpaldggenbaaaGreatDoor
