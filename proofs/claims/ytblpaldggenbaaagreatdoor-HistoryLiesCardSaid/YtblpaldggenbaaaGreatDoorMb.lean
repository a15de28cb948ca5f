/- A part. -/
import Derived.Test.YtblpaldggenbaaaGreatDoorRows
import Derived.Test.YtblpaldggenbaaaGreatDoorMa
namespace Go.Proofs.YtblpaldggenbaaaGreatDoor
open Go.RowKit Go.Proofs.Tryz
set_option maxRecDepth 100000
set_option maxHeartbeats 64000000
variable{r:Rd}{cs:Vq}
abbrev Rt(I:aH)(w:World)(f:FuncId)(a:Array Value)(v:Value)(L:List aw):Prop:=Calls prog f a w λe O=>e= .returned v/\St I O L
theorem qt:eB prog 27 5 (.int .u8 0) 1 1:=⟨underlying27,kR,kR,oM⟩
theorem Sj(w:World):(Instr.buildSlice 27 0 #[]).run prog w= .ok (.slice (aO w.heap.size) 0 0) (w.alloc (.cells #[] 5)):=kR
theorem St.PC{I:aH}{w:World}{L:List aw}(h:St I w L)(e:TypeId):St I (w.alloc (.cells #[] e)) (bY e 1 (.slice (aO w.heap.size) 0 0) 0 []::L):=
 h.newRow ((Fr.refl _ _).alloc _) (World.ownsRow_made w #[] 0 (jG _) (jG _) acy) (λb B=>by simp[Value.ownBlock]at B;omega)
theorem dY{I:aH}{L:List aw}(A:OA)(n c:Nat)(xs:LI)(w:World)(U:Sl w Any 1 A n (bv xs))(W:n<=140737488355328)(h:St I w L):
 Calls prog 23 #[.slice A n c] w λe O=>∃v,e= .returned v/\St I O (bY 5 1 v n (bv xs)::L):=by
 rcases A with _|a
 ·have y:n=0:=by
   exact aeG
  subst y;have J:xs=[]:=AJ (by simpa using U.1);subst J;have R:=λw=>Lib.run_eql_slice_nil (P:=prog) w 27 5 none 0 c 0 0 underlying27;have H:=aa h;clear U h
  go_enter func23,ntmps23
  go_wp2
  go_ret
  exact⟨_,rfl,H.my _ _⟩
 ·have R:=λw=>Lib.run_eql_slice_nil (P:=prog) w 27 5 (some a) n c 0 0 underlying27
  have k:=Sj;refine bm (h.PC 5) ((U.LG ((Fr.refl iY w).alloc (.cells #[] 5)))) λH V=>?_;clear U h
  go_enter func23,ntmps23
  go_wp2_with (at_builtin;refine St.dW qt H rfl _ _ rfl rfl (some a) n c rfl (bv xs) V (jF _) oM oM ?_;intro G p l Z)
  go_ret
  exact⟨_,rfl,(by simpa using Z)⟩
section
def bF{α:Type}(w:World)(size:Nat)(R:World->LV->α->Prop)(v:Value)(b:Nat->LV)(xs:List α):Prop:=
 ∃A c,v= .slice A xs.length c/\xs.length<=c/\c<=maxLen/\∀i x,xs[i]? =some x->∃Y,A=some Y/\(b i).length=size/\(∀j u,(b i)[j]? =some u->w.cell? ((Y.add (i*size)).add j)=some u)/\R w (b i) x
def Rows{α:Type}(w:World)(size:Nat)(R:World->LV->α->Prop)(v:Value)(xs:List α):Prop:=∃b,bF w size R v b xs
def aB{α:Type}(size:Nat)(R:World->LV->α->Prop)(v:Value)(xs:List α):aw:=AU λb=>aS (λw=>bF w size R v b xs)
abbrev ai(k:IntKind)(v:Value)(xs:LI):aw:=aS (λw=>aA w k v xs)
section
variable {α:Type} {I:aH} {w:World} {L:List aw} {size:Nat} {R:World->LV->α->Prop} {v:Value} {xs:List α}
theorem bF.none_(w:World)(size:Nat)(R:World->LV->α->Prop)(b:Nat->LV):bF w size R sN b []:=⟨none,0,rfl,by simp,by unfold maxLen;omega,λi x h=>by simp at h⟩
theorem Rows.slice(h:Rows w size R v xs):∃A c,v= .slice A xs.length c/\xs.length<=c/\c<=9223372036854775807:=by
 obtain⟨b,A,c,e,Z,V,M⟩:=h;exact⟨A,c,e,Z,V⟩
theorem bF.qo{e:TypeId}{n:Nat}{U:LV}(h:w.ownsRow 0 e size v n U)(W:n=xs.length)(c:∀i x,xs[i]? =some x->R w ((U.drop (i*size)).take size) x):bF w size R v (λi=>(U.drop (i*size)).take size) xs:=by
 subst W;have C:=h.1;rcases h.2 with⟨rfl,K⟩|⟨g,cap,l,rfl,G,H,D,y,Y,d⟩
 ·have:xs=[]:=AJ K
  subst this;exact bF.none_ w size R _
 ·refine⟨_,_,rfl,D,y,λi x z=> ?_⟩
  have B:=(lQ.1 z).1;have X:(i+1)*size<=xs.length*size:=vl _ B;rw[vq,Co]at X;refine⟨_,rfl,by rw[fJ,km];omega,λj u E=> ?_,c i x z⟩;rw[dk];refine h.cells (g:=g) rfl (i*size+j) u ?_;rw[AH]at E
  split at E
  ·rwa[xV]at E
  ·cases E
theorem St.dJ(h:St I w L)(i:Nat)(z:L[i]? =some (aB size R v xs)):Rows w size R v xs:=by
 obtain⟨M,F,⟨b,J⟩,Q⟩:=h.fact i z;exact⟨b,J.2 w Q⟩
theorem St.elem(h:St I w L)(i:Nat){A:OA}{n c:Nat}(z:L[i]? =some (aB size R (.slice A n c) xs)){k:Nat}{x:α}(W:xs[k]? =some x):
 ∃Y cs,A=some Y/\cs.length=size/\(∀j u,cs[j]? =some u->w.cell? ((Y.add (k*size)).add j)=some u)/\R w cs x/\St I w (aS (λO=>(∀j u,cs[j]? =some u->O.cell? ((Y.add (k*size)).add j)=some u)/\R O cs x)::L):=by
 obtain⟨M,H,K,Q,U⟩:=h;obtain⟨b,J⟩:=U.at_ i _ z;have o:∀O,fP O M->∃Y,A=some Y/\(b k).length=size/\(∀j u,(b k)[j]? =some u->O.cell? ((Y.add (k*size)).add j)=some u)/\R O (b k) x:=by
  intro O l;obtain⟨N,p,e,Z,V,B⟩:=J.2 O l;injection e with S P t;subst S;exact B k x W
 obtain⟨Y,r,d,D,G⟩:=o w Q;refine⟨Y,b k,r,d,D,G,M,_,K,Q,U.cons (F:=λ_=>False) ⟨λ_ x=>x,λO l=> ?_⟩ (λ_ _ _ _ x=>x) (λ_ x=>x.elim)⟩;obtain⟨_,C,_,a,y⟩:=o O l;subst r;injection C with C;subst C;exact⟨a,y⟩
theorem St.rows{e:TypeId}{n:Nat}{U:LV}(h:St I w (bY e size v n U::aS (λO=>∀i x,xs[i]? =some x->R O ((U.drop (i*size)).take size) x)::L))(W:n=xs.length):St I w (aB size R v xs::L):=
 St.cZ (f:=λb=>aS (λw=>bF w size R v b xs)) (λi=>(U.drop (i*size)).take size) (h.xQ.ku (λ_ Z V=>bF.qo Z W V))
theorem St.Wc{p:World}{b:Nat->LV}(h:St (aH.of p) w L)(G:∀O,Fr iY p O->bF O size R v b xs):St (aH.of p) w (aB size R v xs::L):=
 St.cZ (f:=λb=>aS (λw=>bF w size R v b xs)) b (h.ZX G)
end
def ay{α:Type}(e:TypeId)(size:Nat)(R:World->LV->α->Prop)(v:Value)(xs:List α):aw:=
 AU λU=>aX (bY e size v xs.length U) (aS (λw=>∀(i:Nat) x,xs[i]? =some x->R w ((U.drop (i*size)).take size) x))
section
variable {α:Type} {I:aH} {w:World} {L:List aw} {e:TypeId} {size:Nat} {R:World->LV->α->Prop} {v:Value} {xs:List α}
theorem St.dU(h:St I w L)(e:TypeId)(size:Nat)(R:World->LV->α->Prop):St I w (ay e size R sN []::L):=
 St.cZ (f:=λU=>aX (bY e size sN ([]:List α).length U) (aS (λw=>∀(i:Nat) x,([]:List α)[i]? =some x->R w ((U.drop (i*size)).take size) x))) []
  ((h.bG (λO _ i x z=>by simp at z)).my e size).aM
theorem St.nC(h:St I w (ay e size R v xs::L)):∃A c q U,v= .slice A q c/\q=xs.length/\St I w (bY e size (.slice A q c) q U::aS (λw=>∀(i:Nat) x,xs[i]? =some x->R w ((U.drop (i*size)).take size) x)::L):=by
 obtain⟨U,h⟩:=h.ex;have h:=h.star;obtain⟨A,c,rfl⟩:=h.slice;exact⟨A,c,_,U,rfl,rfl,h⟩
theorem St.bK{A:OA}{q c:Nat}(h:St I w (ay e size R (.slice A q c) xs::L)):∃U,q=xs.length/\U.length=q*size/\St I w (bY e size (.slice A q c) q U::aS (λw=>∀(i:Nat) x,xs[i]? =some x->R w ((U.drop (i*size)).take size) x)::L):=by
 obtain⟨G,p,M,U,e,d,h⟩:=h.nC;injection e with S P t;subst S;subst P;subst t;exact⟨U,d,(h.row 0 rfl).1,h⟩
theorem St.fR{q:Nat}{U cs:LV}{x:α}(h:St I w (bY e size v (q+1) (U++cs)::aS (λw=>∀(i:Nat) x,xs[i]? =some x->R w ((U.drop (i*size)).take size) x)::aS (λw=>R w cs x)::L))(d:q=xs.length)(D:cs.length=size)(K:U.length=q*size):St I w (ay e size R v (xs++[x])::L):=by
 subst d;refine St.cZ (f:=λU=>aX (bY e size v (xs++[x]).length U) (aS (λw=>∀(i:Nat) y,(xs++[x])[i]? =some y->R w ((U.drop (i*size)).take size) y))) (U++cs) ?_;refine St.aM ?_;rw[show(xs++[x]).length=xs.length+1 by simp];refine(h.sh.ku (λO Z V i y z=> ?_)).swap;by_cases C:i<xs.length
 ·rw[Uu C]at z
  have X:(i+1)*size<=xs.length*size:=vl _ C;rw[vq,Co]at X;have:=Z i y z;rwa[Wi oM,VQ acO]
 ·have B:=(lQ.1 z).1
  have a:i=xs.length:=by simp at B;omega
  subst a;rw[OU (g9 _),UC]at z;obtain rfl:x=y:=by simpa using z
  rw[<-K,Ym,<-D,MS];exact V
theorem St.kF(h:St I w (ay e size R v xs::L)):St I w (aB size R v xs::L):=by
 obtain⟨U,h⟩:=h.ex;exact h.star.rows rfl
end
theorem Lr(w:World)(e:TypeId)(cs:LV):Sl (w.alloc (.cells cs.toArray e)) Any cs.length (aO w.heap.size) 1 cs:=
 ⟨by simp,λ_=>⟨_,rfl,trivial,by simp,λj y E=>by
  rw[show(⟨w.heap.size,0,none⟩:Addr).add j=⟨w.heap.size,j,none⟩by simp[Addr.add];exact Qt,(eF.new _ _ _).cell];simpa using E⟩⟩
theorem SD{w:World}{e:TypeId}{cs:LV}{g:Nat}(u:g=w.heap.size):Sl (w.alloc (.cells cs.toArray e)) Any cs.length (aO g) 1 cs:=by
 subst u;exact Lr w e cs
theorem St.oH{I:aH}{w:World}{L:List aw}(h:St I w L)(e:TypeId)(size n:Nat)(U:LV)(C:U.length=n*size)(W:n<=100000)(g:Nat)(u:g=w.heap.size:=by simp):St I (w.alloc (.cells U.toArray e)) (bY e size (.slice (aO g) n n) n U::L):=by
 subst u;refine h.newRow ((Fr.refl _ _).alloc _) (tr (eF.new w e U.toArray) ?_ ?_ (g9 _) acV (jG _)) (λb B=> ?_)
 ·rw[<-C];exact acy
 ·simpa using C
 ·simp[Value.ownBlock]at B;omega
theorem St.pK{I:aH}{w:World}{L:List aw}(h:St I w L)(e:TypeId)(k:IntKind)(xs:LI)(W:xs.length<=100000)(g:Nat)(u:g=w.heap.size:=by simp):St I (w.alloc (.cells (xs.map (Value.int k)).toArray e)) (ai k (.slice (aO g) xs.length xs.length) xs::L):=
 (h.oH e 1 xs.length (xs.map (Value.int k)) acy W g u).ints
theorem oN{w:World}{p:Addr}{a b c:Value}(h:∀j u,[a,b,c][j]? =some u->w.cell? (p.add j)=some u):w.cell? p=some a/\w.cell? ⟨p.block,p.off+1,none⟩=some b/\w.cell? ⟨p.block,p.off+2,none⟩=some c:=
 ⟨by simpa[Addr.add]using h 0 a rfl,by simpa[Addr.add]using h 1 b rfl,by simpa[Addr.add]using h 2 c rfl⟩
end
section
def flat(b:Nat->LV)(n:Nat):LV:=(List.range n).flatMap b
theorem BB(b:Nat->LV)(n:Nat):flat b (n+1)=flat b n++b n:=by simp[flat,Yi]
theorem lZ{css:Nat->LV}{n size:Nat}(h:∀i,i<n->(css i).length=size):(flat css n).length=n*size:=by
 induction n with
 |zero=>simp[flat]
 |succ n K=>rw[BB,eG,K (λi z=>h i oM),h n oM,vq,Co]
theorem KX{css:Nat->LV}{n size:Nat}(h:∀i,i<n->(css i).length=size){i:Nat}(z:i<n):((flat css n).drop (i*size)).take size=css i:=by
 induction n with
 |zero=>omega
 |succ n K=>
  have C:=lZ (css:=css) (n:=n) (size:=size) (λi z=>h i oM);rw[BB];by_cases I:i<n
  ·have X:(i+1)*size<=n*size:=vl _ I
   rw[vq,Co]at X;rw[Wi oM,VQ acO];exact K (λi z=>h i oM) I
  ·have e:i=n:=oM
   subst e;rw[<-C,Ym,<-h i oM,MS]
section
variable {α:Type} {I:aH} {w:World} {L:List aw} {size:Nat} {R:World->LV->α->Prop} {xs:List α}
theorem bF.sl{A:OA}{n c:Nat}{b:Nat->LV}(h:bF w size R (.slice A n c) b xs)(U:0<size):Sl w Any size A n (flat b n)/\n=xs.length/\n<=c/\c<=maxLen/\(∀i,i<n->(b i).length=size):=by
 obtain⟨G,p,e,Z,V,M⟩:=h;injection e with S P t;subst S;subst P;subst t;have C:∀i,i<xs.length->(b i).length=size:=λi z=>by
  obtain⟨Y,_,Q,_⟩:=M i _ (gP z);exact Q
 refine⟨⟨lZ C,λW=> ?_⟩,rfl,Z,V,C⟩;obtain⟨Y,rfl,_,g,_⟩:=M 0 _ (gP W);have o:∀j u,(flat b xs.length)[j]? =some u->w.cell? (Y.add j)=some u:=by
  intro j u E;have N:j<xs.length*size:=by
   have:=(lQ.1 E).1;rwa[lZ C]at this
  have z:j/size<xs.length:=Nat.div_lt_of_lt_mul (by rwa[Xn]at N);obtain⟨x,e,_,D,_⟩:=M (j/size) _ (gP z);injection e with e;subst e;have a:=KX C z;have L:j%size<size:=Zf _ U;have d:(b (j/size))[j%size]? =some u:=by
   rw[<-a,AH,iP L,xV,show j/size*size+j%size=j from Nat.div_add_mod' j size];exact E
  have:=D (j%size) u d;rwa[dk,Nat.div_add_mod' j size]at this
 refine⟨Y,rfl,trivial,?_,o⟩;have T:0<(flat b xs.length).length:=by rw[lZ C];exact Nat.mul_pos W U
 have:=World.block_lt_of_cell? _ _ (o 0 _ (gP T));rwa[fl]at this
theorem St.vm{v:Value}(h:St I w (aB size R v xs::L)):∃b,St I w (aS (λO=>bF O size R v b xs)::L):=h.ex
end
end
section
theorem sY(z:Value)(k:Nat):Builtin.zeroCells #[z] k=(List.replicate k z).toArray:=by
 apply zdd.1;unfold Builtin.zeroCells;apply YB;intro i;simp only[Zc,zc3,wO];by_cases S:i<k*1
 ·rw[show(#[z]:Vq).size=1 from rfl,Xy S,List.getElem?_replicate,iP oM]
  simp[Nat.mod_one]
 ·rw[show(#[z]:Vq).size=1 from rfl,KP (by simpa using YK S),KP acC]
  rfl
section
variable {P:Program} {I:aH} {w:World} {L:List aw} {t j e:TypeId} {z:Value} {bytes:Nat} {A:OA} {n c:Nat} {xs:LV}
theorem St.Ow{T:IntKind}(q:eB P t e z 1 bytes)(Q:z.cells= #[z])(G0:z.oneCell'=true)(y:P.underlying j=some (.int T))(h:St I w (bY e 1 (.slice A n c) n xs::L))(X:TypeId)(M:IntKind)(k:Nat)
 (C:(n+k)*bytes<=140737488355328) (hn:n+k<=140737488355328) (hk:(k:Int)*(bytes:Int)<=281474976710656):
 ∃v' O,(Builtin.append_ #[t,j] X #[.slice A n c,.int M k]).run P w= .ok v' O/\St I O (bY e 1 v' (n+k) (xs++List.replicate k z)::L):=by
 obtain⟨K,H,x,Z,J⟩:=info_parts q.jW;have Y:=h.row 0 rfl;have hw:IntKind.i64.wrap (k:Int)=k:=by rw[IntKind.wrap_i64];omega
 have D0:¬((k:Int)<0):=oM
 have E:¬(281474976710656<(k:Int)*(K.bytes:Int)):=by rw[J];omega
 by_cases W:k=0
 ·subst W
  refine⟨.slice A n c,w,?_,by simpa using h⟩;have i:n<=c:=by
   rcases Y.2 with⟨S,u⟩|⟨g,cap,l,S,_,_,D,_⟩
   ·rw[u];exact jG _
   ·injection S with _ _ d
    subst d;exact D
  have r:IntKind.i64.wrap 0=0:=by rw[IntKind.wrap_i64];omega
  cases A with
  |none=>simp[Builtin.append_,run_underlying q.ht,run_underlying y,sizeOf,typeInfo,H,asInt,asIntOf,r,i]
  |some a=>simp[Builtin.append_,run_underlying q.ht,run_underlying y,sizeOf,typeInfo,H,asInt,asIntOf,r,i,storeCells]
 by_cases i:n+k<=c
 ·rcases Y.2 with⟨S,u⟩|⟨g,cap,l,S,B0,B,D,o,U,R⟩
  ·injection S with _ _ d
   omega
  ·injection S with S _ d
   subst S;subst d;simp only[UF]at U R;have V:=run_storeCells_at P g n e (List.replicate k z) 0 l w B acC (λL0 hu=>by rw[zcz hu];exact G0);simp only[vt,Sr]at V;have J0:¬(k*1=0):=oM
   have p:=sY z k;have F0:(Builtin.append_ #[t,j] X #[.slice (aO g) n c,.int M k]).run P w= .ok (.slice (aO g) (n+k) c) (w.setRow g (l.toList.take n++List.replicate k z++l.toList.drop (n+k)).toArray):=by
    simp[Builtin.append_,run_underlying q.ht,run_underlying y,sizeOf,typeInfo,zeroValue,H,x,Z,asInt,asIntOf,hw,D0,E,i,W,Q,p,Addr.add_lit,V]
   refine⟨_,_,F0,h.oU (v':= .slice (aO g) (n+k) c) ⟨?_,.inr ⟨g,c,_,rfl,jG _,setRow_heap w g l _ e _ B,i,o,?_,?_⟩⟩ ⟨rfl,rfl,rfl,by simp,λH0 _ hj=>setRow_other w g H0 _ (λe=>hj (by simp[Value.ownBlock,e]))⟩ (.inl rfl)⟩
   ·rw[eG,Y.1,Sr];omega
   ·simp only[So,eG,fJ,km,VX,Sr]
    omega
   ·rw[R,UF]
    have hl:(xs++List.replicate k z).length=n+k:=by rw[eG,Y.1,Sr];omega
    rw[<-hl];exact XL
 ·have E0:(Builtin.firstCells K.size n (.slice A n c)).run P w.drew= .ok xs.toArray w.drew:=by
   rcases Y.2 with⟨S,u⟩|⟨g,cap,l,S,B0,B,D,o,U,R⟩
   ·injection S with S I0 d
    subst S;subst u;subst d;have:xs=[]:=AJ (by simpa using Y.1);subst this
    rfl
   ·injection S with S _ d
    subst S;subst d;exact run_firstCells_some (P:=P) w.drew K.size n ⟨g,0,none⟩ n c xs (by rw[Z];exact Y.1) (Y.cells (g:=g) rfl)
  have G:=Lib.run_append_grow_zeros (P:=P) w t j X e K z M T q.ht y H x A n c xs E0 k oM (by rw[Z];omega) oM oM (by rw[J];omega) (growslice_fits oM (by rw[J];exact C));have C0:=grownCap_ge w (n+k) c e;have A0:grownCap w (n+k) c e<=maxLen:=grownCap_le_maxLen w (n+k) c e acV;have p:=sY z k;have F:(xs++List.replicate k z).length=n+k:=by rw[eG,Y.1,Sr];omega
  refine⟨_,_,G,h.tail.newRow ((Fr.refl _ _).drew.alloc _) ⟨by rw[F,UF],.inr ⟨w.heap.size,_,_,rfl,jG _,heap_alloc_new w.drew _,C0,A0,?_,?_⟩⟩ (λb N=>by simp[Value.ownBlock]at N;omega)⟩
  ·have K0:=Y.1
   simp only[Array.size_append,So,size_zeroCells,Q];exact acC
  ·simp only[Array.toList_append,Q,p]
   rw[UF,<-F];exact XL
end
end
theorem Hb{α:Type}{size:Nat}(A:List (LV×α))(C:∀p∈A,p.1.length=size):(A.flatMap (·.1)).length=A.length*size:=by
 induction A with
 |nil=>exact acy
 |cons p r K=>rw[Bo,eG,C p acy,K (λq d=>C q (by simp[d])),oO,vq,Co,ZF]
theorem Ij{α:Type}{size:Nat}(A:List (LV×α))(C:∀p∈A,p.1.length=size):∀(i:Nat) (p:LV×α),A[i]? =some p->((A.flatMap (·.1)).drop (i*size)).take size=p.1:=by
 induction A with
 |nil=>intro i p h;simp at h
 |cons q r K=>
  intro i p h;rw[Bo];have d:=C q acy
  cases i with
  |zero=>
   obtain rfl:q=p:=by simpa using h
   rw[Yq,AW,<-d,XL]
  |succ i=>
   rw[vq,Co,ZF,<-d,zdg,d];rw[Qz oM,xL,show size+i*size-size=i*size by omega];exact K (λq d=>C q (by simp[d])) i p acX
theorem St.uT{α:Type}{I:aH}{w:World}{L:List aw}{R:World->LV->α->Prop}{size:Nat}(A:List (LV×α))(e:TypeId)(C:∀p∈A,p.1.length=size)(h:St I w (aS (λO=>∀p∈A,R O p.1 p.2)::L))(W:A.length<=100000)(g:Nat)(u:g=w.heap.size:=by simp):
 St I (w.alloc (.cells (A.flatMap (·.1)).toArray e)) (aB size R (.slice (aO g) A.length A.length) (A.map (·.2))::L):=by
 have Z:=(h.bu (R':=λO=>∀i x,(A.map (·.2))[i]? =some x->R O (((A.flatMap (·.1)).drop (i*size)).take size) x) (λO G i x z=>by
  rw[wO]at z
  cases o:A[i]? with
  |none=>rw[o]at z;cases z
  |some p=>
   rw[o]at z;obtain rfl:p.2=x:=by simpa using z
   rw[Ij A C i p o];exact G p (pJ o))).oH e size A.length (A.flatMap (·.1)) (Hb A C) W g u
 exact Z.rows acy
section
section
variable {P:Program} {I:aH} {w O:World} {L:List aw} {t e:TypeId} {z:Value} {size bytes:Nat} {n:Nat} {xs:LV}
theorem St.FG(q:eB P t e z size bytes)(h:St I w L)(X:TypeId){S:OA}(M:Sl w Any size S n xs)(A:OA)(m c:Nat)(R:LV)(E:Sl w Any size A m R)(Z:∀u∈R,u.oneCell'=true)(o:0<m)
 (B:(n+m)*bytes<=140737488355328) (W:n+m<=140737488355328):
 ∃d O,(Builtin.append_ #[t,t] X #[.slice S n n,.slice A m c]).run P w= .ok d O/\St I O (bY e size d (n+m) (xs++R)::L):=by
 rcases S with _|b
 ·have K:n=0:=by
   rcases Ox n with K|K
   ·exact K
   ·obtain⟨Y,h,_⟩:=M.2 K
    cases h
  subst K;have J:xs=[]:=AJ (by simpa using M.1);subst J;exact St.uU q (h.my e size) X A m c R E Z B W
 ·obtain⟨i0,Q,x,U,j⟩:=info_parts q.jW
  obtain⟨Y,rfl,_,C0,D⟩:=E.2 o;obtain⟨d,O,C,H,G⟩:=run_append_arg_grows (P:=P) w t X e i0 z size bytes q.ht Q x U j q.Jg q.mT b n n xs M.1 (λA0 u l=>by
   rcases Ox n with K|K
   ·subst K
    have J:xs=[]:=AJ (by simpa using M.1);subst J;simp at l
   ·obtain⟨B0,N,_,_,a⟩:=M.2 K
    injection N with N;subst N;exact a A0 u l) Y m c R E.1 D oM acV B
  refine⟨d,O,C,?_⟩;have T:O.ownsRow 0 e size d (n+m) (xs++R):=⟨H.1,by
   rcases H.2 with V|⟨g,cap,p,y,e2,r⟩
   ·exact .inl V
   ·exact .inr ⟨g,cap,p,y,jG _,r⟩⟩
  refine h.newRow ((Fr.refl _ _).grown G (λk F=>by cases F)) T (λg i=> ?_);exact(H.lt g i).1
theorem Rx{Q:Exit->Act->World->Prop}{S:World->Prop}{b:Nat}{l:List Oper}{i:Nat}{r:List Nat}{a:Act}{o:Oper}(q:eB P t e z size bytes)(h:St I w L)(E:l[i]? =some o)(H:o.guard=none)(s x:Operand)
 (X:o.op= .call {callee:= .builtin .append,args:= #[s,x],argTypes:= #[t,t]}) {j:OA} (U:a.eval s= .slice j n n) (M:Sl w Any size j n xs)
 (A:OA) (m c:Nat) (J:a.eval x= .slice A m c) (R:LV) (g:Sl w Any size A m R) (Z:∀u∈R,u.oneCell'=true) (y:0<m)
 (B:(n+m)*bytes<=140737488355328) (W:n+m<=140737488355328)
 (k:∀G p O,St I O (bY e size (.slice G (n+m) p) (n+m) (xs++R)::L)->(i<b->S O)/\dF P l.toArray Q S b r (a.put o.dst (.slice G (n+m) p)) O):dF P l.toArray Q S b (i::r) a w:=by
 obtain⟨d,O,C,V⟩:=St.FG q h o.type M A m c R g Z y B W;exact afu
theorem St.YU{α:Type}{R:World->LV->α->Prop}{g:List α}{v c:Value}{q:Nat}{css:Nat->LV}{cs:LV}{x:α}
 (h:St I w (bY e size v (q+1) (flat css q++cs)::aS (λO=>bF O size R c css g)::aS (λO=>R O cs x)::L)) (d:q=g.length) (D:cs.length=size) (C:∀i,i<q->(css i).length=size):
 St I w (aS (λO=>bF O size R v (λi=>((flat css q++cs).drop (i*size)).take size) (g++[x]))::L):=by
 subst d;have E:=lZ (css:=css) (n:=g.length) C;refine(h.xQ.sh.ku (Q:=λO=>∀i y,(g++[x])[i]? =some y->R O (((flat css g.length++cs).drop (i*size)).take size) y) (λO Z V i y z=> ?_)).swap.ku (λO Z V=>bF.qo Z acy V);by_cases B:i<g.length
 ·rw[Uu B]at z
  have X:(i+1)*size<=g.length*size:=vl _ B;rw[vq,Co]at X;rw[Wi oM,VQ acO,KX C B];obtain⟨_,_,_,_,_,M⟩:=Z;obtain⟨_,_,_,_,F⟩:=M i y z;exact F
 ·have X:=(lQ.1 z).1
  have a:i=g.length:=by simp at X;omega
  subst a;rw[OU (g9 _),UC]at z;obtain rfl:x=y:=by simpa using z
  rw[<-E,Ym,<-D,MS];exact V
end
end
section
def ff(b:Nat)(o:Obj):aw where
 holds _ w F:=(∀x,F x↔x=b)/\w.heap[b]? =some o
 lt h hb:=by rw[(h.1 _).1 hb];exact(DZ.1 h.2).1
 loc h _ _ hb:=⟨h.1,(hb _ ((h.1 _).2 rfl)).trans h.2⟩
section
variable {I:aH} {w:World} {L:List aw} {b:Nat} {o:Obj}
theorem St.obj(h:St I w L)(i:Nat)(z:L[i]? =some (ff b o)):w.heap[b]? =some o:=by
 exact aeP
theorem St.Cy(h:St I w L)(o:Obj):St I (w.alloc o) (ff w.heap.size o::L):=
 h.add (F':=(·=w.heap.size)) ((Fr.refl _ _).alloc _) (λ_ _=>⟨λ_=>Wb,heap_alloc_new w _⟩) (λ_ B=>ZG B.symm)
theorem St.ul(h:St I w (ff b o::L))(g:Obj):St I (w.putObj b g) (ff b g::L):=by
 have N:b<w.heap.size:=(DZ.1 (h.obj 0 rfl)).1;obtain⟨M,F,_,_,J,_,Q⟩:=h.head;refine Q _ _ F ⟨rfl,rfl,rfl,by simp,λk _ U=>World.putObj_heap_other (λe=>U ((J.1 k).2 e))⟩ (λ_=>⟨J.1,World.putObj_heap_same N⟩) (λ_ B=> .inl B)
end
abbrev tL(fn:FuncId)(tmps:Vq)(A:Array Tmp)(assign body:Code)(D:Nat)(p:LoopState):Loop:={state:=p,pending:=none,fn:=fn,tmps:=tmps,params:=A,assign:=assign,body:=body,defers:=D}
theorem uJ{P:Program}{g:Operand}{A:Array Tmp}{assign b:Code}{Q:Exit->Act->World->Prop}{a:Act}{w:World}{I:aH}{L:List aw}{gf:Nat}{lb:Vq}{n:Nat}
 (u:a.eval g= .func (.func gf) #[] lb) (l:∀args w,(callFunc gf args).run P w= .ok (.enter gf args) w) (h:St I w L)
 (o:∀(Y:FuncId) (y D:Nat) (O:World),St I O (ff y (.loop (tL Y a.tmps A assign b D .ready))::ff D (.deferred (some []))::L)->
  CallsIn Fence.wide (n-1) P gf (#[.func (.yield y) #[] #[]]++lb) O λe k=>(∃v,e= .returned v)/\∃t,St I k (ff y (.loop (tL Y a.tmps A assign b D .ready))::ff D (.deferred (some []))::t)/\
   (∀r,St I r (ff D (.deferred (some []))::t)->Q .normal {a with defers:={target:= .collected D,args:= #[]}::a.defers} r)):
 (Code.rangeFunc g A assign b).wpIn Fence.wide n P Q a w:=by
 refine wpIn_rangeFunc ?_;intro Y _;have Z:=(h.Cy (.deferred (some []))).Cy (.loop (tL Y a.tmps A assign b w.heap.size .ready));rw[World.size_alloc]at Z;refine⟨w.heap.size+1,[{target:= .collected w.heap.size,args:= #[]}],(w.alloc (.deferred (some []))).alloc (.loop (tL Y a.tmps A assign b w.heap.size .ready)),{target:= .fn (.func gf) lb,args:= #[.func (.yield (w.heap.size+1)) #[] #[]]},(w.alloc (.deferred (some []))).alloc (.loop (tL Y a.tmps A assign b w.heap.size .ready)),gf,
  #[.func (.yield (w.heap.size+1)) #[] #[]]++lb,(w.alloc (.deferred (some []))).alloc (.loop (tL Y a.tmps A assign b w.heap.size .ready)),?_,?_,?_,?_,λq=> ?_,?_⟩
 ·exact run_enterLoop_outer _ _ _ _ _
 ·simp only[resolve,u]
  exact adl
 ·intro E _
  trivial
 ·simp[invoke,go_sem,l]
 ·simp[Fence.wide]at q
 ·refine(o Y (w.heap.size+1) w.heap.size _ Z).mono ?_
  rintro e k⟨⟨v,rfl⟩,t,V,d⟩;have C:=V.obj 0 rfl;exact⟨none,_,run_endLoop C acy,d _ (V.ul _).tail⟩
theorem Pn{P:Program}{y D:Nat}{Y:FuncId}{tmps args:Vq}{A:Array Tmp}{assign b:Code}{I:aH}{W:World}{L:List aw}{n:Nat}(L':List aw)(T:Act)
 (h:St I W (ff y (.loop (tL Y tmps A assign b D .ready))::L)) (U:args.size=A.size)
 (a:∀(O:World) (K:Act->World->Prop),K T O->assign.wpIn (Fence.wide.inRound y) n P (Exit.then K (λ_ _ _=>False)) {tmps:=(A.zip args).foldl (λt (p,v)=>t.setIfInBounds p v) tmps,defers:=[]} O)
 (c:∀O,St I O (ff y (.loop (tL Y tmps A assign b D .busy))::L)->b.wpIn (Fence.wide.inRound y) n P (λe _ k=>e= .normal/\St I k (ff y (.loop (tL Y tmps A assign b D .busy))::L')) T O):
 YieldAt Fence.wide n P y args W λe k=>e= .returned (.bool true)/\St I k (ff y (.loop (tL Y tmps A assign b D .ready))::L'):=by
 have C:=h.obj 0 rfl;refine⟨Y,_,assign,b,run_yield C U,roundIn_of_wpIn trivial (a W _ ⟨_,run_beginRound C rfl,?_⟩)⟩;refine wpIn_mono (c _ (h.ul _)) ?_;exact ae9
end
section
def po(g:Nat)(r:Rd):aw:=AU λv=>aX (ab g 303 #[v,.bool r.s]) (ai .u8 v r.xs)
section
variable {I:aH} {w:World} {L:List aw} {g:Nat}
theorem St.rd(h:St I w (po g r::L)):∃A c,r.xs.length<=c/\c<=9223372036854775807/\St I w (ab g 303 #[.slice A r.xs.length c,.bool r.s]::ai .u8 (.slice A r.xs.length c) r.xs::L):=by
 obtain⟨v,h⟩:=h.ex;have h:=h.star;obtain⟨A,c,rfl,Z,V,_⟩:=h.get 1 rfl;exact⟨A,c,Z,V,h⟩
theorem St.LK{v:Value}{xs:LI}{s:Bool}(h:St I w (ab g 303 #[v,.bool s]::ai .u8 v xs::L)):St I w (po g ⟨xs,s⟩::L):=
 h.aM.cZ (f:=λv=>aX (ab g 303 #[v,.bool s]) (ai .u8 v xs)) v
end
theorem aA.drop{w:World}{k:IntKind}{A:OA}{n c m:Nat}{xs:LI}(h:aA w k (.slice A n c) xs)(y:m<=n)(G:OA)(r:m<n->G=A.map (·.add m)):aA w k (.slice G (n-m) (c-m)) (xs.drop m):=by
 obtain⟨K,Z,V,M⟩:=h.sl;have C:(xs.drop m).length=n-m:=by rw[km];omega
 refine⟨G,c-m,by rw[C],by rw[C];omega,by unfold maxLen;omega,by rw[nL];omega,λo=> ?_⟩;rw[C]at o;obtain⟨Y,e,d,B,D⟩:=M.2 oM;subst e;refine⟨Y.add m,by rw[r oM];rfl,trivial,by rw[fl];exact B,λj u E=> ?_⟩;rw[dk];refine D (m+j) u ?_;rwa[WT,xV]at E
theorem Lu{I:aH}{L:List aw}(g:Nat)(r:Rd)(n:Nat)(w:World)(h:St I w (po g r::L)):
 Calls prog 175 #[pO g,iI n] w λe O=>∃v,e= .returned v/\St I O (ai .u8 v (r.take n).1::po g (r.take n).2::L):=by
 obtain⟨xs,s⟩:=r;obtain⟨A,c,D,y,h⟩:=h.rd;simp only at D h;unfold Rd.take;have z:=(h.ah 0 rfl).cell 0;have Y:=(h.ah 0 rfl).cell 1;have f0:=(h.ah 0 rfl).frozen 0;have f1:=(h.ah 0 rfl).frozen 1;have H:=aa h;clear h
 cases s with
 |true=>
  rw[iP (.inl rfl)]
  exact aen
 |false=>
  by_cases B:xs.length<n
  ·rw[iP (.inr B)]
   exact aen
  ·rw[iN acC]
   have key:∀G:OA,(n<xs.length->G=A.map (·.add n))->St I ((w.setCell ⟨g,1,none⟩ (.bool false)).setCell ⟨g,0,none⟩ (.slice G (xs.length-n) (c-n))) (ai .u8 (.slice A n c) (xs.take n)::po g ⟨xs.drop n,false⟩::L):=by
    intro G C;have h:=((H.bI 1 (.bool false)).bI 0 (.slice G (xs.length-n) (c-n))).swap;have Z:=((h.copy 0 rfl).bu (R':=λO=>aA O .u8 (.slice A n c) (xs.take n)) (λO h=>h.cut oM));have V:=Z.swap.bu (R':=λO=>aA O .u8 (.slice G (xs.length-n) (c-n)) (xs.drop n)) (λO h=>h.drop oM _ C);exact(St.LK V.tX).swap
   have u:=aa key;clear key
   go_enter func175,ntmps175
   go_wp2
   all_goals
    go_ret
    first
    |exact⟨_,rfl,u _ (λ_=>rfl)⟩
    |(
     obtain rfl:c=n:=oM
     have Z:=u.out A (λ_=>oM);rw[UC]at Z;exact⟨_,rfl,Z⟩)
theorem Qh(a c:Int)(k:Nat)(Q:0<=a)(Z:a<256^k)(D:0<=c)(F:k<8)(V:c<=255):bits .or .u64 a (IntKind.u64.wrap (c*2^(8*k)))=a+c*256^k:=by
 obtain⟨A,rfl⟩:=zY Q;obtain⟨C,rfl⟩:=zY D;have o:(256:Int)^k=((2^(8*k):Nat):Int):=by
  rw[Nat.pow_mul];exact acy
 rw[o]at Z⊢;have n:(2:Nat)^(8*k)<=2^56:=Nat.pow_le_pow_right oM oM;have G:C*2^(8*k)<=255*2^56:=Nat.mul_le_mul oM n;have S:(C:Int)*2^(8*k)=((C*2^(8*k):Nat):Int):=by simp
 have P:(C:Int)*((2^(8*k):Nat):Int)=((C*2^(8*k):Nat):Int):=by simp
 rw[S,P,IntWalk.u64_in _ oM,u64_or_nat A _ oM oM];have:=Nat.two_pow_add_eq_or_of_lt (i:=8*k) (b:=A) oM C;rw[Nat.or_comm,Xn C,<-this];omega
theorem bM{I:aH}{L:List aw}(g:Nat)(r:Rd)(size:Int)(w:World)(Y:Bytes r.xs)(C:r.xs.length<=140737488355328)(Q:r.s=true->r.xs=[])(h:St I w (po g r::L)):
 Rt I w 136 #[pO g,iI size] (iU (r.num size).1) (po g (r.num size).2::L):=by
 obtain⟨k,F⟩:=nM (r.size size);have M:(size<1\/8<size->k=r.xs.length+1)/\(1<=size->size<=8->(k:Int)=size):=by
  subst F;unfold Rd.size
  split<;>omega
 have A0:(r.take k).1.length<=8:=by
  have:=r.take_len k;rcases(by omega:(size<1\/8<size)\/1<=size/\size<=8)with Z|Z
  ·unfold Rd.take
   have:=M.1 Z;rw[iP (.inr oM)];exact acy
  ·have:=M.2 Z.1 Z.2
   omega
 have n:=(r.rZ k Y).1;have T:=aa (λw (h:St I w (po g r::L))=>Lu g r k w h);unfold Rd.num;rw[<-F];have U:=aa F;generalize(r.take k).1=out at*;generalize(r.take k).2=r2 at*;clear F;obtain⟨xs,s⟩:=r;obtain⟨A,c,D,hm,Z⟩:=h.rd;simp only at D Z Y C Q M;have d:=(Z.ah 0 rfl).cell 0;have H:=aa h;clear h Z;rcases(by omega:size<1\/8<size\/(1<=size/\size<=8))with Z|Z|⟨Z,S⟩
 case' inl=>obtain rfl:=M.1 (.inl Z)
 case' inr.inl=>
  obtain rfl:=M.1 (.inr Z);have P:¬size<1:=oM
 case' inr.inr=>
  obtain rfl:=M.2 Z S;have P:¬(k:Int)<1:=oM
  have p:¬8<(k:Int):=oM
 all_goals
  go_enter func136,ntmps136
  go_wp2_with fail
  refine(T _ H).mono ?_;rintro e w1⟨v,rfl,h⟩;clear T H d;obtain⟨t,X,rfl,_,_,_⟩:=h.get 0 rfl;generalize E:out.length=q at*;refine bm E h λz H=>?_;clear E h
  go_wp2_with fail
  go_loop [5,24] (λx i=>∃j:Nat,j<=q/\i= iI j/\x= iU (ik (out.take j))) (λ_ i=>q-(intOf i).toNat)
  case atStart=>exact⟨0,jG _,rfl,rfl⟩
  case round=>
   obtain⟨j,hj,rfl,rfl⟩:=hrel;by_cases B:j<q
   ·have J:=gP (l:=out) (i:=j) (by rw[z.out];exact B)
    generalize out[j]'(by rw[z.out];exact B)=x at J;obtain⟨N,u,rfl,_,_,o,y⟩:=(H.get 0 rfl).sl.2.2.2.at_ B;rw[wO,J]at o;obtain rfl:Value.int .u8 x=u:=by simpa using o
    have K:isByte x:=n x (pJ J);unfold isByte at K;obtain⟨O,W⟩:=K;have G:=iH (n.take j);have R:(out.take j).length=j:=by rw[fJ,z.out];omega
    rw[R]at G;have b:=RU (out.take j) x;rw[R,show out.take j++[x]=out.take (j+1)by rw[Et,J];rfl]at b;have V:=aa b;have E:=Qh (ik (out.take j)) x j G.1 G.2 O oM W;generalize ik (out.take j)=a at*;have w8:IntKind.i64.wrap (8*(j:Int))=8*(j:Int):=IntWalk.i64_in _ oM;have w0:(0:Int)<=8*(j:Int):=oM
    have wl:8*(j:Int)<=64:=oM
    have w2:(8*(j:Int)).toNat=8*j:=oM
    clear b J o G R
    go_wp2
    go_round
    case rel=>exact⟨j+1,oM,by go_num,by rw[V.out]⟩
    case measure=>exact aeI
   ·obtain rfl:j=q:=oM
    have e:out.take j=out:=nS (by rw[z.out];exact g9 _);rw[e];clear e
    go_wp2
    go_ret
    exact afs
theorem Rd.Nq(r:Rd)(size:Int)(B:Bytes r.xs)(_hl:r.xs.length<=140737488355328):Bytes (r.num size).2.xs/\(r.num size).2.xs.length<=r.xs.length/\0<=(r.num size).1/\(r.num size).1<18446744073709551616:=by
 have Z:=r.rZ (r.size size) B;have V:=r.take_len (r.size size);have M:=iH Z.1;refine⟨Z.2,V.2.2,M.1,Yv M.2 (RS ?_)⟩;unfold Rd.size at V⊢
 split at V
 ·rename_i h
  rw[iP h];unfold Rd.take;rw[iP (.inr oM)];exact acy
 ·rename_i h
  rw[iN h];omega
theorem Rd.XW(r:Rd)(n:Nat):(r.take n).2.s=true->(r.take n).2.xs=[]:=by
 unfold Rd.take
 split
 ·intro _;rfl
 ·intro h;cases h
theorem Rd.VF(r:Rd)(B:Bytes r.xs):(r.num 2).1<65536:=by
 have Z:=r.rZ (r.size 2) B;have V:=r.take_len (r.size 2);have M:=iH Z.1;have Q:(r.take (r.size 2)).1.length<=2:=V.1;refine Yv M.2 ?_;have:∀k,k<=2->(256:Int)^k<=65536:=dC
 exact this _ Q
theorem qP{I:aH}{L:List aw}(g:Nat)(r:Rd)(w:World)(h:St I w (po g r::L)):
 Rt I w 137 #[pO g] (iI r.kx) (po g r::L):=by
 obtain⟨xs,s⟩:=r;obtain⟨A,c,D,y,Z⟩:=h.rd;have z:=(Z.ah 0 rfl).cell 0;have Y:=(Z.ah 0 rfl).cell 1;simp only at D z Y;have H:=aa h;clear Z h;unfold Rd.kx
 cases s with
 |true=>
  go_enter func137,ntmps137
  go_wp2
  go_ret
  exact⟨rfl,H⟩
 |false=>
  by_cases K:0<xs.length
  ·exact afK
  ·exact afK
theorem ox{I:aH}{L:List aw}(v:Value)(xs:LI)(w:World)(h:St I w (ai .u8 v xs::L)):
 Calls prog 133 #[v] w λe O=>∃g,e= .returned (pO g)/\St I O (po g ⟨xs,false⟩::ai .u8 v xs::L):=by
 obtain⟨A,c,rfl,_,_,_⟩:=h.get 0 rfl;have H:=aa h;clear h
 go_enter func133,ntmps133
 go_wp2
 go_ret
 exact⟨w.heap.size,rfl,St.LK (((H.copy 0 rfl).alloc 303 #[.slice A xs.length c,.bool false]))⟩
structure Rd.Ok(r:Rd):Prop where
 hb:Bytes r.xs
 hl:r.xs.length<=140737488355328
 hz:r.s=true->r.xs=[]
theorem Rd.Ok.take(h:r.Ok)(n:Nat):(r.take n).2.Ok:=
 ⟨(r.rZ n h.hb).2,qJ (r.take_len n).2.2 h.hl,r.XW n⟩
theorem Rd.Ok.num(h:r.Ok)(size:Int):(r.num size).2.Ok:=h.take _
theorem Rd.Ok.gE(h:r.Ok):r.gE.2.Ok:=(h.num 2).take _
theorem Rd.Ar(r:Rd)(B:Bytes r.xs)(m:Nat)(y:m<=8)(Z:1<=m):0<=(r.num m).1/\(r.num m).1<256^m:=by
 have P:=r.rZ (r.size m) B;have V:=r.take_len (r.size m);have M:=iH P.1;have U:r.size (m:Int)=m:=by
  unfold Rd.size;rw[iN oM,qG]
 have Q:(r.take (r.size m)).1.length<=m:=by have:=V.1;rw[U]at this⊢;exact this
 refine⟨M.1,Yv M.2 ?_⟩;have:∀m,m<=8->∀k,k<=m->(256:Int)^k<=256^m:=dC
 exact this m y _ Q
theorem Rd.mO(h:r.Ok):0<=(r.num 1).1/\(r.num 1).1<256:=r.Ar h.hb 1 oM oM
theorem Rd.lC(h:r.Ok):0<=(r.num 4).1/\(r.num 4).1<4294967296:=r.Ar h.hb 4 oM oM
theorem Rd.yb(h:r.Ok):0<=(r.num 8).1/\(r.num 8).1<18446744073709551616:=r.Ar h.hb 8 oM oM
theorem BG(n:Int)(k:Nat):aT n (k+1)=n%256::aT (n/256) k:=by
 unfold aT;rw[List.range_succ_eq_map,li,UW]
 congr 1
 ·exact acy
 ·apply Yk
  intro i _;simp only[Function.comp];rw[Nat.succ_eq_add_one,zde,zdA,<-Int.ediv_ediv_of_nonneg oM]
theorem Gy(n:Nat)(k:Nat):ik (aT n k)=((n%256^k:Nat):Int):=by
 induction k generalizing n with
 |zero=>simp[Ch,ik,Nat.mod_one]
 |succ k K=>
  rw[BG,ik,show(n:Int)/256=((n/256:Nat):Int)by omega,K,Nat.pow_succ,Xn (256^k),Nat.mod_mul];omega
theorem zO{t:LI}(h:Bytes t):aT (ik t) t.length=t:=by
 induction t with
 |nil=>rfl
 |cons x r K=>
  have J:=h x Je;unfold isByte at J;rw[oO,BG,ik];rw[show(x+256*ik r)%256=x by omega,show(x+256*ik r)/256=ik r by omega,K (λy E=>h y (Dl _ E))]
theorem Rd.take_append(a b:LI):Rd.take ⟨a++b,false⟩ a.length=(a,⟨b,false⟩):=by
 unfold Rd.take;rw[iN acy,XL,Ym]
theorem Rd.pR(n:Nat)(k:Nat)(Z:1<=k)(S:k<=8)(b:LI):Rd.num ⟨aT n k++b,false⟩ (k:Int)=(((n%256^k:Nat):Int),⟨b,false⟩):=by
 have e:Rd.size ⟨aT n k++b,false⟩ (k:Int)=(aT (n:Int) k).length:=by
  unfold Rd.size;rw[iN oM,aq];omega
 unfold Rd.num;rw[e,Rd.take_append,Gy]
theorem Rd.Bx{n:Nat}(h:(r.take n).2.s=false):r.s=false/\r.xs=(r.take n).1++(r.take n).2.xs/\(r.take n).1.length=n:=by
 unfold Rd.take at h⊢
 split at h
 ·cases h
 ·rename_i D
  rw[iN D];have Z:r.s=false:=by
   cases U:r.s with
   |false=>rfl
   |true=>exact absurd (.inl U) D
  refine⟨Z,(IY n r.xs).symm,?_⟩;have:¬r.xs.length<n:=λH=>D (.inr H);show(r.xs.take n).length=n;exact acT
theorem Rd.zB{m:Nat}(B:Bytes r.xs)(Z:1<=m)(S:m<=8)(h:(r.num (m:Int)).2.s=false):r.s=false/\r.xs=aT (r.num (m:Int)).1 m++(r.num (m:Int)).2.xs/\0<=(r.num (m:Int)).1:=by
 have e:Rd.size r (m:Int)=m:=by
  unfold Rd.size;rw[iN oM];omega
 unfold Rd.num at h⊢;simp only[e]at h⊢;obtain⟨t,A,L⟩:=Rd.Bx h;have a:=(r.rZ m B).1;have:=zO a;rw[L]at this;exact⟨t,by rw[this];exact A,(iH a).1⟩
end
section
section
variable {P:Program} {ops:Array Oper} {Q:Exit->Act->World->Prop} {S:World->Prop}
def Oper.VC(P:Program)(K:Value->World->Prop):Result Next->Prop
 | .ok (.value v) O=>K v O
 | .ok .skip O=>K undef O
 | .ok (.enter f args) O=>Calls P f args O λe g=>∃v,e= .returned v/\K v g
 |_=>False
theorem Oper.OB{o:Oper}{a:Act}{next:Act->World->Prop}{K:Value->World->Prop}{r:Result Next}(h:Oper.VC P K r)(W:∀v O,K v O->next (a.put o.dst v) O):o.upon P a next Q r:=by
 cases r with
 |ok n O=>
  cases n with
  |value v=>exact W _ _ h
  |skip=>exact W _ _ h
  |enter f args=>exact Calls.mono h (λe g ⟨v,Y,F⟩=>by subst Y;exact W _ _ F)
  |_=>exact h.elim
 |halt x O=>exact h.elim
def WC(ops:Array Oper):Bool:=
 Region.noSelect ops&&(List.range ops.size).all λi=>match ops[i]? with
  |none=>true
  |some o=>o.after.all (λe=> !Region.binds .any e||decide (e.on<i))&&
   (List.range ops.size).all λj=>match(ops[j]?).bind (·.dst)with
    |none=>true
    |some d=>(!(o.looksAt ops).contains d||o.after.any λe=>Region.binds .any e&&e.on==j)&&(j==i||o.dst !=some d)
structure Vb(ops:Array Oper):Prop where
 sel:∀(j:Nat) (o:Oper) cs b,ops[j]? =some o->o.op≠ .select cs b
 up:∀(i:Nat) (o:Oper) e,ops[i]? =some o->e∈o.after->Region.binds .any e=true->e.on<i
 look:∀(i:Nat) (o:Oper) (j:Nat) (oj:Oper) (d:Tmp),ops[i]? =some o->ops[j]? =some oj->oj.dst=some d->d∈o.looksAt ops->∃e∈o.after,Region.binds .any e=true/\e.on=j
 NX:∀(i:Nat) (o:Oper) (j:Nat) (oj:Oper) (d:Tmp),ops[i]? =some o->ops[j]? =some oj->oj.dst=some d->o.dst=some d->j=i
theorem Vb.of(h:WC ops=true):Vb ops:=by
 simp only[WC,mq,yT,OW]at h;have lt:∀{i:Nat} {o:Oper},ops[i]? =some o->i<ops.size:=λz=>(DZ.1 z).1;refine⟨Region.noSelect_spec h.1,λi o e z Y B=> ?_,λi o j t d z N q C=> ?_,λi o j t d z N q H=> ?_⟩
 ·have Z:=h.2 i (lt z)
  rw[z]at Z;simp only[mq,Array.all_eq_true']at Z;have:=Z.1 e Y;rw[B]at this;simpa using this
 ·have Z:=h.2 i (lt z)
  rw[z]at Z;simp only[mq,yT,OW]at Z;have V:=Z.2 j (lt N);rw[N]at V;simp only[zdh,q,mq,Mo]at V;rcases V.1 with M|M
  ·rw[List.contains_iff_mem.2 C]at M
   cases M
  ·simp only[zc2]at M
   obtain⟨e,Y,Q⟩:=M;rw[mq,beq_iff_eq]at Q;exact⟨e,Y,Q⟩
 ·have Z:=h.2 i (lt z)
  rw[z]at Z;simp only[mq,yT,OW]at Z;have V:=Z.2 j (lt N);rw[N]at V;simp only[zdh,q,mq,Mo,beq_iff_eq]at V;rcases V.2 with M|M
  ·exact M
  ·rw[H]at M
   simp at M
theorem JA{a b:Act}{x:Operand}(h:∀t,x= .tmp t->a.tmps[t]? =b.tmps[t]?):a.eval x=b.eval x:=by
 cases x with
 |tmp t=>simp[Act.eval,h t rfl]
 |_=>rfl
theorem Gu{o:Oper}{a b:Act}(U:∀cs b,o.op≠ .select cs b)(h:∀d,d∈o.looksAt ops->a.tmps[d]? =b.tmps[d]?):execOp a.eval o=execOp b.eval o/\Region.wanted o (yielded ops a.tmps)=Region.wanted o (yielded ops b.tmps):=by
 refine⟨execOp_congr o U λx J=>JA λt R=>h t ?_,?_⟩
 ·subst R
  exact Wd _ (List.mem_filterMap.2 ⟨.tmp t,by simpa using J,rfl⟩)
 ·unfold Region.wanted
  cases u:o.guard with
  |none=>rfl
  |some B=>
   obtain⟨g,c⟩:=B;have E:yielded ops a.tmps g=yielded ops b.tmps g:=by
    unfold yielded
    cases R:(ops[g]?).bind (·.dst)with
    |none=>rfl
    |some t=>
     have:=h t (zcN _ (by simp[u,R]));simp[this]
   simp only[E]
theorem yZ(a:Act)(d:Option Tmp)(v:Value):(a.put d v).tmps.size=a.tmps.size:=by cases d<;>simp[Act.put]
theorem put_defers(a:Act)(d:Option Tmp)(v:Value):(a.put d v).defers=a.defers:=by cases d<;>rfl
theorem sn(a:Act){d:Option Tmp}{s:Nat}(v:Value)(h:d≠some s):(a.put d v).tmps[s]? =a.tmps[s]? :=by
 cases d with
 |none=>rfl
 |some t=>
  have I:t≠s:=λe=>h (by rw[e]);simp[Act.put,Array.getElem?_setIfInBounds_ne I]
theorem Ej(a:Act){s:Nat}(v:Value)(h:s<a.tmps.size):(a.put (some s) v).tmps[s]? =some v:=by simp[Act.put,h]
theorem rF{listed:Array Bool}{i:Nat}(h:listed.getD i true=false):i<listed.size/\(listed.setIfInBounds i true).toList.count false+1=listed.toList.count false:=by
 have B:i<listed.size:=by
  rcases ZQ i listed.size with E|E
  ·exact E
  ·simp[VT E]at h
 refine⟨B,?_⟩;have K:listed.toList[i]'(by simpa using B)=false:=by simpa[B]using h
 have T:0<listed.toList.count false:=List.count_pos_iff.2 (K▸Sp _);rw[zcs,List.count_set (by simpa using B),K,iP (by rfl),iN acy];omega
end
end
section
inductive At(X:aw):List aw->List aw->Prop
 |here {L:List aw}:At X (X::L) L
 |there {Y:aw} {L R:List aw}:At X L R->At X (Y::L) (Y::R)
inductive Sub:List aw->List aw->Prop
 |refl (L:List aw):Sub L L
 |drop {X:aw} {L L':List aw}:Sub L L'->Sub (X::L) L'
 |take {X:aw} {L R L':List aw}:At X L R->Sub R L'->Sub L (X::L')
theorem At.idx{X:aw}{L R:List aw}(h:At X L R):∃m:Nat,L[m]? =some X:=by
 induction h with
 |here=>exact⟨0,rfl⟩
 |there _ K=>obtain⟨m,y⟩:=K;exact⟨m+1,y⟩
theorem St.perm{I:aH}{w:World}{L t:List aw}(h:St I w L)(o:L.Perm t):St I w t:=by
 obtain⟨p,q,Y⟩:∃p:List Nat,p.Nodup/\p.map (L[·]?)=t.map some:=by
  suffices∀{A S:List aw},A.Perm S->∃p:List Nat,p.Nodup/\p.length=A.length/\(∀i∈p,i<A.length)/\p.map (A[·]?)=S.map some by
   obtain⟨p,Z,_,_,V⟩:=this o;exact⟨p,Z,V⟩
  intro A S o
  induction o with
  |nil=>exact⟨[],by simp,rfl,by simp,rfl⟩
  |cons x _ K=>
   obtain⟨p,Z,V,M,P⟩:=K;refine⟨0::p.map (·+1),?_,by simp[V],?_,?_⟩
   ·rw[XZ]
    exact⟨by simp,zcG _ (λa b d e=>d oM) Z⟩
   ·intro i z
    rcases nO.1 z with rfl|z
    ·exact acy
    ·obtain⟨j,N,rfl⟩:=oK.1 z
     have:=M j N;exact acC
   ·rw[li,UW,li,<-P]
    rfl
  |swap x y l=>
   refine⟨1::0::(List.range l.length).map (·+2),?_,by simp,?_,?_⟩
   ·rw[XZ,XZ]
    refine⟨?_,?_,zcG _ (λa b d e=>d oM) zdf⟩
    ·exact acy
    ·exact acy
   ·intro i z
    simp only[nO,oK,OW]at z;rcases z with rfl|rfl|⟨j,N,rfl⟩
    ·exact acy
    ·exact acy
    ·exact acC
   ·rw[li,li,UW,li,li]
    congr 2
    apply YB;intro i;by_cases z:i<l.length
    ·simp[Xy z,gP z]
    ·rw[KP acC,KP acC]
  |trans Z V c n=>
   obtain⟨p,H,g,Q,C⟩:=c;obtain⟨r,O,J,E,D⟩:=n;have W:=Z.length_eq;refine⟨r.map (λj=>p.getD j 0),?_,by simp;omega,?_,?_⟩
   ·refine zcG (R:=λa b=>a≠b/\a<p.length/\b<p.length) _ (λa b d e=> ?_) ?_
    ·rw[NP,NP,gP d.2.1,gP d.2.2,Sy,Sy]at e
     exact(Nat.lt_or_gt_of_ne d.1).elim (λZ=>zb5.1 H a b d.2.1 d.2.2 Z e) (λZ=>zb5.1 H b a d.2.2 d.2.1 Z e.symm)
    ·exact zdi (λu B d=>⟨d,by have:=E _ u;omega,by have:=E _ B;omega⟩) O
   ·intro i z
    obtain⟨j,N,rfl⟩:=oK.1 z;have:=E j N;rw[NP,gP (show j<p.length by omega),Sy];exact Q _ (Sp _)
   ·rw[UW,<-D]
    apply Yk;intro j N;have k:=E j N;have:=congrArg (·[j]?) C;simp only[wO]at this;rw[gP (show j<p.length by omega),gP k]at this;simp only[zcS,Xr]at this;show _[_]? =_;simp only;rw[NP,gP (show j<p.length by omega),Sy,this,gP k]
 exact h.DC p q Y
theorem At.perm{X:aw}{L R:List aw}(h:At X L R):L.Perm (X::R):=by
 induction h with
 |here=>exact zc0 _
 |there _ K=>exact(K.cons _).trans (List.Perm.swap _ _ _)
theorem Sub.st{L t:List aw}(h:Sub L t):∃u,L.Perm (t++u):=by
 induction h with
 |refl L=>exact⟨[],by simp⟩
 | @drop X L t _ K=>
  obtain⟨u,Z⟩:=K;exact⟨X::u,(Z.cons X).trans XM.symm⟩
 |take Q _ K=>
  obtain⟨u,Z⟩:=K;exact⟨u,Q.perm.trans (Z.cons _)⟩
theorem St.sub{I:aH}{w:World}{L L':List aw}(h:St I w L)(U:Sub L L':=by(repeat(first|with_reducible exact Sub.refl _|(with_reducible apply Sub.take;focus(repeat(first|with_reducible exact At.here|with_reducible apply At.there)))|with_reducible apply Sub.drop))):St I w L':=by
 obtain⟨u,o⟩:=U.st;have Z:=h.perm o;refine Z.DC (List.range L'.length) zdf ?_;apply YB;intro i;by_cases z:i<L'.length
 ·rw[wO,Xy z,wO,gP z,zcS,zcS,Uu z,gP z]
 ·rw[KP acC,KP acC]
section
variable {I:aH} {w:World} {L R:List aw}
theorem St.tT{g:Nat}{t:TypeId}(h:St I w L)(z:At (ab g t cs) L R:=by(repeat(first|with_reducible exact At.here|with_reducible apply At.there))):eF w g t cs:=by
 obtain⟨m,y⟩:=z.idx;exact h.ah m y
theorem St.jr{Q:World->Prop}(h:St I w L)(z:At (aS Q) L R:=by(repeat(first|with_reducible exact At.here|with_reducible apply At.there))):Q w:=by
 obtain⟨m,y⟩:=z.idx;exact h.get m y
theorem St.jT{Q:World->Prop}(h:St I w L)(z:At (aS Q) L R:=by(repeat(first|with_reducible exact At.here|with_reducible apply At.there))):St I w (aS Q::L):=by
 obtain⟨m,y⟩:=z.idx;exact h.copy m y
theorem St.br{g:Nat}{t:TypeId}(h:St I w (ab g t cs::L))(i:Nat)(u:Value)(l:Vq)(e:cs.setIfInBounds i u=l:=by rfl):St I (w.setCell ⟨g,i,none⟩ u) (ab g t l::L):=e▸h.bI i u
theorem St.front{X:aw}(h:St I w L)(z:At X L R:=by(repeat(first|with_reducible exact At.here|with_reducible apply At.there))):St I w (X::R):=h.perm z.perm
end
end
section
structure YV where
 A:OA
 n:Nat
 v:Value
instance acv:Inhabited YV:=⟨⟨none,0,.bool false⟩⟩
abbrev Env:=Nat->YV
def lj(e:Env)(i:Nat)(x:YV):Env:=λk=>if k=i then x else e k
theorem sJ(e:Env)(i:Nat):lj e i (e i)=e:=by
 funext k
 unfold lj
 split
 ·exact aep
 ·rfl
structure gW where
 p:Option Nat
 c:Option Nat
 R:Env->aw
def zn(cl:List (List Nat))(i:Nat):List Nat:=cl.getD i []
def ng(cl:List (List Nat))(p:Option Nat)(e:Env):Env:=match p with
 |none=>λ_=>default
 |some i=>λk=>if(k==i||(zn cl i).contains k)=true then e k else default
def BK(cl:List (List Nat))(i:Nat):Option Nat->Bool
 |none=>true
 |some p=>(zn cl i).contains p
def Ii(cl:List (List Nat))(i:Nat):Option Nat->Bool
 |none=>true
 |some c=>c==i||(zn cl c).contains i
def du(cl:List (List Nat))(i:Nat)(r:gW):Bool:=BK cl i r.p&&Ii cl i r.c
def l6(cl:List (List Nat))(i:Nat)(r:gW):Bool:=(du cl i r&&r.c !=some i)||r.p==some i
def Ub(listed:Array Bool):Option Nat->Bool
 |none=>true
 |some p=>listed.getD p false
def FU(listed:Array Bool):Option Nat->Bool
 |none=>true
 |some c=> !(listed.getD c false)
def jX(listed:Array Bool)(r:gW):Bool:=Ub listed r.p&&FU listed r.c
def eC(rs:List gW)(f:gW->Bool)(e:Env):List aw:=(rs.filter f).map (·.R e)
section
variable {P:Program} {ops:Array Oper} {Q:Exit->Act->World->Prop} {I:aH} {T:List gW} {Y:List (List Nat)} {L0:List aw}
def clB(ops:Array Oper)(Y:List (List Nat)):Bool:=
 (List.range ops.size).all λi=>match ops[i]? with
  |none=>true
  |some o=>(zn Y i).all λk=>decide (k<i)&&o.after.any λe=>Region.binds .any e&&(e.on==k||(zn Y e.on).contains k)
def rsB(ops:Array Oper)(Y:List (List Nat))(T:List gW):Bool:=
 T.all λr=>(match r.p with|none=>true|some p=>decide (p<ops.size))&&(match r.c with|none=>true|some c=>decide (c<ops.size)&&BK Y c r.p)
def ms(P:Program)(ops:Array Oper)(I:aH)(T:List gW)(Y:List (List Nat))(i:Nat)(o:Oper)(g:Env->Value)(e:Env)(a:Act):Prop:=
 if Region.wanted o (yielded ops a.tmps)=true then
  ∀w L,St I w (eC T (du Y i) e++L)->Oper.VC P (λu O=>∃x,u=g (lj e i x)/\St I O (eC T (l6 Y i) (lj e i x)++L)) ((execOp a.eval o).run P w)
 else g e=undef/\T.all (λr=>r.p !=some i&&r.c !=some i)=true
def cU(P:Program)(ops:Array Oper)(I:aH)(T:List gW)(Y:List (List Nat))(K:(Env->Act)->Prop):List Nat->(Env->Act)->Prop
 |[],a=>K a
 |i::r,a=>∃(o:Oper) (g:Env->Value),ops[i]? =some o/\(∀e,g (ng Y (some i) e)=g e)/\(∀e,ms P ops I T Y i o g e (a e))/\cU P ops I T Y K r (λe=>(a e).put o.dst (g e))
theorem uS{i:Nat}{o:Oper}{g:Env->Value}{e:Env}{a b:Act}(U:∀cs b,o.op≠ .select cs b)(h:∀d,d∈o.looksAt ops->a.tmps[d]? =b.tmps[d]?)(H:ms P ops I T Y i o g e a):ms P ops I T Y i o g e b:=by
 obtain⟨Z,V⟩:=Gu (ops:=ops) U h;unfold ms at*;rwa[Z,V]at H
theorem Gz(M:Vb ops){K:(Env->Act)->Prop}:∀(m i:Nat) (a:Env->Act),i+m=ops.size->cU P ops I T Y K (List.range' i m) a->
 ∃E:Env->Act,K E/\(∀e,(E e).defers=(a e).defers)/\(∀e,(E e).tmps.size=(a e).tmps.size)/\(∀e s,(∀j t,ops[j]? =some t->i<=j->t.dst≠some s)->(E e).tmps[s]? =(a e).tmps[s]?)/\
  ∀j t,ops[j]? =some t->i<=j->∃g:Env->Value,(∀e,g (ng Y (some j) e)=g e)/\(∀e,ms P ops I T Y j t g e (E e))/\∀e d,t.dst=some d->d<(E e).tmps.size->(E e).tmps[d]? =some (g e)
 |0,i,a,J,h=>⟨a,h,λ_=>rfl,λ_=>rfl,λ_ _ _=>rfl,λj t N S=>by have:=(DZ.1 N).1;omega⟩
 |m+1,i,a,J,h=>by
  rw[List.range'_succ]at h;obtain⟨o,g,z,B,k,G⟩:=h;obtain⟨E,l,u,H,U,p⟩:=Gz M m (i+1) _ oM G;have u:∀e,(E e).defers=(a e).defers:=λe=>by have:=u e;rwa[put_defers]at this
  have H:∀e,(E e).tmps.size=(a e).tmps.size:=λe=>by have:=H e;rwa[yZ]at this
  refine⟨E,l,u,H,λe s D=> ?_,λj t N S=> ?_⟩
  ·rw[U e s (λj t N S=>D j t N oM),sn _ _ (D i o z (g9 _))]
  ·by_cases r:j=i
   ·subst r
    rw[z]at N;injection N with N;subst N;refine⟨g,B,λe=>uS (M.sel _ _ · · z) (λd C=> ?_) (k e),λe d b Q=> ?_⟩
    ·have D:∀q V,ops[q]? =some V->j<=q->V.dst≠some d:=λq V y X F=>by
      obtain⟨x,c,L,n⟩:=M.look j o q V d z y F C;have:=M.up j o x z c L;omega
     rw[U e d (λq V y X=>D q V y oM),sn _ _ (D j o z (g9 _))]
    ·rw[U e d (λq V y X F=>by have:=M.NX j o q V d z y F b;omega),b,Ej _ _ (by rw[<-H];exact Q)]
   ·exact p j t N oM
theorem tZ{α:Type}(p q:α->Bool)(l:List α):(l.filter p).Perm (l.filter (λx=>p x&&q x)++l.filter (λx=>p x&& !q x)):=by
 induction l with
 |nil=>exact zc0 _
 |cons x r K=>
  cases o:p x<;>cases d:q x
  ·simpa[Ea,o,d]using K
  ·simpa[Ea,o,d]using K
  ·simp only[Ea,o,d,MM,if_true,zdr,Bool.false_eq_true,if_false]
   exact(K.cons x).trans XM.symm
  ·simp only[Ea,o,d,MM,if_true,Bool.not_true,Bool.false_eq_true,if_false,MV]
   exact K.cons x
theorem filter_eq{α:Type}{p q:α->Bool}{l:List α}(h:∀x∈l,p x=q x):l.filter p=l.filter q:=by
 induction l with
 |nil=>rfl
 |cons x r K=>rw[Ea,Ea,h x acy,K (λy E=>h y (by simp[E]))]
theorem UH{f:gW->Bool}{e A:Env}(h:∀r∈T,f r=true->r.R e=r.R A):eC T f e=eC T f A:=by
 unfold eC;exact Yk (λr G=>h r (zk.1 G).1 (zk.1 G).2)
theorem q9{l:Array Bool}{i k:Nat}(h:i<l.size):(l.setIfInBounds i true).getD k false=(l.getD k false||k==i):=by
 by_cases F:i=k
 ·subst F
  simp[Array.getD,h]
 ·rw[getD_set_ne false F]
  have:(k==i)=false:=by simpa using λe:k=i=>F e.symm
  rw[this,VU]
theorem ak{id:Nat}{a:Act}{w:World}{l:List Oper}(T:List gW)(Y:List (List Nat))(is:List Nat)(L1:List.range' 0 l.toArray.size=is)(hm:P.follows .mixedOrders=true)(hB:WC l.toArray=true)(hC:clB l.toArray Y=true)
 (hW:rsB l.toArray Y T=true) (hR:∀e,T.map (λr=>r.R (ng Y r.p e))=T.map (λr=>r.R e)) (hS:St I w (eC T (λr=>r.p.isNone) (λ_=>default)++L0))
 (E1:cU P l.toArray I T Y (λE=>∀e W,St I W (eC T (λr=>r.c.isNone) e++L0)->Q .normal (E e) W) is (λ_=>a)):(Code.region id l.toArray true).wp P Q a w:=by
 subst L1;have hD:=Vb.of hB;generalize l.toArray=ops at*;obtain⟨E,hK,hd,O,hs,S0⟩:=Gz hD ops.size 0 _ oM E1;have Q0:∀r∈T,∀e,r.R (ng Y r.p e)=r.R e:=λr G e=>by
  have:=List.map_inj_left.1 (hR e) r G;exact this
 have P0:∀(i:Nat) (o:Oper),ops[i]? =some o->∀k∈zn Y i,k<i/\∃e∈o.after,Region.binds .any e=true/\(e.on=k\/k∈zn Y e.on):=by
  intro i o z k hk;have B:=(DZ.1 z).1;simp only[clB,yT,OW]at hC;have Z:=hC i B;rw[z]at Z;simp only[yT,mq,decide_eq_true_eq,zc2]at Z;obtain⟨V,e,he,M,S⟩:=Z k hk;refine⟨V,e,he,M,?_⟩;rw[Mo,beq_iff_eq]at S;rcases S with S|S
  ·exact .inl S
  ·exact .inr (by simpa using S)
 have h:∀r∈T,(∀p,r.p=some p->p<ops.size)/\∀c,r.c=some c->c<ops.size/\BK Y c r.p=true:=by
  intro r G;simp only[rsB,yT,mq]at hW;obtain⟨Z,V⟩:=hW r G;refine⟨λp R=> ?_,λc D=> ?_⟩
  ·rw[R]at Z
   exact of_decide_eq_true Z
  ·rw[D]at V
   simp only[mq,decide_eq_true_eq]at V;exact V
 have Z0:∀(i:Nat) (x:YV) (p:Option Nat) (e:Env),(∀k,p=some k->k≠i/\i∉zn Y k)->ng Y p (lj e i x)=ng Y p e:=by
  intro i x p e R
  cases p with
  |none=>rfl
  |some k=>
   obtain⟨Z,V⟩:=R k rfl
   funext q
   unfold ng;simp only
   split
   ·rename_i y
    unfold lj;rw[iN];intro e2;subst e2;rw[Mo,beq_iff_eq]at y;rcases y with y|y
    ·exact Z y.symm
    ·exact V (by simpa using y)
   ·rfl
 have Q1:∀(k:Nat) (listed:Array Bool) (e:Env) (b:Act) (W:World),listed.size=ops.size->listed.toList.count false=k->(∀j,listed.getD j false=true->∀q∈zn Y j,listed.getD q false=true)->St I W (eC T (jX listed) e++L0)->b.defers=(E e).defers->b.tmps.size=(E e).tmps.size->
  (∀(s:Nat),(∀(j:Nat) (t:Oper),ops[j]? =some t->t.dst=some s->listed.getD j false=true)->b.tmps[s]? =(E e).tmps[s]?)->(∀(s:Nat),(∀(j:Nat) (t:Oper),ops[j]? =some t->t.dst≠some s)->∀e',b.tmps[s]? =(E e').tmps[s]?)->wpAny P .any ops Q k listed b W:=by
  have done:∀(listed:Array Bool) (e:Env) (b:Act) (W:World),listed.size=ops.size->St I W (eC T (jX listed) e++L0)->b.defers=(E e).defers->b.tmps.size=(E e).tmps.size->
   (∀(s:Nat),(∀(j:Nat) (t:Oper),ops[j]? =some t->t.dst=some s->listed.getD j false=true)->b.tmps[s]? =(E e).tmps[s]?)->Region.ready .any ops listed=[]->Q .normal b W:=by
   intro listed e b W mT J K F A F0;have all:∀n i,i<n->i<ops.size->listed.getD i false=true:=by
    intro n
    induction n with
    |zero=>intro i z;omega
    |succ n ih=>
     intro i z K1
     cases C:listed.getD i false with
     |true=>rfl
     |false=>
      exfalso;have K0:=Sw K1;have G:i∈Region.ready .any ops listed:=mem_ready.2 ⟨by
       have B:i<listed.size:=oM
       simpa[B]using C,_,K0,λe he hb=>ih e.on (by have:=hD.up i _ e K0 he hb;omega) (by have:=hD.up i _ e K0 he hb;omega)⟩
      rw[F0]at G
      cases G
   have he:b=E e:=by
    obtain⟨bt,bd⟩:=b
    cases hf:E e with
    |mk ft fd=>
     rw[hf]at K A;obtain rfl:bd=fd:=K;have:bt=ft:=Array.ext_getElem? λs=>A s (λj t N _=>all (j+1) j oM (DZ.1 N).1);rw[this]
   rw[he];have C:T.filter (jX listed)=T.filter (λr=>r.c.isNone):=filter_eq (λr G=>by
    obtain⟨Z,V⟩:=h r G;unfold jX
    cases R:r.p with
    |none=>
     cases D:r.c with
     |none=>rfl
     |some c=>
      have:=all (c+1) c oM (V c D).1;simp only[Ub,FU,this]
      rfl
    |some p=>
     have M:=all (p+1) p oM (Z p R)
     cases D:r.c with
     |none=>
      simp only[Ub,FU,M]
      rfl
     |some c=>
      have:=all (c+1) c oM (V c D).1;simp only[Ub,FU,this];simp)
   unfold eC at J;rw[C]at J;exact hK e W J
  intro k
  induction k with
  |zero=>
   intro listed e b W mT D A0 J K F A J0;have F0:Region.ready .any ops listed=[]:=by
    cases G:Region.ready .any ops listed with
    |nil=>rfl
    |cons i r=>
     exfalso;have z:i∈Region.ready .any ops listed:=by rw[G];exact Je
     have:=(rF (mem_ready.1 z).1).2;omega
   exact⟨F0,done listed e b W mT J K F A F0⟩
  |succ k ih=>
   intro listed e b W mT D A0 J K F A J0;refine⟨done listed e b W mT J K F A,λi z=> ?_⟩;obtain⟨C1,o,X,V0⟩:=mem_ready.1 z;obtain⟨B,R1⟩:=rF C1;have C0:listed.getD i false=false:=by simpa[Array.getD,B]using C1
   have U0:∀q∈zn Y i,listed.getD q false=true:=λq y=>by
    obtain⟨_,x,hx,hb,Z⟩:=P0 i o X q y;have V:=V0 x hx hb;rcases Z with Z|Z
    ·rwa[Z]at V
    ·exact A0 _ V q Z
   have A1:∀j,listed.getD j false=true->j≠i/\i∉zn Y j:=λj N=>⟨λe2=>(by rw[e2,C0]at N;cases N),λhm=>(by have:=A0 j N i hm;rw[C0]at this;cases this)⟩;obtain⟨g,hg,O1,hv⟩:=S0 i o X (jG _);have B0:ms P ops I T Y i o g e b:=uS (hD.sel _ _ · · X) (λd C=>(A d (λj t N hd=>by
    obtain⟨x,G1,H1,I1⟩:=hD.look i o j t d X N hd C;rw[<-I1];exact V0 x G1 H1)).symm) (O1 e)
   have T0:∀r∈T,du Y i r=true->jX listed r=true:=by
    intro r G H;unfold du at H;unfold jX;rw[mq]at H⊢;refine⟨?_,?_⟩
    ·cases R:r.p with
     |none=>rfl
     |some p=>
      have Z:=H.1;rw[R]at Z;exact U0 p (by simpa[BK]using Z)
    ·cases D:r.c with
     |none=>rfl
     |some c=>
      have Z:=H.2;rw[D]at Z;simp only[Ii,Mo,beq_iff_eq]at Z;show(!(listed.getD c false))=true;rcases Z with Z|Z
      ·rw[Z,C0];rfl
      ·cases N0:listed.getD c false with
       |false=>rfl
       |true=>
        have:=A0 c N0 i (by simpa using Z);rw[C0]at this
        cases this
   have N0:∀r∈T,jX listed r=true->r.c=some i->du Y i r=true:=by
    intro r G _ D;unfold du;rw[((h r G).2 i D).2,D];simp[Ii]
   have Y0:∀r,jX listed r=true->∀p,r.p=some p->listed.getD p false=true:=λr C p R=>by
    unfold jX at C;rw[R,mq]at C;exact C.1
   have next:∀(x:YV) (L:World),St I L (eC T (l6 Y i) (lj e i x)++(eC T (λr=>jX listed r&& !du Y i r) e++L0))->wpAny P .any ops Q k (listed.setIfInBounds i true) (b.put o.dst (g (lj e i x))) L:=λx L hN=>by
    have P1:∀(j:Nat) (t:Oper),ops[j]? =some t->listed.getD j false=true->∀d,t.dst=some d->(E (lj e i x)).tmps[d]? =(E e).tmps[d]? :=by
     intro j t N N1 d u;obtain⟨gj,X0,_,D1⟩:=S0 j t N (jG _);have B1:(E (lj e i x)).tmps.size=(E e).tmps.size:=(O _).trans (O _).symm;have J1:gj (lj e i x)=gj e:=by rw[<-X0,Z0 i x (some j) e (λq y=>by injection y with y;subst y;exact A1 _ N1),X0]
     by_cases D0:d<(E e).tmps.size
     ·rw[D1 e d u D0,D1 _ d u (by rw[B1];exact D0),J1]
     ·rw[VT (by rw[B1];exact YK D0),VT (YK D0)]
    refine ih (listed.setIfInBounds i true) (lj e i x) _ L (by rw[Array.size_setIfInBounds];exact mT) oM ?_ ?_ ?_ ?_ (λs U=> ?_) (λs U e'=> ?_)
    ·intro j N q y
     rw[q9 B,Mo,beq_iff_eq]at N;rw[q9 B];rcases N with N|N
     ·rw[A0 j N q y,zdj]
     ·subst N
      rw[U0 q y,zdj]
    ·refine hN.perm ?_
     rw[<-nX];refine zcf _ ?_;have e1:eC T (λr=>jX listed r&& !du Y i r) e=eC T (λr=>jX listed r&& !du Y i r) (lj e i x):=UH (λr G C=>by
      rw[mq]at C;rw[<-Q0 r G e,<-Q0 r G (lj e i x),Z0 i x r.p e (λq y=>A1 _ (Y0 r C.1 q y))])
     rw[e1];unfold eC;rw[<-xd];refine List.Perm.map _ ?_;have e2:T.filter (jX (listed.setIfInBounds i true))=T.filter (λr=>(jX listed r&&r.c !=some i)||r.p==some i):=filter_eq (λr G=>by
      unfold jX;have Z:Ub (listed.setIfInBounds i true) r.p=(Ub listed r.p||r.p==some i):=by
       cases r.p with
       |none=>rfl
       |some p=>simp only[Ub,q9 B];rfl
      have V:FU (listed.setIfInBounds i true) r.c=(FU listed r.c&&r.c !=some i):=by
       cases r.c with
       |none=>rfl
       |some c=>simp only[FU,q9 B,Bool.not_or];rfl
      rw[Z,V]
      cases R:r.p==some i with
      |false=>rw[VU,VU,zc1]
      |true=>
       rw[Ys,Ys,MM,mq];have H0:r.p=some i:=by simpa using R
       refine⟨?_,?_⟩
       ·cases D:r.c with
        |none=>rfl
        |some c=>
         have M:=((h r G).2 c D).2;rw[H0]at M;show(!(listed.getD c false))=true
         cases C:listed.getD c false with
         |false=>rfl
         |true=>
          have:=A0 c C i (by simpa[BK]using M);rw[C0]at this
          cases this
       ·cases D:r.c==some i with
        |false=>rw[bne,D];rfl
        |true=>
         have F1:r.c=some i:=by simpa using D
         have M:=((h r G).2 i F1).2;rw[H0]at M;have:=(P0 i o X i (by simpa[BK]using M)).1;omega)
     rw[e2];refine List.Perm.symm ((tZ _ (l6 Y i) T).trans ?_);refine List.Perm.append (zdq (filter_eq (λr G=> ?_))) (zdq (filter_eq (λr G=> ?_)))
     ·unfold l6
      cases R:r.p==some i with
      |true=>rw[Ys,Ys];rfl
      |false=>
       rw[VU,VU]
       cases H:du Y i r with
       |true=>rw[T0 r G H,MM];cases(r.c !=some i)<;>rfl
       |false=>rw[ZR,zds]
     ·unfold l6
      cases R:r.p==some i with
      |true=>
       rw[Ys,Ys];have H0:r.p=some i:=by simpa using R
       cases C:jX listed r with
       |false=>rfl
       |true=>
        have:=Y0 r C i H0;rw[C0]at this
        cases this
      |false=>
       rw[VU,VU]
       cases C:jX listed r with
       |false=>rfl
       |true=>
        rw[MM,MM]
        cases H:du Y i r with
        |true=>rw[MM];cases(r.c !=some i)<;>rfl
        |false=>
         rw[ZR]
         cases D:r.c==some i with
         |true=>
          have:=N0 r G C (by simpa using D);rw[H]at this
          cases this
         |false=>rw[bne,D];rfl
    ·rw[put_defers,K,hd,hd]
    ·rw[yZ,F,O,O]
    ·by_cases G0:o.dst=some s
     ·by_cases I0:s<b.tmps.size
      ·rw[G0,Ej _ _ I0,hv _ s G0 (by rw[O,<-O e,<-F];exact I0)]
      ·rw[VT (by rw[yZ];exact YK I0),VT (by rw[O,<-O e,<-F];exact YK I0)]
     ·rw[sn _ _ G0]
      have M0:∀(j:Nat) (t:Oper),ops[j]? =some t->t.dst=some s->listed.getD j false=true:=λj t N u=>by
       have:=U j t N u;rw[q9 B,Mo,beq_iff_eq]at this;rcases this with Z|Z
       ·exact Z
       ·subst Z
        rw[X]at N;injection N with N;subst N;exact absurd u G0
      rw[A s M0];by_cases W0:∃(j:Nat) (t:Oper),ops[j]? =some t/\t.dst=some s
      ·obtain⟨j,t,N,u⟩:=W0
       exact(P1 j t N (M0 j t N u) s u).symm
      ·rw[<-A s M0]
       exact J0 s (λj t N u=>W0 ⟨j,t,N,u⟩) _
    ·rw[sn _ _ (U i o X)]
     exact J0 s U e'
   have R0:St I W (eC T (du Y i) e++(eC T (λr=>jX listed r&& !du Y i r) e++L0)):=by
    refine J.perm ?_;rw[<-nX];refine zcf _ ?_;unfold eC;rw[<-xd];refine List.Perm.map _ ((tZ _ (du Y i) T).trans (zcf _ (zdq (filter_eq (λr G=> ?_)))))
    cases H:du Y i r with
    |true=>rw[T0 r G H,Bool.and_self]
    |false=>rw[zds]
   unfold wpOp;simp only[X];unfold ms at B0
   split
   ·rename_i U
    rw[iP U]at B0;refine .inl (Oper.OB (B0 W _ R0) (λS1 L ⟨x,hu,h⟩=> ?_));rw[hu];exact next x L h
   ·rename_i U
    rw[iN U]at B0;have Z:=next (e i) W (by
     rw[sJ];have M1:eC T (l6 Y i) e=eC T (du Y i) e:=by
      unfold eC;rw[filter_eq (λr G=> ?_)];have V:=yT.1 B0.2 r G;rw[mq]at V;unfold l6;have M:(r.p==some i)=false:=by simpa[bne]using V.1
      rw[V.2,M,zdy,VU]
     rw[M1];exact R0)
    rw[sJ,B0.1]at Z;exact Z
 have E0:∀k,(Array.replicate ops.size false).getD k false=false:=λk=>by
  by_cases hk:k<ops.size
  ·simp[Array.getD,hk]
  ·simp[Array.getD,hk]
 refine wp_region_any hm (Q1 ops.size _ (λ_=>default) a _ acy acy (λj N=>by rw[E0]at N;cases N) ?_ (hd _).symm (O _).symm (λs O0=> ?_) (λs O0 e'=> ?_))
 ·have:T.filter (jX (Array.replicate ops.size false))=T.filter (λr=>r.p.isNone):=filter_eq (λr G=>by
   unfold jX
   cases r.p with
   |none=>
    cases r.c with
    |none=>rfl
    |some c=>simp only[Ub,FU,E0];rfl
   |some p=>simp only[Ub,E0];rfl)
  unfold eC at hS⊢;rw[this];exact hS.drew
 ·rw[hs _ s (λj t N _ u=>by
   have:=O0 j t N u;rw[E0]at this
   cases this)]
 ·rw[hs e' s (λj t N _=>O0 j t N)]
theorem ax{K:(Env->Act)->Prop}{a:Env->Act}(h:K a):cU P ops I T Y K [] a:=h
theorem zr{l:List Oper}{K:(Env->Act)->Prop}{i:Nat}{r:List Nat}{a:Env->Act}{o:Oper}(g:Env->Value)(H:l[i]? =some o)(U:∀e,Region.wanted o (yielded l.toArray (a e).tmps)=true)
 (C:∀e w L,St I w (eC T (du Y i) e++L)->(execOp (a e).eval o).run P w= .ok (.value (g e)) w) (u:∀e,g (ng Y (some i) e)=g e)
 (F:∀e,eC T (l6 Y i) e=eC T (du Y i) e) (S:∀e x,g (lj e i x)=g e) (h:cU P l.toArray I T Y K r (λe=>(a e).put o.dst (g e))):cU P l.toArray I T Y K (i::r) a:=
 ⟨o,g,by simpa using H,u,λe=>by
  unfold ms;rw[iP (U e)];intro w L z;rw[C e w L z];exact⟨e i,(S e (e i)).symm,by rw[sJ,F];exact z⟩,h⟩
theorem Mp{l:List Oper}{K:(Env->Act)->Prop}{i:Nat}{r:List Nat}{a:Env->Act}{o:Oper}(H:l[i]? =some o)(U:∀e,Region.wanted o (yielded l.toArray (a e).tmps)=false)(F:T.all (λr=>r.p !=some i&&r.c !=some i)=true)
 (h:cU P l.toArray I T Y K r (λe=>(a e).put o.dst undef)):cU P l.toArray I T Y K (i::r) a:=
 ⟨o,λ_=>undef,by simpa using H,λ_=>rfl,λe=>by
  unfold ms;rw[iN (by rw[U e];exact gV)];exact⟨rfl,F⟩,h⟩
theorem TV{l:List Oper}{K:(Env->Act)->Prop}{i:Nat}{r:List Nat}{a:Env->Act}{o:Oper}(g:Env->Value)(H:l[i]? =some o)(U:∀e,Region.wanted o (yielded l.toArray (a e).tmps)=true)(u:∀e,g (ng Y (some i) e)=g e)
 (C:∀e w L,St I w (eC T (du Y i) e++L)->∃x O,(execOp (a e).eval o).run P w= .ok (.value (g (lj e i x))) O/\St I O (eC T (l6 Y i) (lj e i x)++L)) (h:cU P l.toArray I T Y K r (λe=>(a e).put o.dst (g e))):cU P l.toArray I T Y K (i::r) a:=
 ⟨o,g,by simpa using H,u,λe=>by
  unfold ms;rw[iP (U e)];intro w L z;obtain⟨x,O,Z,V⟩:=C e w L z;rw[Z];exact⟨x,rfl,V⟩,h⟩
theorem mU{l:List Oper}{K:(Env->Act)->Prop}{i:Nat}{r:List Nat}{a:Env->Act}{o:Oper}(f:FuncId)(args:Env->Vq)(g:Env->Value)(H:l[i]? =some o)(U:∀e,Region.wanted o (yielded l.toArray (a e).tmps)=true)(G:∀e,g (ng Y (some i) e)=g e)
 (C:∀e w,(execOp (a e).eval o).run P w= .ok (.enter f (args e)) w)
 (D:∀e w L,St I w (eC T (du Y i) e++L)->Calls P f (args e) w λu O=>∃x,u= .returned (g (lj e i x))/\St I O (eC T (l6 Y i) (lj e i x)++L)) (h:cU P l.toArray I T Y K r (λe=>(a e).put o.dst (g e))):cU P l.toArray I T Y K (i::r) a:=
 ⟨o,g,by simpa using H,G,λe=>by
  unfold ms;rw[iP (U e)];intro w L z;rw[C e w];exact(D e w L z).mono (λu O ⟨x,E,V⟩=>⟨_,E,x,rfl,V⟩),h⟩
theorem Kp{l:List Oper}{K:(Env->Act)->Prop}{i:Nat}{r:List Nat}{a:Env->Act}{o:Oper}(t:TypeId)(x y:Operand)(p u:Env->Value)(H:l[i]? =some o)(U:∀e,Region.wanted o (yielded l.toArray (a e).tmps)=true)(X:o.op= .store t x y)(J:∀e,(a e).eval x=p e)(E:∀e,(a e).eval y=u e)
 (C:∀e w L,St I w (eC T (du Y i) e++L)->∃O,(Instr.storeAt t (p e) (u e)).run P w= .ok () O/\St I O (eC T (l6 Y i) e++L)) (h:cU P l.toArray I T Y K r (λe=>(a e).put o.dst undef)):cU P l.toArray I T Y K (i::r) a:=
 ⟨o,λ_=>undef,by simpa using H,λ_=>rfl,λe=>by
  unfold ms;rw[iP (U e)];intro w L z;obtain⟨O,Z,V⟩:=C e w L z;unfold execOp;simp only[X,J,E,Sem.run_bind,Sem.run_pure,Result.andThen_ok,Z];exact⟨e i,rfl,by rw[sJ];exact V⟩,h⟩
inductive ti:List gW->(gW->Bool)->Env->List aw->List aw->Prop
 |nil {f:gW->Bool} {e:Env} {L:List aw}:ti [] f e L L
 |take {f:gW->Bool} {e:Env} {L L':List aw} {p c:Option Nat} {R:Env->aw} {T:List gW}:f ⟨p,c,R⟩=true->ti T f e L L'->ti (⟨p,c,R⟩::T) f e L (R e::L')
 |skip {f:gW->Bool} {e:Env} {L L':List aw} {x:gW} {T:List gW}:f x=false->ti T f e L L'->ti (x::T) f e L L'
theorem ti.eq_{T:List gW}{f:gW->Bool}{e:Env}{L t:List aw}(h:ti T f e L t):eC T f e++L=t:=by
 induction h with
 |nil=>rfl
 |take a _ K=>unfold eC at*;rw[Ea,iP a,li,MV,K]
 |skip a _ K=>unfold eC at*;rw[Ea,iN (by rw[a];exact gV),K]
theorem St.fn{w:World}{f:gW->Bool}{e:Env}{L t:List aw}(h:St I w (eC T f e++L))(W:ti T f e L t:=by(repeat(first|exact ti.nil|(apply ti.take;focus rfl)|(apply ti.skip;focus rfl)))):St I w t:=by rw[<-W.eq_];exact h
theorem St.fk{w:World}{f:gW->Bool}{e:Env}{L u t:List aw}(h:St I w u)(W:ti T f e L t:=by(repeat(first|exact ti.nil|(apply ti.take;focus rfl)|(apply ti.skip;focus rfl))))(U:Sub u t:=by((try simp only[lj,↓reduceIte,Nat.reduceEqDiff]);(repeat(first|with_reducible exact Sub.refl _|(with_reducible apply Sub.take;focus(repeat(first|with_reducible exact At.here|with_reducible apply At.there)))|with_reducible apply Sub.drop)))):St I w (eC T f e++L):=by rw[W.eq_];exact h.sub U
theorem St.fB{w:World}{f:gW->Bool}{e:Env}{L:List aw}{g:Nat}{t:TypeId}(h:St I w (eC T f e++L))(j:Nat){r:gW}(G:T[j]? =some r:=by rfl)(a:f r=true:=by rfl)(c:r.R e=ab g t cs:=by rfl):eF w g t cs:=by
 have y:ab g t cs∈eC T f e++L:=Wd _ (oK.2 ⟨r,zk.2 ⟨pJ G,a⟩,c⟩);obtain⟨m,y⟩:=List.getElem?_of_mem y;exact h.ah m y
theorem eF.c{w:World}{g:Nat}{t:TypeId}(h:eF w g t cs)(i:Nat){u:Value}(E:cs[i]? =some u:=by rfl):w.cell? ⟨g,i,none⟩=some u:=(h.cell i).trans E
section
variable {l:List Oper} {K:(Env->Act)->Prop} {i:Nat} {r:List Nat} {a:Env->Act} {o:Oper}
theorem fr{g:Env->Value}(H:l[i]? =some o)(h:cU P l.toArray I T Y K r (λe=>(a e).put o.dst (g e)))(U:∀e,Region.wanted o (yielded l.toArray (a e).tmps)=true:=by exact λ_=>rfl)
 (C:∀e w L,St I w (eC T (du Y i) e++L)->(execOp (a e).eval o).run P w= .ok (.value (g e)) w:=by(intro e p O h;go_simp;try rfl)) (u:∀e,g (ng Y (some i) e)=g e:=by(intro e;rfl))
 (F:∀e,eC T (l6 Y i) e=eC T (du Y i) e:=by(intro e;rfl)) (z:∀e x,g (lj e i x)=g e:=by(intro e x;rfl)):cU P l.toArray I T Y K (i::r) a:=zr g H U C u F z h
theorem frx{g:Env->Value}(H:l[i]? =some o)(h:cU P l.toArray I T Y K r (λe=>(a e).put o.dst (g e)))(U:∀e,Region.wanted o (yielded l.toArray (a e).tmps)=true:=by exact λ_=>rfl)
 (C:∀e w L,St I w (eC T (du Y i) e++L)->(execOp (a e).eval o).run P w= .ok (.value (g e)) w:=by(intro e wx O h;(try(have f0:=St.fB h 0;(try have b:=f0.c 0);(try have j:=f0.c 1);(try have k:=f0.c 2);(try have n:=f0.c 3);(try have p:=f0.c 4);(try have q:=f0.c 5);(try have t:=f0.c 6);(try have y:=f0.c 7);(try have A:=f0.c 8);(try have B:=f0.c 9)));(try(have f1:=St.fB h 1;(try have D:=f1.c 0);(try have E:=f1.c 1);(try have G:=f1.c 2);(try have c:=f1.c 3);(try have J:=f1.c 4);(try have M:=f1.c 5);(try have X:=f1.c 6);(try have N:=f1.c 7);(try have Q:=f1.c 8);(try have R:=f1.c 9)));(try(have f2:=St.fB h 2;(try have S:=f2.c 0);(try have V:=f2.c 1);(try have W:=f2.c 2);(try have Z:=f2.c 3);(try have d:=f2.c 4);(try have A0:=f2.c 5);(try have B0:=f2.c 6);(try have C0:=f2.c 7);(try have D0:=f2.c 8);(try have E0:=f2.c 9)));(try(have f3:=St.fB h 3;(try have F0:=f3.c 0);(try have G0:=f3.c 1);(try have H0:=f3.c 2);(try have I0:=f3.c 3);(try have J0:=f3.c 4);(try have K0:=f3.c 5);(try have L0:=f3.c 6);(try have M0:=f3.c 7);(try have N0:=f3.c 8);(try have O0:=f3.c 9)));(try(have f4:=St.fB h 4;(try have P0:=f4.c 0);(try have Q0:=f4.c 1);(try have R0:=f4.c 2);(try have S0:=f4.c 3);(try have T0:=f4.c 4);(try have U0:=f4.c 5);(try have V0:=f4.c 6);(try have W0:=f4.c 7);(try have X0:=f4.c 8);(try have Y0:=f4.c 9)));(try(have f5:=St.fB h 5;(try have Z0:=f5.c 0);(try have A1:=f5.c 1);(try have B1:=f5.c 2);(try have C1:=f5.c 3);(try have D1:=f5.c 4);(try have E1:=f5.c 5);(try have F1:=f5.c 6);(try have G1:=f5.c 7);(try have H1:=f5.c 8);(try have I1:=f5.c 9)));(try(have f6:=St.fB h 6;(try have J1:=f6.c 0);(try have K1:=f6.c 1);(try have L1:=f6.c 2);(try have M1:=f6.c 3);(try have N1:=f6.c 4);(try have O1:=f6.c 5);(try have P1:=f6.c 6);(try have Q1:=f6.c 7);(try have R1:=f6.c 8);(try have S1:=f6.c 9)));go_simp;try rfl)) (u:∀e,g (ng Y (some i) e)=g e:=by(intro e;rfl))
 (F:∀e,eC T (l6 Y i) e=eC T (du Y i) e:=by(intro e;rfl)) (z:∀e x,g (lj e i x)=g e:=by(intro e x;rfl)):cU P l.toArray I T Y K (i::r) a:=zr g H U C u F z h
theorem kj(g:Env->Value)(H:l[i]? =some o)(C:∀e w L,St I w (eC T (du Y i) e++L)->(execOp (a e).eval o).run P w= .ok (.value (g e)) w)(h:cU P l.toArray I T Y K r (λe=>(a e).put o.dst (g e)))
 (U:∀e,Region.wanted o (yielded l.toArray (a e).tmps)=true:=by exact λ_=>rfl) (u:∀e,g (ng Y (some i) e)=g e:=by(intro e;rfl))
 (F:∀e,eC T (l6 Y i) e=eC T (du Y i) e:=by(intro e;rfl)) (z:∀e x,g (lj e i x)=g e:=by(intro e x;rfl)):cU P l.toArray I T Y K (i::r) a:=zr g H U C u F z h
theorem xN(g:Env->Value)(H:l[i]? =some o)
 (C:∀e w L,St I w (eC T (du Y i) e++L)->∃x O,(execOp (a e).eval o).run P w= .ok (.value (g (lj e i x))) O/\St I O (eC T (l6 Y i) (lj e i x)++L)) (h:cU P l.toArray I T Y K r (λe=>(a e).put o.dst (g e)))
 (U:∀e,Region.wanted o (yielded l.toArray (a e).tmps)=true:=by exact λ_=>rfl) (u:∀e,g (ng Y (some i) e)=g e:=by(intro e;rfl)):cU P l.toArray I T Y K (i::r) a:=TV g H U u C h
theorem aZ(f:FuncId)(args:Env->Vq)(g:Env->Value)(H:l[i]? =some o)
 (D:∀e w L,St I w (eC T (du Y i) e++L)->Calls P f (args e) w λu O=>∃x,u= .returned (g (lj e i x))/\St I O (eC T (l6 Y i) (lj e i x)++L)) (h:cU P l.toArray I T Y K r (λe=>(a e).put o.dst (g e)))
 (U:∀e,Region.wanted o (yielded l.toArray (a e).tmps)=true:=by exact λ_=>rfl) (G:∀e,g (ng Y (some i) e)=g e:=by(intro e;rfl))
 (C:∀e w,(execOp (a e).eval o).run P w= .ok (.enter f (args e)) w:=by(intro e p;go_simp;try rfl)):cU P l.toArray I T Y K (i::r) a:=mU f args g H U G C D h
theorem jA{t:TypeId}{x y:Operand}(p u:Env->Value)(H:l[i]? =some o)(X:o.op= .store t x y)
 (C:∀e w L,St I w (eC T (du Y i) e++L)->∃O,(Instr.storeAt t (p e) (u e)).run P w= .ok () O/\St I O (eC T (l6 Y i) e++L)) (h:cU P l.toArray I T Y K r (λe=>(a e).put o.dst undef))
 (U:∀e,Region.wanted o (yielded l.toArray (a e).tmps)=true:=by exact λ_=>rfl) (J:∀e,(a e).eval x=p e:=by exact λ_=>rfl) (E:∀e,(a e).eval y=u e:=by exact λ_=>rfl):cU P l.toArray I T Y K (i::r) a:=Kp t x y p u H U X J E C h
end
theorem lY{p q:Prop}(k:q)(h:Hid q->p:=by(intro k;(first|refine fr rfl ?_|refine frx rfl ?_);simp only[aR];exact k.out)):p:=h (aa k)
theorem vM{p q:Prop}(k:q)(h:Hid q->p:=by(intro k;refine lY ?_;refine lY ?_;exact k.out)):p:=h (aa k)
theorem yk{p q:Prop}(k:q)(h:Hid q->p:=by(intro k;refine lY ?_;refine vM ?_;exact k.out)):p:=h (aa k)
theorem AG{p q:Prop}(k:q)(h:Hid q->p:=by(intro k;refine vM ?_;refine vM ?_;exact k.out)):p:=h (aa k)
theorem sO{p q:Prop}(k:q)(h:Hid q->p:=by(intro k;refine vM ?_;refine yk ?_;exact k.out)):p:=h (aa k)
theorem Lb{p q:Prop}(k:q)(h:Hid q->p:=by(intro k;refine yk ?_;refine yk ?_;exact k.out)):p:=h (aa k)
theorem YD{p q:Prop}(k:q)(h:Hid q->p:=by(intro k;refine yk ?_;refine AG ?_;exact k.out)):p:=h (aa k)
theorem Sq{p q:Prop}(k:q)(h:Hid q->p:=by(intro k;refine AG ?_;refine AG ?_;exact k.out)):p:=h (aa k)
theorem fs9{p q:Prop}(k:q)(h:Hid q->p:=by(intro k;refine AG ?_;refine sO ?_;exact k.out)):p:=h (aa k)
theorem Qq{p q:Prop}(k:q)(h:Hid q->p:=by(intro k;refine sO ?_;refine sO ?_;exact k.out)):p:=h (aa k)
theorem abr{p q:Prop}(k:q)(h:Hid q->p:=by(intro k;refine sO ?_;refine Lb ?_;exact k.out)):p:=h (aa k)
theorem Zb{p q:Prop}(k:q)(h:Hid q->p:=by(intro k;refine Lb ?_;refine Lb ?_;exact k.out)):p:=h (aa k)
theorem aaF{p q:Prop}(k:q)(h:Hid q->p:=by(intro k;refine Sq ?_;refine Sq ?_;exact k.out)):p:=h (aa k)
theorem gL{a:Act}{o:Oper}{w O:World}{v u g:Value}{t:TypeId}{s x:Operand}(X:o.op= .call {callee:= .builtin .append,args:= #[s,x],argTypes:= #[t,t]})(U:a.eval s=v)(J:a.eval x=u)
 (h:(Builtin.append_ #[t,t] o.type #[v,u]).run P w= .ok g O):(execOp a.eval o).run P w= .ok (.value g) O:=by
 unfold execOp;simp only[X,resolve,invoke,builtin,Sem.run_bind,Sem.run_pure,Result.andThen_ok,FV,li,BQ,U,J,h]
theorem cM{a:Act}{o:Oper}{w O:World}{v u:Value}{t:TypeId}{len k:Nat}{x:Operand}(X:o.op= .buildSlice t len #[(k,x)])(J:a.eval x=u)(h:(Instr.buildSlice t len #[(k,u)]).run P w= .ok v O):(execOp a.eval o).run P w= .ok (.value v) O:=by
 unfold execOp;simp only[X,J,FV,li,BQ,Sem.run_bind,Sem.run_pure,Result.andThen_ok,h]
end
end
section
section
variable {α:Type} {P:Program} {I:aH} {w:World} {L:List aw} {t e:TypeId} {z:Value} {size bytes:Nat} {R:World->LV->α->Prop} {A:OA} {q c:Nat} {xs:List α}
theorem St.yB{cs:LV}{x:α}(C:eB P t e z size bytes)(h:St I w (ay e size R (.slice A q c) xs::aS (λw=>R w cs x)::L))(X:TypeId)(a:Addr)(k:Nat)(D:Sl w Any size (some a) 1 cs)(Z:∀u∈cs,u.oneCell'=true)(o:cs.length=size)
 (B:(q+1)*bytes<=140737488355328) (W:q+1<=140737488355328):
 ∃N p O,(Builtin.append_ #[t,t] X #[.slice A q c,.slice (some a) 1 k]).run P w= .ok (.slice N (q+1) p) O/\St I O (ay e size R (.slice N (q+1) p) (xs++[x])::L):=by
 obtain⟨U,d,b,V⟩:=h.bK;obtain⟨g,O,G,M⟩:=V.uU C X (some a) 1 k cs D Z B W;obtain⟨N,p,rfl⟩:=M.slice;exact⟨N,p,O,G,M.fR d o b⟩
end
end
theorem Py(m:Nat)(x:Value)(J:x.cells= #[x]):madeCells x.cells m=(List.replicate m x).toArray:=by
 rw[J];apply zdd.1;unfold madeCells;rw[Zc,zc3,zdt];refine⟨by simp,λb B=> ?_⟩;obtain⟨i,_,rfl⟩:=oK.1 B;simp[Nat.mod_one]
theorem Ry(k:Nat)(F:k<=100000)(w:World):(Instr.makeSlice 27 (iI k) (iI k)).run prog w= .ok (.slice (aO w.heap.size) k k) (w.alloc (.cells (bv (List.replicate k 0)).toArray 5)):=by
 obtain⟨q,H,r,B,J⟩:=info_parts qt.jW;have G:=run_make (P:=prog) (w:=w) 27 5 q _ underlying27 H r .i64 .i64 k k oM oM (by rw[J];omega) oM;simp only[qG]at G;rw[G];have e:madeCells (Value.cells (.int .u8 0)) (k*q.size)=(bv (List.replicate k 0)).toArray:=by
  rw[B,UF,Py k (.int .u8 0) rfl];simp only[bv,zc4]
 rw[e]
theorem zH{P:Program}{a:Act}{o:Oper}{w O:World}{u v g:Value}{t:TypeId}{x y:Operand}(X:o.op= .makeSlice t x y)(J:a.eval x=u)(E:a.eval y=v)(h:(Instr.makeSlice t u v).run P w= .ok g O):(execOp a.eval o).run P w= .ok (.value g) O:=by
 unfold execOp;simp only[X,J,E,Sem.run_bind,Sem.run_pure,Result.andThen_ok,h]
theorem Fr.setRow{w:World}{g:Nat}{F:Nat->Prop}(hF:F g)(cs:Vq):Fr F w (w.setRow g cs):=by
 refine⟨rfl,rfl,rfl,by simp[World.setRow],λb M B=> ?_⟩;have:b≠g:=λe=>B (e▸hF);simp[World.setRow,Ze,VS this]
theorem eF.setRow{w:World}{g:Nat}{t:TypeId}(h:eF w g t cs)(l:Vq):eF (w.setRow g l) g t l:=by
 unfold eF at h⊢;simp[World.setRow,Ze,h]
theorem St.storeAll{P:Program}{I:aH}{w:World}{L:List aw}{g:Nat}{t X:TypeId}(h:St I w (ab g t cs::L))(l:Vq)(z:(P.info? X).map (·.size)=some l.size)(H:cs.size=l.size)(Z:∀u∈l.toList,u.oneCell'=true):
 ∃O,(Instr.storeAt X (pO g) (.agg l)).run P w= .ok () O/\St I O (ab g t l::L):=by
 refine⟨w.setRow g l,?_,?_⟩
 ·simp only[Instr.storeAt,Instr.sureAddr,Sem.run_bind,Sem.run_pure,Result.andThen]
  exact run_storeVar_row (P:=P) w g t X cs l (h.ah 0 rfl) z H (Array.all_eq_true_iff_forall_mem.2 (λv K=>Z v (by simpa using K)))
 ·obtain⟨M,F,_,_,J,_,Q⟩:=h.head
  exact Q _ _ F (Fr.setRow ((J.1 _).2 rfl) _) (λ_=>⟨J.1,J.2.setRow _⟩) (λ_ B=> .inl B)
def TG:List aw->Nat->aw
  | [],_=>ko True
  | x::_,0=>x
  | _::l,n+1=>TG l n
def era:List aw->Nat->List aw
  | [],_=>[]
  | _::l,0=>l
  | x::l,n+1=>x::era l n
def pkL:Nat->List Nat->List aw->List aw
  | n,[],L=>L.drop n
  | n,i::r,L=>TG L i::pkL n r L
theorem At.TG:∀(L:List aw)(i:Nat),i<L.length->At (Go.Proofs.YtblpaldggenbaaaGreatDoor.TG L i) L (era L i)
  | _::_,0,_=>.here
  | _::l,n+1,h=>.there (At.TG l n (Nat.lt_of_succ_lt_succ h))
theorem St.pk{I:aH}{w:World}{L t:List aw}(h:St I w L)(n:Nat)(i:List Nat)(_e:t=pkL n i L:=by(simp only[pkL,TG,Nl,AW]<;>rfl))(q:(i.all (·<n)&&decide i.Nodup)=true:=by rfl)(C:i.map (L[·]?)++(L.drop n).map some=t.map some:=by rfl):St I w t:=h.pick n i q C
theorem St.fi{I:aH}{w:World}{L t:List aw}(h:St I w L)(i:Nat)(e:t=TG L i::era L i:=by(simp only[TG,era]<;>rfl))(C:decide (i<L.length)=true:=by rfl):St I w t:=e▸h.front (At.TG L i (of_decide_eq_true C))
structure RQ where
 op:Int
 region:Int
 index:Int
 token:Int
 seq:Int
 data:LI
structure Rg where
 aE:Int
 seq:Int
 b:Nat->LI
 log:List (LI)
def RQ.b9(r:RQ):Int:=if r.op<1\/5<r.op\/r.region<0\/255<r.region\/r.index<0\/255<r.index then 1 else if 24<r.data.length then 2 else 0
def RQ.bJ(r:RQ):Bool:=r.op==2||r.op==4||r.op==5
def Rg.j5(n:Nat)(r:RQ):Bool×Int:=if r.op=4/\4<=n then(false,42)else if r.op=5/\(n:Int)<r.index then(false,1)else(true,0)
def Rg.pE(i seq:Int)(n:Nat)(r:RQ):Bool×Int:=
 if i<r.token then(if r.seq≠1 then(false,60)else Rg.j5 n r)
 else if r.seq=seq then(false,0)else if r.seq<=seq then(false,80)else if r.seq≠seq+1 then(false,60)else Rg.j5 n r
def Rg.next(x:Rg)(r:RQ):Bool×Int:=Rg.pE x.aE x.seq x.log.length r
def aC(m:Nat->Rg)(r:RQ):Bool×Int:=
 if r.b9≠0 then(false,r.b9)else if 4<=r.region then(false,93)else if r.op<=2/\4<=r.index then(false,101)
 else if r.token<(m r.region.toNat).aE\/(r.token=0/\r.bJ=true)then(false,100)
 else if r.bJ=true then(m r.region.toNat).next r else(false,0)
def aJ{α:Type}(m:Nat->α)(k:Nat)(x:α):Nat->α:=λi=>if i=k then x else m i
theorem aW{α:Type}(m:Nat->α)(k:Nat)(x:α):aJ m k x k=x:=iP rfl
theorem cm{α:Type}(m:Nat->α)(k i:Nat)(x:α)(h:i≠k):aJ m k x i=m i:=iN h
theorem od{α:Type}(m:Nat->α)(k:Nat)(x y:α):aJ (aJ m k x) k y=aJ m k y:=by
 funext i
 unfold aJ
 split<;>rfl
def Rg.act(x:Rg)(r:RQ):Rg:=
 {aE:=r.token,seq:=r.seq,b:=if r.op=2 then aJ x.b r.index.toNat r.data else x.b,log:=if r.op=4 then x.log++[r.data]else if r.op=5 then x.log.drop r.index.toNat else x.log}
def Rg.out(x:Rg)(r:RQ):List (LI):=if r.op=1 then [x.b r.index.toNat]else if r.op=3 then x.log else []
def gJ(m:Nat->Rg)(r:RQ):Nat->Rg:=if(aC m r).2=0/\(aC m r).1=true then aJ m r.region.toNat ((m r.region.toNat).act r)else m
def mR(m:Nat->Rg)(r:RQ):List (LI):=if(aC m r).2=0 then(gJ m r r.region.toNat).out r else []
structure Rg.ok(x:Rg):Prop where
 h0:0<=x.aE
 h1:x.aE<18446744073709551616
 s0:0<=x.seq
 s1:x.seq<4294967296
 ll:x.log.length<=4
 lb:∀l∈x.log,l.length<=24
 bb:∀j,(x.b j).length<=24
theorem RQ.gO{r:RQ}(h:r.b9=0):1<=r.op/\r.op<=5/\0<=r.region/\r.region<=255/\0<=r.index/\r.index<=255/\r.data.length<=24:=by
 unfold RQ.b9 at h
 exact aeW
theorem Rg.xq{n:Nat}{r:RQ}(h:(Rg.j5 n r).1=true):(r.op=4->n<4)/\(r.op=5->r.index<=n):=by
 unfold Rg.j5 at h
 split at h
 ·cases h
 ·split at h
  ·cases h
  ·constructor<;>intro Q<;>omega
theorem Rg.IR{x:Rg}{r:RQ}(h:(x.next r).1=true):(r.op=4->x.log.length<4)/\(r.op=5->r.index<=x.log.length):=by
 unfold Rg.next Rg.pE at h
 split at h
 ·split at h
  ·cases h
  ·exact Rg.xq h
 ·split at h
  ·cases h
  ·split at h
   ·cases h
   ·split at h
    ·cases h
    ·exact Rg.xq h
structure Good(m:Nat->Rg)(r:RQ):Prop where
 w:r.b9=0
 k:r.region<4
 i:r.op<=2->r.index<4
 t:(m r.region.toNat).aE<=r.token
theorem oW{m:Nat->Rg}{r:RQ}(h:(aC m r).2=0):Good m r:=by
 unfold aC at h
 split at h
 ·rename_i Z;exact absurd h Z
 ·split at h
  ·cases h
  ·split at h
   ·cases h
   ·split at h
    ·cases h
    ·rename_i Z V M Q
     exact⟨ZW.1 Z,oM,λH=>by have:=mt (λz=>(⟨H,z⟩:r.op<=2/\4<=r.index)) M;omega,by have:=mt (λz=>(Or.inl z:r.token<(m r.region.toNat).aE\/(r.token=0/\r.bJ=true))) Q;omega⟩
theorem rM{m:Nat->Rg}{r:RQ}(h:(aC m r).1=true):r.bJ=true/\r.token≠0/\(r.op=4->(m r.region.toNat).log.length<4)/\(r.op=5->r.index<=(m r.region.toNat).log.length):=by
 unfold aC at h
 split at h
 ·cases h
 ·split at h
  ·cases h
  ·split at h
   ·cases h
   ·split at h
    ·cases h
    ·rename_i Q
     split at h
     ·rename_i F
      exact⟨F,λK=>Q (.inr ⟨K,F⟩),Rg.IR h⟩
     ·cases h
theorem RQ.Ks{r:RQ}(h:r.bJ=true):r.op=2\/r.op=4\/r.op=5:=by
 unfold RQ.bJ at h;simp only[Mo,beq_iff_eq]at h;rcases h with(h|h)|h
 ·exact .inl h
 ·exact .inr (.inl h)
 ·exact .inr (.inr h)
structure RQ.ok(r:RQ):Prop where
 t0:0<=r.token
 t1:r.token<18446744073709551616
 s0:0<=r.seq
 s1:r.seq<4294967296
theorem Rg.XE{x:Rg}{r:RQ}(J:x.ok)(G:r.ok)(U:r.data.length<=24)(C:r.op=4->x.log.length<4):(x.act r).ok:=by
 refine⟨G.t0,G.t1,G.s0,G.s1,?_,?_,?_⟩
 ·show(if r.op=4 then x.log++[r.data]else if r.op=5 then x.log.drop r.index.toNat else x.log).length<=4
  split
  ·rename_i h;have:=C h;exact acC
  ·split
   ·have:=J.ll;exact acO
   ·exact J.ll
 ·show∀l∈(if r.op=4 then x.log++[r.data]else if r.op=5 then x.log.drop r.index.toNat else x.log),l.length<=24
  split
  ·intro l h
   rcases lU.1 h with h|h
   ·exact J.lb l h
   ·obtain rfl:=lA.1 h
    exact U
  ·split
   ·exact λl h=>J.lb l (Ud h)
   ·exact J.lb
 ·show∀j,((if r.op=2 then aJ x.b r.index.toNat r.data else x.b) j).length<=24
  split
  ·intro j
   unfold aJ
   split
   ·exact U
   ·exact J.bb j
  ·exact J.bb
theorem Ap{m:Nat->Rg}{r:RQ}(y:∀k,(m k).ok)(G:r.ok):∀k,(gJ m r k).ok:=by
 intro k;unfold gJ
 split
 ·rename_i h
  have u:=oW h.1;unfold aJ
  split
  ·exact Rg.XE (y _) G (RQ.gO u.w).2.2.2.2.2.2 (rM h.2).2.2.1
  ·exact y k
 ·exact y k
def Rg.zero:Rg:=⟨0,0,λ_=>[],[]⟩
theorem Rg.CJ:Rg.zero.ok:=⟨dC,dC,dC,dC,dC,(λl h=>by cases h),λ_=>by show([]:LI).length<=24;decide⟩
abbrev nQ(r:RQ)(v:Value):Value:= .agg #[iI r.op,iI r.region,iI r.index,iU r.token,iW r.seq,v]
theorem vv(r:RQ)(A:OA)(n c:Nat)(w:World)(W:n=r.data.length):Calls prog 143 #[nQ r (.slice A n c)] w λe O=>e= .returned (iI r.b9)/\Fr iY w O:=by
 obtain⟨o,region,index,token,seq,data⟩:=r;simp only at W;have b:=aa W;clear W;have key:∀x,RQ.b9 ⟨o,region,index,token,seq,data⟩=x->Hid (RQ.b9 ⟨o,region,index,token,seq,data⟩=x):=λ_ h=>h;by_cases Z:o<1
 ·have E:=key 1 (by unfold RQ.b9;rw[iP (.inl Z)])
  exact afW
 by_cases V:5<o
 ·have E:=key 1 (by unfold RQ.b9;rw[iP (.inr (.inl V))])
  exact afW
 by_cases M:region<0
 ·have E:=key 1 (by unfold RQ.b9;rw[iP (.inr (.inr (.inl M)))])
  exact afW
 by_cases Q:255<region
 ·have E:=key 1 (by unfold RQ.b9;rw[iP (.inr (.inr (.inr (.inl Q))))])
  exact afW
 by_cases F:index<0
 ·have E:=key 1 (by unfold RQ.b9;rw[iP (.inr (.inr (.inr (.inr (.inl F)))))])
  exact afW
 by_cases P:255<index
 ·have E:=key 1 (by unfold RQ.b9;rw[iP (.inr (.inr (.inr (.inr (.inr P)))))])
  exact afW
 have D:¬(o<1\/5<o\/region<0\/255<region\/index<0\/255<index):=oM
 by_cases j:24<n;have E:=key 2 (by unfold RQ.b9;rw[iN D,iP (by show 24<data.length;rw[<-b.out];exact j)])
 rotate_left
 have E:=key 0 (by unfold RQ.b9;rw[iN D,iN (by show¬24<data.length;rw[<-b.out];exact j)])
 rotate_left
 all_goals
  clear key D
  go_enter func143,ntmps143
  exact adV
theorem Gh(r:RQ)(v:Value)(w:World):Calls prog 179 #[nQ r v] w λe O=>e= .returned (.bool r.bJ)/\Fr iY w O:=by
 obtain⟨o,region,index,token,seq,data⟩:=r;have key:∀x,RQ.bJ ⟨o,region,index,token,seq,data⟩=x->Hid (RQ.bJ ⟨o,region,index,token,seq,data⟩=x):=λ_ h=>h;by_cases K:o=2
 ·have E:=key true (by unfold RQ.bJ;simp[K])
  have B:=Ec K;exact af4
 have i:=kO K;by_cases Z:o=4
 ·have E:=key true (by unfold RQ.bJ;simp[Z])
  have B:=Ec Z;exact af4
 have j:=kO Z;by_cases V:o=5;have E:=key true (by unfold RQ.bJ;simp[V]);have B:=Ec V
 rotate_left
 have J:=kO V;have E:=key false (by unfold RQ.bJ;simp[K,Z,V])
 rotate_left
 all_goals
  exact af4
theorem GN(g off:Nat)(r:RQ)(v:Value)(i seq:Int)(A:OA)(n c:Nat)(w:World)(G:0<=r.seq/\r.seq<4294967296)(U:0<=seq/\seq<4294967296)(u:g<w.heap.size)
 (z:w.cell? ⟨g,off,none⟩=some (iU i)) (Y:w.cell? ⟨g,off+1,none⟩=some (iW seq)) (t:w.cell? ⟨g,off+6,none⟩=some (.slice A n c)):
 Calls prog 180 #[.pointer (some ⟨g,off,none⟩),nQ r v] w λe O=>e= .returned (.tuple #[.bool (Rg.pE i seq n r).1,iI (Rg.pE i seq n r).2])/\Fr iY w O:=by
 have z:=(World.cell?_alloc_lt w (.cells #[iI r.op,iI r.region,iI r.index,iU r.token,iW r.seq,v] 175) ⟨g,off,none⟩ u).trans z;have Y:=(World.cell?_alloc_lt w (.cells #[iI r.op,iI r.region,iI r.index,iU r.token,iW r.seq,v] 175) ⟨g,off+1,none⟩ u).trans Y;have t:=(World.cell?_alloc_lt w (.cells #[iI r.op,iI r.region,iI r.index,iU r.token,iW r.seq,v] 175) ⟨g,off+6,none⟩ u).trans t;obtain⟨o,region,index,token,rs,data⟩:=r;simp only at z Y t G;obtain⟨y,N⟩:=G;obtain⟨J,L⟩:=U;obtain⟨d,Z⟩:∃a,decide (i<token)=a:=⟨_,rfl⟩;obtain⟨H,V⟩:∃a,(rs !=1)=a:=⟨_,rfl⟩;obtain⟨Q,M⟩:∃a,(rs==seq)=a:=⟨_,rfl⟩;obtain⟨C,S⟩:∃a,decide (rs<=seq)=a:=⟨_,rfl⟩;obtain⟨I,F⟩:∃a,(rs !=seq+1)=a:=⟨_,rfl⟩;obtain⟨b,P⟩:∃a,(o==4)=a:=⟨_,rfl⟩;obtain⟨B,j⟩:∃a,decide ((4:Int)<=(n:Int))=a:=⟨_,rfl⟩;obtain⟨k,W⟩:∃a,(o==5)=a:=⟨_,rfl⟩;obtain⟨l,p⟩:∃a,decide ((n:Int)<index)=a:=⟨_,rfl⟩;have E:=aa (show Rg.pE i seq n ⟨o,region,index,token,rs,data⟩=(let m:Bool×Int:=if b=true/\B=true then(false,42)else if k=true/\l=true then(false,1)else(true,0);if d=true then(if H=true then(false,60)else m)else if Q=true then(false,0)else if C=true then(false,80)else if I=true then(false,60)else m)by
  rw[<-Z,<-V,<-M,<-S,<-F,<-P,<-j,<-W,<-p];simp only[decide_eq_true_eq,bne_iff_ne,beq_iff_eq,show((4:Int)<=(n:Int))=(4<=n)from propext oM]
  rfl)
 go_enter func180,ntmps180
 cases d
 case' true=>cases H
 case' false=>cases Q
 case' false.false=>cases C
 case' false.false.false=>cases I
 case' true.false|false.false.false.false=>cases b
 case' true.false.true|false.false.false.false.true=>cases B
 case' true.false.false|true.false.true.false|false.false.false.false.false|false.false.false.false.true.false=>cases k
 case' true.false.false.true|true.false.true.false.true|false.false.false.false.false.true|false.false.false.false.true.false.true=>cases l
 all_goals(
  go_wp2_with go_quiet (fail)
  go_ret2
  refine⟨by rw[E.out];rfl,?_⟩
  repeat(with_reducible refine Fr.drewN ?_ _)
  exact(Fr.refl _ _).alloc _)
theorem aL{fn:Func}{t:Nat}{ty:TypeId}{P:Program}{w:World}{v:Value}{a:Addr}(h:fn.results= #[.cell t ty])(b:Vq)(Q:b.getD t undef= .pointer (some a))(C:(loadVar ty a).run P w= .ok v w):
 (results fn b).run P w= .ok v w:=by
 exact aef
section
structure RV where
 b:Nat->Value
 log:Value
 cs:Nat->LV
def DY(x:Rg)(p:RV):LV:=[iU x.aE,iW x.seq,p.b 0,p.b 1,p.b 2,p.b 3,p.log]
def nj(m:Nat->Rg)(U:Nat->RV):Vq:=(DY (m 0) (U 0)++(DY (m 1) (U 1)++(DY (m 2) (U 2)++DY (m 3) (U 3)))).toArray
theorem vQ{k:Nat}(h:k<4):k=0\/k=1\/k=2\/k=3:=oM
theorem Pf{k:Nat}(h:k<7):k=0\/k=1\/k=2\/k=3\/k=4\/k=5\/k=6:=oM
theorem KK(m:Nat->Rg)(U:Nat->RV){k j:Nat}(F:k<4)(N:j<7):(nj m U)[k*7+j]? =(DY (m k) (U k))[j]? :=by
 rcases vQ F with rfl|rfl|rfl|rfl<;>rcases Pf N with rfl|rfl|rfl|rfl|rfl|rfl|rfl<;>rfl
theorem uP(m:Nat->Rg)(U:Nat->RV){k j:Nat}(F:k<4)(N:j<7){x:Rg}{p:RV}{u:Value}(h:DY x p=(DY (m k) (U k)).set j u):
 (nj m U).setIfInBounds (k*7+j) u=nj (aJ m k x) (aJ U k p):=by
 have e:∀i,i≠k->DY (aJ m k x i) (aJ U k p i)=DY (m i) (U i):=λi z=>by rw[cm _ _ _ _ z,cm _ _ _ _ z]
 have P:DY (aJ m k x k) (aJ U k p k)=(DY (m k) (U k)).set j u:=by rw[aW,aW,h]
 unfold nj;rcases vQ F with rfl|rfl|rfl|rfl;rw[P,e 1 oM,e 2 oM,e 3 oM]
 rotate_left
 rw[P,e 0 oM,e 2 oM,e 3 oM]
 rotate_left
 rw[P,e 0 oM,e 1 oM,e 3 oM]
 rotate_left
 rw[P,e 0 oM,e 1 oM,e 2 oM]
 rotate_left
 all_goals
  rcases Pf N with rfl|rfl|rfl|rfl|rfl|rfl|rfl<;>rfl
def dP(w:World)(cs:LV)(b:LI):Prop:=∃v,cs=[v]/\aA w .u8 v b
structure AR(w:World)(p:RV)(x:Rg):Prop where
 b:∀j,j<4->aA w .u8 (p.b j) (x.b j)
 log:bF w 1 dP p.log p.cs x.log
abbrev dx(U:Nat->RV)(m:Nat->Rg):aw:=aS (λw=>∀k,k<4->AR w (U k) (m k))
abbrev im(g:Nat)(U:Nat->RV)(m:Nat->Rg):aw:=ab g 90 (nj m U)
def dL(g:Nat)(m:Nat->Rg):aw:=AU λU:Nat->RV=>aX (im g U m) (dx U m)
section
variable {I:aH} {w:World} {L:List aw} {g:Nat} {m:Nat->Rg}
theorem St.gz(h:St I w (dL g m::L)):∃U,St I w (im g U m::dx U m::L):=by
 obtain⟨U,h⟩:=h.ex;exact⟨U,h.star⟩
theorem St.kU{U:Nat->RV}(h:St I w (im g U m::dx U m::L)):St I w (dL g m::L):=
 St.cZ (f:=λU:Nat->RV=>aX (im g U m) (dx U m)) U h.aM
theorem CT{w:World}{U:Nat->RV}{k:Nat}{x:Rg}{p:RV}(h:∀i,i<4->AR w (U i) (m i))(J:AR w p x):∀i,i<4->AR w (aJ U k p i) (aJ m k x i):=by
 intro i z;by_cases Y:i=k
 ·subst Y
  rw[aW,aW];exact J
 ·rw[cm _ _ _ _ Y,cm _ _ _ _ Y]
  exact h i z
theorem St.zd{U:Nat->RV}{R:World->Prop}{k j:Nat}{x:Rg}{p:RV}{u:Value}(h:St I w (im g U m::dx U m::aS R::L))(F:k<4)(N:j<7)
 (E:DY x p=(DY (m k) (U k)).set j u) (J:∀O,AR O (U k) (m k)->R O->AR O p x):St I (w.setCell ⟨g,k*7+j,none⟩ u) (dL g (aJ m k x)::L):=by
 have Z:=h.bI (k*7+j) u;rw[uP m U F N E]at Z;refine St.kU (U:=aJ U k p) ?_;have V:=(Z.swap.sh.swap.swap);exact afB
theorem j6{U:Nat->RV}(h:eF w g 90 (nj m U)){k j:Nat}(F:k<4)(N:j<7):(∃u,w.cell? ⟨g,k*7+j,none⟩=some u)/\w.frozen? ⟨g,k*7+j,none⟩=false:=by
 refine⟨⟨(DY (m k) (U k))[j]'N,?_⟩,h.frozen _⟩;rw[h.cell,KK m U F N];exact gP _
theorem dG{U:Nat->RV}(h:eF w g 90 (nj m U)){k j:Nat}(F:k<4)(N:j<7){u:Value}(E:(DY (m k) (U k))[j]? =some u):w.cell? ⟨g,k*7+j,none⟩=some u:=
 ((h.cell (k*7+j)).trans (KK m U F N)).trans E
end
end
section
section
variable {P:Program} {l:List Oper} {Q:Exit->Act->World->Prop} {S:World->Prop} {L:Nat}
theorem CY{K:Act->Prop}{i:Nat}{r:List Nat}{a:Act}{o:Oper}{v:Value}(H:l[i]? =some o)(U:Region.wanted o (yielded l.toArray a.tmps)=true)
 (C:∀W,S W->(execOp a.eval o).run P W= .ok (.value v) W) (h:jD P l.toArray S K r (a.put o.dst v)):jD P l.toArray S K (i::r) a:=
 ⟨o,v,by simpa using H,.inl ⟨U,C⟩,h⟩
theorem Rk{i:Nat}{r:List Nat}{a:Act}{w:World}{o:Oper}(H:l[i]? =some o)(U:Region.wanted o (yielded l.toArray a.tmps)=true)
 (h:o.wp P a w (λg O=>(i<L->S O)/\dF P l.toArray Q S L r g O) Q):dF P l.toArray Q S L (i::r) a w:=
 ⟨o,by simpa using H,by rw[iP U];exact h⟩
theorem q8{i:Nat}{r:List Nat}{a:Act}{w:World}{o:Oper}{f:FuncId}{args:Vq}(H:l[i]? =some o)(U:Region.wanted o (yielded l.toArray a.tmps)=true)
 (C:(execOp a.eval o).run P w= .ok (.enter f args) w)
 (h:Calls P f args w λe O=>∃v,e= .returned v/\(i<L->S O)/\dF P l.toArray Q S L r (a.put o.dst v) O):dF P l.toArray Q S L (i::r) a w:=
 Rk H U (by
  unfold Oper.wp;rw[C,Oper.upon_enter];refine h.mono λe O ⟨v,Y,z,h⟩=> ?_;subst Y;exact⟨z,h⟩)
theorem lX{i:Nat}{r:List Nat}{a:Act}{w:World}{o:Oper}{v:Value}(H:l[i]? =some o)(U:Region.wanted o (yielded l.toArray a.tmps)=true)
 (C:(execOp a.eval o).run P w= .ok (.value v) w) (z:i<L->S w) (h:dF P l.toArray Q S L r (a.put o.dst v) w):dF P l.toArray Q S L (i::r) a w:=
 Rk H U (by
  unfold Oper.wp;rw[C,Oper.upon_value];exact⟨z,h⟩)
end
end
structure PU where
 region:Int
 index:Int
 data:LI
def bU(w:World)(cs:LV)(p:PU):Prop:=∃v,cs=[iI p.region,iI p.index,v]/\aA w .u8 v p.data
abbrev tU(p:PU)(v:Value):Value:= .agg #[iI p.region,iI p.index,v]
def jL(p:PU):Int:=if p.index<0\/4<=p.index then 101 else if 23<p.data.length then 2 else 0
def Dn(p:PU):LI:=if jL p=0 then p.index::p.data else []
def jk(b:LI):Int:=match b with
 |[]=>10
 |i::d=>if 4<=i then 101 else if 23<d.length then 2 else 0
def ue(region:Int)(b:LI):PU:=match b with
 |[]=>⟨0,0,[]⟩
 |i::d=>if jk (i::d)=0 then⟨region,i,d⟩else⟨0,0,[]⟩
theorem Ve(region:Int)(i:Int)(d:LI)(K:0<=i):jL ⟨region,i,d⟩=jk (i::d):=by
 rw[show jk (i::d)=if 4<=i then 101 else if 23<d.length then 2 else 0 from rfl];unfold jL;by_cases h:4<=i
 ·rw[iP (.inr h),iP h]
 ·rw[iN (by intro Z;rcases Z with Z|Z<;>simp only at Z<;>omega),iN h]
def fW(p:PU->Bool):Nat->List PU->Int
 |_,[]=> -1
 |i,x::r=>if p x=true then i else fW p (i+1) r
theorem yE(p:PU->Bool)(l:List PU):∀i,decide (0<=fW p i l)=l.any p:=by
 induction l with
 |nil=>intro i;rfl
 |cons x r K=>
  intro i;show decide (0<=(if p x=true then(i:Int)else fW p (i+1) r))=(p x||r.any p)
  cases o:p x with
  |true=>rw[iP rfl,zdj];exact decide_eq_true (by omega)
  |false=>rw[iN gV,Bool.false_or];exact K _
end Go.Proofs.YtblpaldggenbaaaGreatDoor
