/- A part. -/
import Derived.Test.YtblpaldggenbaaaGreatDoorRows
import Derived.Test.YtblpaldggenbaaaGreatDoorMa
namespace Go.Proofs.YtblpaldggenbaaaGreatDoor
open Go.RowKit Go.Proofs.Tryz
set_option maxRecDepth 100000
set_option maxHeartbeats 64000000
variable{r:Rd}
abbrev Rt(I:aK)(w:World)(f:FuncId)(a:Array Value)(v:Value)(L:List az):Prop:=Calls prog f a w λe O=>e= .returned v/\St I O L
theorem qt:fY prog 27 5 (.int .u8 0) 1 1:=⟨underlying27,kR,kR,oM⟩
theorem RO(w:World):(Instr.buildSlice 27 0 #[]).run prog w= .ok (.slice (aO w.heap.size) 0 0) (w.alloc (.cells #[] 5)):=kR
theorem St.OZ{I:aK}{w:World}{L:List az}(h:St I w L)(e:TypeId):St I (w.alloc (.cells #[] e)) (ct e 1 (.slice (aO w.heap.size) 0 0) 0 []::L):=
 h.newRow ((Fr.refl _ _).alloc _) (World.ownsRow_made w #[] 0 (iD _) (iD _) abN) (λb B=>by simp[Value.ownBlock]at B;omega)
theorem ef{I:aK}{L:List az}(A:OA)(n c:Nat)(xs:LI)(w:World)(V:Sl w Any 1 A n (bv xs))(W:n<=140737488355328)(h:St I w L):
 Calls prog 23 #[.slice A n c] w λe O=>∃v,e= .returned v/\St I O (ct 5 1 v n (bv xs)::L):=by
 rcases A with _|a
 ·have p:n=0:=by
   exact adW
  subst p;have J:xs=[]:=BJ (by simpa using V.1);subst J;have R:=λw=>Lib.run_eql_slice_nil (P:=prog) w 27 5 none 0 c 0 0 underlying27;have H:=aa h;clear V h
  go_enter func23,ntmps23
  go_wp2
  go_ret
  exact⟨_,rfl,H.mq _ _⟩
 ·have R:=λw=>Lib.run_eql_slice_nil (P:=prog) w 27 5 (some a) n c 0 0 underlying27
  have k:=RO;refine bq (h.OZ 5) ((V.RY ((Fr.refl jo w).alloc (.cells #[] 5)))) λH G=>?_;clear V h
  go_enter func23,ntmps23
  go_wp2_with (at_builtin;refine St.fj qt H rfl _ _ rfl rfl (some a) n c rfl (bv xs) G (jJ _) oM oM ?_;intro X r z Z)
  go_ret
  exact⟨_,rfl,(by simpa using Z)⟩
section
def cn{α:Type}(w:World)(size:Nat)(R:World->LV->α->Prop)(v:Value)(b:Nat->LV)(xs:List α):Prop:=
 ∃A c,v= .slice A xs.length c/\xs.length<=c/\c<=maxLen/\∀i x,xs[i]? =some x->∃T,A=some T/\(b i).length=size/\(∀j u,(b i)[j]? =some u->w.cell? ((T.add (i*size)).add j)=some u)/\R w (b i) x
def Rows{α:Type}(w:World)(size:Nat)(R:World->LV->α->Prop)(v:Value)(xs:List α):Prop:=∃b,cn w size R v b xs
def aG{α:Type}(size:Nat)(R:World->LV->α->Prop)(v:Value)(xs:List α):az:=Bc λb=>bj (λw=>cn w size R v b xs)
abbrev ai(k:IntKind)(v:Value)(xs:LI):az:=bj (λw=>ay w k v xs)
section
variable {α:Type} {I:aK} {w:World} {L:List az} {size:Nat} {R:World->LV->α->Prop} {v:Value} {xs:List α}
theorem cn.none_(w:World)(size:Nat)(R:World->LV->α->Prop)(b:Nat->LV):cn w size R sN b []:=⟨none,0,rfl,by simp,by unfold maxLen;omega,λi x h=>by simp at h⟩
theorem Rows.slice(h:Rows w size R v xs):∃A c,v= .slice A xs.length c/\xs.length<=c/\c<=9223372036854775807:=by
 obtain⟨b,A,c,e,Z,G,M⟩:=h;exact⟨A,c,e,Z,G⟩
theorem cn.qm{e:TypeId}{n:Nat}{V:LV}(h:w.ownsRow 0 e size v n V)(W:n=xs.length)(c:∀i x,xs[i]? =some x->R w ((V.drop (i*size)).take size) x):cn w size R v (λi=>(V.drop (i*size)).take size) xs:=by
 subst W;have F:=h.1;rcases h.2 with⟨rfl,K⟩|⟨g,cap,E,rfl,C,l,D,p,Y,d⟩
 ·have:xs=[]:=BJ K
  subst this;exact cn.none_ w size R _
 ·refine⟨_,_,rfl,D,p,λi x z=> ?_⟩
  have t:=(nQ.1 z).1;have B:(i+1)*size<=xs.length*size:=vz _ t;rw[xh,Eh]at B;refine⟨_,rfl,by rw[fV,km];omega,λj u y=> ?_,c i x z⟩;rw[eF];refine h.cells (g:=g) rfl (i*size+j) u ?_;exact aei
theorem St.eM(h:St I w L)(i:Nat)(z:L[i]? =some (aG size R v xs)):Rows w size R v xs:=by
 obtain⟨M,F,⟨b,J⟩,T⟩:=h.fact i z;exact⟨b,J.2 w T⟩
theorem St.elem(h:St I w L)(i:Nat){A:OA}{n c:Nat}(z:L[i]? =some (aG size R (.slice A n c) xs)){k:Nat}{x:α}(d:xs[k]? =some x):
 ∃T K,A=some T/\K.length=size/\(∀j u,K[j]? =some u->w.cell? ((T.add (k*size)).add j)=some u)/\R w K x/\St I w (bj (λO=>(∀j u,K[j]? =some u->O.cell? ((T.add (k*size)).add j)=some u)/\R O K x)::L):=by
 obtain⟨M,l,W,C,V⟩:=h;obtain⟨b,J⟩:=V.at_ i _ z;have g:∀O,fQ O M->∃T,A=some T/\(b k).length=size/\(∀j u,(b k)[j]? =some u->O.cell? ((T.add (k*size)).add j)=some u)/\R O (b k) x:=by
  intro O q;obtain⟨X,r,e,Z,G,Q⟩:=J.2 O q;injection e with Y E P;subst Y;exact Q k x d
 obtain⟨T,o,S,D,U⟩:=g w C;refine⟨T,b k,o,S,D,U,M,_,W,C,V.cons (F:=λ_=>False) ⟨λ_ x=>x,λO q=> ?_⟩ (λ_ _ _ _ x=>x) (λ_ x=>x.elim)⟩;obtain⟨_,y,_,a,t⟩:=g O q;subst o;injection y with y;subst y;exact⟨a,t⟩
theorem St.rows{e:TypeId}{n:Nat}{V:LV}(h:St I w (ct e size v n V::bj (λO=>∀i x,xs[i]? =some x->R O ((V.drop (i*size)).take size) x)::L))(W:n=xs.length):St I w (aG size R v xs::L):=
 St.eu (f:=λb=>bj (λw=>cn w size R v b xs)) (λi=>(V.drop (i*size)).take size) (h.xZ.oY (λ_ Z G=>cn.qm Z W G))
theorem St.Ru{X:World}{b:Nat->LV}(h:St (aK.of X) w L)(U:∀O,Fr jo X O->cn O size R v b xs):St (aK.of X) w (aG size R v xs::L):=
 St.eu (f:=λb=>bj (λw=>cn w size R v b xs)) b (h.GV U)
end
def aB{α:Type}(e:TypeId)(size:Nat)(R:World->LV->α->Prop)(v:Value)(xs:List α):az:=
 Bc λV=>aX (ct e size v xs.length V) (bj (λw=>∀(i:Nat) x,xs[i]? =some x->R w ((V.drop (i*size)).take size) x))
section
variable {α:Type} {I:aK} {w:World} {L:List az} {e:TypeId} {size:Nat} {R:World->LV->α->Prop} {v:Value} {xs:List α}
theorem St.eU(h:St I w L)(e:TypeId)(size:Nat)(R:World->LV->α->Prop):St I w (aB e size R sN []::L):=
 St.eu (f:=λV=>aX (ct e size sN ([]:List α).length V) (bj (λw=>∀(i:Nat) x,([]:List α)[i]? =some x->R w ((V.drop (i*size)).take size) x))) []
  ((h.bH (λO _ i x z=>by simp at z)).mq e size).aM
theorem St.rN(h:St I w (aB e size R v xs::L)):∃A c q V,v= .slice A q c/\q=xs.length/\St I w (ct e size (.slice A q c) q V::bj (λw=>∀(i:Nat) x,xs[i]? =some x->R w ((V.drop (i*size)).take size) x)::L):=by
 obtain⟨V,h⟩:=h.ex;have h:=h.star;obtain⟨A,c,rfl⟩:=h.slice;exact⟨A,c,_,V,rfl,rfl,h⟩
theorem St.cu{A:OA}{q c:Nat}(h:St I w (aB e size R (.slice A q c) xs::L)):∃V,q=xs.length/\V.length=q*size/\St I w (ct e size (.slice A q c) q V::bj (λw=>∀(i:Nat) x,xs[i]? =some x->R w ((V.drop (i*size)).take size) x)::L):=by
 obtain⟨X,r,M,V,e,d,h⟩:=h.rN;injection e with u Y P;subst u;subst Y;subst P;exact⟨V,d,(h.row 0 rfl).1,h⟩
theorem St.fS{q:Nat}{V K:LV}{x:α}(h:St I w (ct e size v (q+1) (V++K)::bj (λw=>∀(i:Nat) x,xs[i]? =some x->R w ((V.drop (i*size)).take size) x)::bj (λw=>R w K x)::L))(d:q=xs.length)(D:K.length=size)(o:V.length=q*size):St I w (aB e size R v (xs++[x])::L):=by
 subst d;refine St.eu (f:=λV=>aX (ct e size v (xs++[x]).length V) (bj (λw=>∀(i:Nat) y,(xs++[x])[i]? =some y->R w ((V.drop (i*size)).take size) y))) (V++K) ?_;refine St.aM ?_;rw[show(xs++[x]).length=xs.length+1 by simp];refine(h.sX.oY (λO Z G i y z=> ?_)).swap;by_cases F:i<xs.length
 ·rw[TE F]at z
  have B:(i+1)*size<=xs.length*size:=vz _ F;rw[xh,Eh]at B;have:=Z i y z;rwa[Xa oM,Vg ab2]
 ·have t:=(nQ.1 z).1
  have b:i=xs.length:=by simp at t;omega
  subst b;rw[OB (io _),Sm]at z;obtain rfl:x=y:=by simpa using z
  rw[<-o,Xo,<-D,MT];exact G
theorem St.nj(h:St I w (aB e size R v xs::L)):St I w (aG size R v xs::L):=by
 obtain⟨V,h⟩:=h.ex;exact h.star.rows rfl
end
theorem Ld(w:World)(e:TypeId)(K:LV):Sl (w.alloc (.cells K.toArray e)) Any K.length (aO w.heap.size) 1 K:=
 ⟨by simp,λ_=>⟨_,rfl,trivial,by simp,λj y E=>by
  rw[show(⟨w.heap.size,0,none⟩:Addr).add j=⟨w.heap.size,j,none⟩by simp[Addr.add];exact UQ,(eK.new _ _ _).cell];simpa using E⟩⟩
theorem Se{w:World}{e:TypeId}{K:LV}{g:Nat}(C:g=w.heap.size):Sl (w.alloc (.cells K.toArray e)) Any K.length (aO g) 1 K:=by
 subst C;exact Ld w e K
theorem St.qT{I:aK}{w:World}{L:List az}(h:St I w L)(e:TypeId)(size n:Nat)(V:LV)(F:V.length=n*size)(W:n<=100000)(g:Nat)(C:g=w.heap.size:=by simp):St I (w.alloc (.cells V.toArray e)) (ct e size (.slice (aO g) n n) n V::L):=by
 subst C;refine h.newRow ((Fr.refl _ _).alloc _) (tq (eK.new w e V.toArray) ?_ ?_ (io _) ab7 (iD _)) (λb B=> ?_)
 ·rw[<-F];exact abN
 ·simpa using F
 ·simp[Value.ownBlock]at B;omega
theorem St.Kj{I:aK}{w:World}{L:List az}(h:St I w L)(e:TypeId)(k:IntKind)(xs:LI)(W:xs.length<=100000)(g:Nat)(C:g=w.heap.size:=by simp):St I (w.alloc (.cells (xs.map (Value.int k)).toArray e)) (ai k (.slice (aO g) xs.length xs.length) xs::L):=
 (h.qT e 1 xs.length (xs.map (Value.int k)) abN W g C).ints
theorem pW{w:World}{p:Addr}{a b c:Value}(h:∀j u,[a,b,c][j]? =some u->w.cell? (p.add j)=some u):w.cell? p=some a/\w.cell? ⟨p.block,p.off+1,none⟩=some b/\w.cell? ⟨p.block,p.off+2,none⟩=some c:=
 ⟨by simpa[Addr.add]using h 0 a rfl,by simpa[Addr.add]using h 1 b rfl,by simpa[Addr.add]using h 2 c rfl⟩
end
section
def flat(b:Nat->LV)(n:Nat):LV:=(List.range n).flatMap b
theorem BI(b:Nat->LV)(n:Nat):flat b (n+1)=flat b n++b n:=by simp[flat,XH]
theorem lV{css:Nat->LV}{n size:Nat}(h:∀i,i<n->(css i).length=size):(flat css n).length=n*size:=by
 induction n with
 |zero=>simp[flat]
 |succ n K=>rw[BI,dB,K (λi z=>h i oM),h n oM,xh,Eh]
theorem KE{css:Nat->LV}{n size:Nat}(h:∀i,i<n->(css i).length=size){i:Nat}(z:i<n):((flat css n).drop (i*size)).take size=css i:=by
 induction n with
 |zero=>omega
 |succ n K=>
  have F:=lV (css:=css) (n:=n) (size:=size) (λi z=>h i oM);rw[BI];by_cases u:i<n
  ·have B:(i+1)*size<=n*size:=vz _ u
   rw[xh,Eh]at B;rw[Xa oM,Vg ab2];exact K (λi z=>h i oM) u
  ·have e:i=n:=oM
   subst e;rw[<-F,Xo,<-h i oM,MT]
section
variable {α:Type} {I:aK} {w:World} {L:List az} {size:Nat} {R:World->LV->α->Prop} {xs:List α}
theorem cn.sl{A:OA}{n c:Nat}{b:Nat->LV}(h:cn w size R (.slice A n c) b xs)(V:0<size):Sl w Any size A n (flat b n)/\n=xs.length/\n<=c/\c<=maxLen/\(∀i,i<n->(b i).length=size):=by
 obtain⟨X,r,e,Z,G,M⟩:=h;injection e with C Y P;subst C;subst Y;subst P;have F:∀i,i<xs.length->(b i).length=size:=λi z=>by
  obtain⟨T,_,S,_⟩:=M i _ (g7 z);exact S
 refine⟨⟨lV F,λW=> ?_⟩,rfl,Z,G,F⟩;obtain⟨T,rfl,_,k,_⟩:=M 0 _ (g7 W);have g:∀j u,(flat b xs.length)[j]? =some u->w.cell? (T.add j)=some u:=by
  intro j u y;have H:j<xs.length*size:=by
   have:=(nQ.1 y).1;rwa[lV F]at this
  have z:j/size<xs.length:=Nat.div_lt_of_lt_mul (by rwa[ZO]at H);obtain⟨U,e,_,D,_⟩:=M (j/size) _ (g7 z);injection e with e;subst e;have a:=KE F z;have o:j%size<size:=Nat.mod_lt _ V;have d:(b (j/size))[j%size]? =some u:=by
   rw[<-a,AW,iP o,zU,show j/size*size+j%size=j from Nat.div_add_mod' j size];exact y
  have:=D (j%size) u d;rwa[eF,Nat.div_add_mod' j size]at this
 refine⟨T,rfl,trivial,?_,g⟩;have K:0<(flat b xs.length).length:=by rw[lV F];exact Nat.mul_pos W V
 have:=World.block_lt_of_cell? _ _ (g 0 _ (g7 K));rwa[fh]at this
theorem St.RP{v:Value}(h:St I w (aG size R v xs::L)):∃b,St I w (bj (λO=>cn O size R v b xs)::L):=h.ex
end
end
section
theorem s8(z:Value)(k:Nat):Builtin.zeroCells #[z] k=(List.replicate k z).toArray:=by
 apply ZL.1;unfold Builtin.zeroCells;apply XC;intro i;simp only[Yy,zcT,zA];by_cases Q:i<k*1
 ·rw[show(#[z]:Vq).size=1 from rfl,VK Q,List.getElem?_replicate,iP oM]
  simp[Nat.mod_one]
 ·rw[show(#[z]:Vq).size=1 from rfl,KV (by simpa using Wm Q),KV abS]
  rfl
section
variable {P:Program} {I:aK} {w:World} {L:List az} {t b e:TypeId} {z:Value} {bytes:Nat} {A:OA} {n c:Nat} {xs:LV}
theorem St.Oa{J:IntKind}(N:fY P t e z 1 bytes)(o:z.cells= #[z])(E0:z.oneCell'=true)(W:P.underlying b=some (.int J))(h:St I w (ct e 1 (.slice A n c) n xs::L))(l:TypeId)(j:IntKind)(k:Nat)
 (Q:(n+k)*bytes<=140737488355328) (hn:n+k<=140737488355328) (hk:(k:Int)*(bytes:Int)<=281474976710656):
 ∃v' O,(Builtin.append_ #[t,b] l #[.slice A n c,.int j k]).run P w= .ok v' O/\St I O (ct e 1 v' (n+k) (xs++List.replicate k z)::L):=by
 obtain⟨q,X,H,a,y⟩:=info_parts N.kF;have r:=h.row 0 rfl;have hw:IntKind.i64.wrap (k:Int)=k:=by rw[IntKind.wrap_i64];omega
 have B0:¬((k:Int)<0):=oM
 have F:¬(281474976710656<(k:Int)*(q.bytes:Int)):=by rw[y];omega
 by_cases K:k=0
 ·subst K
  refine⟨.slice A n c,w,?_,by simpa using h⟩;have T:n<=c:=by
   rcases r.2 with⟨u,Y⟩|⟨g,cap,E,u,_,_,D,_⟩
   ·rw[Y];exact iD _
   ·injection u with _ _ d
    subst d;exact D
  have x:IntKind.i64.wrap 0=0:=by rw[IntKind.wrap_i64];omega
  cases A with
  |none=>simp[Builtin.append_,run_underlying N.ht,run_underlying W,sizeOf,typeInfo,X,asInt,asIntOf,x,T]
  |some G0=>simp[Builtin.append_,run_underlying N.ht,run_underlying W,sizeOf,typeInfo,X,asInt,asIntOf,x,T,storeCells]
 by_cases T:n+k<=c
 ·rcases r.2 with⟨u,Y⟩|⟨g,cap,E,u,M,C,D,p,B,R⟩
  ·injection u with _ _ d
   omega
  ·injection u with u _ d
   subst u;subst d;simp only[Uz]at B R;have G:=run_storeCells_at P g n e (List.replicate k z) 0 E w C abS (λK0 hu=>by rw[ZK hu];exact E0);simp only[yd,WQ]at G;have I0:¬(k*1=0):=oM
   have i:=s8 z k;have D0:(Builtin.append_ #[t,b] l #[.slice (aO g) n c,.int j k]).run P w= .ok (.slice (aO g) (n+k) c) (w.setRow g (E.toList.take n++List.replicate k z++E.toList.drop (n+k)).toArray):=by
    simp[Builtin.append_,run_underlying N.ht,run_underlying W,sizeOf,typeInfo,zeroValue,X,H,a,asInt,asIntOf,hw,B0,F,T,K,o,i,Addr.add_lit,G]
   refine⟨_,_,D0,h.oN (v':= .slice (aO g) (n+k) c) ⟨?_,.inr ⟨g,c,_,rfl,iD _,setRow_heap w g E _ e _ C,T,p,?_,?_⟩⟩ ⟨rfl,rfl,rfl,by simp,λF0 _ hj=>setRow_other w g F0 _ (λe=>hj (by simp[Value.ownBlock,e]))⟩ (.inl rfl)⟩
   ·rw[dB,r.1,WQ];omega
   ·simp only[RT,dB,fV,km,UR,WQ]
    omega
   ·rw[R,Uz]
    have hl:(xs++List.replicate k z).length=n+k:=by rw[dB,r.1,WQ];omega
    rw[<-hl];exact Xe
 ·have C0:(Builtin.firstCells q.size n (.slice A n c)).run P w.drew= .ok xs.toArray w.drew:=by
   rcases r.2 with⟨u,Y⟩|⟨g,cap,E,u,M,C,D,p,B,R⟩
   ·injection u with u H0 d
    subst u;subst Y;subst d;have:xs=[]:=BJ (by simpa using r.1);subst this
    rfl
   ·injection u with u _ d
    subst u;subst d;exact run_firstCells_some (P:=P) w.drew q.size n ⟨g,0,none⟩ n c xs (by rw[a];exact r.1) (r.cells (g:=g) rfl)
  have U:=Lib.run_append_grow_zeros (P:=P) w t b l e q z j J N.ht W X H A n c xs C0 k oM (by rw[a];omega) oM oM (by rw[y];omega) (growslice_fits oM (by rw[y];exact Q));have A0:=grownCap_ge w (n+k) c e;have S:grownCap w (n+k) c e<=maxLen:=grownCap_le_maxLen w (n+k) c e ab7;have i:=s8 z k;have V:(xs++List.replicate k z).length=n+k:=by rw[dB,r.1,WQ];omega
  refine⟨_,_,U,h.tail.newRow ((Fr.refl _ _).drew.alloc _) ⟨by rw[V,Uz],.inr ⟨w.heap.size,_,_,rfl,iD _,heap_alloc_new w.drew _,A0,S,?_,?_⟩⟩ (λb Z=>by simp[Value.ownBlock]at Z;omega)⟩
  ·have J0:=r.1
   simp only[Array.size_append,RT,size_zeroCells,o];exact abS
  ·simp only[Array.toList_append,o,i]
   rw[Uz,<-V];exact Xe
end
end
theorem GS{α:Type}{size:Nat}(T:List (LV×α))(F:∀p∈T,p.1.length=size):(T.flatMap (·.1)).length=T.length*size:=by
 induction T with
 |nil=>exact abN
 |cons p r K=>rw[BA,dB,F p abN,K (λq d=>F q (by simp[d])),qR,xh,Eh,YW]
theorem Ht{α:Type}{size:Nat}(T:List (LV×α))(F:∀p∈T,p.1.length=size):∀(i:Nat) (p:LV×α),T[i]? =some p->((T.flatMap (·.1)).drop (i*size)).take size=p.1:=by
 induction T with
 |nil=>intro i p h;simp at h
 |cons q r K=>
  intro i p h;rw[BA];have d:=F q abN
  cases i with
  |zero=>
   obtain rfl:q=p:=by simpa using h
   rw[XJ,Bg,<-d,Xe]
  |succ i=>
   rw[xh,Eh,YW,<-d,zc5,d];rw[UK oM,zm,show size+i*size-size=i*size by omega];exact K (λq d=>F q (by simp[d])) i p ace
theorem St.uV{α:Type}{I:aK}{w:World}{L:List az}{R:World->LV->α->Prop}{size:Nat}(T:List (LV×α))(e:TypeId)(F:∀p∈T,p.1.length=size)(h:St I w (bj (λO=>∀p∈T,R O p.1 p.2)::L))(W:T.length<=100000)(g:Nat)(C:g=w.heap.size:=by simp):
 St I (w.alloc (.cells (T.flatMap (·.1)).toArray e)) (aG size R (.slice (aO g) T.length T.length) (T.map (·.2))::L):=by
 have Z:=(h.bC (R':=λO=>∀i x,(T.map (·.2))[i]? =some x->R O (((T.flatMap (·.1)).drop (i*size)).take size) x) (λO U i x z=>by
  rw[zA]at z
  cases P:T[i]? with
  |none=>rw[P]at z;cases z
  |some p=>
   rw[P]at z;obtain rfl:p.2=x:=by simpa using z
   rw[Ht T F i p P];exact U p (qP P))).qT e size T.length (T.flatMap (·.1)) (GS T F) W g C
 exact Z.rows abN
section
section
variable {P:Program} {I:aK} {w O:World} {L:List az} {t e:TypeId} {z:Value} {size bytes:Nat} {n:Nat} {xs:LV}
theorem St.FD(N:fY P t e z size bytes)(h:St I w L)(l:TypeId){q:OA}(M:Sl w Any size q n xs)(A:OA)(m c:Nat)(R:LV)(U:Sl w Any size A m R)(Z:∀u∈R,u.oneCell'=true)(p:0<m)
 (B:(n+m)*bytes<=140737488355328) (W:n+m<=140737488355328):
 ∃d O,(Builtin.append_ #[t,t] l #[.slice q n n,.slice A m c]).run P w= .ok d O/\St I O (ct e size d (n+m) (xs++R)::L):=by
 rcases q with _|b
 ·have K:n=0:=by
   rcases RX n with K|K
   ·exact K
   ·obtain⟨T,h,_⟩:=M.2 K
    cases h
  subst K;have J:xs=[]:=BJ (by simpa using M.1);subst J;exact St.uW N (h.mq e size) l A m c R U Z B W
 ·obtain⟨i0,Y,x,S,o⟩:=info_parts N.kF
  obtain⟨T,rfl,_,C0,D⟩:=U.2 p;obtain⟨d,O,V,E,j⟩:=run_append_arg_grows (P:=P) w t l e i0 z size bytes N.ht Y x S o N.IU N.kN b n n xs M.1 (λA0 u y=>by
   rcases RX n with K|K
   ·subst K
    have J:xs=[]:=BJ (by simpa using M.1);subst J;simp at y
   ·obtain⟨B0,F,_,_,a⟩:=M.2 K
    injection F with F;subst F;exact a A0 u y) T m c R U.1 D oM ab7 B
  refine⟨d,O,V,?_⟩;have H:O.ownsRow 0 e size d (n+m) (xs++R):=⟨E.1,by
   rcases E.2 with G|⟨g,cap,X,C,e2,r⟩
   ·exact .inl G
   ·exact .inr ⟨g,cap,X,C,iD _,r⟩⟩
  refine h.newRow ((Fr.refl _ _).grown j (λk Q=>by cases Q)) H (λg i=> ?_);exact(E.lt g i).1
theorem QY{Q:Exit->Act->World->Prop}{S:World->Prop}{b:Nat}{l:List Oper}{i:Nat}{r:List Nat}{a:Act}{o:Oper}(N:fY P t e z size bytes)(h:St I w L)(E:l[i]? =some o)(C:o.guard=none)(s x:Operand)
 (M:o.op= .call {callee:= .builtin .append,args:= #[s,x],argTypes:= #[t,t]}) {q:OA} (V:a.eval s= .slice q n n) (U:Sl w Any size q n xs)
 (A:OA) (m c:Nat) (J:a.eval x= .slice A m c) (R:LV) (g:Sl w Any size A m R) (Z:∀u∈R,u.oneCell'=true) (p:0<m)
 (B:(n+m)*bytes<=140737488355328) (W:n+m<=140737488355328)
 (k:∀X j O,St I O (ct e size (.slice X (n+m) j) (n+m) (xs++R)::L)->(i<b->S O)/\dJ P l.toArray Q S b r (a.put o.dst (.slice X (n+m) j)) O):dJ P l.toArray Q S b (i::r) a w:=by
 obtain⟨H,O,T,G⟩:=St.FD N h o.type U A m c R g Z p B W;obtain⟨X,j,rfl⟩:=G.slice;have d:=k X j O G;exact lC E C abY d.1 d.2
theorem St.XY{α:Type}{R:World->LV->α->Prop}{C:List α}{v j:Value}{q:Nat}{css:Nat->LV}{K:LV}{x:α}
 (h:St I w (ct e size v (q+1) (flat css q++K)::bj (λO=>cn O size R j css C)::bj (λO=>R O K x)::L)) (d:q=C.length) (D:K.length=size) (F:∀i,i<q->(css i).length=size):
 St I w (bj (λO=>cn O size R v (λi=>((flat css q++K).drop (i*size)).take size) (C++[x]))::L):=by
 subst d;have a:=lV (css:=css) (n:=C.length) F;refine(h.xZ.sX.oY (Q:=λO=>∀i y,(C++[x])[i]? =some y->R O (((flat css C.length++K).drop (i*size)).take size) y) (λO Z G i y z=> ?_)).swap.oY (λO Z G=>cn.qm Z abN G);by_cases t:i<C.length
 ·rw[TE t]at z
  have B:(i+1)*size<=C.length*size:=vz _ t;rw[xh,Eh]at B;rw[Xa oM,Vg ab2,KE F t];obtain⟨_,_,_,_,_,M⟩:=Z;obtain⟨_,_,_,_,U⟩:=M i y z;exact U
 ·have B:=(nQ.1 z).1
  have b:i=C.length:=by simp at B;omega
  subst b;rw[OB (io _),Sm]at z;obtain rfl:x=y:=by simpa using z
  rw[<-a,Xo,<-D,MT];exact G
end
end
theorem IX(v u:Value)(xs R:LI)(w:World)(J:ay w .u8 v xs)(M:ay w .u8 u R):
 Calls prog 12 #[v,u] w λe O=>e= .returned (.bool (decide (xs=R)))/\∃n,O=w.drewN n:=by
 obtain⟨A,c,rfl,_,p,Z⟩:=J;obtain⟨P,d,rfl,_,L,C⟩:=M;unfold maxLen at p L;refine bq Z C λg a=>?_;clear Z C;by_cases l:xs.length=R.length
 ·have b:=aa l
  rw[<-l];generalize W:xs.length=n at*;have o:=aa W;clear W l
  go_enter func12,ntmps12
  go_wp2
  go_loopw [5] (λi wr=>∃k:Nat,k<=n/\i= iI k/\xs.take k=R.take k/\∃q,wr=w.drewN q) (λi _=>n-(intOf i).toNat)
  case atStart=>exact⟨0,iD _,rfl,rfl,0,rfl⟩
  case round=>
   obtain⟨k,hk,rfl,Q,q,rfl⟩:=hrel;have D:=aa Q;clear Q;by_cases t:k<n
   ·have K:k<xs.length:=by rw[o.out];exact t
    have z:k<R.length:=by rw[<-b.out];exact t
    obtain⟨T,x,rfl,_,_,j,H⟩:=Sl.at_ g t;obtain⟨V,y,rfl,_,_,U,I⟩:=Sl.at_ a z;rw[zA,g7 K]at j;rw[zA,g7 z]at U;obtain rfl: .int .u8 xs[k]=x:=by injection j
    obtain rfl: .int .u8 R[k]=y:=by injection U
    generalize S:xs[k]=X at H;generalize G:R[k]=Y at I;refine bq S G λF N=>?_;clear S G j U;by_cases r:X=Y
    ·subst r
     go_wp2
     go_quiet (fail)
     go_wp2
     go_roundw
     case rel=>exact⟨k+1,oM,by go_num,Ec K z D (F.trans N.symm),_,rfl⟩
     case measure=>exact adY
    ·have B:=Oc r
     go_wp2
     go_quiet (fail)
     go_wp2
     go_ret
     refine⟨?_,_,World.drewN_drewN _ _ _⟩;rw[dQ (by rintro rfl;exact r (F.out.symm.trans N.out))]
     rfl
   ·go_wp2
    go_ret
    refine⟨?_,q,rfl⟩;have E:xs=R:=by
     have h:=D.out;rwa[oJ (by rw[o.out];omega),oJ ab9]at h
    rw[dZ E]
    rfl
 ·have B:((xs.length:Int) !=(R.length:Int))=true:=by rw[bne_iff_ne];omega
  have b:=aa l;clear l g a
  go_enter func12,ntmps12
  go_wp2
  go_ret
  refine⟨?_,0,rfl⟩;rw[dQ (by rintro rfl;exact b.out rfl)]
  rfl
section
def fb(b:Nat)(o:Obj):az where
 holds _ w F:=(∀x,F x↔x=b)/\w.heap[b]? =some o
 lt h hb:=by rw[(h.1 _).1 hb];exact(CE.1 h.2).1
 loc h _ _ hb:=⟨h.1,(hb _ ((h.1 _).2 rfl)).trans h.2⟩
section
variable {I:aK} {w:World} {L:List az} {b:Nat} {o:Obj}
theorem St.obj(h:St I w L)(i:Nat)(z:L[i]? =some (fb b o)):w.heap[b]? =some o:=by
 exact ad4
theorem St.CF(h:St I w L)(o:Obj):St I (w.alloc o) (fb w.heap.size o::L):=
 h.add (F':=(·=w.heap.size)) ((Fr.refl _ _).alloc _) (λ_ _=>⟨λ_=>Ve,heap_alloc_new w _⟩) (λ_ B=>YX B.symm)
theorem St.uo(h:St I w (fb b o::L))(g:Obj):St I (w.putObj b g) (fb b g::L):=by
 have t:b<w.heap.size:=(CE.1 (h.obj 0 rfl)).1;obtain⟨M,F,_,_,J,_,Q⟩:=h.head;refine Q _ _ F ⟨rfl,rfl,rfl,by simp,λk _ V=>World.putObj_heap_other (λe=>V ((J.1 k).2 e))⟩ (λ_=>⟨J.1,World.putObj_heap_same t⟩) (λ_ B=> .inl B)
end
abbrev tJ(fn:FuncId)(tmps:Vq)(T:Array Tmp)(assign body:Code)(D:Nat)(p:LoopState):Loop:={state:=p,pending:=none,fn:=fn,tmps:=tmps,params:=T,assign:=assign,body:=body,defers:=D}
theorem uK{P:Program}{g:Operand}{T:Array Tmp}{assign b:Code}{Q:Exit->Act->World->Prop}{a:Act}{w:World}{I:aK}{L:List az}{gf:Nat}{lb:Vq}{n:Nat}
 (C:a.eval g= .func (.func gf) #[] lb) (o:∀args w,(callFunc gf args).run P w= .ok (.enter gf args) w) (h:St I w L)
 (p:∀(r:FuncId) (z D:Nat) (u:World),St I u (fb z (.loop (tJ r a.tmps T assign b D .ready))::fb D (.deferred (some []))::L)->
  CallsIn Fence.wide (n-1) P gf (#[.func (.yield z) #[] #[]]++lb) u λe k=>(∃v,e= .returned v)/\∃N,St I k (fb z (.loop (tJ r a.tmps T assign b D .ready))::fb D (.deferred (some []))::N)/\
   (∀l,St I l (fb D (.deferred (some []))::N)->Q .normal {a with defers:={target:= .collected D,args:= #[]}::a.defers} l)):
 (Code.rangeFunc g T assign b).wpIn Fence.wide n P Q a w:=by
 refine wpIn_rangeFunc ?_;intro r _;have Z:=(h.CF (.deferred (some []))).CF (.loop (tJ r a.tmps T assign b w.heap.size .ready));rw[World.size_alloc]at Z;refine⟨w.heap.size+1,[{target:= .collected w.heap.size,args:= #[]}],(w.alloc (.deferred (some []))).alloc (.loop (tJ r a.tmps T assign b w.heap.size .ready)),{target:= .fn (.func gf) lb,args:= #[.func (.yield (w.heap.size+1)) #[] #[]]},(w.alloc (.deferred (some []))).alloc (.loop (tJ r a.tmps T assign b w.heap.size .ready)),gf,
  #[.func (.yield (w.heap.size+1)) #[] #[]]++lb,(w.alloc (.deferred (some []))).alloc (.loop (tJ r a.tmps T assign b w.heap.size .ready)),?_,?_,?_,?_,λy=> ?_,?_⟩
 ·exact run_enterLoop_outer _ _ _ _ _
 ·simp only[resolve,C]
  exact acG
 ·intro i _
  trivial
 ·simp[invoke,go_sem,o]
 ·simp[Fence.wide]at y
 ·refine(p r (w.heap.size+1) w.heap.size _ Z).mono ?_
  rintro e k⟨⟨v,rfl⟩,N,G,d⟩;have F:=G.obj 0 rfl;exact⟨none,_,run_endLoop F abN,d _ (G.uo _).tail⟩
theorem OM{P:Program}{z D:Nat}{r:FuncId}{tmps args:Vq}{T:Array Tmp}{assign b:Code}{I:aK}{W:World}{L:List az}{n:Nat}(L':List az)(i:Act)
 (h:St I W (fb z (.loop (tJ r tmps T assign b D .ready))::L)) (V:args.size=T.size)
 (c:∀(u:World) (K:Act->World->Prop),K i u->assign.wpIn (Fence.wide.inRound z) n P (Exit.then K (λ_ _ _=>False)) {tmps:=(T.zip args).foldl (λt (p,v)=>t.setIfInBounds p v) tmps,defers:=[]} u)
 (g:∀u,St I u (fb z (.loop (tJ r tmps T assign b D .busy))::L)->b.wpIn (Fence.wide.inRound z) n P (λe _ k=>e= .normal/\St I k (fb z (.loop (tJ r tmps T assign b D .busy))::L')) i u):
 YieldAt Fence.wide n P z args W λe k=>e= .returned (.bool true)/\St I k (fb z (.loop (tJ r tmps T assign b D .ready))::L'):=by
 have F:=h.obj 0 rfl;refine⟨r,_,assign,b,run_yield F V,roundIn_of_wpIn trivial (c W _ ⟨_,run_beginRound F rfl,?_⟩)⟩;refine wpIn_mono (g _ (h.uo _)) ?_;exact aeq
end
section
def pu(g:Nat)(r:Rd):az:=Bc λv=>aX (ab g 303 #[v,.bool r.s]) (ai .u8 v r.xs)
section
variable {I:aK} {w:World} {L:List az} {g:Nat}
theorem St.rd(h:St I w (pu g r::L)):∃A c,r.xs.length<=c/\c<=9223372036854775807/\St I w (ab g 303 #[.slice A r.xs.length c,.bool r.s]::ai .u8 (.slice A r.xs.length c) r.xs::L):=by
 obtain⟨v,h⟩:=h.ex;have h:=h.star;obtain⟨A,c,rfl,Z,G,_⟩:=h.get 1 rfl;exact⟨A,c,Z,G,h⟩
theorem St.Lp{v:Value}{xs:LI}{s:Bool}(h:St I w (ab g 303 #[v,.bool s]::ai .u8 v xs::L)):St I w (pu g ⟨xs,s⟩::L):=
 h.aM.eu (f:=λv=>aX (ab g 303 #[v,.bool s]) (ai .u8 v xs)) v
end
theorem ay.drop{w:World}{k:IntKind}{A:OA}{n c m:Nat}{xs:LI}(h:ay w k (.slice A n c) xs)(p:m<=n)(X:OA)(o:m<n->X=A.map (·.add m)):ay w k (.slice X (n-m) (c-m)) (xs.drop m):=by
 obtain⟨K,Z,G,M⟩:=h.sl;have F:(xs.drop m).length=n-m:=by rw[km];omega
 refine⟨X,c-m,by rw[F],by rw[F];omega,by unfold maxLen;omega,by rw[qI];omega,λP=> ?_⟩;rw[F]at P;obtain⟨T,e,d,B,D⟩:=M.2 oM;subst e;refine⟨T.add m,by rw[o oM];rfl,trivial,by rw[fh];exact B,λj u y=> ?_⟩;rw[eF];refine D (m+j) u ?_;rwa[WN,zU]at y
theorem Lg{I:aK}{L:List az}(g:Nat)(r:Rd)(n:Nat)(w:World)(h:St I w (pu g r::L)):
 Calls prog 175 #[pO g,iI n] w λe O=>∃v,e= .returned v/\St I O (ai .u8 v (r.take n).1::pu g (r.take n).2::L):=by
 obtain⟨xs,s⟩:=r;obtain⟨A,c,D,p,h⟩:=h.rd;simp only at D h;unfold Rd.take;have E:=(h.ah 0 rfl).cell 0;have S:=(h.ah 0 rfl).cell 1;have f0:=(h.ah 0 rfl).frozen 0;have f1:=(h.ah 0 rfl).frozen 1;have H:=aa h;clear h
 cases s with
 |true=>
  rw[iP (.inl rfl)]
  exact adC
 |false=>
  by_cases t:xs.length<n
  ·rw[iP (.inr t)]
   exact adC
  ·rw[iN abS]
   have key:∀X:OA,(n<xs.length->X=A.map (·.add n))->St I ((w.setCell ⟨g,1,none⟩ (.bool false)).setCell ⟨g,0,none⟩ (.slice X (xs.length-n) (c-n))) (ai .u8 (.slice A n c) (xs.take n)::pu g ⟨xs.drop n,false⟩::L):=by
    intro X y;have h:=((H.bE 1 (.bool false)).bE 0 (.slice X (xs.length-n) (c-n))).swap;have Z:=((h.copy 0 rfl).bC (R':=λO=>ay O .u8 (.slice A n c) (xs.take n)) (λO h=>h.cut oM));have G:=Z.swap.bC (R':=λO=>ay O .u8 (.slice X (xs.length-n) (c-n)) (xs.drop n)) (λO h=>h.drop oM _ y);exact(St.Lp G.tW).swap
   have d:=aa key;clear key
   go_enter func175,ntmps175
   go_wp2
   all_goals
    go_ret
    first
    |exact⟨_,rfl,d _ (λ_=>rfl)⟩
    |(
     obtain rfl:c=n:=oM
     have Z:=d.out A (λ_=>oM);rw[Sm]at Z;exact⟨_,rfl,Z⟩)
theorem PE(a c:Int)(k:Nat)(T:0<=a)(Z:a<256^k)(D:0<=c)(Q:k<8)(G:c<=255):bits .or .u64 a (IntKind.u64.wrap (c*2^(8*k)))=a+c*256^k:=by
 obtain⟨A,rfl⟩:=BE T;obtain⟨C,rfl⟩:=BE D;have P:(256:Int)^k=((2^(8*k):Nat):Int):=by
  rw[Nat.pow_mul];exact abN
 rw[P]at Z⊢;have x:(2:Nat)^(8*k)<=2^56:=Nat.pow_le_pow_right oM oM;have F:C*2^(8*k)<=255*2^56:=Nat.mul_le_mul oM x;have u:(C:Int)*2^(8*k)=((C*2^(8*k):Nat):Int):=by simp
 have Y:(C:Int)*((2^(8*k):Nat):Int)=((C*2^(8*k):Nat):Int):=by simp
 rw[u,Y,IntWalk.u64_in _ oM,u64_or_nat A _ oM oM];have:=Nat.two_pow_add_eq_or_of_lt (i:=8*k) (b:=A) oM C;rw[Nat.or_comm,ZO C,<-this];omega
theorem bN{I:aK}{L:List az}(g:Nat)(r:Rd)(size:Int)(w:World)(B:Bytes r.xs)(F:r.xs.length<=140737488355328)(o:r.s=true->r.xs=[])(h:St I w (pu g r::L)):
 Rt I w 136 #[pO g,iI size] (iU (r.num size).1) (pu g (r.num size).2::L):=by
 obtain⟨k,Q⟩:=nM (r.size size);have M:(size<1\/8<size->k=r.xs.length+1)/\(1<=size->size<=8->(k:Int)=size):=by
  subst Q;unfold Rd.size
  split<;>omega
 have A0:(r.take k).1.length<=8:=by
  have:=r.take_len k;rcases(by omega:(size<1\/8<size)\/1<=size/\size<=8)with Z|Z
  ·unfold Rd.take
   have:=M.1 Z;rw[iP (.inr oM)];exact abN
  ·have:=M.2 Z.1 Z.2
   omega
 have O:=(r.sj k B).1;have T:=aa (λw (h:St I w (pu g r::L))=>Lg g r k w h);unfold Rd.num;rw[<-Q];have C:=aa Q;generalize(r.take k).1=out at*;generalize(r.take k).2=r2 at*;clear Q;obtain⟨xs,s⟩:=r;obtain⟨A,c,d,hm,Z⟩:=h.rd;simp only at d Z B F o M;have D:=(Z.ah 0 rfl).cell 0;have H:=aa h;clear h Z;rcases(by omega:size<1\/8<size\/(1<=size/\size<=8))with Z|Z|⟨Z,W⟩;obtain rfl:=M.1 (.inl Z)
 rotate_left
 obtain rfl:=M.1 (.inr Z);have Y:¬size<1:=oM
 rotate_left
 obtain rfl:=M.2 Z W;have Y:¬(k:Int)<1:=oM
 have V:¬8<(k:Int):=oM
 rotate_left
 all_goals
  go_enter func136,ntmps136
  go_wp2_with fail
  refine(T _ H).mono ?_;rintro e w1⟨v,rfl,h⟩;clear T H D;obtain⟨P,S,rfl,_,_,_⟩:=h.get 0 rfl;generalize E:out.length=q at*;refine bq E h λK H=>?_;clear E h
  go_wp2_with fail
  go_loop [5,24] (λx i=>∃j:Nat,j<=q/\i= iI j/\x= iU (iq (out.take j))) (λ_ i=>q-(intOf i).toNat)
  case atStart=>exact⟨0,iD _,rfl,rfl⟩
  case round=>
   obtain⟨j,hj,rfl,rfl⟩:=hrel;by_cases t:j<q
   ·have J:=g7 (l:=out) (i:=j) (by rw[K.out];exact t)
    generalize out[j]'(by rw[K.out];exact t)=x at J;obtain⟨p,u,rfl,_,_,y,z⟩:=(H.get 0 rfl).sl.2.2.2.at_ t;rw[zA,J]at y;obtain rfl:Value.int .u8 x=u:=by simpa using y
    have X:isByte x:=O x (qP J);unfold isByte at X;obtain⟨n,N⟩:=X;have U:=iS (O.take j);have R:(out.take j).length=j:=by rw[fV,K.out];omega
    rw[R]at U;have b:=RA (out.take j) x;rw[R,show out.take j++[x]=out.take (j+1)by rw[JU,J];rfl]at b;have G:=aa b;have E:=PE (iq (out.take j)) x j U.1 U.2 n oM N;generalize iq (out.take j)=a at*;have w8:IntKind.i64.wrap (8*(j:Int))=8*(j:Int):=IntWalk.i64_in _ oM;have w0:(0:Int)<=8*(j:Int):=oM
    have wl:8*(j:Int)<=64:=oM
    have w2:(8*(j:Int)).toNat=8*j:=oM
    clear b J y U R
    go_wp2
    go_round
    case rel=>exact⟨j+1,oM,by go_num,by rw[G.out]⟩
    case measure=>exact adY
   ·obtain rfl:j=q:=oM
    have e:out.take j=out:=oJ (by rw[K.out];exact io _);rw[e];clear e
    go_wp2
    go_ret
    exact aeI
theorem Rd.MZ(r:Rd)(size:Int)(B:Bytes r.xs)(_hl:r.xs.length<=140737488355328):Bytes (r.num size).2.xs/\(r.num size).2.xs.length<=r.xs.length/\0<=(r.num size).1/\(r.num size).1<18446744073709551616:=by
 have Z:=r.sj (r.size size) B;have G:=r.take_len (r.size size);have M:=iS Z.1;refine⟨Z.2,G.2.2,M.1,XF M.2 (Rx ?_)⟩;unfold Rd.size at G⊢
 split at G
 ·rename_i h
  rw[iP h];unfold Rd.take;rw[iP (.inr oM)];exact abN
 ·rename_i h
  rw[iN h];omega
theorem Rd.WV(r:Rd)(n:Nat):(r.take n).2.s=true->(r.take n).2.xs=[]:=by
 unfold Rd.take
 split
 ·intro _;rfl
 ·intro h;cases h
theorem Rd.UP(r:Rd)(B:Bytes r.xs):(r.num 2).1<65536:=by
 have Z:=r.sj (r.size 2) B;have G:=r.take_len (r.size 2);have M:=iS Z.1;have S:(r.take (r.size 2)).1.length<=2:=G.1;refine XF M.2 ?_;have:∀k,k<=2->(256:Int)^k<=65536:=dC
 exact this _ S
theorem qU{I:aK}{L:List az}(g:Nat)(r:Rd)(w:World)(h:St I w (pu g r::L)):
 Rt I w 137 #[pO g] (iI r.kw) (pu g r::L):=by
 obtain⟨xs,s⟩:=r;obtain⟨A,c,d,p,Z⟩:=h.rd;have D:=(Z.ah 0 rfl).cell 0;have S:=(Z.ah 0 rfl).cell 1;simp only at d D S;have H:=aa h;clear Z h;unfold Rd.kw
 cases s with
 |true=>
  go_enter func137,ntmps137
  go_wp2
  go_ret
  exact⟨rfl,H⟩
 |false=>
  by_cases K:0<xs.length
  ·exact aeY
  ·exact aeY
theorem ou{I:aK}{L:List az}(v:Value)(xs:LI)(w:World)(h:St I w (ai .u8 v xs::L)):
 Calls prog 133 #[v] w λe O=>∃g,e= .returned (pO g)/\St I O (pu g ⟨xs,false⟩::ai .u8 v xs::L):=by
 obtain⟨A,c,rfl,_,_,_⟩:=h.get 0 rfl;have H:=aa h;clear h
 go_enter func133,ntmps133
 go_wp2
 go_ret
 exact⟨w.heap.size,rfl,St.Lp (((H.copy 0 rfl).alloc 303 #[.slice A xs.length c,.bool false]))⟩
structure Rd.Ok(r:Rd):Prop where
 hb:Bytes r.xs
 hl:r.xs.length<=140737488355328
 hz:r.s=true->r.xs=[]
theorem Rd.Ok.take(h:r.Ok)(n:Nat):(r.take n).2.Ok:=
 ⟨(r.sj n h.hb).2,qJ (r.take_len n).2.2 h.hl,r.WV n⟩
theorem Rd.Ok.num(h:r.Ok)(size:Int):(r.num size).2.Ok:=h.take _
theorem Rd.Ok.gI(h:r.Ok):r.gI.2.Ok:=(h.num 2).take _
theorem Rd.Ay(r:Rd)(B:Bytes r.xs)(m:Nat)(p:m<=8)(Z:1<=m):0<=(r.num m).1/\(r.num m).1<256^m:=by
 have Y:=r.sj (r.size m) B;have G:=r.take_len (r.size m);have M:=iS Y.1;have V:r.size (m:Int)=m:=by
  unfold Rd.size;rw[iN oM,rE]
 have S:(r.take (r.size m)).1.length<=m:=by have:=G.1;rw[V]at this⊢;exact this
 refine⟨M.1,XF M.2 ?_⟩;have:∀m,m<=8->∀k,k<=m->(256:Int)^k<=256^m:=dC
 exact this m p _ S
theorem Rd.mJ(h:r.Ok):0<=(r.num 1).1/\(r.num 1).1<256:=r.Ay h.hb 1 oM oM
theorem Rd.lB(h:r.Ok):0<=(r.num 4).1/\(r.num 4).1<4294967296:=r.Ay h.hb 4 oM oM
theorem Rd.yt(h:r.Ok):0<=(r.num 8).1/\(r.num 8).1<18446744073709551616:=r.Ay h.hb 8 oM oM
theorem BQ(n:Int)(k:Nat):aV n (k+1)=n%256::aV (n/256) k:=by
 unfold aV;rw[List.range_succ_eq_map,nG,Vn]
 congr 1
 ·exact abN
 ·apply Xp
  intro i _;simp only[Function.comp];rw[Nat.succ_eq_add_one,Zq,zdq,<-Int.ediv_ediv_of_nonneg oM]
theorem Gq(n:Nat)(k:Nat):iq (aV n k)=((n%256^k:Nat):Int):=by
 induction k generalizing n with
 |zero=>simp[Cm,iq,Nat.mod_one]
 |succ k K=>
  rw[BQ,iq,show(n:Int)/256=((n/256:Nat):Int)by omega,K,Nat.pow_succ,ZO (256^k),Nat.mod_mul];omega
theorem zV{t:LI}(h:Bytes t):aV (iq t) t.length=t:=by
 induction t with
 |nil=>rfl
 |cons x r K=>
  have J:=h x Eg;unfold isByte at J;rw[qR,BQ,iq];rw[show(x+256*iq r)%256=x by omega,show(x+256*iq r)/256=iq r by omega,K (λy E=>h y (Bd _ E))]
theorem Rd.take_append(a b:LI):Rd.take ⟨a++b,false⟩ a.length=(a,⟨b,false⟩):=by
 unfold Rd.take;rw[iN abN,Xe,Xo]
theorem Rd.pP(n:Nat)(k:Nat)(Z:1<=k)(W:k<=8)(b:LI):Rd.num ⟨aV n k++b,false⟩ (k:Int)=(((n%256^k:Nat):Int),⟨b,false⟩):=by
 have e:Rd.size ⟨aV n k++b,false⟩ (k:Int)=(aV (n:Int) k).length:=by
  unfold Rd.size;rw[iN oM,au];omega
 unfold Rd.num;rw[e,Rd.take_append,Gq]
theorem Rd.BG{n:Nat}(h:(r.take n).2.s=false):r.s=false/\r.xs=(r.take n).1++(r.take n).2.xs/\(r.take n).1.length=n:=by
 unfold Rd.take at h⊢
 split at h
 ·cases h
 ·rename_i D
  rw[iN D];have Z:r.s=false:=by
   cases V:r.s with
   |false=>rfl
   |true=>exact absurd (.inl V) D
  refine⟨Z,(Le n r.xs).symm,?_⟩;have:¬r.xs.length<n:=λl=>D (.inr l);show(r.xs.take n).length=n;exact ab5
theorem Rd.zG{m:Nat}(B:Bytes r.xs)(Z:1<=m)(W:m<=8)(h:(r.num (m:Int)).2.s=false):r.s=false/\r.xs=aV (r.num (m:Int)).1 m++(r.num (m:Int)).2.xs/\0<=(r.num (m:Int)).1:=by
 have e:Rd.size r (m:Int)=m:=by
  unfold Rd.size;rw[iN oM];omega
 unfold Rd.num at h⊢;simp only[e]at h⊢;obtain⟨l,c,L⟩:=Rd.BG h;have a:=(r.sj m B).1;have:=zV a;rw[L]at this;exact⟨l,by rw[this];exact c,(iS a).1⟩
end
structure RQ where
 op:Int
 region:Int
 index:Int
 token:Int
 seq:Int
 data:LI
structure Rg where
 ax:Int
 seq:Int
 b:Nat->LI
 log:List (LI)
def RQ.b9(r:RQ):Int:=if r.op<1\/5<r.op\/r.region<0\/255<r.region\/r.index<0\/255<r.index then 1 else if 24<r.data.length then 2 else 0
def RQ.bI(r:RQ):Bool:=r.op==2||r.op==4||r.op==5
def Rg.cT(n:Nat)(r:RQ):Bool×Int:=if r.op=4/\4<=n then(false,42)else if r.op=5/\(n:Int)<r.index then(false,1)else(true,0)
def Rg.nC(j seq:Int)(n:Nat)(r:RQ):Bool×Int:=
 if j<r.token then(if r.seq≠1 then(false,60)else Rg.cT n r)
 else if r.seq=seq then(false,0)else if r.seq<=seq then(false,80)else if r.seq≠seq+1 then(false,60)else Rg.cT n r
def Rg.next(x:Rg)(r:RQ):Bool×Int:=Rg.nC x.ax x.seq x.log.length r
def aE(m:Nat->Rg)(r:RQ):Bool×Int:=
 if r.b9≠0 then(false,r.b9)else if 4<=r.region then(false,93)else if r.op<=2/\4<=r.index then(false,101)
 else if r.token<(m r.region.toNat).ax\/(r.token=0/\r.bI=true)then(false,100)
 else if r.bI=true then(m r.region.toNat).next r else(false,0)
def aI{α:Type}(m:Nat->α)(k:Nat)(x:α):Nat->α:=λi=>if i=k then x else m i
theorem aT{α:Type}(m:Nat->α)(k:Nat)(x:α):aI m k x k=x:=iP rfl
theorem bS{α:Type}(m:Nat->α)(k i:Nat)(x:α)(h:i≠k):aI m k x i=m i:=iN h
theorem nY{α:Type}(m:Nat->α)(k:Nat)(x y:α):aI (aI m k x) k y=aI m k y:=by
 funext i
 unfold aI
 split<;>rfl
def Rg.act(x:Rg)(r:RQ):Rg:=
 {ax:=r.token,seq:=r.seq,b:=if r.op=2 then aI x.b r.index.toNat r.data else x.b,log:=if r.op=4 then x.log++[r.data]else if r.op=5 then x.log.drop r.index.toNat else x.log}
def Rg.out(x:Rg)(r:RQ):List (LI):=if r.op=1 then [x.b r.index.toNat]else if r.op=3 then x.log else []
def gL(m:Nat->Rg)(r:RQ):Nat->Rg:=if(aE m r).2=0/\(aE m r).1=true then aI m r.region.toNat ((m r.region.toNat).act r)else m
def mu(m:Nat->Rg)(r:RQ):List (LI):=if(aE m r).2=0 then(gL m r r.region.toNat).out r else []
structure Rg.ok(x:Rg):Prop where
 h0:0<=x.ax
 h1:x.ax<18446744073709551616
 s0:0<=x.seq
 s1:x.seq<4294967296
 ll:x.log.length<=4
 lb:∀l∈x.log,l.length<=24
 bb:∀j,(x.b j).length<=24
theorem RQ.gT{r:RQ}(h:r.b9=0):1<=r.op/\r.op<=5/\0<=r.region/\r.region<=255/\0<=r.index/\r.index<=255/\r.data.length<=24:=by
 unfold RQ.b9 at h
 exact aec
theorem Rg.xD{n:Nat}{r:RQ}(h:(Rg.cT n r).1=true):(r.op=4->n<4)/\(r.op=5->r.index<=n):=by
 unfold Rg.cT at h
 split at h
 ·cases h
 ·split at h
  ·cases h
  ·constructor<;>intro S<;>omega
theorem Rg.ID{x:Rg}{r:RQ}(h:(x.next r).1=true):(r.op=4->x.log.length<4)/\(r.op=5->r.index<=x.log.length):=by
 unfold Rg.next Rg.nC at h
 split at h
 ·split at h
  ·cases h
  ·exact Rg.xD h
 ·split at h
  ·cases h
  ·split at h
   ·cases h
   ·split at h
    ·cases h
    ·exact Rg.xD h
structure Good(m:Nat->Rg)(r:RQ):Prop where
 w:r.b9=0
 k:r.region<4
 i:r.op<=2->r.index<4
 t:(m r.region.toNat).ax<=r.token
theorem oS{m:Nat->Rg}{r:RQ}(h:(aE m r).2=0):Good m r:=by
 unfold aE at h
 split at h
 ·rename_i Z;exact absurd h Z
 ·split at h
  ·cases h
  ·split at h
   ·cases h
   ·split at h
    ·cases h
    ·rename_i Z G M S
     exact⟨Ze.1 Z,oM,λq=>by have:=mt (λz=>(⟨q,z⟩:r.op<=2/\4<=r.index)) M;omega,by have:=mt (λz=>(Or.inl z:r.token<(m r.region.toNat).ax\/(r.token=0/\r.bI=true))) S;omega⟩
theorem rW{m:Nat->Rg}{r:RQ}(h:(aE m r).1=true):r.bI=true/\r.token≠0/\(r.op=4->(m r.region.toNat).log.length<4)/\(r.op=5->r.index<=(m r.region.toNat).log.length):=by
 unfold aE at h
 split at h
 ·cases h
 ·split at h
  ·cases h
  ·split at h
   ·cases h
   ·split at h
    ·cases h
    ·rename_i S
     split at h
     ·rename_i U
      exact⟨U,λK=>S (.inr ⟨K,U⟩),Rg.ID h⟩
     ·cases h
theorem RQ.JW{r:RQ}(h:r.bI=true):r.op=2\/r.op=4\/r.op=5:=by
 unfold RQ.bI at h;simp only[OR,beq_iff_eq]at h;rcases h with(h|h)|h
 ·exact .inl h
 ·exact .inr (.inl h)
 ·exact .inr (.inr h)
structure RQ.ok(r:RQ):Prop where
 t0:0<=r.token
 t1:r.token<18446744073709551616
 s0:0<=r.seq
 s1:r.seq<4294967296
theorem Rg.WA{x:Rg}{r:RQ}(J:x.ok)(U:r.ok)(M:r.data.length<=24)(F:r.op=4->x.log.length<4):(x.act r).ok:=by
 refine⟨U.t0,U.t1,U.s0,U.s1,?_,?_,?_⟩
 ·show(if r.op=4 then x.log++[r.data]else if r.op=5 then x.log.drop r.index.toNat else x.log).length<=4
  split
  ·rename_i h;have:=F h;exact abS
  ·split
   ·have:=J.ll;exact ab2
   ·exact J.ll
 ·show∀l∈(if r.op=4 then x.log++[r.data]else if r.op=5 then x.log.drop r.index.toNat else x.log),l.length<=24
  split
  ·intro l h
   rcases oc.1 h with h|h
   ·exact J.lb l h
   ·obtain rfl:=nN.1 h
    exact M
  ·split
   ·exact λl h=>J.lb l (TW h)
   ·exact J.lb
 ·show∀j,((if r.op=2 then aI x.b r.index.toNat r.data else x.b) j).length<=24
  split
  ·intro j
   unfold aI
   split
   ·exact M
   ·exact J.bb j
  ·exact J.bb
theorem Aw{m:Nat->Rg}{r:RQ}(p:∀k,(m k).ok)(U:r.ok):∀k,(gL m r k).ok:=by
 intro k;unfold gL
 split
 ·rename_i h
  have C:=oS h.1;unfold aI
  split
  ·exact Rg.WA (p _) U (RQ.gT C.w).2.2.2.2.2.2 (rW h.2).2.2.1
  ·exact p k
 ·exact p k
def Rg.zero:Rg:=⟨0,0,λ_=>[],[]⟩
theorem Rg.CN:Rg.zero.ok:=⟨dC,dC,dC,dC,dC,(λl h=>by cases h),λ_=>by show([]:LI).length<=24;decide⟩
abbrev nv(r:RQ)(v:Value):Value:= .agg #[iI r.op,iI r.region,iI r.index,iU r.token,iW r.seq,v]
theorem vv(r:RQ)(A:OA)(n c:Nat)(w:World)(W:n=r.data.length):Calls prog 143 #[nv r (.slice A n c)] w λe O=>e= .returned (iI r.b9)/\Fr jo w O:=by
 obtain⟨t,region,index,token,seq,data⟩:=r;simp only at W;have b:=aa W;clear W;have key:∀x,RQ.b9 ⟨t,region,index,token,seq,data⟩=x->Hid (RQ.b9 ⟨t,region,index,token,seq,data⟩=x):=λ_ h=>h;by_cases Z:t<1
 ·have E:=key 1 (by unfold RQ.b9;rw[iP (.inl Z)])
  exact ae8
 by_cases G:5<t
 ·have E:=key 1 (by unfold RQ.b9;rw[iP (.inr (.inl G))])
  exact ae8
 by_cases M:region<0
 ·have E:=key 1 (by unfold RQ.b9;rw[iP (.inr (.inr (.inl M)))])
  exact ae8
 by_cases S:255<region
 ·have E:=key 1 (by unfold RQ.b9;rw[iP (.inr (.inr (.inr (.inl S))))])
  exact ae8
 by_cases U:index<0
 ·have E:=key 1 (by unfold RQ.b9;rw[iP (.inr (.inr (.inr (.inr (.inl U)))))])
  exact ae8
 by_cases V:255<index
 ·have E:=key 1 (by unfold RQ.b9;rw[iP (.inr (.inr (.inr (.inr (.inr V)))))])
  exact ae8
 have u:¬(t<1\/5<t\/region<0\/255<region\/index<0\/255<index):=oM
 by_cases l:24<n;have E:=key 2 (by unfold RQ.b9;rw[iN u,iP (by show 24<data.length;rw[<-b.out];exact l)])
 rotate_left
 have E:=key 0 (by unfold RQ.b9;rw[iN u,iN (by show¬24<data.length;rw[<-b.out];exact l)])
 rotate_left
 all_goals
  clear key u
  go_enter func143,ntmps143
  exact ac6
theorem Gb(r:RQ)(v:Value)(w:World):Calls prog 179 #[nv r v] w λe O=>e= .returned (.bool r.bI)/\Fr jo w O:=by
 obtain⟨t,region,index,token,seq,data⟩:=r;have key:∀x,RQ.bI ⟨t,region,index,token,seq,data⟩=x->Hid (RQ.bI ⟨t,region,index,token,seq,data⟩=x):=λ_ h=>h;by_cases K:t=2
 ·have E:=key true (by unfold RQ.bI;simp[K])
  have B:=Bl K;exact afg
 have X:=jM K;by_cases Z:t=4
 ·have E:=key true (by unfold RQ.bI;simp[Z])
  have B:=Bl Z;exact afg
 have u:=jM Z;by_cases G:t=5;have E:=key true (by unfold RQ.bI;simp[G]);have B:=Bl G
 rotate_left
 have J:=jM G;have E:=key false (by unfold RQ.bI;simp[K,Z,G])
 rotate_left
 all_goals
  exact afg
theorem GC(g off:Nat)(r:RQ)(v:Value)(j seq:Int)(A:OA)(n c:Nat)(w:World)(U:0<=r.seq/\r.seq<4294967296)(V:0<=seq/\seq<4294967296)(C:g<w.heap.size)
 (D:w.cell? ⟨g,off,none⟩=some (iU j)) (S:w.cell? ⟨g,off+1,none⟩=some (iW seq)) (X:w.cell? ⟨g,off+6,none⟩=some (.slice A n c)):
 Calls prog 180 #[.pointer (some ⟨g,off,none⟩),nv r v] w λe O=>e= .returned (.tuple #[.bool (Rg.nC j seq n r).1,iI (Rg.nC j seq n r).2])/\Fr jo w O:=by
 have D:=(World.cell?_alloc_lt w (.cells #[iI r.op,iI r.region,iI r.index,iU r.token,iW r.seq,v] 175) ⟨g,off,none⟩ C).trans D;have S:=(World.cell?_alloc_lt w (.cells #[iI r.op,iI r.region,iI r.index,iU r.token,iW r.seq,v] 175) ⟨g,off+1,none⟩ C).trans S;have X:=(World.cell?_alloc_lt w (.cells #[iI r.op,iI r.region,iI r.index,iU r.token,iW r.seq,v] 175) ⟨g,off+6,none⟩ C).trans X;obtain⟨t,region,index,token,W,data⟩:=r;simp only at D S X U;obtain⟨Q,N⟩:=U;obtain⟨J,d⟩:=V;have key:∀x,Rg.nC j seq n ⟨t,region,index,token,W,data⟩=x->Hid (Rg.nC j seq n ⟨t,region,index,token,W,data⟩=x):=λ_ h=>h;by_cases R:j<token
 ·have i:decide (j<token)=true:=dZ R
  by_cases Z:W=1
  ·have u:=Bl Z
   have k:(W !=1)=false:=by rw[Z];rfl
   by_cases p:t=4
   ·have b:=Bl p
    by_cases I:4<=n;have d4:decide ((4:Int)<=(n:Int))=true:=decide_eq_true (by omega);have E:=key (false,42) (by show(if j<token then(if W≠1 then(false,60)else Rg.cT n _)else _)=_;rw[iP R,iN (λh=>h Z)];unfold Rg.cT;rw[iP ⟨p,I⟩])
    rotate_left
    have d4:decide ((4:Int)<=(n:Int))=false:=decide_eq_false (by omega);have a:¬t=5:=oM
    have Y:=jM a;have E:=key (true,0) (by show(if j<token then(if W≠1 then(false,60)else Rg.cT n _)else _)=_;rw[iP R,iN (λh=>h Z)];unfold Rg.cT;rw[iN (λh=>I h.2),iN (λh=>a h.1)])
    rotate_left
    all_goals
     clear key
     try clear p
     try clear a
     try clear M
     try clear Z
     go_enter func180,ntmps180
     go_wp2_with go_quiet (fail)
     go_ret2
     refine⟨by rw[E.out];rfl,?_⟩
     repeat(with_reducible refine Fr.drewN ?_ _)
     exact adq
   have b:=jM p;by_cases a:t=5
   ·have Y:=Bl a
    by_cases q:(n:Int)<index;have d5:decide ((n:Int)<index)=true:=dZ q;have E:=key (false,1) (by show(if j<token then(if W≠1 then(false,60)else Rg.cT n _)else _)=_;rw[iP R,iN (λh=>h Z)];unfold Rg.cT;rw[iN (λh=>p h.1),iP ⟨a,q⟩])
    rotate_left
    have d5:decide ((n:Int)<index)=false:=dQ q;have E:=key (true,0) (by show(if j<token then(if W≠1 then(false,60)else Rg.cT n _)else _)=_;rw[iP R,iN (λh=>h Z)];unfold Rg.cT;rw[iN (λh=>p h.1),iN (λh=>q h.2)])
    rotate_left
    all_goals
     clear key
     try clear p
     try clear a
     try clear M
     try clear Z
     go_enter func180,ntmps180
     go_wp2_with go_quiet (fail)
     go_ret2
     refine⟨by rw[E.out];rfl,?_⟩
     repeat(with_reducible refine Fr.drewN ?_ _)
     exact adq
   have Y:=jM a;have E:=key (true,0) (by show(if j<token then(if W≠1 then(false,60)else Rg.cT n _)else _)=_;rw[iP R,iN (λh=>h Z)];unfold Rg.cT;rw[iN (λh=>p h.1),iN (λh=>a h.1)]);clear key
   try clear p
   try clear a
   try clear M
   try clear Z
   go_enter func180,ntmps180
   go_wp2_with go_quiet (fail)
   go_ret2
   refine⟨by rw[E.out];rfl,?_⟩
   repeat(with_reducible refine Fr.drewN ?_ _)
   exact adq
  have k:(W !=1)=true:=by simp[Z]
  have E:=key (false,60) (by show(if j<token then(if W≠1 then(false,60)else Rg.cT n _)else _)=_;rw[iP R,iP Z]);clear key
  try clear p
  try clear a
  try clear M
  try clear Z
  go_enter func180,ntmps180
  go_wp2_with go_quiet (fail)
  go_ret2
  refine⟨by rw[E.out];rfl,?_⟩
  repeat(with_reducible refine Fr.drewN ?_ _)
  exact adq
 have i:decide (j<token)=false:=dQ R;by_cases Z:W=seq
 ·have u:=Bl Z
  have E:=key (false,0) (by show(if j<token then _ else if W=seq then(false,0)else if W<=seq then(false,80)else if W≠seq+1 then(false,60)else Rg.cT n _)=_;rw[iN R,iP Z]);clear key
  try clear p
  try clear a
  try clear M
  try clear Z
  go_enter func180,ntmps180
  go_wp2_with go_quiet (fail)
  go_ret2
  refine⟨by rw[E.out];rfl,?_⟩
  repeat(with_reducible refine Fr.drewN ?_ _)
  exact adq
 have u:=jM Z;by_cases G:W<=seq
 ·have o:decide (W<=seq)=true:=dZ G
  have E:=key (false,80) (by show(if j<token then _ else if W=seq then(false,0)else if W<=seq then(false,80)else if W≠seq+1 then(false,60)else Rg.cT n _)=_;rw[iN R,iN Z,iP G]);clear key
  try clear p
  try clear a
  try clear M
  try clear Z
  go_enter func180,ntmps180
  go_wp2_with go_quiet (fail)
  go_ret2
  refine⟨by rw[E.out];rfl,?_⟩
  repeat(with_reducible refine Fr.drewN ?_ _)
  exact adq
 have o:decide (W<=seq)=false:=dQ G;by_cases M:W=seq+1
 ·have P:(W !=seq+1)=false:=by rw[M];simp
  by_cases p:t=4
  ·have b:=Bl p
   by_cases I:4<=n;have d4:decide ((4:Int)<=(n:Int))=true:=decide_eq_true (by omega);have E:=key (false,42) (by show(if j<token then _ else if W=seq then(false,0)else if W<=seq then(false,80)else if W≠seq+1 then(false,60)else Rg.cT n _)=_;rw[iN R,iN Z,iN G,iN (λh=>h M)];unfold Rg.cT;rw[iP ⟨p,I⟩])
   rotate_left
   have d4:decide ((4:Int)<=(n:Int))=false:=decide_eq_false (by omega);have a:¬t=5:=oM
   have Y:=jM a;have E:=key (true,0) (by show(if j<token then _ else if W=seq then(false,0)else if W<=seq then(false,80)else if W≠seq+1 then(false,60)else Rg.cT n _)=_;rw[iN R,iN Z,iN G,iN (λh=>h M)];unfold Rg.cT;rw[iN (λh=>I h.2),iN (λh=>a h.1)])
   rotate_left
   all_goals
    clear key
    try clear p
    try clear a
    try clear M
    try clear Z
    go_enter func180,ntmps180
    go_wp2_with go_quiet (fail)
    go_ret2
    refine⟨by rw[E.out];rfl,?_⟩
    repeat(with_reducible refine Fr.drewN ?_ _)
    exact adq
  have b:=jM p;by_cases a:t=5
  ·have Y:=Bl a
   by_cases q:(n:Int)<index;have d5:decide ((n:Int)<index)=true:=dZ q;have E:=key (false,1) (by show(if j<token then _ else if W=seq then(false,0)else if W<=seq then(false,80)else if W≠seq+1 then(false,60)else Rg.cT n _)=_;rw[iN R,iN Z,iN G,iN (λh=>h M)];unfold Rg.cT;rw[iN (λh=>p h.1),iP ⟨a,q⟩])
   rotate_left
   have d5:decide ((n:Int)<index)=false:=dQ q;have E:=key (true,0) (by show(if j<token then _ else if W=seq then(false,0)else if W<=seq then(false,80)else if W≠seq+1 then(false,60)else Rg.cT n _)=_;rw[iN R,iN Z,iN G,iN (λh=>h M)];unfold Rg.cT;rw[iN (λh=>p h.1),iN (λh=>q h.2)])
   rotate_left
   all_goals
    clear key
    try clear p
    try clear a
    try clear M
    try clear Z
    go_enter func180,ntmps180
    go_wp2_with go_quiet (fail)
    go_ret2
    refine⟨by rw[E.out];rfl,?_⟩
    repeat(with_reducible refine Fr.drewN ?_ _)
    exact adq
  have Y:=jM a;have E:=key (true,0) (by show(if j<token then _ else if W=seq then(false,0)else if W<=seq then(false,80)else if W≠seq+1 then(false,60)else Rg.cT n _)=_;rw[iN R,iN Z,iN G,iN (λh=>h M)];unfold Rg.cT;rw[iN (λh=>p h.1),iN (λh=>a h.1)]);clear key
  try clear p
  try clear a
  try clear M
  try clear Z
  go_enter func180,ntmps180
  go_wp2_with go_quiet (fail)
  go_ret2
  refine⟨by rw[E.out];rfl,?_⟩
  repeat(with_reducible refine Fr.drewN ?_ _)
  exact adq
 have P:(W !=seq+1)=true:=by simp[M]
 have E:=key (false,60) (by show(if j<token then _ else if W=seq then(false,0)else if W<=seq then(false,80)else if W≠seq+1 then(false,60)else Rg.cT n _)=_;rw[iN R,iN Z,iN G,iP M]);clear key
 try clear p
 try clear a
 try clear M
 try clear Z
 go_enter func180,ntmps180
 go_wp2_with go_quiet (fail)
 go_ret2
 refine⟨by rw[E.out];rfl,?_⟩
 repeat(with_reducible refine Fr.drewN ?_ _)
 exact adq
theorem aL{fn:Func}{t:Nat}{ty:TypeId}{P:Program}{w:World}{v:Value}{a:Addr}(h:fn.results= #[.cell t ty])(b:Vq)(T:b.getD t undef= .pointer (some a))(F:(loadVar ty a).run P w= .ok v w):
 (results fn b).run P w= .ok v w:=by
 exact adm
section
structure RV where
 b:Nat->Value
 log:Value
 cs:Nat->LV
def Ee(x:Rg)(p:RV):LV:=[iU x.ax,iW x.seq,p.b 0,p.b 1,p.b 2,p.b 3,p.log]
def ni(m:Nat->Rg)(V:Nat->RV):Vq:=(Ee (m 0) (V 0)++(Ee (m 1) (V 1)++(Ee (m 2) (V 2)++Ee (m 3) (V 3)))).toArray
theorem vU{k:Nat}(h:k<4):k=0\/k=1\/k=2\/k=3:=oM
theorem OH{k:Nat}(h:k<7):k=0\/k=1\/k=2\/k=3\/k=4\/k=5\/k=6:=oM
theorem Kr(m:Nat->Rg)(V:Nat->RV){k j:Nat}(Q:k<4)(H:j<7):(ni m V)[k*7+j]? =(Ee (m k) (V k))[j]? :=by
 rcases vU Q with rfl|rfl|rfl|rfl<;>rcases OH H with rfl|rfl|rfl|rfl|rfl|rfl|rfl<;>rfl
theorem uR(m:Nat->Rg)(V:Nat->RV){k j:Nat}(Q:k<4)(H:j<7){x:Rg}{p:RV}{u:Value}(h:Ee x p=(Ee (m k) (V k)).set j u):
 (ni m V).setIfInBounds (k*7+j) u=ni (aI m k x) (aI V k p):=by
 have e:∀i,i≠k->Ee (aI m k x i) (aI V k p i)=Ee (m i) (V i):=λi z=>by rw[bS _ _ _ _ z,bS _ _ _ _ z]
 have Y:Ee (aI m k x k) (aI V k p k)=(Ee (m k) (V k)).set j u:=by rw[aT,aT,h]
 unfold ni;rcases vU Q with rfl|rfl|rfl|rfl;rw[Y,e 1 oM,e 2 oM,e 3 oM]
 rotate_left
 rw[Y,e 0 oM,e 2 oM,e 3 oM]
 rotate_left
 rw[Y,e 0 oM,e 1 oM,e 3 oM]
 rotate_left
 rw[Y,e 0 oM,e 1 oM,e 2 oM]
 rotate_left
 all_goals
  rcases OH H with rfl|rfl|rfl|rfl|rfl|rfl|rfl<;>rfl
def dG(w:World)(K:LV)(b:LI):Prop:=∃v,K=[v]/\ay w .u8 v b
structure AZ(w:World)(p:RV)(x:Rg):Prop where
 b:∀j,j<4->ay w .u8 (p.b j) (x.b j)
 log:cn w 1 dG p.log p.cs x.log
abbrev dD(V:Nat->RV)(m:Nat->Rg):az:=bj (λw=>∀k,k<4->AZ w (V k) (m k))
abbrev iy(g:Nat)(V:Nat->RV)(m:Nat->Rg):az:=ab g 90 (ni m V)
def dq(g:Nat)(m:Nat->Rg):az:=Bc λV:Nat->RV=>aX (iy g V m) (dD V m)
section
variable {I:aK} {w:World} {L:List az} {g:Nat} {m:Nat->Rg}
theorem St.gB(h:St I w (dq g m::L)):∃V,St I w (iy g V m::dD V m::L):=by
 obtain⟨V,h⟩:=h.ex;exact⟨V,h.star⟩
theorem St.kS{V:Nat->RV}(h:St I w (iy g V m::dD V m::L)):St I w (dq g m::L):=
 St.eu (f:=λV:Nat->RV=>aX (iy g V m) (dD V m)) V h.aM
theorem CV{w:World}{V:Nat->RV}{k:Nat}{x:Rg}{p:RV}(h:∀i,i<4->AZ w (V i) (m i))(J:AZ w p x):∀i,i<4->AZ w (aI V k p i) (aI m k x i):=by
 intro i z;by_cases Y:i=k
 ·subst Y
  rw[aT,aT];exact J
 ·rw[bS _ _ _ _ Y,bS _ _ _ _ Y]
  exact h i z
theorem St.zg{V:Nat->RV}{R:World->Prop}{k j:Nat}{x:Rg}{p:RV}{u:Value}(h:St I w (iy g V m::dD V m::bj R::L))(Q:k<4)(H:j<7)
 (y:Ee x p=(Ee (m k) (V k)).set j u) (J:∀O,AZ O (V k) (m k)->R O->AZ O p x):St I (w.setCell ⟨g,k*7+j,none⟩ u) (dq g (aI m k x)::L):=by
 have Z:=h.bE (k*7+j) u;rw[uR m V Q H y]at Z;refine St.kS (V:=aI V k p) ?_;have G:=(Z.swap.sX.swap.swap);exact aeQ
theorem j8{V:Nat->RV}(h:eK w g 90 (ni m V)){k j:Nat}(Q:k<4)(H:j<7):(∃u,w.cell? ⟨g,k*7+j,none⟩=some u)/\w.frozen? ⟨g,k*7+j,none⟩=false:=by
 refine⟨⟨(Ee (m k) (V k))[j]'H,?_⟩,h.frozen _⟩;rw[h.cell,Kr m V Q H];exact g7 _
theorem dK{V:Nat->RV}(h:eK w g 90 (ni m V)){k j:Nat}(Q:k<4)(H:j<7){u:Value}(y:(Ee (m k) (V k))[j]? =some u):w.cell? ⟨g,k*7+j,none⟩=some u:=
 ((h.cell (k*7+j)).trans (Kr m V Q H)).trans y
end
end
section
section
variable {P:Program} {l:List Oper} {Q:Exit->Act->World->Prop} {S:World->Prop} {L:Nat}
theorem Dc{K:Act->Prop}{i:Nat}{r:List Nat}{a:Act}{o:Oper}{v:Value}(q:l[i]? =some o)(M:Region.wanted o (yielded l.toArray a.tmps)=true)
 (d:∀W,S W->(execOp a.eval o).run P W= .ok (.value v) W) (h:jm P l.toArray S K r (a.put o.dst v)):jm P l.toArray S K (i::r) a:=
 ⟨o,v,by simpa using q,.inl ⟨M,d⟩,h⟩
theorem QL{i:Nat}{r:List Nat}{a:Act}{w:World}{o:Oper}(q:l[i]? =some o)(M:Region.wanted o (yielded l.toArray a.tmps)=true)
 (h:o.wp P a w (λt O=>(i<L->S O)/\dJ P l.toArray Q S L r t O) Q):dJ P l.toArray Q S L (i::r) a w:=
 ⟨o,by simpa using q,by rw[iP M];exact h⟩
theorem rj{i:Nat}{r:List Nat}{a:Act}{w:World}{o:Oper}{f:FuncId}{args:Vq}(q:l[i]? =some o)(M:Region.wanted o (yielded l.toArray a.tmps)=true)
 (d:(execOp a.eval o).run P w= .ok (.enter f args) w)
 (h:Calls P f args w λe O=>∃v,e= .returned v/\(i<L->S O)/\dJ P l.toArray Q S L r (a.put o.dst v) O):dJ P l.toArray Q S L (i::r) a w:=
 QL q M (by
  unfold Oper.wp;rw[d,Oper.upon_enter];refine h.mono λe O ⟨v,Y,N,h⟩=> ?_;subst Y;exact⟨N,h⟩)
theorem lT{i:Nat}{r:List Nat}{a:Act}{w:World}{o:Oper}{v:Value}(q:l[i]? =some o)(M:Region.wanted o (yielded l.toArray a.tmps)=true)
 (d:(execOp a.eval o).run P w= .ok (.value v) w) (N:i<L->S w) (h:dJ P l.toArray Q S L r (a.put o.dst v) w):dJ P l.toArray Q S L (i::r) a w:=
 QL q M (by
  unfold Oper.wp;rw[d,Oper.upon_value];exact⟨N,h⟩)
end
end
structure PU where
 region:Int
 index:Int
 data:LI
def bV(w:World)(K:LV)(p:PU):Prop:=∃v,K=[iI p.region,iI p.index,v]/\ay w .u8 v p.data
abbrev tP(p:PU)(v:Value):Value:= .agg #[iI p.region,iI p.index,v]
def jP(p:PU):Int:=if p.index<0\/4<=p.index then 101 else if 23<p.data.length then 2 else 0
def Dq(p:PU):LI:=if jP p=0 then p.index::p.data else []
def ik(b:LI):Int:=match b with
 |[]=>10
 |i::d=>if 4<=i then 101 else if 23<d.length then 2 else 0
def ue(region:Int)(b:LI):PU:=match b with
 |[]=>⟨0,0,[]⟩
 |i::d=>if ik (i::d)=0 then⟨region,i,d⟩else⟨0,0,[]⟩
theorem LC(region:Int)(i:Int)(d:LI)(K:0<=i):jP ⟨region,i,d⟩=ik (i::d):=by
 rw[show ik (i::d)=if 4<=i then 101 else if 23<d.length then 2 else 0 from rfl];unfold jP;by_cases h:4<=i
 ·rw[iP (.inr h),iP h]
 ·rw[iN (by intro Z;rcases Z with Z|Z<;>simp only at Z<;>omega),iN h]
def gu(p:PU->Bool):Nat->List PU->Int
 |_,[]=> -1
 |i,x::r=>if p x=true then i else gu p (i+1) r
theorem yL(p:PU->Bool)(l:List PU):∀i,decide (0<=gu p i l)=l.any p:=by
 induction l with
 |nil=>intro i;rfl
 |cons x r K=>
  intro i;show decide (0<=(if p x=true then(i:Int)else gu p (i+1) r))=(p x||r.any p)
  cases P:p x with
  |true=>rw[iP rfl,Zs];exact decide_eq_true (by omega)
  |false=>rw[iN iu,Bool.false_or];exact K _
theorem eK.ng{w:World}{b:Nat}{t:TypeId}{q u y V P n:Value}(h:eK w b t #[q,u,y,V,P,n]):w.cell? (aD b 0)=some q/\w.cell? (aD b 1)=some u/\w.cell? (aD b 2)=some y/\w.cell? (aD b 3)=some V/\w.cell? (aD b 4)=some P/\w.cell? (aD b 5)=some n:=
 ⟨h.cell 0,h.cell 1,h.cell 2,h.cell 3,h.cell 4,h.cell 5⟩
theorem Ff{I:aK}{L:List az}(g:Nat)(m:Nat->Rg)(r:RQ)(A:OA)(n c:Nat)(w:World)(G0:r.ok)(hm:∀k,(m k).ok)(hn:n=r.data.length)(h:St I w (dq g m::L)):
 Rt I w 144 #[pO g,nv r (.slice A n c)] (.tuple #[.bool (aE m r).1,iI (aE m r).2]) (dq g m::L):=by
 refine nK h G0 (vv r A n c) hn λH HR o q=>?_;have key:∀x,aE m r=x->Hid (aE m r=x):=λ_ h=>h;clear h G0;by_cases U:r.b9=0
 ·have hz:=RQ.gT U
  have i:=aa U;obtain⟨t,region,index,token,seq,data⟩:=r;obtain⟨z0,z1,z2,z3,z4,z5,z6⟩:=hz;simp only at z0 z1 z2 z3 z4 z5 z6 hn;obtain⟨k,rfl⟩:=BE z2;have M:=aa (λO=>Gb ⟨t,k,index,token,seq,data⟩ (.slice A n c) O);rw[U]at o;have l:¬RQ.b9 ⟨t,k,index,token,seq,data⟩≠0:=λh=>h U;clear U z2 z3 hn z6;by_cases hk:4<=k
  ·have E:=key (false,93) (by unfold aE;rw[iN l,iP (by show(4:Int)<=k;omega)])
   clear key l;have H0:(4:Int)<=(k:Int):=oM
   exact adn
  have d:k<4:=oM
  have H0:¬(4:Int)<=(k:Int):=oM
  have B0:¬(4:Int)<=(RQ.mk t k index token seq data).region:=H0;clear hk;by_cases o2:t<=2
  ·by_cases i4:4<=index
   ·have E:=key (false,101) (by unfold aE;rw[iN l,iN B0,iP ⟨o2,i4⟩])
    clear key l B0
    exact adn
   have F0:¬((RQ.mk t k index token seq data).op<=2/\4<=(RQ.mk t k index token seq data).index):=λh=>i4 h.2;clear F0 B0 l
   go_enter func144,ntmps144
   go_wp2_with fail
   refine qK (o _ q) λw1 a=>?_;have F:=aa ((H.alloc 175 #[iI t,iI k,iI index,iU token,iW seq,.slice A n c]).grow a);obtain⟨S,u,Y,P,p,b⟩:=(F.ah 0 rfl).ng;clear H a
   go_wp2_with fail
   have E0:=(F.swap.gB);obtain⟨V,z⟩:=E0;have B:=z.ah 0 rfl;have C:=dK B (k:=k) (j:=0) d oM rfl;have e:=hm k;have D:=aa z;clear z B;have kn:(0:Int)<=(k:Int):=oM
   have Z:(k:Int)<4:=oM
   simp only[yd]at C;by_cases R:token<(m k).ax
   ·have E:=key (false,100) ab0
    have dt:decide (token<(m k).ax)=true:=dZ R;clear key
    go_wp2_with go_quiet (fail)
    go_ret2
    refine⟨by rw[E.out];rfl,?_⟩
    repeat(with_reducible refine St.drewN ?_ _)
    exact F.tail
   have dt:decide (token<(m k).ax)=false:=dQ R;by_cases t0:token=0
   ·have bt:=Bl t0
    have E:=key (false,if RQ.bI ⟨t,k,index,token,seq,data⟩=true then 100 else 0) (by
     unfold aE;rw[iN (λh=>h i.out),iN (UZ.2 Z),iN (show¬(t<=2/\(4:Int)<=index)by omega)]
     cases hc:RQ.bI ⟨t,k,index,token,seq,data⟩with
     |true=>rw[iP (.inr ⟨t0,rfl⟩)];rfl
     |false=>rw[iN (λh=>h.elim R (λh=>iu h.2)),iN iu,iN iu])
    clear key t0
    go_wp2_with go_quiet (fail)
    have hv:=D.out;refine bT (λW=>St I W (iy g V m::dD V m::ab w.heap.size 175 #[iI t,iI k,iI index,iU token,iW seq,.slice A n c]::L)) 17 (rG 13) [13,14,15,16] kR kR
     (λD0=>by cases D0<;>exact λ_ _ _ _ h=>h) (λW J=> ?_)
    have T:=aa (show St I W (iy g V m::dD V m::ab w.heap.size 175 #[iI t,iI k,iI index,iU token,iW seq,.slice A n c]::L)by
     rw[J];exact(hv.drewN _).drew)
    refine⟨T.out,?_⟩;clear hv
    iterate 8 (refine bJ rfl rfl (λW J=>by(have B:=J.ah 0 rfl;have C:=dK B (k:=k) (j:=0) d oM rfl;obtain⟨S,u,Y,P,p,b⟩:=(J.ah 2 rfl).ng;clear B J;simp only[yd]at C;go_simp;try rfl)) ?_;simp only[aW])
    iterate 5 (refine Dc rfl gS (λW J=>by(have B:=J.ah 0 rfl;have C:=dK B (k:=k) (j:=0) d oM rfl;obtain⟨S,u,Y,P,p,b⟩:=(J.ah 2 rfl).ng;clear B J;simp only[yd]at C;go_simp;try rfl)) ?_;simp only[aW])
    refine take_nil ?_;refine rj rfl gS (by go_simp;exact⟨rfl,rfl⟩) ?_;refine qK (M _) λX a=>?_;have N:=aa (T.out.grow a);clear a;refine⟨_,rfl,λ_=>N,?_⟩
    iterate 3 (simp only[aW];refine lT rfl gS gS (λ_=>N.out) ?_)
    simp only[aW];refine cD ?_;clear T J
    cases y:RQ.bI ⟨t,k,index,token,seq,data⟩with
    |true=>
     exact aej
    |false=>
     exact ady
   have bt:=jM t0
   cases y:RQ.bI ⟨t,k,index,token,seq,data⟩with
   |false=>
    have E:=key (false,0) abT;rw[y]at M;clear key y
    go_wp2_with go_quiet (fail)
    refine qK (M _) λX a=>?_;have G:St I X (dq g m::L):=by
     refine St.grow ?_ a
     repeat(with_reducible refine St.drewN ?_ _)
     exact F.tail
    exact aeA
   |true=>
    have E:=key ((m k).next ⟨t,k,index,token,seq,data⟩) abU;rw[y]at M;clear key y
    go_wp2_with go_quiet (fail)
    refine qK (M _) λX a=>?_;have G:St I X (iy g V m::dD V m::ab w.heap.size 175 #[iI t,iI k,iI index,iU token,iW seq,.slice A n c]::L):=by
     refine St.grow ?_ a
     repeat(with_reducible refine St.drewN ?_ _)
     exact D.out
    exact ac4
  have F0:¬((RQ.mk t k index token seq data).op<=2/\4<=(RQ.mk t k index token seq data).index):=λh=>o2 h.1;clear F0 B0 l
  go_enter func144,ntmps144
  go_wp2_with fail
  refine qK (o _ q) λw1 a=>?_;have F:=aa ((H.alloc 175 #[iI t,iI k,iI index,iU token,iW seq,.slice A n c]).grow a);obtain⟨S,u,Y,P,p,b⟩:=(F.ah 0 rfl).ng;clear H a
  go_wp2_with fail
  have E0:=(F.swap.gB);obtain⟨V,z⟩:=E0;have B:=z.ah 0 rfl;have C:=dK B (k:=k) (j:=0) d oM rfl;have e:=hm k;have D:=aa z;clear z B;have kn:(0:Int)<=(k:Int):=oM
  have Z:(k:Int)<4:=oM
  simp only[yd]at C;by_cases R:token<(m k).ax
  ·have E:=key (false,100) ab0
   have dt:decide (token<(m k).ax)=true:=dZ R;clear key
   go_wp2_with go_quiet (fail)
   go_ret2
   refine⟨by rw[E.out];rfl,?_⟩
   repeat(with_reducible refine St.drewN ?_ _)
   exact F.tail
  have dt:decide (token<(m k).ax)=false:=dQ R;by_cases t0:token=0
  ·have bt:=Bl t0
   have E:=key (false,if RQ.bI ⟨t,k,index,token,seq,data⟩=true then 100 else 0) (by
    unfold aE;rw[iN (λh=>h i.out),iN (UZ.2 Z),iN (show¬(t<=2/\(4:Int)<=index)by omega)]
    cases hc:RQ.bI ⟨t,k,index,token,seq,data⟩with
    |true=>rw[iP (.inr ⟨t0,rfl⟩)];rfl
    |false=>rw[iN (λh=>h.elim R (λh=>iu h.2)),iN iu,iN iu])
   clear key t0
   go_wp2_with go_quiet (fail)
   have hv:=D.out;refine bT (λW=>St I W (iy g V m::dD V m::ab w.heap.size 175 #[iI t,iI k,iI index,iU token,iW seq,.slice A n c]::L)) 17 (rG 13) [13,14,15,16] kR kR
    (λD0=>by cases D0<;>exact λ_ _ _ _ h=>h) (λW J=> ?_)
   have T:=aa (show St I W (iy g V m::dD V m::ab w.heap.size 175 #[iI t,iI k,iI index,iU token,iW seq,.slice A n c]::L)by
    rw[J];exact(hv.drewN _).drew)
   refine⟨T.out,?_⟩;clear hv
   iterate 8 (refine bJ rfl rfl (λW J=>by(have B:=J.ah 0 rfl;have C:=dK B (k:=k) (j:=0) d oM rfl;obtain⟨S,u,Y,P,p,b⟩:=(J.ah 2 rfl).ng;clear B J;simp only[yd]at C;go_simp;try rfl)) ?_;simp only[aW])
   iterate 5 (refine Dc rfl gS (λW J=>by(have B:=J.ah 0 rfl;have C:=dK B (k:=k) (j:=0) d oM rfl;obtain⟨S,u,Y,P,p,b⟩:=(J.ah 2 rfl).ng;clear B J;simp only[yd]at C;go_simp;try rfl)) ?_;simp only[aW])
   refine take_nil ?_;refine rj rfl gS (by go_simp;exact⟨rfl,rfl⟩) ?_;refine qK (M _) λX a=>?_;have N:=aa (T.out.grow a);clear a;refine⟨_,rfl,λ_=>N,?_⟩
   iterate 3 (simp only[aW];refine lT rfl gS gS (λ_=>N.out) ?_)
   simp only[aW];refine cD ?_;clear T J
   cases y:RQ.bI ⟨t,k,index,token,seq,data⟩with
   |true=>
    exact aej
   |false=>
    exact ady
  have bt:=jM t0
  cases y:RQ.bI ⟨t,k,index,token,seq,data⟩with
  |false=>
   have E:=key (false,0) abT;rw[y]at M;clear key y
   go_wp2_with go_quiet (fail)
   refine qK (M _) λX a=>?_;have G:St I X (dq g m::L):=by
    refine St.grow ?_ a
    repeat(with_reducible refine St.drewN ?_ _)
    exact F.tail
   exact aeA
  |true=>
   have E:=key ((m k).next ⟨t,k,index,token,seq,data⟩) abU;rw[y]at M;clear key y
   go_wp2_with go_quiet (fail)
   refine qK (M _) λX a=>?_;have G:St I X (iy g V m::dD V m::ab w.heap.size 175 #[iI t,iI k,iI index,iU token,iW seq,.slice A n c]::L):=by
    refine St.grow ?_ a
    repeat(with_reducible refine St.drewN ?_ _)
    exact D.out
   exact ac4
 ·have E:=key (false,r.b9) (by unfold aE;rw[iP U])
  have B:(r.b9 !=0)=true:=by simp[U]
  generalize r.b9=x at*;clear key hn
  go_enter func144,ntmps144
  go_wp2_with fail
  refine qK (o _ q) λw1 a=>?_;have F:=aa ((H.oH _).grow a);clear H a
  go_wp2_with fail
  go_ret2
  exact⟨by rw[E.out];rfl,F⟩
theorem DE{I:aK}{L:List az}(p:PU)(A:OA)(n c:Nat)(w:World)(h:St I w (ai .u8 (.slice A n c) p.data::L)):
 Calls prog 112 #[tP p (.slice A n c)] w λe O=>∃v,e= .returned (.tuple #[v,iI (jP p)])/\St I O (ai .u8 v (Dq p)::L):=by
 obtain⟨region,index,data⟩:=p;obtain⟨W,_,_,t⟩:=(h.get 0 rfl).sl;have H:=aa (h.alloc 213 #[iI region,iI index,.slice A n c]);have key:∀x,jP ⟨region,index,data⟩=x->Hid (jP ⟨region,index,data⟩=x):=λ_ h=>h;have V:=aa (show Dq ⟨region,index,data⟩=if jP ⟨region,index,data⟩=0 then index::data else []from rfl);simp only at W;have b:=aa W;clear h t W;by_cases K:index<0
 ·have E:=key 101 (iP (.inl K))
  have d0:decide (index<0)=true:=dZ K;clear key K
  exact adk
 have d0:decide (index<0)=false:=dQ K;by_cases S:4<=index
 ·have E:=key 101 (iP (.inr S))
  have d4:decide (4<=index)=true:=dZ S;clear key K
  exact adk
 have d4:decide (4<=index)=false:=dQ S;have u:¬(index<0\/4<=index):=oM
 by_cases F:23<n
 ·have E:=key 2 (by unfold jP;rw[iN u,iP (by rw[<-b.out];exact F)])
  have a:decide ((23:Int)<(n:Int))=true:=decide_eq_true (by omega);clear key K S u F
  exact adk
 ·have E:=key 0 (by unfold jP;rw[iN u,iN (by rw[<-b.out];exact F)])
  have a:decide ((23:Int)<(n:Int))=false:=decide_eq_false (by omega);have q:0<=index:=oM
  have o:index<4:=oM
  clear key u
  go_enter func112,ntmps112
  go_wp2_with (at_builtin;refine St.fj qt (H.qT 5 1 1 (bv [index]) rfl oM (w.heap.size+1) abN) rfl _ _ rfl rfl A n c rfl (bv data) ((H.qT 5 1 1 (bv [index]) rfl oM (w.heap.size+1) abN).get 2 rfl).sl.2.2.2 (jJ _) oM oM ?_;intro T Q N J)
  go_ret2
  rw[show bv [index]++bv data=bv (index::data)from rfl]at J;have U:=J.ints;exact⟨.slice T (1+n) Q,by rw[E.out];try rfl,by rw[V.out,E.out];exact U.pick 3 [0]⟩
end Go.Proofs.YtblpaldggenbaaaGreatDoor
