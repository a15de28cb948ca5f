/- A part. -/
import Derived.Test.YtblpaldggenbaaaGreatDoorMo
namespace Go.Proofs.YtblpaldggenbaaaGreatDoor
open Go.RowKit Go.Proofs.Tryz
set_option maxRecDepth 100000
set_option maxHeartbeats 64000000
section
structure SE where
 c:Int
 s:Int
 p:Nat
 v:Value
def SE.kv(e:SE):Int×Value:=(e.c,pO e.p)
def SE.cs(e:SE):Int×Int:=(e.c,e.s)
def SE.r(e:SE):az:=ab e.p 281 #[iW e.s,e.v]
def WY(g:Nat)(S:List (Int×Int)):Option (Nat×List SE)->az
 |none=>aX (ab g 103 #[.map none]) (kd (S=[]))
 |some (b,k)=>aX (ab g 103 #[.map (some b)]) (aX (nO b (k.map SE.kv)) (aX (gU (k.map SE.r)) (kd (k.map SE.cs=S))))
def eZ(g:Nat)(S:List (Int×Int)):az:=Bc (WY g S)
theorem uy:∀(k:List SE) (c:Int),(aP (k.map SE.cs) c=none/\pH (k.map SE.kv) c=none)\/∃i e,k[i]? =some e/\e.c=c/\aP (k.map SE.cs) c=some (e.c,e.s)/\pH (k.map SE.kv) c=some (pO e.p)/\
 jV (k.map SE.cs) c=(k.eraseIdx i).map SE.cs/\qy (k.map SE.kv) c=(k.eraseIdx i).map SE.kv/\∀n v,bR (k.map SE.cs) c n=(k.set i ⟨e.c,n,e.p,v⟩).map SE.cs/\(k.set i ⟨e.c,n,e.p,v⟩).map SE.kv=k.map SE.kv
 |[],c=> .inl ⟨rfl,rfl⟩
 |e::k,c=>by
  by_cases D:e.c=c
  ·refine .inr ⟨0,e,rfl,D,?_,?_,?_,?_,λn v=>⟨?_,rfl⟩⟩
   ·unfold aP;rw[nG,Uq,show((e.cs).1==c)=true by simp[SE.cs,D]];rfl
   ·unfold pH;rw[nG,Uq,show((e.kv).1==c)=true by simp[SE.kv,D]];rfl
   ·unfold jV;rw[nG,UL (by simp[SE.cs,D])];rfl
   ·unfold qy;rw[nG,UL (by simp[SE.kv,D])];rfl
   ·rw[nG]
    unfold bR;rw[iP (by simp[SE.cs,D])]
    rfl
  ·have Z:((e.cs).1==c)=false:=by simp[SE.cs,D]
   have G:((e.kv).1==c)=false:=by simp[SE.kv,D]
   have f1:aP ((e::k).map SE.cs) c=aP (k.map SE.cs) c:=by unfold aP;rw[nG,Uq,Z]
   have f2:pH ((e::k).map SE.kv) c=pH (k.map SE.kv) c:=by unfold pH;rw[nG,Uq,G]
   have f3:jV ((e::k).map SE.cs) c=e.cs::jV (k.map SE.cs) c:=by unfold jV;rw[nG,WH (by rw[Z];exact iu)]
   have f4:qy ((e::k).map SE.kv) c=e.kv::qy (k.map SE.kv) c:=by unfold qy;rw[nG,WH (by rw[G];exact iu)]
   have f5:∀n,bR ((e::k).map SE.cs) c n=e.cs::bR (k.map SE.cs) c n:=λn=>by
    show(if(e.cs.1==c)=true then _ else _)=_;rw[iN (by rw[Z];exact iu)]
   rcases uy k c with⟨a,b⟩|⟨i,x,H,O,d,g,C,S,F⟩
   ·exact .inl ⟨f1.trans a,f2.trans b⟩
   ·refine .inr ⟨i+1,x,by simpa using H,O,f1.trans d,f2.trans g,by rw[f3,C];rfl,by rw[f4,S];rfl,λn v=>⟨by rw[f5,(F n v).1];rfl,?_⟩⟩
    show e.kv::(k.set i ⟨x.c,n,x.p,v⟩).map SE.kv=_;rw[(F n v).2]
    rfl
section
variable {I:aK} {w:World} {L:List az} {g:Nat} {S:List (Int×Int)}
theorem St.Tr(h:St I w (eZ g S::L)):(S=[]/\St I w (ab g 103 #[.map none]::L))\/∃(b:Nat) (k:List SE),k.map SE.cs=S/\St I w (nO b (k.map SE.kv)::ab g 103 #[.map (some b)]::gU (k.map SE.r)::L):=by
 obtain⟨q,Z⟩:=h.ex
 cases q with
 |none=>
  have G:St I w (aX (ab g 103 #[.map none]) (kd (S=[]))::L):=Z;obtain⟨M,u⟩:=G.star.swap.xl;exact .inl ⟨M,u⟩
 |some q=>
  obtain⟨b,k⟩:=q;have G:St I w (aX (ab g 103 #[.map (some b)]) (aX (nO b (k.map SE.kv)) (aX (gU (k.map SE.r)) (kd (k.map SE.cs=S))))::L):=Z;have M:=G.star.swap.star;have u:St I w (aX (gU (k.map SE.r)) (kd (k.map SE.cs=S))::nO b (k.map SE.kv)::ab g 103 #[.map (some b)]::L):=M.swap;obtain⟨U,V⟩:=u.star.swap.xl;exact .inr ⟨b,k,U,V.pick 3 [1,2,0]⟩
theorem St.Dm{b:Nat}{es:List SE}(h:St I w (nO b (es.map SE.kv)::ab g 103 #[.map (some b)]::gU (es.map SE.r)::L))(N:es.map SE.cs=S):St I w (eZ g S::L):=by
 have Z:=h.ul N;have G:St I w (gU (es.map SE.r)::kd (es.map SE.cs=S)::nO b (es.map SE.kv)::ab g 103 #[.map (some b)]::L):=Z.pick 4 [3,0,1,2];have M:=G.aM.swap.aM;exact St.eu (f:=WY g S) (some (b,es)) (M.swap.aM)
theorem St.Vs(h:St I w (ab g 103 #[.map none]::L)):St I w (eZ g []::L):=St.eu (f:=WY g []) none ((h.ul rfl).swap.aM)
theorem St.Ll{P:Program}{i:Array Oper}{rest:List Oper}{o:Oper}{a:Act}{Q:Exit->Act->World->Prop}{b:Nat}{p:List (Int×Value)}{t k e:TypeId}(h:St I w (nO b p::L))(R:P.underlying t=some (.map k e))(W:P.underlying k=some (.int .i64)){c:Int}(D:pH p c=none)(v:Value)
 (A:o.guard=none) (m x y:Operand) (q:o.op= .mapUpdate t m x y\/o.op= .insert t m x y) (n:a.eval m= .map (some b)) (j:a.eval x= iI c) (U:a.eval y=v)
 (N:∀O,St I O (nO b (p++[(c,v)])::L)->wpList P i Q rest (a.put o.dst undef) O):wpList P i Q (o::rest) a w:=by
 obtain⟨O,Z,G⟩:=h.yZ R W D v;refine wpList_plain A λK d=> ?_;unfold Oper.wp;rcases q with q|q
 ·exact aeX
 ·exact aeX
theorem My{P:Program}{i:Array Oper}{rest:List Oper}{o:Oper}{a:Act}{Q:Exit->Act->World->Prop}{O:World}{v:Value}(A:o.guard=none)(x y:Operand)(b l:TypeId)(p u:Value)(q:o.op= .call {callee:= .builtin .delete,args:= #[x,y],argTypes:= #[b,l]})(J:a.eval x=p)(E:a.eval y=u)
 (d:(Builtin.delete_ #[b,l] o.type #[p,u]).run P w= .ok v O) (h:wpList P i Q rest (a.put o.dst v) O):wpList P i Q (o::rest) a w:=by
 exact adG
end
def qM(S:List (Int×Int))(c:Int):Int:=if(aP S c).isSome=true then 1 else if 6<=S.length then 42 else 0
def Al(S:List (Int×Int))(c:Int):List (Int×Int):=if(aP S c).isSome=true then S else if 6<=S.length then S else S++[(c,0)]
def lQ(S:List (Int×Int))(c:Int):Int:=if(aP S c).isSome=true then 0 else 81
def CO(S:List (Int×Int))(c:Int):List (Int×Int):=if(aP S c).isSome=true then jV S c else S
theorem TZ(w:World):(binOp .eql 101 (.map none) (.map none)).run prog w= .ok (.bool true) w:=kR
theorem Sh(b:Nat)(w:World):(binOp .eql 101 (.map (some b)) (.map none)).run prog w= .ok (.bool false) w:=kR
theorem nF(w:World):(zeroValue 278).run prog w= .ok (.pointer none) w:=kR
theorem Ql{I:aK}{L:List az}(g:Nat)(S:List (Int×Int))(c:Int)(w:World)(D:0<=c/\c<16)(F:S.length<=1000)(h:St I w (eZ g S::L)):
 Rt I w 96 #[pO g,iI c] (iI (qM S c)) (eZ g (Al S c)::L):=by
 have d1:decide (c<0)=false:=decide_eq_false (by omega);have d2:decide (c≥16)=false:=decide_eq_false (by omega);have d3:decide (16<=c)=false:=decide_eq_false (by omega);rcases h.Tr with⟨rfl,Z⟩|⟨b,es,rfl,Z⟩
 ·have B:=(Z.ah 0 rfl).cell 0
  have W:=(Z.ah 0 rfl).frozen;have A:=qc (w:=w) underlying101 underlying3 (nF w) c;have Q:=λX=>DY (w:=w) underlying101 X;have q:= @run_makeMap prog;have heq:=TZ w;have H:=aa Z;clear h Z F D
  go_enter func96,ntmps96
  have d:=H.Di.swap.bE 0 (.map (some w.heap.size));have k:World.cell? _ ⟨g,0,none⟩=some (.map (some w.heap.size)):=(d.ah 0 rfl).cell 0;have o:=(H.Di.ah 1 rfl).frozen;have a:World.cell? _ ⟨g,0,none⟩=some (.map none):=(H.Di.ah 1 rfl).cell 0;have G:=d.alloc 281 #[iW 0,sN];generalize P:(World.setCell _ _ _).heap.size=p at G;have T:=aa (G.pk 3 [2,1,0]);clear G d
  go_wp2_with (at_mapUpdate;refine St.Ll T underlying101 underlying3 rfl (pO p) rfl _ _ _ (.inl rfl) rfl rfl (by rw[<-P];rfl) ?_;intro z U)
  go_ret
  refine⟨rfl,?_⟩;have u:St I z (gU []::nO w.heap.size [(c,pO p)]::ab g 103 #[.map (some w.heap.size)]::ab p 281 #[iW 0,sN]::L):=U.ul (p:=True) trivial;have l:St I z (gU ([SE.mk c 0 p sN].map SE.r)::nO w.heap.size [(c,pO p)]::ab g 103 #[.map (some w.heap.size)]::L):=St.CK (Xs:=[]) (Y:=SE.r ⟨c,0,p,sN⟩) (u.pick 4 [3,0,1,2]);exact St.Dm (es:=[SE.mk c 0 p sN]) (l.pick 3 [1,2,0]) rfl
 ·have B:=(Z.ah 1 rfl).cell 0
  have W:=(Z.ah 1 rfl).frozen;have M:=Z.Ax 0 rfl;have A:=na (w:=w) underlying101 underlying3 (nF w) M c true;have Q:=λX=>Qw (w:=w) underlying101 X M;have j:(es.map SE.kv).length=(es.map SE.cs).length:=by rw[qI,qI]
  rw[j]at Q;have H:=aa Z;rcases uy es c with⟨f1,f2⟩|⟨i,e,_,_,f1,f2,_⟩
  ·rw[f2]at A
   generalize N:es.map SE.cs=S at*;refine iG N f1 f2 λC y n=>?_;by_cases u:6<=S.length
   ·have E:=aa (show qM S c=42 by unfold qM;rw[f1,iN abN,iP u])
    have J:=aa (show Al S c=S by unfold Al;rw[f1,iN abN,iP u]);have d4:decide ((S.length:Int)≥6)=true:=decide_eq_true (by omega);have d5:decide (6<=(S.length:Int))=true:=decide_eq_true (by omega);clear h Z F D M N j f1 f2
    exact aen
   ·have E:=aa (show qM S c=0 by unfold qM;rw[f1,iN abN,iN u])
    have J:=aa (show Al S c=S++[(c,0)]by unfold Al;rw[f1,iN abN,iN u]);have d4:decide ((S.length:Int)≥6)=false:=decide_eq_false (by omega);have d5:decide (6<=(S.length:Int))=false:=decide_eq_false (by omega);have heq:=Sh b w;have G:=H.alloc 281 #[iW 0,sN];have T:=aa (G.pk 4 [1,2,3,0]);clear h Z F D M N j f1 f2 G u
    go_enter func96,ntmps96
    go_wp2_with (at_mapUpdate;refine St.Ll T underlying101 underlying3 n (pO w.heap.size) rfl _ _ _ (.inl rfl) rfl rfl rfl ?_;intro z U)
    go_ret
    rw[E.out,J.out];refine⟨rfl,?_⟩;have l:St I z (gU ((es++[SE.mk c 0 w.heap.size sN]).map SE.r)::nO b (es.map SE.kv++[(c,pO w.heap.size)])::ab g 103 #[.map (some b)]::L):=by
     rw[yu];exact St.CK (Xs:=es.map SE.r) (Y:=SE.r ⟨c,0,w.heap.size,sN⟩) (U.pick 4 [3,2,0,1])
    refine St.Dm (b:=b) (es:=es++[SE.mk c 0 w.heap.size sN]) ?_ (by rw[yu,C.out];rfl);rw[show(es++[SE.mk c 0 w.heap.size sN]).map SE.kv=es.map SE.kv++[(c,pO w.heap.size)]from yu];exact l.pick 3 [1,2,0]
  ·rw[f2]at A
   generalize N:es.map SE.cs=S at*;have C:=aa N;have E:=aa (show qM S c=1 by unfold qM;rw[f1];rfl);have J:=aa (show Al S c=S by unfold Al;rw[f1];rfl);clear h Z F D M N j f1 f2 Q
   exact aen
theorem Cr{I:aK}{L:List az}(g:Nat)(S:List (Int×Int))(c:Int)(w:World)(h:St I w (eZ g S::L)):
 Rt I w 97 #[pO g,iI c] (iI (lQ S c)) (eZ g (CO S c)::L):=by
 rcases h.Tr with⟨rfl,Z⟩|⟨b,k,rfl,Z⟩
 ·have C:=(Z.ah 0 rfl).cell 0
  have A:=qc (w:=w) underlying101 underlying3 (nF w) c;have H:=aa Z;clear h Z
  go_enter func97,ntmps97
  go_wp2_with fail
  go_ret
  exact⟨rfl,H.Vs⟩
 ·have C:=(Z.ah 1 rfl).cell 0
  have M:=Z.Ax 0 rfl;have A:=na (w:=w) underlying101 underlying3 (nF w) M c true;have H:=aa Z;rcases uy k c with⟨f1,f2⟩|⟨i,e,r,_,f1,f2,f3,f4,_⟩
  ·rw[f2]at A
   have E:=aa (show lQ (k.map SE.cs) c=81 by unfold lQ;rw[f1,iN abN]);have J:=aa (show CO (k.map SE.cs) c=k.map SE.cs by unfold CO;rw[f1,iN abN]);clear h Z M f1 f2
   go_enter func97,ntmps97
   go_wp2_with fail
   go_ret
   rw[E.out,J.out];exact⟨rfl,St.Dm H rfl⟩
  ·rw[f2]at A
   have E:=aa (show lQ (k.map SE.cs) c=0 by unfold lQ;rw[f1];rfl);have J:=aa (show CO (k.map SE.cs) c=(k.eraseIdx i).map SE.cs by unfold CO;rw[f1,<-f3];rfl);obtain⟨z,d,U⟩:=Z.WD underlying101 underlying3 c 3 0;rw[f4]at U;have t:=(nQ.1 r).1;have u:=St.Gp (Xs:=k.map SE.r) (i:=i) (by rw[qI];exact t) (U.pk 3 [2,0,1]);rw[<-sc]at u;have j:=aa (u.pk 3 [1,2,0]);clear h Z M f1 f2 f3 f4 U u t r H
   go_enter func97,ntmps97
   go_wp2_with (at_builtin;refine My rfl _ _ 101 3 (.map (some b)) (iI c) rfl rfl rfl d ?_)
   go_ret
   rw[E.out,J.out];exact⟨rfl,St.Dm j rfl⟩
theorem ym{I:aK}{L:List az}(g:Nat)(S:List (Int×Int))(c n:Int)(w:World)(W:∀x,aP S c=some x->n=x.2+1/\0<=x.2/\x.2<4294967295)(h:St I w (eZ g S::L)):
 Rt I w 154 #[pO g,iI c,iW n] (.tuple #[sN,.bool false,iI (lQ S c)]) (eZ g S::L):=by
 rcases h.Tr with⟨rfl,Z⟩|⟨b,k,rfl,Z⟩
 ·have T:=(Z.ah 0 rfl).cell 0
  have A:=qc (w:=w) underlying101 underlying3 (nF w) c;have H:=aa Z;clear h Z W
  go_enter func154,ntmps154
  go_wp2_with fail
  go_ret3
  exact⟨rfl,H.Vs⟩
 ·have T:=(Z.ah 1 rfl).cell 0
  have M:=Z.Ax 0 rfl;have A:=na (w:=w) underlying101 underlying3 (nF w) M c true;have H:=aa Z;rcases uy k c with⟨f1,f2⟩|⟨i,e,r,d,f1,f2,f3,f4,_⟩
  ·rw[f2]at A
   have E:=aa (show lQ (k.map SE.cs) c=81 by unfold lQ;rw[f1,iN abN]);clear h Z M f1 f2 W
   exact aeo
  ·rw[f2]at A
   have E:=aa (show lQ (k.map SE.cs) c=0 by unfold lQ;rw[f1];rfl);obtain⟨C,O,o⟩:=W _ f1;have C:n=e.s+1:=C;have O:0<=e.s:=O;have o:e.s<4294967295:=o;have G:=St.CL (Xs:=k.map SE.r) (i:=i) (X:=e.r) (Z.pk 3 [2,0,1]) (by rw[zA,r];rfl);have U:w.cell? (aD e.p 0)=some (iW e.s):=(G.ah 0 rfl).cell 0;obtain⟨p,P⟩:∃p,e.p=p:=⟨_,rfl⟩;obtain⟨s,V⟩:∃s,e.s=s:=⟨_,rfl⟩;rw[V]at C O o U;rw[P]at U A;subst C;have u:(s+1==s)=false:=jM oM;have Y:decide (s+1<=s)=false:=decide_eq_false (by omega);have z:IntKind.u64.wrap s=s:=IntWalk.u64_in _ oM;have R:IntKind.u64.wrap (s+1)=s+1:=IntWalk.u64_in _ oM;have j:(s+1 !=s+1)=false:=by simp
   clear h Z M f1 f2 f3 f4 W G r d P V
   exact aeo
theorem zb{I:aK}{L:List az}(g:Nat)(S:List (Int×Int))(c n:Int)(E:OA)(z D:Nat)(N:LI)(w:World)(hm:z<=9)(hn:∃x,aP S c=some x/\n=x.2+1/\0<=x.2/\x.2<4294967295)(h:St I w (ai .u8 (.slice E z D) N::eZ g S::L)):
 Rt I w 157 #[pO g,iI c,iW n,.slice E z D] (iI 0) (eZ g (bR S c n)::L):=by
 obtain⟨x,J,R,W,l⟩:=hn;rcases h.swap.Tr with⟨rfl,Z⟩|⟨b,k,rfl,Z⟩
 ·cases J
 ·have x0:=(Z.ah 1 rfl).cell 0
  have j:=Z.Ax 0 rfl;have A:=na (w:=w) underlying101 underlying3 (nF w) j c true;rcases uy k c with⟨f1,f2⟩|⟨i,e,r,fc,f1,f2,f3,f4,f5⟩
  ·rw[f1]at J;cases J
  ·rw[f2]at A
   rw[f1]at J;injection J with J;subst J;have C:n=e.s+1:=R;have n2:0<=e.s:=W;have n3:e.s<4294967295:=l;clear R W l;have G:=St.CL (Xs:=k.map SE.r) (i:=i) (X:=e.r) (Z.pk 4 [2,0,1,3]) (by rw[zA,r];rfl);have U:w.cell? (aD e.p 0)=some (iW e.s):=(G.ah 0 rfl).cell 0;have M:=(nQ.1 r).1;have o:=aa (show i<(k.map SE.r).length by rw[qI];exact M);have F:=aa f5;have B0:z=N.length:=(G.get 4 rfl).sl.1;obtain⟨p,P⟩:∃p,e.p=p:=⟨_,rfl⟩;obtain⟨s,V⟩:∃s,e.s=s:=⟨_,rfl⟩;rw[V]at C n2 n3 U;rw[P]at U A;have B:e.r=ab p 281 #[iW s,e.v]:=by unfold SE.r;rw[P,V]
   have T:∀u,(SE.mk e.c n e.p u).r=ab p 281 #[iW n,u]:=λu=>by unfold SE.r;rw[P]
   rw[B]at G;have fz:=(G.ah 0 rfl).frozen;refine bq (G.pk 5 [4,0,1,2,3]) T λH O=>?_;subst C;have e2:decide ((z:Int)>9)=false:=decide_eq_false (by omega);have e4:decide (9<(z:Int))=false:=decide_eq_false (by omega);have w1:IntKind.u64.wrap s=s:=IntWalk.u64_in _ oM;have w2:IntKind.u64.wrap (s+1)=s+1:=IntWalk.u64_in _ oM;have e3:(s+1 !=s+1)=false:=by simp
   have C0:z<=140737488355328:=oM
   clear h Z j f1 f2 f3 f4 f5 G r fc P V M B T B0 hm
   go_enter func157,ntmps157
   go_wp2_with fail
   refine(ef E z D N _ (H.get 0 rfl).sl.2.2.2 C0 H).mono ?_;rintro e' Y⟨v3,rfl,h⟩;obtain⟨a,y,rfl⟩:=h.slice;have U:Y.cell? (aD p 0)=some (iW s):=(h.ah 2 rfl).cell 0;have y1:Y.cell? (aD p 1)=some e.v:=(h.ah 2 rfl).cell 1;have fz:=(h.ah 2 rfl).frozen;have K:=aa h;clear h H
   go_wp2_with fail
   have d:=((K.tW.bE 0 (iW (s+1))).bE 1 (.slice a z y));have q:=aa (d.pick (L':=ab p 281 #[iW (s+1),.slice a z y]::gU ((k.map SE.r).set i vh)::nO b (k.map SE.kv)::ab g 103 #[.map (some b)]::L) 6 [0,3,4,5]);clear d K
   go_ret
   refine⟨rfl,?_⟩;have t:=q.out;rw[<-O.out (.slice a z y)]at t;have Q:=St.Km o t;rw[<-zdt,<-(F.out (s+1) (.slice a z y)).2]at Q;exact St.Dm (Q.pick 3 [1,2,0]) (F (s+1) (.slice a z y)).1.symm
end
abbrev dV(q:dH):Vq:= #[iI q.op,iI q.c,iW q.seq,iI q.r,iI q.m,iU q.t,iU q.tm]
abbrev aN(e v:Int):Vq:= #[iI e,iU v]
structure dH.ok(q:dH):Prop where
 op:1<=q.op/\q.op<=7
 c:0<=q.c/\q.c<=255
 r:0<=q.r/\q.r<=255
 m:0<=q.m/\q.m<=255
 seq:0<=q.seq/\q.seq<4294967296
 t:0<=q.t/\q.t<18446744073709551616
 tm:0<=q.tm/\q.tm<18446744073709551616
def mL(q:dH):LI:=aV q.op 1++(aV q.c 1++(aV q.seq 4++(aV q.r 1++(aV q.m 1++(aV q.t 8++(aV q.tm 8++[]))))))
theorem CR(n:Int)(w:World)(h:0<=n/\n<=255):Calls prog 93 #[iI n] w λe O=>e= .returned (.bool true)/\O=w:=by
 have d1:decide (n≥0)=true:=decide_eq_true (by omega);have d2:decide (0<=n)=true:=decide_eq_true (by omega);have d3:decide (n<=255)=true:=decide_eq_true (by omega);clear h
 go_enter func93,ntmps93
 exact afs
theorem DX{I:aK}{L:List az}(q:dH)(w:World)(M:q.ok)(h:St I w L):
 Calls prog 58 #[.agg (dV q)] w λe O=>∃A c,e= .returned (.tuple #[.slice A (mL q).length c,iI 0])/\St I O (ai .u8 (.slice A (mL q).length c) (mL q)::L):=by
 obtain⟨X,P,u,S,a,x,q7⟩:=M;have E:=aa (show []++bM q.op 1++bM q.c 1++bM q.seq 4++bM q.r 1++bM q.m 1++bM q.t 8++bM q.tm 8=mL q by
  unfold mL;simp only[zm,xd,pI]
  rfl)
 have R:=aa (show(mL q).length<=1000000 by unfold mL;simp[au]);have w0:IntKind.u64.wrap q.op=q.op:=IntWalk.u64_in _ oM;have w1:IntKind.u64.wrap q.c=q.c:=IntWalk.u64_in _ oM;have w2:IntKind.u64.wrap q.seq=q.seq:=IntWalk.u64_in _ oM;have w3:IntKind.u64.wrap q.r=q.r:=IntWalk.u64_in _ oM;have w4:IntKind.u64.wrap q.m=q.m:=IntWalk.u64_in _ oM;have w5:IntKind.u64.wrap q.t=q.t:=IntWalk.u64_in _ oM;have w6:IntKind.u64.wrap q.tm=q.tm:=IntWalk.u64_in _ oM;have d0:decide (q.op<1)=false:=decide_eq_false (by omega);have d1:decide (q.op>7)=false:=decide_eq_false (by omega);have d2:decide (7<q.op)=false:=decide_eq_false (by omega);refine iG P u S λG b U=>?_;have K:=h.alloc 156 (dV q);have y:=aa (St.uv (xs:=[]) ((K.mq 5 1).alloc 83 #[sN]) rfl);obtain⟨C,D,r,Q,H,n,Y⟩:=(K.ah 0 rfl).seven;obtain⟨B,d⟩:=nM (w.heap.size+1);rw[World.size_alloc,<-d]at y;have Z:=aa d;clear h X P u S a x q7 d K
 go_enter func58,ntmps58
 go_wp2_with fail
 refine(CR q.c _ G).mono ?_;rintro e J⟨rfl,rfl⟩
 go_wp2_with fail
 refine(CR q.r _ b).mono ?_;rintro e J⟨rfl,rfl⟩
 go_wp2_with fail
 refine(CR q.m _ U).mono ?_;rintro e J⟨rfl,rfl⟩;obtain⟨C,D,r,Q,H,n,Y⟩:=(y.Um (g:=w.heap.size) (t:=156) (cs:=dV q) (by unfold AQ;exact aU)).seven
 go_wp2_with fail
 rw[<-Z.out];refine qK (dk B q.op 1 ([]) _ abN y) λJ h=>?_;have F:=aa h;obtain⟨C,D,r,Q,H,n,Y⟩:=(h.ah 1 rfl).seven;clear h y
 go_wp2_with fail
 skip
 refine qK (dk B q.c 1 ([]++bM q.op 1) _ (by simp[bM,au]) F) λu1 h=>?_;have N:=aa h;obtain⟨C,D,r,Q,H,n,Y⟩:=(h.ah 1 rfl).seven;clear h F
 go_wp2_with fail
 skip
 refine qK (dk B q.seq 4 ([]++bM q.op 1++bM q.c 1) _ (by simp[bM,au]) N) λu2 h=>?_;have T:=aa h;obtain⟨C,D,r,Q,H,n,Y⟩:=(h.ah 1 rfl).seven;clear h N
 go_wp2_with fail
 skip
 refine qK (dk B q.r 1 ([]++bM q.op 1++bM q.c 1++bM q.seq 4) _ (by simp[bM,au]) T) λu3 h=>?_;have l:=aa h;obtain⟨C,D,r,Q,H,n,Y⟩:=(h.ah 1 rfl).seven;clear h T
 go_wp2_with fail
 skip
 refine qK (dk B q.m 1 ([]++bM q.op 1++bM q.c 1++bM q.seq 4++bM q.r 1) _ (by simp[bM,au]) l) λu4 h=>?_;have V:=aa h;obtain⟨C,D,r,Q,H,n,Y⟩:=(h.ah 1 rfl).seven;clear h l
 go_wp2_with fail
 skip
 refine qK (dk B q.t 8 ([]++bM q.op 1++bM q.c 1++bM q.seq 4++bM q.r 1++bM q.m 1) _ (by simp[bM,au]) V) λu5 h=>?_;have j:=aa h;obtain⟨C,D,r,Q,H,n,Y⟩:=(h.ah 1 rfl).seven;clear h V
 go_wp2_with fail
 skip
 refine qK (dk B q.tm 8 ([]++bM q.op 1++bM q.c 1++bM q.seq 4++bM q.r 1++bM q.m 1++bM q.t 8) _ (by simp[bM,au]) j) λu6 h=>?_;have z:=aa h;obtain⟨C,D,r,Q,H,n,Y⟩:=(h.ah 1 rfl).seven;clear h j
 go_wp2_with fail
 have W:=z.out;rw[E.out]at W;refine(qu B (mL q) _ (by have:=R.out;omega) W).mono ?_;rintro e u8⟨v,rfl,h⟩;have p:=h.ints;obtain⟨i,k,rfl,_,_,_⟩:=p.get 0 rfl;have o:=aa (p.pk 3 [0]);clear h p W z
 go_wp2_with fail
 go_ret2
 exact⟨i,k,rfl,o⟩
def yN(e v:Int):LI:=aV e 1++aV v 8
theorem vH{I:aK}{L:List az}(c v:Int)(w:World)(D:0<=c/\c<18446744073709551616)(h:St I w L):
 Calls prog 158 #[.agg (aN c v)] w λe O=>∃A q,e= .returned (.slice A 9 q)/\St I O (ai .u8 (.slice A 9 q) (yN c v)::L):=by
 have X:IntKind.u64.wrap c=c:=IntWalk.u64_in _ oM;have K:=h.alloc 158 (aN c v);have y:=aa (St.uv (xs:=[]) ((K.mq 5 1).alloc 83 #[sN]) rfl);have T:World.cell? _ ⟨w.heap.size,0,none⟩=some (iI c):=(K.ah 0 rfl).cell 0;have R:World.cell? _ ⟨w.heap.size,1,none⟩=some (iU v):=(K.ah 0 rfl).cell 1;have U:World.cell? _ ⟨w.heap.size,0,none⟩=some (iI c):=(y.Um (g:=w.heap.size) (t:=158) (cs:=aN c v) (by unfold AQ;exact aU)).cell 0;obtain⟨B,d⟩:=nM (w.heap.size+1);rw[World.size_alloc,<-d]at y;have Z:=aa d;clear h D d K
 go_enter func158,ntmps158
 go_wp2_with fail
 rw[<-Z.out];refine qK (dk B c 1 [] _ abN y) λx h=>?_;have F:=aa h;have o:x.cell? (aD w.heap.size 1)=some (iU v):=(h.Um (g:=w.heap.size) (t:=158) (cs:=aN c v)).cell 1;clear h y
 go_wp2_with fail
 refine qH (dk B v 8 ([]++bM c 1) _ (by simp[bM,au]) F) λb C=>?_;clear F
 go_wp2_with fail
 refine(qu B _ _ (by simp[bM,au]) C).mono ?_;rintro e k⟨u,rfl,h⟩;have G:[]++bM c 1++bM v 8=yN c v:=by rw[zm];rfl
 rw[G]at h;have S:=h.ints;obtain⟨N,i,rfl,_,_,_⟩:=S.get 0 rfl;have a:(yN c v).length=9:=by unfold yN;simp[au]
 rw[a]at S;have l:=aa (S.sub (L':=ai .u8 (.slice N 9 i) (yN c v)::L));rw[a];clear h S C G a
 go_wp2_with fail
 go_ret
 exact⟨N,i,rfl,l⟩
theorem Jy{I:aK}{L:List az}(v c:Int)(w:World)(h:St I w L):Rt I w 195 #[iU v,iI c] (.agg (aN c v)) L:=by
 have S:=h.alloc 158 (aN c v);have W:=(S.ah 0 rfl).frozen;have U:World.cell? _ ⟨w.heap.size,0,none⟩=some (iI c):=(S.ah 0 rfl).cell 0;have R:World.cell? _ ⟨w.heap.size,1,none⟩=some (iU v):=(S.ah 0 rfl).cell 1;have H:=aa S;clear h S
 go_enter func195,ntmps195
 go_wp2_with fail
 refine bodyPost_ret (v:= .agg (aN c v)) (aL (fn:=Tryz.f195) (t:=4) (ty:=158) rfl _ rfl ?_) rfl ⟨rfl,H.tail⟩;go_simp
theorem ow{I:aK}{L:List az}(q:dH)(F0:OA)(n G0:Nat)(w:World)(hq:q.ok)(h:St I w (ai .u8 (.slice F0 n G0) (mL q)::L)):
 Rt I w 94 #[.slice F0 n G0] (.tuple #[.agg (dV q),iI 0]) L:=by
 obtain⟨q1,q2,q3,q4,q5,q6,q7⟩:=hq;have O:∀k:Nat,∀x:Int,∀r:LI,Bytes r->Bytes (aV x k++r):=λk x r N0=>(cd _ _).append N0;have z:∀k:Nat,∀x:Int,∀r:LI,(aV x k++r).length=k+r.length:=λk x r=>by rw[dB,au]
 obtain⟨J,E⟩:∃p:LI,p=[]:=⟨_,rfl⟩;obtain⟨b,j⟩:∃p:LI,p=aV q.tm 8++J:=⟨_,rfl⟩;obtain⟨c,i⟩:∃p:LI,p=aV q.t 8++b:=⟨_,rfl⟩;obtain⟨o,d⟩:∃p:LI,p=aV q.m 1++c:=⟨_,rfl⟩;obtain⟨D,Z⟩:∃p:LI,p=aV q.r 1++o:=⟨_,rfl⟩;obtain⟨u,C⟩:∃p:LI,p=aV q.seq 4++D:=⟨_,rfl⟩;obtain⟨B,X⟩:∃p:LI,p=aV q.c 1++u:=⟨_,rfl⟩;obtain⟨a,e⟩:∃p:LI,p=aV q.op 1++B:=⟨_,rfl⟩;have J0:Bytes J:=by rw[E];exact Bytes.nil
 have W0:J.length=0:=by rw[E];rfl
 have A0:Bytes b:=by rw[j];exact O _ _ _ J0
 have V0:b.length=8+J.length:=by rw[j];exact z _ _ _
 have V:Bytes c:=by rw[i];exact O _ _ _ A0
 have U0:c.length=8+b.length:=by rw[i];exact z _ _ _
 have N:Bytes o:=by rw[d];exact O _ _ _ V
 have T0:o.length=1+c.length:=by rw[d];exact z _ _ _
 have K:Bytes D:=by rw[Z];exact O _ _ _ N
 have S0:D.length=1+o.length:=by rw[Z];exact z _ _ _
 have S:Bytes u:=by rw[C];exact O _ _ _ K
 have R0:u.length=4+D.length:=by rw[C];exact z _ _ _
 have G:Bytes B:=by rw[X];exact O _ _ _ S
 have Q0:B.length=1+u.length:=by rw[X];exact z _ _ _
 have I0:Bytes a:=by rw[e];exact O _ _ _ G
 have P0:a.length=1+B.length:=by rw[e];exact z _ _ _
 have he:mL q=a:=by rw[e,X,C,Z,d,i,j,E];rfl
 have E0:=aa (show(Rd.mk a false).num 1=(q.op,⟨B,false⟩)by rw[e];exact en (k:=1) oM (by show q.op<256^1;simp;omega) oM oM _);have E1:=aa (show(Rd.mk B false).num 1=(q.c,⟨u,false⟩)by rw[X];exact en (k:=1) oM (by show q.c<256^1;simp;omega) oM oM _);have E2:=aa (show(Rd.mk u false).num 4=(q.seq,⟨D,false⟩)by rw[C];exact en (k:=4) oM (by show q.seq<256^4;simp;omega) oM oM _);have E3:=aa (show(Rd.mk D false).num 1=(q.r,⟨o,false⟩)by rw[Z];exact en (k:=1) oM (by show q.r<256^1;simp;omega) oM oM _);have E4:=aa (show(Rd.mk o false).num 1=(q.m,⟨c,false⟩)by rw[d];exact en (k:=1) oM (by show q.m<256^1;simp;omega) oM oM _);have E5:=aa (show(Rd.mk c false).num 8=(q.t,⟨b,false⟩)by rw[i];exact en (k:=8) oM (by show q.t<256^8;simp;omega) oM oM _);have E6:=aa (show(Rd.mk b false).num 8=(q.tm,⟨J,false⟩)by rw[j];exact en (k:=8) oM (by show q.tm<256^8;simp;omega) oM oM _);have E7:=aa (show(Rd.mk J false).kw=0 by rw[E];rfl);refine ye I0 (show a.length<=140737488355328 by omega) G (show B.length<=140737488355328 by omega) S (show u.length<=140737488355328 by omega) λB0 K0 B1 K1 B2 K2=>?_;refine ye K (show D.length<=140737488355328 by omega) N (show o.length<=140737488355328 by omega) V (show c.length<=140737488355328 by omega) λB3 K3 B4 K4 B5 K5=>?_;refine bq A0 (show b.length<=140737488355328 by omega) λB6 K6=>?_;have w0:IntKind.i64.wrap q.op=q.op:=IntWalk.i64_in _ oM;have w1:IntKind.i64.wrap q.c=q.c:=IntWalk.i64_in _ oM;have w2:IntKind.u32.wrap q.seq=q.seq:=IntWalk.u32_in _ oM;have w3:IntKind.i64.wrap q.r=q.r:=IntWalk.i64_in _ oM;have w4:IntKind.i64.wrap q.m=q.m:=IntWalk.i64_in _ oM;have d0:decide (q.op<1)=false:=decide_eq_false (by omega);have d1:decide (q.op>7)=false:=decide_eq_false (by omega);have d2:decide (7<q.op)=false:=decide_eq_false (by omega);rw[he]at h;have H:=aa ((h.alloc 156 #[iI 0,iI 0,iW 0,iI 0,iI 0,iU 0,iU 0]).swap);obtain⟨R,C0⟩:=nM (w.heap.size);rw[<-C0]at H;have L0:=aa C0;clear h he C0 O z q1 q2 q3 q4 q5 q6 q7 e X C Z d i j E I0 G S K N V A0 J0 P0 Q0 R0 S0 T0 U0 V0 W0
 go_enter func94,ntmps94
 go_wp2_with fail
 rw[<-L0.out];refine(ou _ a _ H).mono ?_;rintro X0 w1⟨g,rfl,h⟩;have H0:=aa (h.tO);clear H h
 go_wp2_with fail
 refine qK (bN g ⟨a,false⟩ 1 _ B0 K0 (λh=>by cases h) H0) λu0 h=>?_;rw[E0.out]at h⊢;have H1:=aa h;clear h H0
 go_wp2_with fail
 refine qK (bN g ⟨B,false⟩ 1 _ B1 K1 (λh=>by cases h) H1) λu1 h=>?_;rw[E1.out]at h⊢;have H2:=aa h;clear h H1
 go_wp2_with fail
 refine qK (bN g ⟨u,false⟩ 4 _ B2 K2 (λh=>by cases h) H2) λu2 h=>?_;rw[E2.out]at h⊢;have M:=h.alloc 156 #[iI q.op,iI q.c,iW q.seq,iI 0,iI 0,iU 0,iU 0];obtain⟨gb,D0⟩:=nM (u2.heap.size);rw[<-D0]at M;refine bq D0 M.swap λM0 H3=>?_;have W:=(M.ah 0 rfl).frozen;obtain⟨y,P,T,Y,Q,F,A⟩:=(M.ah 0 rfl).seven;clear h M D0 H2
 go_wp2_with fail
 rw[<-M0.out];refine qK (bN g ⟨D,false⟩ 1 _ B3 K3 (λh=>by cases h) H3) λu3 h=>?_;rw[E3.out]at h⊢;have W:=(h.ah 1 rfl).frozen;obtain⟨y,P,T,Y,Q,F,A⟩:=(h.ah 1 rfl).seven;have H4:=aa h;clear h H3
 go_wp2_with fail
 refine qK (bN g ⟨o,false⟩ 1 _ B4 K4 (λh=>by cases h) H4) λu4 h=>?_;rw[E4.out]at h⊢;have U:=(h.swap.bE 3 (iI q.r)).bE 4 (iI q.m);have W:=(h.ah 1 rfl).frozen;obtain⟨y,P,T,Y,Q,F,A⟩:=(h.ah 1 rfl).seven;have U:St I _ (ab gb 156 #[iI q.op,iI q.c,iW q.seq,iI q.r,iI q.m,iU 0,iU 0]::pu g ⟨c,false⟩::ab R 156 #[iI 0,iI 0,iW 0,iI 0,iI 0,iU 0,iU 0]::L):=U;obtain⟨y0,y1,y2,y3,y4,y5,y6⟩:=(U.ah 0 rfl).seven;have H5:=aa U.swap;clear h U H4
 go_wp2_with fail
 refine qK (bN g ⟨c,false⟩ 8 _ B5 K5 (λh=>by cases h) H5) λu5 h=>?_;rw[E5.out]at h⊢;have W:=(h.ah 1 rfl).frozen;obtain⟨y,P,T,Y,Q,F,A⟩:=(h.ah 1 rfl).seven;have H6:=aa h;clear h H5
 go_wp2_with fail
 refine qK (bN g ⟨b,false⟩ 8 _ B6 K6 (λh=>by cases h) H6) λu6 h=>?_;rw[E6.out]at h⊢;have l:=(h.swap.bE 5 (iU q.t)).bE 6 (iU q.tm);have W:=(h.ah 1 rfl).frozen;obtain⟨y,P,T,Y,Q,F,A⟩:=(h.ah 1 rfl).seven;have l:St I _ (ab gb 156 (dV q)::pu g ⟨J,false⟩::ab R 156 #[iI 0,iI 0,iW 0,iI 0,iI 0,iU 0,iU 0]::L):=l;obtain⟨y0,y1,y2,y3,y4,y5,y6⟩:=(l.ah 0 rfl).seven;have H7:=aa l.swap;clear h l H6
 go_wp2_with fail
 refine qK (qU g ⟨J,false⟩ _ H7) λu8 h=>?_;rw[E7.out];obtain⟨y0,y1,y2,y3,y4,y5,y6⟩:=(h.ah 1 rfl).seven;obtain⟨y,P,T,Y,Q,F,A⟩:=(h.ah 2 rfl).seven;have W:=(h.ah 2 rfl).frozen;have H8:=aa h;clear h H7
 go_wp2_with fail
 have h9:=((((((H8.tW.bE 0 (iI q.op)).bE 1 (iI q.c)).bE 2 (iW q.seq)).bE 3 (iI q.r)).bE 4 (iI q.m)).bE 5 (iU q.t)).bE 6 (iU q.tm);have O0:eK _ R 156 (dV q):=h9.ah 0 rfl;obtain⟨y0,y1,y2,y3,y4,y5,y6⟩:=O0.seven;refine bodyPost_ret (v:= .tuple #[.agg (dV q),iI 0]) (eX (fn:=Tryz.f94) (t:=2) (k:=3) (ty:=156) rfl _ rfl ?_) rfl ⟨rfl,h9.tail.tail.tail⟩;go_simp
end Go.Proofs.YtblpaldggenbaaaGreatDoor
