/- A part. -/
import Derived.Test.YtblpaldggenbaaaGreatDoorMq
import Derived.Test.YtblpaldggenbaaaGreatDoorMo
namespace Go.Proofs.YtblpaldggenbaaaGreatDoor
open Go.RowKit Go.Proofs.Tryz
set_option maxRecDepth 100000
set_option maxHeartbeats 64000000
section
structure SE where
 c:Int
 s:Int
 p:Nat
 v:Value
def SE.kv(e:SE):Int×Value:=(e.c,pO e.p)
def SE.cs(e:SE):Int×Int:=(e.c,e.s)
def SE.r(e:SE):aw:=ab e.p 281 #[iW e.s,e.v]
def XX(g:Nat)(S:List (Int×Int)):Option (Nat×List SE)->aw
 |none=>aX (ab g 103 #[.map none]) (ko (S=[]))
 |some (b,k)=>aX (ab g 103 #[.map (some b)]) (aX (nN b (k.map SE.kv)) (aX (gQ (k.map SE.r)) (ko (k.map SE.cs=S))))
def fa(g:Nat)(S:List (Int×Int)):aw:=AU (XX g S)
theorem ux:∀(k:List SE) (c:Int),(aQ (k.map SE.cs) c=none/\pI (k.map SE.kv) c=none)\/∃i e,k[i]? =some e/\e.c=c/\aQ (k.map SE.cs) c=some (e.c,e.s)/\pI (k.map SE.kv) c=some (pO e.p)/\
 kB (k.map SE.cs) c=(k.eraseIdx i).map SE.cs/\qz (k.map SE.kv) c=(k.eraseIdx i).map SE.kv/\∀n v,bR (k.map SE.cs) c n=(k.set i ⟨e.c,n,e.p,v⟩).map SE.cs/\(k.set i ⟨e.c,n,e.p,v⟩).map SE.kv=k.map SE.kv
 |[],c=> .inl ⟨rfl,rfl⟩
 |e::k,c=>by
  by_cases D:e.c=c
  ·refine .inr ⟨0,e,rfl,D,?_,?_,?_,?_,λn v=>⟨?_,rfl⟩⟩
   ·unfold aQ;rw[li,UJ,show((e.cs).1==c)=true by simp[SE.cs,D]];rfl
   ·unfold pI;rw[li,UJ,show((e.kv).1==c)=true by simp[SE.kv,D]];rfl
   ·unfold kB;rw[li,VV (by simp[SE.cs,D])];rfl
   ·unfold qz;rw[li,VV (by simp[SE.kv,D])];rfl
   ·rw[li]
    unfold bR;rw[iP (by simp[SE.cs,D])]
    rfl
  ·have Z:((e.cs).1==c)=false:=by simp[SE.cs,D]
   have V:((e.kv).1==c)=false:=by simp[SE.kv,D]
   have f1:aQ ((e::k).map SE.cs) c=aQ (k.map SE.cs) c:=by unfold aQ;rw[li,UJ,Z]
   have f2:pI ((e::k).map SE.kv) c=pI (k.map SE.kv) c:=by unfold pI;rw[li,UJ,V]
   have f3:kB ((e::k).map SE.cs) c=e.cs::kB (k.map SE.cs) c:=by unfold kB;rw[li,WE (by rw[Z];exact gV)]
   have f4:qz ((e::k).map SE.kv) c=e.kv::qz (k.map SE.kv) c:=by unfold qz;rw[li,WE (by rw[V];exact gV)]
   have f5:∀n,bR ((e::k).map SE.cs) c n=e.cs::bR (k.map SE.cs) c n:=λn=>by
    show(if(e.cs.1==c)=true then _ else _)=_;rw[iN (by rw[Z];exact gV)]
   rcases ux k c with⟨a,b⟩|⟨i,x,d,g,Q,C,H,I,B⟩
   ·exact .inl ⟨f1.trans a,f2.trans b⟩
   ·refine .inr ⟨i+1,x,by simpa using d,g,f1.trans Q,f2.trans C,by rw[f3,H];rfl,by rw[f4,I];rfl,λn v=>⟨by rw[f5,(B n v).1];rfl,?_⟩⟩
    show e.kv::(k.set i ⟨x.c,n,x.p,v⟩).map SE.kv=_;rw[(B n v).2]
    rfl
section
variable {I:aH} {w:World} {L:List aw} {g:Nat} {S:List (Int×Int)}
theorem St.TR(h:St I w (fa g S::L)):(S=[]/\St I w (ab g 103 #[.map none]::L))\/∃(b:Nat) (k:List SE),k.map SE.cs=S/\St I w (nN b (k.map SE.kv)::ab g 103 #[.map (some b)]::gQ (k.map SE.r)::L):=by
 obtain⟨q,Z⟩:=h.ex
 cases q with
 |none=>
  have V:St I w (aX (ab g 103 #[.map none]) (ko (S=[]))::L):=Z;obtain⟨M,Q⟩:=V.star.swap.wT;exact .inl ⟨M,Q⟩
 |some q=>
  obtain⟨b,k⟩:=q;have V:St I w (aX (ab g 103 #[.map (some b)]) (aX (nN b (k.map SE.kv)) (aX (gQ (k.map SE.r)) (ko (k.map SE.cs=S))))::L):=Z;have M:=V.star.swap.star;have Q:St I w (aX (gQ (k.map SE.r)) (ko (k.map SE.cs=S))::nN b (k.map SE.kv)::ab g 103 #[.map (some b)]::L):=M.swap;obtain⟨F,P⟩:=Q.star.swap.wT;exact .inr ⟨b,k,F,P.pick 3 [1,2,0]⟩
theorem St.Dk{b:Nat}{es:List SE}(h:St I w (nN b (es.map SE.kv)::ab g 103 #[.map (some b)]::gQ (es.map SE.r)::L))(z:es.map SE.cs=S):St I w (fa g S::L):=by
 have Z:=h.uk z;have V:St I w (gQ (es.map SE.r)::ko (es.map SE.cs=S)::nN b (es.map SE.kv)::ab g 103 #[.map (some b)]::L):=Z.pick 4 [3,0,1,2];have M:=V.aM.swap.aM;exact St.cZ (f:=XX g S) (some (b,es)) (M.swap.aM)
theorem St.Wp(h:St I w (ab g 103 #[.map none]::L)):St I w (fa g []::L):=St.cZ (f:=XX g []) none ((h.uk rfl).swap.aM)
theorem St.LC{P:Program}{d:Array Oper}{rest:List Oper}{o:Oper}{a:Act}{Q:Exit->Act->World->Prop}{b:Nat}{u:List (Int×Value)}{t k e:TypeId}(h:St I w (nN b u::L))(R:P.underlying t=some (.map k e))(F:P.underlying k=some (.int .i64)){c:Int}(D:pI u c=none)(v:Value)
 (r:o.guard=none) (m x y:Operand) (H:o.op= .mapUpdate t m x y\/o.op= .insert t m x y) (n:a.eval m= .map (some b)) (j:a.eval x= iI c) (p:a.eval y=v)
 (l:∀O,St I O (nN b (u++[(c,v)])::L)->wpList P d Q rest (a.put o.dst undef) O):wpList P d Q (o::rest) a w:=by
 obtain⟨O,Z,V⟩:=h.yS R F D v;refine wpList_plain r λK g=> ?_;unfold Oper.wp;rcases H with H|H
 ·exact afJ
 ·exact afJ
theorem MK{P:Program}{d:Array Oper}{rest:List Oper}{o:Oper}{a:Act}{Q:Exit->Act->World->Prop}{O:World}{v:Value}(r:o.guard=none)(x y:Operand)(b X:TypeId)(p u:Value)(H:o.op= .call {callee:= .builtin .delete,args:= #[x,y],argTypes:= #[b,X]})(J:a.eval x=p)(E:a.eval y=u)
 (C:(Builtin.delete_ #[b,X] o.type #[p,u]).run P w= .ok v O) (h:wpList P d Q rest (a.put o.dst v) O):wpList P d Q (o::rest) a w:=by
 exact aer
end
def qM(S:List (Int×Int))(c:Int):Int:=if(aQ S c).isSome=true then 1 else if 6<=S.length then 42 else 0
def Ae(S:List (Int×Int))(c:Int):List (Int×Int):=if(aQ S c).isSome=true then S else if 6<=S.length then S else S++[(c,0)]
def lT(S:List (Int×Int))(c:Int):Int:=if(aQ S c).isSome=true then 0 else 81
def CK(S:List (Int×Int))(c:Int):List (Int×Int):=if(aQ S c).isSome=true then kB S c else S
theorem Uw(w:World):(binOp .eql 101 (.map none) (.map none)).run prog w= .ok (.bool true) w:=kR
theorem SI(b:Nat)(w:World):(binOp .eql 101 (.map (some b)) (.map none)).run prog w= .ok (.bool false) w:=kR
theorem nE(w:World):(zeroValue 278).run prog w= .ok (.pointer none) w:=kR
theorem QI{I:aH}{L:List aw}(g:Nat)(S:List (Int×Int))(c:Int)(w:World)(D:0<=c/\c<16)(o:S.length<=1000)(h:St I w (fa g S::L)):
 Rt I w 96 #[pO g,iI c] (iI (qM S c)) (fa g (Ae S c)::L):=by
 have d1:decide (c<0)=false:=decide_eq_false (by omega);have d2:decide (c≥16)=false:=decide_eq_false (by omega);have d3:decide (16<=c)=false:=decide_eq_false (by omega);rcases h.TR with⟨rfl,Z⟩|⟨b,es,rfl,Z⟩
 ·have G:=(Z.ah 0 rfl).cell 0
  have a:=(Z.ah 0 rfl).frozen;have Q:=qg (w:=w) underlying101 underlying3 (nE w) c;have W:=λX=>DU (w:=w) underlying101 X;have q:= @run_makeMap prog;have heq:=Uw w;have H:=aa Z;clear h Z o D
  go_enter func96,ntmps96
  have d:=H.Df.swap.bI 0 (.map (some w.heap.size));have J:World.cell? _ ⟨g,0,none⟩=some (.map (some w.heap.size)):=(d.ah 0 rfl).cell 0;have r:=(H.Df.ah 1 rfl).frozen;have O:World.cell? _ ⟨g,0,none⟩=some (.map none):=(H.Df.ah 1 rfl).cell 0;have V:=d.alloc 281 #[iW 0,sN];generalize R:(World.setCell _ _ _).heap.size=p at V;have T:=aa (V.pk 3 [2,1,0]);clear V d
  go_wp2_with (at_mapUpdate;refine St.LC T underlying101 underlying3 rfl (pO p) rfl _ _ _ (.inl rfl) rfl rfl (by rw[<-R];rfl) ?_;intro M F)
  go_ret
  refine⟨rfl,?_⟩;have P:St I M (gQ []::nN w.heap.size [(c,pO p)]::ab g 103 #[.map (some w.heap.size)]::ab p 281 #[iW 0,sN]::L):=F.uk (p:=True) trivial;have j:St I M (gQ ([SE.mk c 0 p sN].map SE.r)::nN w.heap.size [(c,pO p)]::ab g 103 #[.map (some w.heap.size)]::L):=St.CF (Xs:=[]) (Y:=SE.r ⟨c,0,p,sN⟩) (P.pick 4 [3,0,1,2]);exact St.Dk (es:=[SE.mk c 0 p sN]) (j.pick 3 [1,2,0]) rfl
 ·have G:=(Z.ah 1 rfl).cell 0
  have a:=(Z.ah 1 rfl).frozen;have A:=Z.Aq 0 rfl;have Q:=nh (w:=w) underlying101 underlying3 (nE w) A c true;have W:=λX=>QU (w:=w) underlying101 X A;have k:(es.map SE.kv).length=(es.map SE.cs).length:=by rw[nL,nL]
  rw[k]at W;have H:=aa Z;rcases ux es c with⟨f1,f2⟩|⟨i,e,_,_,f1,f2,_⟩
  ·rw[f2]at Q
   generalize z:es.map SE.cs=S at*;refine ib z f1 f2 λC y n=>?_;by_cases P:6<=S.length
   ·have E:=aa (show qM S c=42 by unfold qM;rw[f1,iN acy,iP P])
    have l:=aa (show Ae S c=S by unfold Ae;rw[f1,iN acy,iP P]);have d4:decide ((S.length:Int)≥6)=true:=decide_eq_true (by omega);have d5:decide (6<=(S.length:Int))=true:=decide_eq_true (by omega);clear h Z o D A z k f1 f2
    exact ae5
   ·have E:=aa (show qM S c=0 by unfold qM;rw[f1,iN acy,iN P])
    have l:=aa (show Ae S c=S++[(c,0)]by unfold Ae;rw[f1,iN acy,iN P]);have d4:decide ((S.length:Int)≥6)=false:=decide_eq_false (by omega);have d5:decide (6<=(S.length:Int))=false:=decide_eq_false (by omega);have heq:=SI b w;have V:=H.alloc 281 #[iW 0,sN];have T:=aa (V.pk 4 [1,2,3,0]);clear h Z o D A z k f1 f2 V P
    go_enter func96,ntmps96
    go_wp2_with (at_mapUpdate;refine St.LC T underlying101 underlying3 n (pO w.heap.size) rfl _ _ _ (.inl rfl) rfl rfl rfl ?_;intro M F)
    go_ret
    rw[E.out,l.out];refine⟨rfl,?_⟩;have j:St I M (gQ ((es++[SE.mk c 0 w.heap.size sN]).map SE.r)::nN b (es.map SE.kv++[(c,pO w.heap.size)])::ab g 103 #[.map (some b)]::L):=by
     rw[xd];exact St.CF (Xs:=es.map SE.r) (Y:=SE.r ⟨c,0,w.heap.size,sN⟩) (F.pick 4 [3,2,0,1])
    refine St.Dk (b:=b) (es:=es++[SE.mk c 0 w.heap.size sN]) ?_ (by rw[xd,C.out];rfl);rw[show(es++[SE.mk c 0 w.heap.size sN]).map SE.kv=es.map SE.kv++[(c,pO w.heap.size)]from xd];exact j.pick 3 [1,2,0]
  ·rw[f2]at Q
   generalize z:es.map SE.cs=S at*;have C:=aa z;have E:=aa (show qM S c=1 by unfold qM;rw[f1];rfl);have l:=aa (show Ae S c=S by unfold Ae;rw[f1];rfl);clear h Z o D A z k f1 f2 W
   exact ae5
theorem Ck{I:aH}{L:List aw}(g:Nat)(S:List (Int×Int))(c:Int)(w:World)(h:St I w (fa g S::L)):
 Rt I w 97 #[pO g,iI c] (iI (lT S c)) (fa g (CK S c)::L):=by
 rcases h.TR with⟨rfl,Z⟩|⟨b,k,rfl,Z⟩
 ·have G:=(Z.ah 0 rfl).cell 0
  have Q:=qg (w:=w) underlying101 underlying3 (nE w) c;have H:=aa Z;clear h Z
  go_enter func97,ntmps97
  go_wp2_with fail
  go_ret
  exact⟨rfl,H.Wp⟩
 ·have G:=(Z.ah 1 rfl).cell 0
  have A:=Z.Aq 0 rfl;have Q:=nh (w:=w) underlying101 underlying3 (nE w) A c true;have H:=aa Z;rcases ux k c with⟨f1,f2⟩|⟨i,e,O,_,f1,f2,f3,f4,_⟩
  ·rw[f2]at Q
   have E:=aa (show lT (k.map SE.cs) c=81 by unfold lT;rw[f1,iN acy]);have l:=aa (show CK (k.map SE.cs) c=k.map SE.cs by unfold CK;rw[f1,iN acy]);clear h Z A f1 f2
   go_enter func97,ntmps97
   go_wp2_with fail
   go_ret
   rw[E.out,l.out];exact⟨rfl,St.Dk H rfl⟩
  ·rw[f2]at Q
   have E:=aa (show lT (k.map SE.cs) c=0 by unfold lT;rw[f1];rfl);have l:=aa (show CK (k.map SE.cs) c=(k.eraseIdx i).map SE.cs by unfold CK;rw[f1,<-f3];rfl);obtain⟨M,C,F⟩:=Z.XI underlying101 underlying3 c 3 0;rw[f4]at F;have B:=(lQ.1 O).1;have P:=St.Gx (Xs:=k.map SE.r) (i:=i) (by rw[nL];exact B) (F.pk 3 [2,0,1]);rw[<-rW]at P;have D:=aa (P.pk 3 [1,2,0]);clear h Z A f1 f2 f3 f4 F P B O H
   go_enter func97,ntmps97
   go_wp2_with (at_builtin;refine MK rfl _ _ 101 3 (.map (some b)) (iI c) rfl rfl rfl C ?_)
   go_ret
   rw[E.out,l.out];exact⟨rfl,St.Dk D rfl⟩
theorem x7{I:aH}{L:List aw}(g:Nat)(S:List (Int×Int))(c n:Int)(w:World)(W:∀x,aQ S c=some x->n=x.2+1/\0<=x.2/\x.2<4294967295)(h:St I w (fa g S::L)):
 Rt I w 154 #[pO g,iI c,iW n] (.tuple #[sN,.bool false,iI (lT S c)]) (fa g S::L):=by
 rcases h.TR with⟨rfl,Z⟩|⟨b,k,rfl,Z⟩
 ·have G:=(Z.ah 0 rfl).cell 0
  have Q:=qg (w:=w) underlying101 underlying3 (nE w) c;have H:=aa Z;clear h Z W
  go_enter func154,ntmps154
  go_wp2_with fail
  go_ret3
  exact⟨rfl,H.Wp⟩
 ·have G:=(Z.ah 1 rfl).cell 0
  have A:=Z.Aq 0 rfl;have Q:=nh (w:=w) underlying101 underlying3 (nE w) A c true;have H:=aa Z;rcases ux k c with⟨f1,f2⟩|⟨i,e,O,M,f1,f2,f3,f4,_⟩
  ·rw[f2]at Q
   have E:=aa (show lT (k.map SE.cs) c=81 by unfold lT;rw[f1,iN acy]);clear h Z A f1 f2 W
   exact ae7
  ·rw[f2]at Q
   have E:=aa (show lT (k.map SE.cs) c=0 by unfold lT;rw[f1];rfl);obtain⟨T,J,D⟩:=W _ f1;have T:n=e.s+1:=T;have J:0<=e.s:=J;have D:e.s<4294967295:=D;have V:=St.CG (Xs:=k.map SE.r) (i:=i) (X:=e.r) (Z.pk 3 [2,0,1]) (by rw[wO,O];rfl);have C:w.cell? (aD e.p 0)=some (iW e.s):=(V.ah 0 rfl).cell 0;obtain⟨p,o⟩:∃p,e.p=p:=⟨_,rfl⟩;obtain⟨s,U⟩:∃s,e.s=s:=⟨_,rfl⟩;rw[U]at T J D C;rw[o]at C Q;subst T;have Y:(s+1==s)=false:=kO oM;have P:decide (s+1<=s)=false:=decide_eq_false (by omega);have l:IntKind.u64.wrap s=s:=IntWalk.u64_in _ oM;have q:IntKind.u64.wrap (s+1)=s+1:=IntWalk.u64_in _ oM;have t:(s+1 !=s+1)=false:=by simp
   clear h Z A f1 f2 f3 f4 W V O M o U
   exact ae7
theorem yV{I:aH}{L:List aw}(g:Nat)(S:List (Int×Int))(c n:Int)(r:OA)(y z:Nat)(T:LI)(w:World)(hm:y<=9)(hn:∃x,aQ S c=some x/\n=x.2+1/\0<=x.2/\x.2<4294967295)(h:St I w (ai .u8 (.slice r y z) T::fa g S::L)):
 Rt I w 157 #[pO g,iI c,iW n,.slice r y z] (iI 0) (fa g (bR S c n)::L):=by
 obtain⟨x,J,W,E,d⟩:=hn;rcases h.swap.TR with⟨rfl,Z⟩|⟨b,k,rfl,Z⟩
 ·cases J
 ·have x0:=(Z.ah 1 rfl).cell 0
  have A:=Z.Aq 0 rfl;have K:=nh (w:=w) underlying101 underlying3 (nE w) A c true;rcases ux k c with⟨f1,f2⟩|⟨i,e,O,fc,f1,f2,f3,f4,f5⟩
  ·rw[f1]at J;cases J
  ·rw[f2]at K
   rw[f1]at J;injection J with J;subst J;have M:n=e.s+1:=W;have n2:0<=e.s:=E;have n3:e.s<4294967295:=d;clear W E d;have V:=St.CG (Xs:=k.map SE.r) (i:=i) (X:=e.r) (Z.pk 4 [2,0,1,3]) (by rw[wO,O];rfl);have C:w.cell? (aD e.p 0)=some (iW e.s):=(V.ah 0 rfl).cell 0;have B:=(lQ.1 O).1;have t:=aa (show i<(k.map SE.r).length by rw[nL];exact B);have j:=aa f5;have B0:y=T.length:=(V.get 4 rfl).sl.1;obtain⟨p,o⟩:∃p,e.p=p:=⟨_,rfl⟩;obtain⟨s,U⟩:∃s,e.s=s:=⟨_,rfl⟩;rw[U]at M n2 n3 C;rw[o]at C K;have l:e.r=ab p 281 #[iW s,e.v]:=by unfold SE.r;rw[o,U]
   have q:∀u,(SE.mk e.c n e.p u).r=ab p 281 #[iW n,u]:=λu=>by unfold SE.r;rw[o]
   rw[l]at V;have fz:=(V.ah 0 rfl).frozen;refine bm (V.pk 5 [4,0,1,2,3]) q λH G=>?_;subst M;have e2:decide ((y:Int)>9)=false:=decide_eq_false (by omega);have e4:decide (9<(y:Int))=false:=decide_eq_false (by omega);have w1:IntKind.u64.wrap s=s:=IntWalk.u64_in _ oM;have w2:IntKind.u64.wrap (s+1)=s+1:=IntWalk.u64_in _ oM;have e3:(s+1 !=s+1)=false:=by simp
   have C0:y<=140737488355328:=oM
   clear h Z A f1 f2 f3 f4 f5 V O fc o U B l q B0 hm
   go_enter func157,ntmps157
   go_wp2_with fail
   refine(dY r y z T _ (H.get 0 rfl).sl.2.2.2 C0 H).mono ?_;rintro e' Y⟨v3,rfl,h⟩;obtain⟨a,R,rfl⟩:=h.slice;have C:Y.cell? (aD p 0)=some (iW s):=(h.ah 2 rfl).cell 0;have y1:Y.cell? (aD p 1)=some e.v:=(h.ah 2 rfl).cell 1;have fz:=(h.ah 2 rfl).frozen;have N:=aa h;clear h H
   go_wp2_with fail
   have Q:=((N.tX.bI 0 (iW (s+1))).bI 1 (.slice a y R));have D:=aa (Q.pick (L':=ab p 281 #[iW (s+1),.slice a y R]::gQ ((k.map SE.r).set i uX)::nN b (k.map SE.kv)::ab g 103 #[.map (some b)]::L) 6 [0,3,4,5]);clear Q N
   go_ret
   refine⟨rfl,?_⟩;have F:=D.out;rw[<-G.out (.slice a y R)]at F;have P:=St.KE t F;rw[<-Wj,<-(j.out (s+1) (.slice a y R)).2]at P;exact St.Dk (P.pick 3 [1,2,0]) (j (s+1) (.slice a y R)).1.symm
end
abbrev dN(q:dD):Vq:= #[iI q.op,iI q.c,iW q.seq,iI q.r,iI q.m,iU q.t,iU q.tm]
abbrev aN(e v:Int):Vq:= #[iI e,iU v]
structure dD.ok(q:dD):Prop where
 op:1<=q.op/\q.op<=7
 c:0<=q.c/\q.c<=255
 r:0<=q.r/\q.r<=255
 m:0<=q.m/\q.m<=255
 seq:0<=q.seq/\q.seq<4294967296
 t:0<=q.t/\q.t<18446744073709551616
 tm:0<=q.tm/\q.tm<18446744073709551616
def mP(q:dD):LI:=aT q.op 1++(aT q.c 1++(aT q.seq 4++(aT q.r 1++(aT q.m 1++(aT q.t 8++(aT q.tm 8++[]))))))
theorem CO(n:Int)(w:World)(h:0<=n/\n<=255):Calls prog 93 #[iI n] w λe O=>e= .returned (.bool true)/\O=w:=by
 have d1:decide (n≥0)=true:=decide_eq_true (by omega);have d2:decide (0<=n)=true:=decide_eq_true (by omega);have d3:decide (n<=255)=true:=decide_eq_true (by omega);clear h
 go_enter func93,ntmps93
 go_wp2_with fail
 exact afY
theorem DT{I:aH}{L:List aw}(q:dD)(w:World)(j:q.ok)(h:St I w L):
 Calls prog 58 #[.agg (dN q)] w λe O=>∃A c,e= .returned (.tuple #[.slice A (mP q).length c,iI 0])/\St I O (ai .u8 (.slice A (mP q).length c) (mP q)::L):=by
 obtain⟨X,M,u,l,Q,W,q7⟩:=j;have E:=aa (show []++bL q.op 1++bL q.c 1++bL q.seq 4++bL q.r 1++bL q.m 1++bL q.t 8++bL q.tm 8=mP q by
  unfold mP;simp only[xL,rX,nX]
  rfl)
 have a:=aa (show(mP q).length<=1000000 by unfold mP;simp[aq]);have w0:IntKind.u64.wrap q.op=q.op:=IntWalk.u64_in _ oM;have w1:IntKind.u64.wrap q.c=q.c:=IntWalk.u64_in _ oM;have w2:IntKind.u64.wrap q.seq=q.seq:=IntWalk.u64_in _ oM;have w3:IntKind.u64.wrap q.r=q.r:=IntWalk.u64_in _ oM;have w4:IntKind.u64.wrap q.m=q.m:=IntWalk.u64_in _ oM;have w5:IntKind.u64.wrap q.t=q.t:=IntWalk.u64_in _ oM;have w6:IntKind.u64.wrap q.tm=q.tm:=IntWalk.u64_in _ oM;have d0:decide (q.op<1)=false:=decide_eq_false (by omega);have d1:decide (q.op>7)=false:=decide_eq_false (by omega);have d2:decide (7<q.op)=false:=decide_eq_false (by omega);refine ib M u l λV Z x=>?_;have K:=h.alloc 156 (dN q);have C:=aa (St.uu (xs:=[]) ((K.my 5 1).alloc 83 #[sN]) rfl);obtain⟨G,F,k,D,R,n,y⟩:=(K.ah 0 rfl).seven;obtain⟨B,z⟩:=nM (w.heap.size+1);rw[World.size_alloc,<-z]at C;have P:=aa z;clear h X M u l Q W q7 z K
 go_enter func58,ntmps58
 go_wp2_with fail
 refine(CO q.c _ V).mono ?_;rintro e J⟨rfl,rfl⟩
 go_wp2_with fail
 refine(CO q.r _ Z).mono ?_;rintro e J⟨rfl,rfl⟩
 go_wp2_with fail
 refine(CO q.m _ x).mono ?_;rintro e J⟨rfl,rfl⟩;obtain⟨G,F,k,D,R,n,y⟩:=(C.tT (g:=w.heap.size) (t:=156) (cs:=dN q) (by unfold AI;exact aU)).seven
 go_wp2_with fail
 rw[<-P.out];refine qK (dg B q.op 1 ([]) _ acy C) λJ h=>?_;have r:=aa h;obtain⟨G,F,k,D,R,n,y⟩:=(h.ah 1 rfl).seven;clear h C
 go_wp2_with fail
 skip
 refine qK (dg B q.c 1 ([]++bL q.op 1) _ (by simp[bL,aq]) r) λu1 h=>?_;have T:=aa h;obtain⟨G,F,k,D,R,n,y⟩:=(h.ah 1 rfl).seven;clear h r
 go_wp2_with fail
 skip
 refine qK (dg B q.seq 4 ([]++bL q.op 1++bL q.c 1) _ (by simp[bL,aq]) T) λu2 h=>?_;have N:=aa h;obtain⟨G,F,k,D,R,n,y⟩:=(h.ah 1 rfl).seven;clear h T
 go_wp2_with fail
 skip
 refine qK (dg B q.r 1 ([]++bL q.op 1++bL q.c 1++bL q.seq 4) _ (by simp[bL,aq]) N) λu3 h=>?_;have d:=aa h;obtain⟨G,F,k,D,R,n,y⟩:=(h.ah 1 rfl).seven;clear h N
 go_wp2_with fail
 skip
 refine qK (dg B q.m 1 ([]++bL q.op 1++bL q.c 1++bL q.seq 4++bL q.r 1) _ (by simp[bL,aq]) d) λu4 h=>?_;have U:=aa h;obtain⟨G,F,k,D,R,n,y⟩:=(h.ah 1 rfl).seven;clear h d
 go_wp2_with fail
 skip
 refine qK (dg B q.t 8 ([]++bL q.op 1++bL q.c 1++bL q.seq 4++bL q.r 1++bL q.m 1) _ (by simp[bL,aq]) U) λu5 h=>?_;have o:=aa h;obtain⟨G,F,k,D,R,n,y⟩:=(h.ah 1 rfl).seven;clear h U
 go_wp2_with fail
 skip
 refine qK (dg B q.tm 8 ([]++bL q.op 1++bL q.c 1++bL q.seq 4++bL q.r 1++bL q.m 1++bL q.t 8) _ (by simp[bL,aq]) o) λu6 h=>?_;have H:=aa h;obtain⟨G,F,k,D,R,n,y⟩:=(h.ah 1 rfl).seven;clear h o
 go_wp2_with fail
 have S:=H.out;rw[E.out]at S;refine(qu B (mP q) _ (by have:=a.out;omega) S).mono ?_;rintro e u8⟨v,rfl,h⟩;have p:=h.ints;obtain⟨i,Y,rfl,_,_,_⟩:=p.get 0 rfl;have b:=aa (p.pk 3 [0]);clear h p S H
 go_wp2_with fail
 go_ret2
 exact⟨i,Y,rfl,b⟩
def yG(e v:Int):LI:=aT e 1++aT v 8
theorem vG{I:aH}{L:List aw}(c v:Int)(w:World)(D:0<=c/\c<18446744073709551616)(h:St I w L):
 Calls prog 158 #[.agg (aN c v)] w λe O=>∃A q,e= .returned (.slice A 9 q)/\St I O (ai .u8 (.slice A 9 q) (yG c v)::L):=by
 have p:IntKind.u64.wrap c=c:=IntWalk.u64_in _ oM;have K:=h.alloc 158 (aN c v);have C:=aa (St.uu (xs:=[]) ((K.my 5 1).alloc 83 #[sN]) rfl);have G:World.cell? _ ⟨w.heap.size,0,none⟩=some (iI c):=(K.ah 0 rfl).cell 0;have F:World.cell? _ ⟨w.heap.size,1,none⟩=some (iU v):=(K.ah 0 rfl).cell 1;have o:World.cell? _ ⟨w.heap.size,0,none⟩=some (iI c):=(C.tT (g:=w.heap.size) (t:=158) (cs:=aN c v) (by unfold AI;exact aU)).cell 0;obtain⟨B,z⟩:=nM (w.heap.size+1);rw[World.size_alloc,<-z]at C;have U:=aa z;clear h D z K
 go_enter func158,ntmps158
 go_wp2_with fail
 rw[<-U.out];refine qK (dg B c 1 [] _ acy C) λb h=>?_;have r:=aa h;have E:b.cell? (aD w.heap.size 1)=some (iU v):=(h.tT (g:=w.heap.size) (t:=158) (cs:=aN c v)).cell 1;clear h C
 go_wp2_with fail
 refine qH (dg B v 8 ([]++bL c 1) _ (by simp[bL,aq]) r) λW T=>?_;clear r
 go_wp2_with fail
 refine(qu B _ _ (by simp[bL,aq]) T).mono ?_;rintro e Y⟨u,rfl,h⟩;have y:[]++bL c 1++bL v 8=yG c v:=by rw[xL];rfl
 rw[y]at h;have Q:=h.ints;obtain⟨i,k,rfl,_,_,_⟩:=Q.get 0 rfl;have a:(yG c v).length=9:=by unfold yG;simp[aq]
 rw[a]at Q;have d:=aa (Q.sub (L':=ai .u8 (.slice i 9 k) (yG c v)::L));rw[a];clear h Q T y a
 go_wp2_with fail
 go_ret
 exact⟨i,k,rfl,d⟩
theorem JU{I:aH}{L:List aw}(v c:Int)(w:World)(h:St I w L):Rt I w 195 #[iU v,iI c] (.agg (aN c v)) L:=by
 have Q:=h.alloc 158 (aN c v);have C:=(Q.ah 0 rfl).frozen;have o:World.cell? _ ⟨w.heap.size,0,none⟩=some (iI c):=(Q.ah 0 rfl).cell 0;have E:World.cell? _ ⟨w.heap.size,1,none⟩=some (iU v):=(Q.ah 0 rfl).cell 1;have H:=aa Q;clear h Q
 go_enter func195,ntmps195
 go_wp2_with fail
 refine bodyPost_ret (v:= .agg (aN c v)) (aL (fn:=Tryz.f195) (t:=4) (ty:=158) rfl _ rfl ?_) rfl ⟨rfl,H.tail⟩;go_simp
theorem oz{I:aH}{L:List aw}(q:dD)(F0:OA)(n G0:Nat)(w:World)(hq:q.ok)(h:St I w (ai .u8 (.slice F0 n G0) (mP q)::L)):
 Rt I w 94 #[.slice F0 n G0] (.tuple #[.agg (dN q),iI 0]) L:=by
 obtain⟨q1,q2,q3,q4,q5,q6,q7⟩:=hq;have o:∀k:Nat,∀x:Int,∀r:LI,Bytes r->Bytes (aT x k++r):=λk x r L0=>(cg _ _).append L0;have u:∀k:Nat,∀x:Int,∀r:LI,(aT x k++r).length=k+r.length:=λk x r=>by rw[eG,aq]
 obtain⟨b,E⟩:∃p:LI,p=[]:=⟨_,rfl⟩;obtain⟨a,D⟩:∃p:LI,p=aT q.tm 8++b:=⟨_,rfl⟩;obtain⟨e,A⟩:∃p:LI,p=aT q.t 8++a:=⟨_,rfl⟩;obtain⟨i,z⟩:∃p:LI,p=aT q.m 1++e:=⟨_,rfl⟩;obtain⟨l,y⟩:∃p:LI,p=aT q.r 1++i:=⟨_,rfl⟩;obtain⟨P,c⟩:∃p:LI,p=aT q.seq 4++l:=⟨_,rfl⟩;obtain⟨S,X⟩:∃p:LI,p=aT q.c 1++P:=⟨_,rfl⟩;obtain⟨O,B⟩:∃p:LI,p=aT q.op 1++S:=⟨_,rfl⟩;have J0:Bytes b:=by rw[E];exact Bytes.nil
 have W0:b.length=0:=by rw[E];rfl
 have A0:Bytes a:=by rw[D];exact o _ _ _ J0
 have V0:a.length=8+b.length:=by rw[D];exact u _ _ _
 have d:Bytes e:=by rw[A];exact o _ _ _ A0
 have U0:e.length=8+a.length:=by rw[A];exact u _ _ _
 have U:Bytes i:=by rw[z];exact o _ _ _ d
 have T0:i.length=1+e.length:=by rw[z];exact u _ _ _
 have T:Bytes l:=by rw[y];exact o _ _ _ U
 have S0:l.length=1+i.length:=by rw[y];exact u _ _ _
 have V:Bytes P:=by rw[c];exact o _ _ _ T
 have R0:P.length=4+l.length:=by rw[c];exact u _ _ _
 have K:Bytes S:=by rw[X];exact o _ _ _ V
 have Q0:S.length=1+P.length:=by rw[X];exact u _ _ _
 have I0:Bytes O:=by rw[B];exact o _ _ _ K
 have P0:O.length=1+S.length:=by rw[B];exact u _ _ _
 have he:mP q=O:=by rw[B,X,c,y,z,A,D,E];rfl
 have E0:=aa (show(Rd.mk O false).num 1=(q.op,⟨S,false⟩)by rw[B];exact ei (k:=1) oM (by show q.op<256^1;simp;omega) oM oM _);have E1:=aa (show(Rd.mk S false).num 1=(q.c,⟨P,false⟩)by rw[X];exact ei (k:=1) oM (by show q.c<256^1;simp;omega) oM oM _);have E2:=aa (show(Rd.mk P false).num 4=(q.seq,⟨l,false⟩)by rw[c];exact ei (k:=4) oM (by show q.seq<256^4;simp;omega) oM oM _);have E3:=aa (show(Rd.mk l false).num 1=(q.r,⟨i,false⟩)by rw[y];exact ei (k:=1) oM (by show q.r<256^1;simp;omega) oM oM _);have E4:=aa (show(Rd.mk i false).num 1=(q.m,⟨e,false⟩)by rw[z];exact ei (k:=1) oM (by show q.m<256^1;simp;omega) oM oM _);have E5:=aa (show(Rd.mk e false).num 8=(q.t,⟨a,false⟩)by rw[A];exact ei (k:=8) oM (by show q.t<256^8;simp;omega) oM oM _);have E6:=aa (show(Rd.mk a false).num 8=(q.tm,⟨b,false⟩)by rw[D];exact ei (k:=8) oM (by show q.tm<256^8;simp;omega) oM oM _);have E7:=aa (show(Rd.mk b false).kx=0 by rw[E];rfl);refine xH I0 (show O.length<=140737488355328 by omega) K (show S.length<=140737488355328 by omega) V (show P.length<=140737488355328 by omega) λB0 K0 B1 K1 B2 K2=>?_;refine xH T (show l.length<=140737488355328 by omega) U (show i.length<=140737488355328 by omega) d (show e.length<=140737488355328 by omega) λB3 K3 B4 K4 B5 K5=>?_;refine bm A0 (show a.length<=140737488355328 by omega) λB6 K6=>?_;have w0:IntKind.i64.wrap q.op=q.op:=IntWalk.i64_in _ oM;have w1:IntKind.i64.wrap q.c=q.c:=IntWalk.i64_in _ oM;have w2:IntKind.u32.wrap q.seq=q.seq:=IntWalk.u32_in _ oM;have w3:IntKind.i64.wrap q.r=q.r:=IntWalk.i64_in _ oM;have w4:IntKind.i64.wrap q.m=q.m:=IntWalk.i64_in _ oM;have d0:decide (q.op<1)=false:=decide_eq_false (by omega);have d1:decide (q.op>7)=false:=decide_eq_false (by omega);have d2:decide (7<q.op)=false:=decide_eq_false (by omega);rw[he]at h;have H:=aa ((h.alloc 156 #[iI 0,iI 0,iW 0,iI 0,iI 0,iU 0,iU 0]).swap);obtain⟨Z,C0⟩:=nM (w.heap.size);rw[<-C0]at H;have M0:=aa C0;clear h he C0 o u q1 q2 q3 q4 q5 q6 q7 B X c y z A D E I0 K V T U d A0 J0 P0 Q0 R0 S0 T0 U0 V0 W0
 go_enter func94,ntmps94
 go_wp2_with fail
 rw[<-M0.out];refine(ox _ O _ H).mono ?_;rintro X0 w1⟨g,rfl,h⟩;have H0:=aa (h.tS);clear H h
 go_wp2_with fail
 refine qK (bM g ⟨O,false⟩ 1 _ B0 K0 (λh=>by cases h) H0) λu0 h=>?_;rw[E0.out]at h⊢;have H1:=aa h;clear h H0
 go_wp2_with fail
 refine qK (bM g ⟨S,false⟩ 1 _ B1 K1 (λh=>by cases h) H1) λu1 h=>?_;rw[E1.out]at h⊢;have H2:=aa h;clear h H1
 go_wp2_with fail
 refine qK (bM g ⟨P,false⟩ 4 _ B2 K2 (λh=>by cases h) H2) λu2 h=>?_;rw[E2.out]at h⊢;have M:=h.alloc 156 #[iI q.op,iI q.c,iW q.seq,iI 0,iI 0,iU 0,iU 0];obtain⟨gb,D0⟩:=nM (u2.heap.size);rw[<-D0]at M;refine bm D0 M.swap λN0 H3=>?_;have C:=(M.ah 0 rfl).frozen;obtain⟨G,W,R,Q,N,Y,J⟩:=(M.ah 0 rfl).seven;clear h M D0 H2
 go_wp2_with fail
 rw[<-N0.out];refine qK (bM g ⟨l,false⟩ 1 _ B3 K3 (λh=>by cases h) H3) λu3 h=>?_;rw[E3.out]at h⊢;have C:=(h.ah 1 rfl).frozen;obtain⟨G,W,R,Q,N,Y,J⟩:=(h.ah 1 rfl).seven;have H4:=aa h;clear h H3
 go_wp2_with fail
 refine qK (bM g ⟨i,false⟩ 1 _ B4 K4 (λh=>by cases h) H4) λu4 h=>?_;rw[E4.out]at h⊢;have F:=(h.swap.bI 3 (iI q.r)).bI 4 (iI q.m);have C:=(h.ah 1 rfl).frozen;obtain⟨G,W,R,Q,N,Y,J⟩:=(h.ah 1 rfl).seven;have F:St I _ (ab gb 156 #[iI q.op,iI q.c,iW q.seq,iI q.r,iI q.m,iU 0,iU 0]::po g ⟨e,false⟩::ab Z 156 #[iI 0,iI 0,iW 0,iI 0,iI 0,iU 0,iU 0]::L):=F;obtain⟨y0,y1,y2,y3,y4,y5,y6⟩:=(F.ah 0 rfl).seven;have H5:=aa F.swap;clear h F H4
 go_wp2_with fail
 refine qK (bM g ⟨e,false⟩ 8 _ B5 K5 (λh=>by cases h) H5) λu5 h=>?_;rw[E5.out]at h⊢;have C:=(h.ah 1 rfl).frozen;obtain⟨G,W,R,Q,N,Y,J⟩:=(h.ah 1 rfl).seven;have H6:=aa h;clear h H5
 go_wp2_with fail
 refine qK (bM g ⟨a,false⟩ 8 _ B6 K6 (λh=>by cases h) H6) λu6 h=>?_;rw[E6.out]at h⊢;have j:=(h.swap.bI 5 (iU q.t)).bI 6 (iU q.tm);have C:=(h.ah 1 rfl).frozen;obtain⟨G,W,R,Q,N,Y,J⟩:=(h.ah 1 rfl).seven;have j:St I _ (ab gb 156 (dN q)::po g ⟨b,false⟩::ab Z 156 #[iI 0,iI 0,iW 0,iI 0,iI 0,iU 0,iU 0]::L):=j;obtain⟨y0,y1,y2,y3,y4,y5,y6⟩:=(j.ah 0 rfl).seven;have H7:=aa j.swap;clear h j H6
 go_wp2_with fail
 refine qK (qP g ⟨b,false⟩ _ H7) λu8 h=>?_;rw[E7.out];obtain⟨y0,y1,y2,y3,y4,y5,y6⟩:=(h.ah 1 rfl).seven;obtain⟨G,W,R,Q,N,Y,J⟩:=(h.ah 2 rfl).seven;have C:=(h.ah 2 rfl).frozen;have H8:=aa h;clear h H7
 go_wp2_with fail
 have h9:=((((((H8.tX.bI 0 (iI q.op)).bI 1 (iI q.c)).bI 2 (iW q.seq)).bI 3 (iI q.r)).bI 4 (iI q.m)).bI 5 (iU q.t)).bI 6 (iU q.tm);have O0:eF _ Z 156 (dN q):=h9.ah 0 rfl;obtain⟨y0,y1,y2,y3,y4,y5,y6⟩:=O0.seven;refine bodyPost_ret (v:= .tuple #[.agg (dN q),iI 0]) (eZ (fn:=Tryz.f94) (t:=2) (k:=3) (ty:=156) rfl _ rfl ?_) rfl ⟨rfl,h9.tail.tail.tail⟩;go_simp
end Go.Proofs.YtblpaldggenbaaaGreatDoor
