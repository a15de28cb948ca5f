/- A part. -/
import Derived.ProofKit
import Derived.OpenShut
import Derived.SizedLaws
import Derived.Handed
import Derived.LaidLaws
import Derived.Lay
import Derived.LaidMore
import Derived.LaidOnce
import Derived.Deep.Slices
import Derived.Deep.Fields
import Derived.Test.YtblpaldggenbaaaGreatDoorMg
namespace Go.Proofs.YtblpaldggenbaaaGreatDoor
open Go.RowKit Go.Proofs.Tryz
set_option maxRecDepth 100000
set_option maxHeartbeats 64000000
variable{I:Array Field}{k:IntKind}{m:Nat}
section
open Go.ChangeAt Go.ChangeShapes Go.WideShapes
theorem PQ:ownKnob prog.godebug=none:=kR
theorem Rz:laidOutB prog=true:=kR
theorem tg{H:Type}{enc:TypeId×Value->H}{P:Program}(C:laidOutB P=true){W g:World}(B:Below W.heap.size W g):
 ∀(S:List TypeId) (U:LV) (n:List (DataW H)) (A:List MemPlace),S.all (λt=>P.readableRec t&&decide (t<P.types.size))=true->
  DataW.TrodAll enc P W 0 (λ_=>true) true S U n A->(∀x∈A,x.block<W.heap.size)->DataW.TrodAll enc P g 0 (λb=>decide (b<W.heap.size)) true S U n A
 |[],[],[],_,_,h,_=>h
 |t::S,v::U,d::n,A,G,h,M=>by
  obtain⟨p,q,Z,V,rfl⟩:=h;simp only[zc8,mq,decide_eq_true_eq]at G;exact⟨p,q,Below.trod C G.1.1 G.1.2 Z B (λx J=>M x (Wd _ J)),
   tg C B S U n q (by simpa using G.2) V (λx J=>M x (zcN _ J)),rfl⟩
 |[],[],_::_,_,_,h,_=>h.elim
 |[],_::_,_,_,_,h,_=>h.elim
 |_::_,[],_,_,_,h,_=>h.elim
 |_::_,_::_,[],_,_,h,_=>h.elim
theorem qX{H:Type}{enc:TypeId×Value->H}{P:Program}{W:World}{b:Nat}{a:Nat->Bool}{y:Bool}:
 ∀(S:List TypeId) (U:LV) (n:List (DataW H)) (A:List MemPlace),DataW.TrodAll enc P W b a y S U n A->n.length=S.length/\U.length=S.length
 |[],[],[],_,_=>⟨rfl,rfl⟩
 |_::S,_::U,_::n,_,h=>by
  obtain⟨p,q,_,V,rfl⟩:=h;have:=qX S U n q V;simp[this]
 |[],[],_::_,_,h=>h.elim
 |[],_::_,_,_,h=>h.elim
 |_::_,[],_,_,h=>h.elim
 |_::_,_::_,[],_,h=>h.elim
end
section
open Go.ChangeAt Go.ChangeShapes Go.WideShapes
theorem Cw{H:Type}{enc:TypeId×Value->H}{b:Os}{k:FuncId}{Y:Func}{s:ChangeSpec}{O:List PathCond}{G:List (String×DataW Unit)}{P:TypeId}
 (B0:b.Started) (q:Tryz.checked.prog.inits.idxOf? k=none) (z:Tryz.checked.prog.funcs[k]? =some Y)
 (S:Y.params.toList.all (λt=>Tryz.checked.prog.readableRec t&&decide (t<Tryz.checked.prog.types.size))=true)
 (V:Y.resultTypes= #[P]) (N:Tryz.checked.prog.underlying P=some .bool)
 (K:s.vars=[]) (U:∀n:List (DataW H),n.length=Y.params.size->s.fn H n={results:=[.lit (.bool true)],args:=n})
 (D0:∃(w:World) (l:Tape) (i:Input),w.os=b/\(w.forCall l i).Shaped Tryz.checked.prog/\i.vars=[]/\Input.okWide Tryz.checked.prog (w.forCall l i) .any w.heap.size k i/\
  ((s.pre enc Tryz.checked.prog Y O false (w.forCall l i).memory i.args/\laidMet Tryz.checked.prog G (w.forCall l i).memory)/\sizedMet enc Tryz.checked.prog Y (OpenSpec.ofChange s) false (w.forCall l i).memory i.args)/\(({}:Assume)).holds Tryz.checked.prog (lone (Frame.enter Tryz.checked.prog k i.args .normal) [] (w.forCall l i)))
 (C0:∀(W:World) (base:Nat) (args:Vq) (n:List (DataW H)) (A:List MemPlace),
  (∀(j:Nat) t v,Y.params[j]? =some t->args[j]? =some v->Value.okWide Tryz.checked.prog W .any base t v)->
  DataW.TrodAll enc Tryz.checked.prog W 0 (λ_=>true) true Y.params.toList args.toList n A->(∀x∈A,x.block<W.heap.size)->
  (DataW.weightsEach Tryz.checked.prog Y.params.toList n).all (·<=reachBytes)=true->laidMet Tryz.checked.prog G W->
  Calls Tryz.checked.prog k args W λe g=>e= .returned (.bool true)/\Fr iY W g):
 ReturnsInHanded {} Tryz.checked b k .any (λw args=>(s.pre enc Tryz.checked.prog Y O false w args/\laidMet Tryz.checked.prog G w)/\sizedMet enc Tryz.checked.prog Y (OpenSpec.ofChange s) false w args) (s.post enc Tryz.checked.prog Y false true false false):=by
 refine returnsInHanded_of_change_and (C:=Tryz.checked) (X:=λw _=>laidMet Tryz.checked.prog G w) (λ_ _ _ M h=>h.of_heap M) PQ B0 q z D0 ?_;intro W base args n R Q y J _ T u _;have L:=J;have B:∀x∈Q,x.block<W.heap.size:=λp E=>J.lt p E;obtain⟨p,A0,r,d,rfl,E0,F0⟩:=J;have c:R=[]/\A0=[]:=by
  rw[K]at d
  cases R with
  |nil=>exact⟨rfl,d⟩
  |cons _ _=>exact d.elim
 obtain⟨rfl,rfl⟩:=c;simp only[rX]at B L T;have Z:s.plain.varTypes Tryz.checked.prog=[]:=by simp[DataSpec.varTypes,ChangeSpec.plain,K]
 rw[Z]at T;simp only[rX]at T;refine(C0 W base args n p y r B T u).mono λe g ⟨F,a⟩=>⟨_,F,?_⟩;have o:=(qX _ _ _ _ r).1;have I:=U n (by simpa using o);have D:=a.below;refine⟨n,[],p,[],p,[],L,?_,?_,?_,D.frame _,λh=>by cases h⟩
 ·simp only[rX,I,V]
  exact trodAll_cons_mk (shut_bool N true) trodAll_mk0
 ·simp only[rX,I]
  exact tg Rz D _ _ _ _ S r B
 ·rw[K];simp only[rX,I];rfl
end
section
open Go.ChangeAt Go.ChangeShapes Go.Deep Go.WideShapes
section
variable {H:Type} {enc:TypeId×Value->H} {P:Program} {W:World}
theorem pB{t:TypeId}{u:Value}{y:DataW H×List MemPlace}(R:P.underlying t=some (.int k))(h:DataW.trod enc P W 0 (λ_=>true) true m t [u]=some y):
 ∃x,u= .int k x/\(Lit.int k x).wf=true:=by
 obtain⟨x,J,_,U⟩:=DataW.trod_int R h;simp only[Hc,and_true]at J;exact⟨x,J,U⟩
end
end
section
open Go.ChangeAt Go.ChangeShapes Go.Deep Go.WideShapes
section
variable {H:Type} {enc:TypeId×Value->H} {P:Program} {W:World}
theorem zc{t e:TypeId}{u:Value}{y:DataW H×List MemPlace}(O:P.underlying t=some (.slice e))(R:P.underlying e=some (.int k))(Y:P.cellsOf e=1)
 (h:DataW.trod enc P W 0 (λ_=>true) true m t [u]=some y):
 ∃(A:OA) (c:Nat) (T:LI),u= .slice A T.length c/\T.length<=c/\c<=maxLen/\(∀x∈T,(Lit.int k x).wf=true)/\Sl W (λb=>b<W.heap.size) 1 A T.length (T.map (Value.int k)):=by
 rcases open_slice1 O Y h with⟨E,_⟩|⟨a,len,cap,m,n,S,D,r,E,_,C,p,q,_,z⟩
 ·simp only[Hc,and_true]at E
  exact⟨none,0,[],E,g9 _,jG _,λx J=>absurd J (nK),Sl.Qp _ _ _ _⟩
 ·simp only[Hc,and_true]at E
  simp only[if_true]at q;subst q;have d:∀i,∃x:Int,i<len->S i= .int k x/\(Lit.int k x).wf=true:=by
   intro i;by_cases l:i<len
   ·obtain⟨x,J,U⟩:=pB R (z i oM).2
    exact⟨x,λ_=>⟨J,U⟩⟩
   ·exact⟨0,λh=>absurd h l⟩
  let f:Nat->Int:=λi=>(d i).choose
  have Q:∀i,i<len->S i= .int k (f i)/\(Lit.int k (f i)).wf=true:=λi l=>(d i).choose_spec l;have F:((List.range len).map f).length=len:=by simp
  refine⟨some a,m,(List.range len).map f,by rw[E,F],by rw[F];exact C,p,?_,?_⟩
  ·intro x J
   obtain⟨i,K,rfl⟩:=oK.1 J;exact(Q i (OW.1 K)).2
  ·refine⟨by simp,λo=>⟨a,rfl,?_,?_,λj u g=> ?_⟩⟩
   ·have:=World.block_lt_of_cell? _ _ (z 0 oM).1
    simpa[fl]using this
   ·have:=World.block_lt_of_cell? _ _ (z 0 oM).1
    simpa[fl]using this
   ·simp only[UW,wO]at g
    have N:j<len:=by
     rcases ZQ j len with h|h
     ·exact h
     ·rw[KP acX]at g;cases g
    rw[Xy N]at g;simp only[zcS,Function.comp,Xr]at g;rw[(z j oM).1,(Q j N).1,g]
end
end
section
open Go.ChangeAt Go.ChangeShapes Go.Deep Go.WideShapes
section
variable {H:Type} {enc:TypeId×Value->H} {P:Program} {W:World}
theorem Fr.QM{w O:World}(h:Fr iY w O){p:Addr}{u:Value}(D:w.cell? p=some u):O.cell? p=some u:=
 (h.cell (p:=p) (World.block_lt_of_cell? _ _ D) (λx=>x)).trans D
theorem CA{t e:TypeId}{u:Value}{y:DataW H×List MemPlace}(R:P.underlying t=some (.slice e))(Y:P.underlying e=some (.int k))(D:P.cellsOf e=1)
 (h:DataW.trod enc P W 0 (λ_=>true) true m t [u]=some y):∃T:LI,(∀x∈T,(Lit.int k x).wf=true)/\∀O,Fr iY W O->aA O k u T:=by
 obtain⟨A,c,T,rfl,Z,V,M,Q⟩:=zc R Y D h;exact⟨T,M,λO hF=>⟨A,c,rfl,Z,V,(Q.mono (λ_ _ _=>trivial)).LG hF⟩⟩
theorem Fu{T:LI}(h:∀x∈T,(Lit.int .u8 x).wf=true):Bytes T:=by
 intro x J;have:=bounds_u8 (h x J);unfold isByte;omega
end
end
section
open Go.ChangeAt Go.ChangeShapes Go.Deep Go.WideShapes
section
variable {H:Type} {g:TypeId×Value->H} {P:Program} {W:World}
theorem xG{p:Nat->Bool}{e:TypeId}(l:List (DataW H))(h:(DataW.weightsAll P e l).all p=true):∀d∈l,(d.weights P e).all p=true:=by
 induction l with
 |nil=>intro d q;cases q
 |cons x r K=>
  simp only[DataW.weightsAll,YJ,mq]at h;intro d q;rcases nO.1 q with rfl|q
  ·exact h.1
  ·exact K h.2 d q
theorem Ik{t e:TypeId}{m n c:Nat}{A:OA}{y:DataW H×List MemPlace}(R:P.underlying t=some (.slice e))(Y:P.cellsOf e=1)(h:DataW.trod g P W 0 (λ_=>true) true m t [.slice A n c]=some y)(U:(y.1.weights P t).all (·<=reachBytes)=true):n*P.bytesOf e<=reachBytes:=by
 rcases open_slice1 R Y h with⟨E,_⟩|⟨a,len,cap,m,k,S,D,p,E,_,C,q,B,J,z⟩
 ·simp only[Hc,Value.slice.injEq,and_true]at E
  rw[E.2.1,Yq];exact jG _
 ·simp only[Hc,Value.slice.injEq,and_true]at E
  rw[J]at U;simp only[DataW.weights,R,zc8,mq,decide_eq_true_eq,nL,zda]at U;rw[E.2.1];exact qJ (vl _ (ZB _ _)) U.1
theorem rR{p:Nat->Bool}:∀(S:List TypeId) (n:List (DataW H)) (_h:(DataW.weightsEach P S n).all p=true) (j:Nat) (t:TypeId) (d:DataW H),S[j]? =some t->n[j]? =some d->(d.weights P t).all p=true
 |[],_,_,j,t,d,R,_=>by simp at R
 |_::_,[],_,j,t,d,_,q=>by simp at q
 |t0::S,d0::n,h,j,t,d,R,q=>by
  simp only[DataW.weightsEach,YJ,mq]at h
  cases j with
  |zero=>
   simp only[zdp,Xr]at R q;subst R;subst q;exact h.1
  |succ j=>exact rR S n h.2 j t d (by simpa using R) (by simpa using q)
theorem Fg{X:Type}{t e:TypeId}{m0:Nat}{L:Value}{o:DataW H×List MemPlace}(R:World->LV->X->Prop)(Q:X->Prop)(x0:X)(A:P.underlying t=some (.slice e))(d:P.underlying e=some (.struct I))
 (F0:oneCellFields P I=true) (w:P.cellsOf e=I.size) (h:DataW.trod g P W 0 (λ_=>true) true m0 t [L]=some o) (U:(o.1.weights P t).all (·<=reachBytes)=true)
 (hR:∀q:Nat->Value,(∀(j:Nat) (f:Field),I[j]? =some f->∃y m,DataW.trod g P W 0 (λ_=>true) true m f.type [q j]=some y/\(y.1.weights P f.type).all (·<=reachBytes)=true)->∃x,Q x/\∀O,Fr iY W O->R O ((List.range I.size).map q) x):
 ∃T S,(∀x∈T,Q x)/\T.length*P.bytesOf e<=reachBytes/\∀O,Fr iY W O->bF O I.size R L S T:=by
 rcases open_slice A h with⟨V,_⟩|⟨a,n,cap,m,k,D,Pl,V,_,hl,hm,r,I0,hi⟩
 ·simp only[Hc,and_true]at V
  subst V;exact⟨[],λ_=>[],λx J=>absurd J (nK),by simp,λO _=>bF.none_ O _ R _⟩
 ·simp only[Hc,and_true]at V
  subst V;simp only[if_true]at r;subst r;subst I0;simp only[DataW.weights,A,zc8,YJ,mq,decide_eq_true_eq,nL,zda]at U;have H0:∀i,i<n->((D i).weights P e).all (·<=reachBytes)=true:=λi u=>xG _ U.2.1 _ (oK.2 ⟨i,OW.2 u,rfl⟩);have F:∀i,∃(q:Nat->Value) (x:X),i<n->Q x/\(∀O,Fr iY W O->R O ((List.range I.size).map q) x)/\∀j,j<I.size->W.cell? ((a.add (i*I.size)).add j)=some (q j):=by
   intro i;by_cases u:i<n
   ·obtain⟨l,Y,G0⟩:=hi i oM
    rw[w]at Y;obtain⟨C,n',_,K,M0,N0,C0⟩:=DataW.trod_struct d G0;injection K with K _;have B:=H0 i u;rw[K]at B;simp only[DataW.weights,d]at B;obtain⟨_,K0,A0⟩:=World.cells?_some Y;have B0:∀j,j<I.size->W.cell? ((a.add (i*I.size)).add j)=some (l.getD j default):=by
     intro j N;have Z:=A0 j N;rw[Z,gP oM,NP,gP oM]
     rfl
    obtain⟨x,hq,J⟩:=hR (λj=>l.getD j default) (λj f N=>by
     obtain⟨ho,hk⟩:=hone_of F0 j f N;have L0:j<I.size:=(DZ.1 N).1;have Z:=C0 j f N;rw[ho,hk,Eb (show j<l.length by omega),Kx,Hm]at Z;have b:C[j]? =some (C[j]' oM):=gP oM;have D0:l.getD j default=l[j]' oM:=by rw[NP,gP (show j<l.length by omega),Sy]
     show∃y m,DataW.trod g P W 0 (λ_=>true) true m f.type [l.getD j default]=some y/\_;rw[D0];refine⟨_,_,Z.trans b,rR _ _ B j f.type _ ?_ ?_⟩
     ·rw[wO,zdw,N];rfl
     ·rw[wO,b];rfl)
    exact⟨λj=>l.getD j default,x,λ_=>⟨hq,J,B0⟩⟩
   ·exact⟨λ_=>default,x0,λh=>absurd h u⟩
  let q:Nat->Nat->Value:=λi=>(F i).choose
  let p:Nat->X:=λi=>(F i).choose_spec.choose
  have G:∀i,i<n->Q (p i)/\(∀O,Fr iY W O->R O ((List.range I.size).map (q i)) (p i))/\∀j,j<I.size->W.cell? ((a.add (i*I.size)).add j)=some (q i j):=λi=>(F i).choose_spec.choose_spec;refine⟨(List.range n).map p,λi=>(List.range I.size).map (q i),?_,by rw[nL,zda];exact qJ (vl _ (ZB _ _)) U.1,λO hF=> ?_⟩
  ·intro x J
   obtain⟨i,E0,rfl⟩:=oK.1 J;exact(G i (OW.1 E0)).1
  ·refine⟨some a,m,by simp,by simpa using hl,hm,λi x z=> ?_⟩
   have u:i<n:=by have:=(lQ.1 z).1;simpa using this
   rw[wO,Xy u]at z;obtain rfl:p i=x:=by simpa using z
   obtain⟨_,M,c⟩:=G i u;refine⟨a,rfl,by simp,λj J0 E=> ?_,M O hF⟩;have N:j<I.size:=by have:=(lQ.1 E).1;simpa using this
   rw[wO,Xy N]at E;obtain rfl:q i j=J0:=by simpa using E
   exact hF.QM (c j N)
theorem GL{X:Type}{t e:TypeId}{r:Reach}{i:Nat}{v:Value}{d:DataW H}{k:List MemPlace}(R:World->LV->X->Prop)(Q:X->Prop)(G:X)(u:P.underlying t=some (.slice e))(Y:P.underlying e=some (.struct I))
 (w:oneCellFields P I=true) (D:P.cellsOf e=I.size) (K:Value.okWide P W r i t v) (h:DataW.Trod g P W 0 (λ_=>true) true t v d k) (U:(d.weights P t).all (·<=reachBytes)=true)
 (l:∀q:Nat->Value,(∀(j:Nat) (f:Field),I[j]? =some f->∃y m,DataW.trod g P W 0 (λ_=>true) true m f.type [q j]=some y/\(y.1.weights P f.type).all (·<=reachBytes)=true)->∃x,Q x/\∀O,Fr iY W O->R O ((List.range I.size).map q) x):
 ∃T b,(∀x∈T,Q x)/\T.length*P.bytesOf e<=reachBytes/\∀O,Fr iY W O->bF O I.size R v b T:=by
 obtain⟨A,n,c,rfl⟩:=okWide_slice u K;obtain⟨o,a⟩:=h;exact Fg R Q G u Y w D a U l
theorem Ir{X:Type}{t e:TypeId}{r:Reach}{i:Nat}{v:Value}{d:DataW H}{k:List MemPlace}(R:World->LV->X->Prop)(Q:X->Prop)(G:X)(A:P.underlying t=some (.slice e))(Y:P.underlying e=some (.struct I))
 (u:oneCellFields P I=true) (D:P.cellsOf e=I.size) (K:Value.okWide P W r i t v) (h:DataW.Trod g P W 0 (λ_=>true) true t v d k) (U:(d.weights P t).all (·<=reachBytes)=true)
 (c:∀q:Nat->Value,(∀(j:Nat) (f:Field),I[j]? =some f->∃y m,DataW.trod g P W 0 (λ_=>true) true m f.type [q j]=some y/\(y.1.weights P f.type).all (·<=reachBytes)=true)->∃x,Q x/\∀O,Fr iY W O->R O ((List.range I.size).map q) x):
 ∃T b,(∀x∈T,Q x)/\∀O,Fr iY W O->bF O I.size R v b T:=by
 obtain⟨T,b,Z,_,V⟩:=GL R Q G A Y u D K h U c;exact⟨T,b,Z,V⟩
theorem s9{t e:TypeId}{u:Value}{y:DataW H×List MemPlace}(R:P.underlying t=some (.slice e))(Y:P.underlying e=some (.int k))(D:P.cellsOf e=1)(B:1<=P.bytesOf e)
 (h:DataW.trod g P W 0 (λ_=>true) true m t [u]=some y) (U:(y.1.weights P t).all (·<=reachBytes)=true):
 ∃T:LI,(∀x∈T,(Lit.int k x).wf=true)/\T.length<=reachBytes/\∀O,Fr iY W O->aA O k u T:=by
 obtain⟨x,n,j⟩:=CA R Y D h;obtain⟨S,p,a,_,_,_⟩:=j W (Fr.refl _ _);rw[a]at h;have C:=Ik R D h U;exact⟨x,n,qJ (Nat.le_mul_of_pos_right _ B) C,j⟩
end
end
end Go.Proofs.YtblpaldggenbaaaGreatDoor
