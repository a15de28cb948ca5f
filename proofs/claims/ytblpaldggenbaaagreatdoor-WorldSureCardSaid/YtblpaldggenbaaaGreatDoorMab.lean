/- A part. -/
import Derived.ProofKit
import Derived.OpenShut
import Derived.SizedLaws
import Derived.Handed
import Derived.LaidLaws
import Derived.Lay
import Derived.LaidMore
import Derived.LaidOnce
import Derived.Deep.Slices
import Derived.Deep.Fields
import Derived.Test.YtblpaldggenbaaaGreatDoorMe
namespace Go.Proofs.YtblpaldggenbaaaGreatDoor
open Go.RowKit Go.Proofs.Tryz
set_option maxRecDepth 100000
set_option maxHeartbeats 64000000
variable{k:IntKind}{E:List MemPlace}{i:Array Field}{m:Nat}{r:Reach}{K:Nat}
section
open Go.ChangeAt Go.ChangeShapes Go.WideShapes
theorem Pn:ownKnob prog.godebug=none:=kR
theorem QZ:laidOutB prog=true:=kR
theorem tg{H:Type}{enc:TypeId×Value->H}{P:Program}(F:laidOutB P=true){W g:World}(B:Below W.heap.size W g):
 ∀(a:List TypeId) (V:LV) (n:List (DataW H)) (E:List MemPlace),a.all (λt=>P.readableRec t&&decide (t<P.types.size))=true->
  DataW.TrodAll enc P W 0 (λ_=>true) true a V n E->(∀x∈E,x.block<W.heap.size)->DataW.TrodAll enc P g 0 (λb=>decide (b<W.heap.size)) true a V n E
 |[],[],[],_,_,h,_=>h
 |t::a,v::V,d::n,E,U,h,r=>by
  obtain⟨p,q,Z,G,rfl⟩:=h;simp only[ZU,mf,decide_eq_true_eq]at U;exact⟨p,q,Below.trod F U.1.1 U.1.2 Z B (λx J=>r x (XE _ J)),
   tg F B a V n q (by simpa using U.2) G (λx J=>r x (ZF _ J)),rfl⟩
 |[],[],_::_,_,_,h,_=>h.elim
 |[],_::_,_,_,_,h,_=>h.elim
 |_::_,[],_,_,_,h,_=>h.elim
 |_::_,_::_,[],_,_,h,_=>h.elim
theorem ra{H:Type}{enc:TypeId×Value->H}{P:Program}{W:World}{b:Nat}{c:Nat->Bool}{y:Bool}:
 ∀(a:List TypeId) (V:LV) (n:List (DataW H)) (E:List MemPlace),DataW.TrodAll enc P W b c y a V n E->n.length=a.length/\V.length=a.length
 |[],[],[],_,_=>⟨rfl,rfl⟩
 |_::a,_::V,_::n,_,h=>by
  obtain⟨p,q,_,G,rfl⟩:=h;have:=ra a V n q G;simp[this]
 |[],[],_::_,_,h=>h.elim
 |[],_::_,_,_,h=>h.elim
 |_::_,[],_,_,h=>h.elim
 |_::_,_::_,[],_,h=>h.elim
end
section
open Go.ChangeAt Go.ChangeShapes Go.WideShapes
theorem wW{H:Type}{enc:TypeId×Value->H}{u:Os}{k:FuncId}{r:Func}{s:ChangeSpec}{K:List PathCond}{A:List (String×DataW Unit)}{L:TypeId}
 (B0:u.Started) (Z:Tryz.checked.prog.inits.idxOf? k=none) (N:Tryz.checked.prog.funcs[k]? =some r)
 (O:r.params.toList.all (λt=>Tryz.checked.prog.readableRec t&&decide (t<Tryz.checked.prog.types.size))=true)
 (Q:r.resultTypes= #[L]) (Y:Tryz.checked.prog.underlying L=some .bool)
 (g:s.vars=[]) (q:∀n:List (DataW H),n.length=r.params.size->s.fn H n={results:=[.lit (.bool true)],args:=n})
 (D0:∃(w:World) (z:Tape) (i:Input),w.os=u/\(w.forCall z i).Shaped Tryz.checked.prog/\i.vars=[]/\Input.okWide Tryz.checked.prog (w.forCall z i) .any w.heap.size k i/\
  ((s.pre enc Tryz.checked.prog r K false (w.forCall z i).memory i.args/\laidMet Tryz.checked.prog A (w.forCall z i).memory)/\sizedMet enc Tryz.checked.prog r (OpenSpec.ofChange s) false (w.forCall z i).memory i.args)/\(({}:Assume)).holds Tryz.checked.prog (lone (Frame.enter Tryz.checked.prog k i.args .normal) [] (w.forCall z i)))
 (C0:∀(W:World) (base:Nat) (args:Vq) (n:List (DataW H)) (E:List MemPlace),
  (∀(j:Nat) t v,r.params[j]? =some t->args[j]? =some v->Value.okWide Tryz.checked.prog W .any base t v)->
  DataW.TrodAll enc Tryz.checked.prog W 0 (λ_=>true) true r.params.toList args.toList n E->(∀x∈E,x.block<W.heap.size)->
  (DataW.weightsEach Tryz.checked.prog r.params.toList n).all (·<=reachBytes)=true->laidMet Tryz.checked.prog A W->
  Calls Tryz.checked.prog k args W λe G=>e= .returned (.bool true)/\Fr jo W G):
 ReturnsInHanded {} Tryz.checked u k .any (λw args=>(s.pre enc Tryz.checked.prog r K false w args/\laidMet Tryz.checked.prog A w)/\sizedMet enc Tryz.checked.prog r (OpenSpec.ofChange s) false w args) (s.post enc Tryz.checked.prog r false true false false):=by
 refine returnsInHanded_of_change_and (C:=Tryz.checked) (X:=λw _=>laidMet Tryz.checked.prog A w) (λ_ _ _ l h=>h.of_heap l) Pn B0 Z N D0 ?_;intro W base args n R M I J _ B S _;have b:=J;have y:∀x∈M,x.block<W.heap.size:=λp P=>J.lt p P;obtain⟨p,A0,o,d,rfl,E0,F0⟩:=J;have c:R=[]/\A0=[]:=by
  rw[g]at d
  cases R with
  |nil=>exact⟨rfl,d⟩
  |cons _ _=>exact d.elim
 obtain⟨rfl,rfl⟩:=c;simp only[xd]at y b B;have T:s.plain.varTypes Tryz.checked.prog=[]:=by simp[DataSpec.varTypes,ChangeSpec.plain,g]
 rw[T]at B;simp only[xd]at B;refine(C0 W base args n p I o y B S).mono λe G ⟨F,a⟩=>⟨_,F,?_⟩;have V:=(ra _ _ _ _ o).1;have D:=q n (by simpa using V);have U:=a.below;refine⟨n,[],p,[],p,[],b,?_,?_,?_,U.frame _,λh=>by cases h⟩
 ·simp only[xd,D,Q]
  exact trodAll_cons_mk (shut_bool Y true) trodAll_mk0
 ·simp only[xd,D]
  exact tg QZ U _ _ _ _ O o y
 ·rw[g];simp only[xd,D];rfl
end
section
open Go.ChangeAt Go.ChangeShapes Go.Deep Go.WideShapes
section
variable {H:Type} {enc:TypeId×Value->H} {P:Program} {W:World}
theorem pB{t:TypeId}{u:Value}{y:DataW H×List MemPlace}(R:P.underlying t=some (.int k))(h:DataW.trod enc P W 0 (λ_=>true) true m t [u]=some y):
 ∃x,u= .int k x/\(Lit.int k x).wf=true:=by
 obtain⟨x,J,_,M⟩:=DataW.trod_int R h;simp only[Oy,and_true]at J;exact⟨x,J,M⟩
end
end
section
open Go.ChangeAt Go.ChangeShapes Go.Deep Go.WideShapes
section
variable {H:Type} {enc:TypeId×Value->H} {P:Program} {W:World}
theorem zf{t e:TypeId}{u:Value}{y:DataW H×List MemPlace}(R:P.underlying t=some (.slice e))(F:P.underlying e=some (.int k))(Y:P.cellsOf e=1)
 (h:DataW.trod enc P W 0 (λ_=>true) true m t [u]=some y):
 ∃(A:OA) (c:Nat) (N:LI),u= .slice A N.length c/\N.length<=c/\c<=maxLen/\(∀x∈N,(Lit.int k x).wf=true)/\Sl W (λb=>b<W.heap.size) 1 A N.length (N.map (Value.int k)):=by
 rcases open_slice1 R Y h with⟨E,_⟩|⟨a,len,cap,m,n,Z,D,q,E,_,Q,p,T,_,z⟩
 ·simp only[Oy,and_true]at E
  exact⟨none,0,[],E,io _,iD _,λx J=>absurd J (qo),Sl.PO _ _ _ _⟩
 ·simp only[Oy,and_true]at E
  simp only[if_true]at T;subst T;have d:∀i,∃x:Int,i<len->Z i= .int k x/\(Lit.int k x).wf=true:=by
   intro i;by_cases l:i<len
   ·obtain⟨x,J,M⟩:=pB F (z i oM).2
    exact⟨x,λ_=>⟨J,M⟩⟩
   ·exact⟨0,λh=>absurd h l⟩
  let f:Nat->Int:=λi=>(d i).choose
  have C:∀i,i<len->Z i= .int k (f i)/\(Lit.int k (f i)).wf=true:=λi l=>(d i).choose_spec l;have g:((List.range len).map f).length=len:=by simp
  refine⟨some a,m,(List.range len).map f,by rw[E,g],by rw[g];exact Q,p,?_,?_⟩
  ·intro x J
   obtain⟨i,V,rfl⟩:=um.1 J;exact(C i (Ow.1 V)).2
  ·refine⟨by simp,λK=>⟨a,rfl,?_,?_,λj u o=> ?_⟩⟩
   ·have:=World.block_lt_of_cell? _ _ (z 0 oM).1
    simpa[fh]using this
   ·have:=World.block_lt_of_cell? _ _ (z 0 oM).1
    simpa[fh]using this
   ·simp only[Vn,zA]at o
    have S:j<len:=by
     rcases YQ j len with h|h
     ·exact h
     ·rw[KV ace]at o;cases o
    rw[VK S]at o;simp only[Zp,Function.comp,Wj]at o;rw[(z j oM).1,(C j S).1,o]
end
end
section
open Go.ChangeAt Go.ChangeShapes Go.Deep Go.WideShapes
section
variable {H:Type} {b:TypeId×Value->H} {P:Program} {W:World}
theorem Fr.Qp{w O:World}(h:Fr jo w O){p:Addr}{u:Value}(D:w.cell? p=some u):O.cell? p=some u:=
 (h.cell (p:=p) (World.block_lt_of_cell? _ _ D) (λx=>x)).trans D
theorem tZ{t e:TypeId}{u:Value}{y:DataW H×List MemPlace}(R:P.underlying t=some (.slice e))(Y:P.underlying e=some (.int k))(D:P.cellsOf e=1)
 (h:DataW.trod b P W 0 (λ_=>true) true m t [u]=some y):∃N:LI,(∀x∈N,(Lit.int k x).wf=true)/\∀O,Fr jo W O->ay O k u N:=by
 obtain⟨A,c,N,rfl,Z,G,M,S⟩:=zf R Y D h;exact⟨N,M,λO hF=>⟨A,c,rfl,Z,G,(S.mono (λ_ _ _=>trivial)).RY hF⟩⟩
theorem x9{t e:TypeId}{v:Value}{d:DataW H}(R:P.underlying t=some (.slice e))(Y:P.underlying e=some (.int k))(D:P.cellsOf e=1)
 (o:Value.okWide P W r K t v) (h:DataW.Trod b P W 0 (λ_=>true) true t v d E):∃N:LI,(∀x∈N,(Lit.int k x).wf=true)/\∀O,Fr jo W O->ay O k v N:=by
 obtain⟨A,n,c,rfl⟩:=okWide_slice R o;obtain⟨w,a⟩:=h;exact tZ R Y D a
theorem xp{N:LI}(h:∀x∈N,(Lit.int .u8 x).wf=true):Bytes N:=by
 intro x J;have:=bounds_u8 (h x J);unfold isByte;omega
end
end
section
open Go.ChangeAt Go.ChangeShapes Go.Deep Go.WideShapes
section
variable {H:Type} {S:TypeId×Value->H} {P:Program} {W:World}
theorem xP{p:Nat->Bool}{e:TypeId}(l:List (DataW H))(h:(DataW.weightsAll P e l).all p=true):∀d∈l,(d.weights P e).all p=true:=by
 induction l with
 |nil=>intro d y;cases y
 |cons x r K=>
  simp only[DataW.weightsAll,XG,mf]at h;intro d y;rcases qQ.1 y with rfl|y
  ·exact h.1
  ·exact K h.2 d y
theorem Hu{t e:TypeId}{m n c:Nat}{A:OA}{y:DataW H×List MemPlace}(R:P.underlying t=some (.slice e))(d:P.cellsOf e=1)(h:DataW.trod S P W 0 (λ_=>true) true m t [.slice A n c]=some y)(M:(y.1.weights P t).all (·<=reachBytes)=true):n*P.bytesOf e<=reachBytes:=by
 rcases open_slice1 R d h with⟨E,_⟩|⟨a,len,cap,m,k,Z,D,q,E,_,F,p,T,J,z⟩
 ·simp only[Oy,Value.slice.injEq,and_true]at E
  rw[E.2.1,XJ];exact iD _
 ·simp only[Oy,Value.slice.injEq,and_true]at E
  rw[J]at M;simp only[DataW.weights,R,ZU,mf,decide_eq_true_eq,qI,zc0]at M;rw[E.2.1];exact qJ (vz _ (Yo _ _)) M.1
theorem r7{p:Nat->Bool}:∀(a:List TypeId) (n:List (DataW H)) (_h:(DataW.weightsEach P a n).all p=true) (j:Nat) (t:TypeId) (d:DataW H),a[j]? =some t->n[j]? =some d->(d.weights P t).all p=true
 |[],_,_,j,t,d,R,_=>by simp at R
 |_::_,[],_,j,t,d,_,y=>by simp at y
 |t0::a,d0::n,h,j,t,d,R,y=>by
  simp only[DataW.weightsEach,XG,mf]at h
  cases j with
  |zero=>
   simp only[zdf,Wj]at R y;subst R;subst y;exact h.1
  |succ j=>exact r7 a n h.2 j t d (by simpa using R) (by simpa using y)
theorem Fh{g:Type}{t e:TypeId}{m0:Nat}{b:Value}{U:DataW H×List MemPlace}(R:World->LV->g->Prop)(Q:g->Prop)(x0:g)(A:P.underlying t=some (.slice e))(Y:P.underlying e=some (.struct i))
 (F0:oneCellFields P i=true) (p:P.cellsOf e=i.size) (h:DataW.trod S P W 0 (λ_=>true) true m0 t [b]=some U) (M:(U.1.weights P t).all (·<=reachBytes)=true)
 (hR:∀I:Nat->Value,(∀(j:Nat) (f:Field),i[j]? =some f->∃y m,DataW.trod S P W 0 (λ_=>true) true m f.type [I j]=some y/\(y.1.weights P f.type).all (·<=reachBytes)=true)->∃x,Q x/\∀O,Fr jo W O->R O ((List.range i.size).map I) x):
 ∃l q,(∀x∈l,Q x)/\l.length*P.bytesOf e<=reachBytes/\∀O,Fr jo W O->cn O i.size R b q l:=by
 rcases open_slice A h with⟨B,_⟩|⟨a,n,cap,m,k,D,Pl,B,_,hl,hm,X,I0,hi⟩
 ·simp only[Oy,and_true]at B
  subst B;exact⟨[],λ_=>[],λx J=>absurd J (qo),by simp,λO _=>cn.none_ O _ R _⟩
 ·simp only[Oy,and_true]at B
  subst B;simp only[if_true]at X;subst X;subst I0;simp only[DataW.weights,A,ZU,XG,mf,decide_eq_true_eq,qI,zc0]at M;have H0:∀Z,Z<n->((D Z).weights P e).all (·<=reachBytes)=true:=λZ u=>xP _ M.2.1 _ (um.2 ⟨Z,Ow.2 u,rfl⟩);have T:∀Z,∃(I:Nat->Value) (x:g),Z<n->Q x/\(∀O,Fr jo W O->R O ((List.range i.size).map I) x)/\∀j,j<i.size->W.cell? ((a.add (Z*i.size)).add j)=some (I j):=by
   intro Z;by_cases u:Z<n
   ·obtain⟨r,d,G0⟩:=hi Z oM
    rw[p]at d;obtain⟨V,n',_,w,M0,N0,C0⟩:=DataW.trod_struct Y G0;injection w with w _;have K:=H0 Z u;rw[w]at K;simp only[DataW.weights,Y]at K;obtain⟨_,K0,A0⟩:=World.cells?_some d;have B0:∀j,j<i.size->W.cell? ((a.add (Z*i.size)).add j)=some (r.getD j default):=by
     intro j N;have G:=A0 j N;rw[G,g7 oM,Iy,g7 oM]
     rfl
    obtain⟨x,hq,J⟩:=hR (λj=>r.getD j default) (λj f N=>by
     obtain⟨ho,hk⟩:=hone_of F0 j f N;have L0:j<i.size:=(CE.1 N).1;have G:=C0 j f N;rw[ho,hk,IQ (show j<r.length by omega),IE,Hd]at G;have c:V[j]? =some (V[j]' oM):=g7 oM;have D0:r.getD j default=r[j]' oM:=by rw[Iy,g7 (show j<r.length by omega),SR]
     show∃y m,DataW.trod S P W 0 (λ_=>true) true m f.type [r.getD j default]=some y/\_;rw[D0];refine⟨_,_,G.trans c,r7 _ _ K j f.type _ ?_ ?_⟩
     ·rw[zA,zdl,N];rfl
     ·rw[zA,c];rfl)
    exact⟨λj=>r.getD j default,x,λ_=>⟨hq,J,B0⟩⟩
   ·exact⟨λ_=>default,x0,λh=>absurd h u⟩
  let I:Nat->Nat->Value:=λZ=>(T Z).choose
  let o:Nat->g:=λZ=>(T Z).choose_spec.choose
  have C:∀Z,Z<n->Q (o Z)/\(∀O,Fr jo W O->R O ((List.range i.size).map (I Z)) (o Z))/\∀j,j<i.size->W.cell? ((a.add (Z*i.size)).add j)=some (I Z j):=λZ=>(T Z).choose_spec.choose_spec;refine⟨(List.range n).map o,λZ=>(List.range i.size).map (I Z),?_,by rw[qI,zc0];exact qJ (vz _ (Yo _ _)) M.1,λO hF=> ?_⟩
  ·intro x J
   obtain⟨Z,E0,rfl⟩:=um.1 J;exact(C Z (Ow.1 E0)).1
  ·refine⟨some a,m,by simp,by simpa using hl,hm,λZ x L=> ?_⟩
   have u:Z<n:=by have:=(nQ.1 L).1;simpa using this
   rw[zA,VK u]at L;obtain rfl:o Z=x:=by simpa using L
   obtain⟨_,F,z⟩:=C Z u;refine⟨a,rfl,by simp,λj J0 E=> ?_,F O hF⟩;have N:j<i.size:=by have:=(nQ.1 E).1;simpa using this
   rw[zA,VK N]at E;obtain rfl:I Z j=J0:=by simpa using E
   exact hF.Qp (z j N)
theorem GA{g:Type}{t e:TypeId}{v:Value}{d:DataW H}(R:World->LV->g->Prop)(Q:g->Prop)(C:g)(D:P.underlying t=some (.slice e))(Y:P.underlying e=some (.struct i))
 (l:oneCellFields P i=true) (F:P.cellsOf e=i.size) (o:Value.okWide P W r K t v) (h:DataW.Trod S P W 0 (λ_=>true) true t v d E) (M:(d.weights P t).all (·<=reachBytes)=true)
 (B:∀I:Nat->Value,(∀(j:Nat) (f:Field),i[j]? =some f->∃y m,DataW.trod S P W 0 (λ_=>true) true m f.type [I j]=some y/\(y.1.weights P f.type).all (·<=reachBytes)=true)->∃x,Q x/\∀O,Fr jo W O->R O ((List.range i.size).map I) x):
 ∃N b,(∀x∈N,Q x)/\N.length*P.bytesOf e<=reachBytes/\∀O,Fr jo W O->cn O i.size R v b N:=by
 obtain⟨A,n,c,rfl⟩:=okWide_slice D o;obtain⟨w,a⟩:=h;exact Fh R Q C D Y l F a M B
theorem Ia{g:Type}{t e:TypeId}{v:Value}{d:DataW H}(R:World->LV->g->Prop)(Q:g->Prop)(C:g)(D:P.underlying t=some (.slice e))(Y:P.underlying e=some (.struct i))
 (l:oneCellFields P i=true) (F:P.cellsOf e=i.size) (o:Value.okWide P W r K t v) (h:DataW.Trod S P W 0 (λ_=>true) true t v d E) (M:(d.weights P t).all (·<=reachBytes)=true)
 (c:∀I:Nat->Value,(∀(j:Nat) (f:Field),i[j]? =some f->∃y m,DataW.trod S P W 0 (λ_=>true) true m f.type [I j]=some y/\(y.1.weights P f.type).all (·<=reachBytes)=true)->∃x,Q x/\∀O,Fr jo W O->R O ((List.range i.size).map I) x):
 ∃N b,(∀x∈N,Q x)/\∀O,Fr jo W O->cn O i.size R v b N:=by
 obtain⟨N,b,Z,_,G⟩:=GA R Q C D Y l F o h M c;exact⟨N,b,Z,G⟩
theorem ta{t e:TypeId}{u:Value}{y:DataW H×List MemPlace}(R:P.underlying t=some (.slice e))(Y:P.underlying e=some (.int k))(D:P.cellsOf e=1)(B:1<=P.bytesOf e)
 (h:DataW.trod S P W 0 (λ_=>true) true m t [u]=some y) (M:(y.1.weights P t).all (·<=reachBytes)=true):
 ∃N:LI,(∀x∈N,(Lit.int k x).wf=true)/\N.length<=reachBytes/\∀O,Fr jo W O->ay O k u N:=by
 obtain⟨x,L,j⟩:=tZ R Y D h;obtain⟨q,r,a,_,_,_⟩:=j W (Fr.refl _ _);rw[a]at h;have F:=Hu R D h M;exact⟨x,L,qJ (Nat.le_mul_of_pos_right _ B) F,j⟩
end
end
end Go.Proofs.YtblpaldggenbaaaGreatDoor
