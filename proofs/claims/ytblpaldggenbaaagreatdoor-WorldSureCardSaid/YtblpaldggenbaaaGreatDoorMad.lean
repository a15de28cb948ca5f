/- A part. -/
import Derived.ChangeVars
import Derived.LaidLaws
import Derived.OpenShut
import Derived.Test.YtblpaldggenbaaaGreatDoorMg
namespace Go.Proofs.YtblpaldggenbaaaGreatDoor
open Go.RowKit Go.Proofs.Tryz
set_option maxRecDepth 100000
set_option maxHeartbeats 64000000
theorem Us{w O:World}(h:Fr jo w O){p:Addr}{u:Value}(D:w.cell? p=some u):O.cell? p=some u:=by
 have t:p.block<w.heap.size:=by
  rcases YQ p.block w.heap.size with E|E
  ·exact E
  ·simp[World.cell?,Sb E]at D
 rw[h.cell t (λx=>x.elim)];exact D
theorem Ae{W:World}(h:Hh W):kL (aK.of W):=λ_ T i x J=>Us T.RY (h i x J)
theorem q9{W:World}(h:laidMet prog [("pursuivant/check.table",Rows.laid_pursuivant_check_table)] W):Hh W:=by
 obtain⟨T,⟨g,t,Y,w,p,q,C,R,o,V,_,_⟩,_⟩:=h;obtain rfl:=ME ((show prog.globalNamed "pursuivant/check.table" =some 0 by kernel_rfl).symm.trans C);obtain rfl:=ME ((show(prog.globals[0]?).map (·.type)=some 331 by kernel_rfl).symm.trans R);have E:prog.cellsOf 60=1:=kR
 have c:prog.cellsOf 331=16:=kR
 obtain⟨N,m,_,j,O,F,e⟩:=DataW.trod_array underlying331 V;rw[c]at O;have o:=World.var?_cell C o;obtain⟨u,_⟩:=Prod.mk.inj j;have u:=DataW.agg.inj u;intro i x J;have D:i<16:=(nQ.1 J).1;have Q:=e i D;rw[E,Uz]at Q;have K:(N.map (·.1))[i]? =some (.lit (.int .u32 x)):=by
  rw[<-u];have:(CJ.map (λz=>(DataW.lit (Lit.int .u32 z):DataW Unit)))[i]? =some (.lit (.int .u32 x)):=by rw[zA,J];rfl
  exact this
 rw[zA]at K
 cases d:N[i]? with
 |none=>rw[d]at K;cases K
 |some y=>
  rw[d]at K Q;obtain⟨z,a,b,_⟩:=DataW.trod_int underlying60 Q;have K:y.1= .lit (.int .u32 x):=ME K;rw[b]at K;have A:z=x:=by simpa using K
  subst A;rw[o i];have M:(Y.toList.drop i)[0]? =some (.int .u32 z):=by
   have S:((Y.toList.drop i).take 1)[0]? =some (.int .u32 z):=by rw[a];rfl
   rwa[AW,iP oM]at S
  rw[zU,yd,zdl]at M;exact M
end Go.Proofs.YtblpaldggenbaaaGreatDoor
