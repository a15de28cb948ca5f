/- A part. -/
import Derived.ChangeVars
import Derived.LaidLaws
import Derived.OpenShut
import Derived.Test.YtblpaldggenbaaaGreatDoorMf
namespace Go.Proofs.YtblpaldggenbaaaGreatDoor
open Go.RowKit Go.Proofs.Tryz
set_option maxRecDepth 100000
set_option maxHeartbeats 64000000
theorem UR{w O:World}(h:Fr iY w O){p:Addr}{u:Value}(D:w.cell? p=some u):O.cell? p=some u:=by
 have B:p.block<w.heap.size:=by
  rcases ZQ p.block w.heap.size with E|E
  ·exact E
  ·simp[World.cell?,VT E]at D
 rw[h.cell B (λx=>x.elim)];exact D
theorem Gr{W:World}(h:Hr W):ml (aH.of W):=λ_ Q i x J=>UR Q.LG (h i x J)
theorem wV{W:World}(h:laidMet prog [("pursuivant/check.table",Rows.laid_pursuivant_check_table)] W):Hr W:=by
 obtain⟨A,⟨g,t,N,k,p,q,u,R,K,H,_,_⟩,_⟩:=h;obtain rfl:=Ps ((show prog.globalNamed "pursuivant/check.table" =some 0 by kernel_rfl).symm.trans u);obtain rfl:=Ps ((show(prog.globals[0]?).map (·.type)=some 331 by kernel_rfl).symm.trans R);have r:prog.cellsOf 60=1:=kR
 have d:prog.cellsOf 331=16:=kR
 obtain⟨T,m,_,j,D,o,e⟩:=DataW.trod_array underlying331 H;rw[d]at D;have K:=World.var?_cell u K;obtain⟨S,_⟩:=Prod.mk.inj j;have S:=DataW.agg.inj S;intro i x J;have C:i<16:=(lQ.1 J).1;have F:=e i C;rw[r,UF]at F;have Y:(T.map (·.1))[i]? =some (.lit (.int .u32 x)):=by
  rw[<-S];have:(CE.map (λz=>(DataW.lit (Lit.int .u32 z):DataW Unit)))[i]? =some (.lit (.int .u32 x)):=by rw[wO,J];rfl
  exact this
 rw[wO]at Y
 cases c:T[i]? with
 |none=>rw[c]at Y;cases Y
 |some y=>
  rw[c]at Y F;obtain⟨z,a,b,_⟩:=DataW.trod_int underlying60 F;have Y:y.1= .lit (.int .u32 x):=Ps Y;rw[b]at Y;have G:z=x:=by simpa using Y
  subst G;rw[K i];have M:(N.toList.drop i)[0]? =some (.int .u32 z):=by
   have Q:((N.toList.drop i).take 1)[0]? =some (.int .u32 z):=by rw[a];rfl
   rwa[AH,iP oM]at Q
  rw[xV,vt,zdw]at M;exact M
end Go.Proofs.YtblpaldggenbaaaGreatDoor
