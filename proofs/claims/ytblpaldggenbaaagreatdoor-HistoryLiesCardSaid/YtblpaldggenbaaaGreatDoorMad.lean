/- A part. -/
import Derived.Test.YtblpaldggenbaaaGreatDoorMac
import Derived.Test.YtblpaldggenbaaaGreatDoorMx
namespace Go.Proofs.YtblpaldggenbaaaGreatDoor
open Go.RowKit Go.Proofs.Tryz
set_option maxRecDepth 100000
set_option maxHeartbeats 64000000
section
open Go.ChangeAt Go.ChangeShapes Go.Deep Go.WideShapes
theorem rJ:prog.cellsOf 30=7/\prog.cellsOf 3=1/\prog.cellsOf 5=1/\prog.bytesOf 5=1/\prog.bytesOf 3=8:=⟨kR,kR,kR,kR,kR⟩
theorem Nn{n:Int}(h:(Lit.int .i64 n).wf=true): -9223372036854775808<=n/\n<=9223372036854775807:=by
 simp[Lit.wf,IntKind.min,IntKind.max,IntKind.signed,IntKind.bits]at h;omega
theorem Bz{H:Type}{k:TypeId×Value->H}{W:World}{r:Reach}{i:Nat}{v:Value}{d:DataW H}{A:List MemPlace}(K:Value.okWide prog W r i 22 v)(h:DataW.Trod k prog W 0 (λ_=>true) true 22 v d A)(U:(d.weights prog 22).all (·<=reachBytes)=true):
 ∃l b,(∀o∈l,Pd o)/\∀O,Fr iY W O->bF O 7 AY v b l:=by
 refine Ir AY Pd ⟨0,0,0,0,0,[],[]⟩ underlying22 underlying30 kR rJ.1 K h U (λq E=> ?_);obtain⟨y0,y,t0,_⟩:=E 0 _ rfl;obtain⟨y1,x,t1,_⟩:=E 1 _ rfl;obtain⟨y2,Q,t2,_⟩:=E 2 _ rfl;obtain⟨y3,V,t3,_⟩:=E 3 _ rfl;obtain⟨y4,Y,t4,_⟩:=E 4 _ rfl;obtain⟨y5,L,t5,J⟩:=E 5 _ rfl;obtain⟨y6,w,t6,Z⟩:=E 6 _ rfl;obtain⟨G,M,_⟩:=pB underlying3 t0;obtain⟨F,S,_⟩:=pB underlying3 t1;obtain⟨D,P,_⟩:=pB underlying3 t2;obtain⟨I,a,_⟩:=pB underlying3 t3;obtain⟨R,p,f4⟩:=pB underlying3 t4;obtain⟨T,n,C,j⟩:=s9 underlying27 underlying5 rJ.2.2.1 (by rw[rJ.2.2.2.1];exact g9 _) t5 J;obtain⟨g,_,_,X⟩:=s9 underlying28 underlying3 rJ.2.1 (by rw[rJ.2.2.2.2];omega) t6 Z;obtain⟨z,u,c,_⟩:=j W (Fr.refl _ _);obtain⟨N,t,e,_⟩:=X W (Fr.refl _ _);have B:=Nn f4;exact⟨⟨G,F,D,I,R,T,g⟩,⟨Fu n,by unfold reachBytes at C;show T.length<=_;omega,B.1,B.2⟩,λO hF=>⟨z,T.length,u,N,g.length,t,by show [q 0,q 1,q 2,q 3,q 4,q 5,q 6]=_;rw[M,S,P,a,p,c,e],by rw[<-c];exact j O hF,by rw[<-e];exact X O hF⟩⟩
end
end Go.Proofs.YtblpaldggenbaaaGreatDoor
