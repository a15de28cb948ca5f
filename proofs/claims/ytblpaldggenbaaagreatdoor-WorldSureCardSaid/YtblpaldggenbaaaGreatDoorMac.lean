/- A part. -/
import Derived.Test.YtblpaldggenbaaaGreatDoorMab
import Derived.Test.YtblpaldggenbaaaGreatDoorMaa
namespace Go.Proofs.YtblpaldggenbaaaGreatDoor
open Go.RowKit Go.Proofs.Tryz
set_option maxRecDepth 100000
set_option maxHeartbeats 64000000
section
open Go.ChangeAt Go.ChangeShapes Go.Deep Go.WideShapes
theorem rQ:prog.cellsOf 30=7/\prog.cellsOf 3=1/\prog.cellsOf 5=1/\prog.bytesOf 5=1/\prog.bytesOf 3=8:=⟨kR,kR,kR,kR,kR⟩
theorem wm{n:Int}(h:(Lit.int .i64 n).wf=true): -9223372036854775808<=n/\n<=9223372036854775807:=by
 simp[Lit.wf,IntKind.min,IntKind.max,IntKind.signed,IntKind.bits]at h;omega
theorem vS{H:Type}{a:TypeId×Value->H}{W:World}{r:Reach}{K:Nat}{v:Value}{d:DataW H}{A:List MemPlace}(L:Value.okWide prog W r K 22 v)(h:DataW.Trod a prog W 0 (λ_=>true) true 22 v d A)(M:(d.weights prog 22).all (·<=reachBytes)=true):
 ∃l b,(∀o∈l,LU o)/\∀O,Fr jo W O->cn O 7 iH v b l:=by
 refine Ia iH LU ⟨0,0,0,0,0,[],[]⟩ underlying22 underlying30 kR rQ.1 L h M (λI y=> ?_);obtain⟨y0,i,t0,_⟩:=y 0 _ rfl;obtain⟨y1,x,t1,_⟩:=y 1 _ rfl;obtain⟨y2,G,t2,_⟩:=y 2 _ rfl;obtain⟨y3,c,t3,_⟩:=y 3 _ rfl;obtain⟨y4,Z,t4,_⟩:=y 4 _ rfl;obtain⟨y5,n,t5,X⟩:=y 5 _ rfl;obtain⟨y6,w,t6,p⟩:=y 6 _ rfl;obtain⟨U,S,_⟩:=pB underlying3 t0;obtain⟨R,Y,_⟩:=pB underlying3 t1;obtain⟨J,q,_⟩:=pB underlying3 t2;obtain⟨Q,P,_⟩:=pB underlying3 t3;obtain⟨t,g,f4⟩:=pB underlying3 t4;obtain⟨N,V,F,j⟩:=ta underlying27 underlying5 rQ.2.2.1 (by rw[rQ.2.2.2.1];exact io _) t5 X;obtain⟨C,_,_,z⟩:=ta underlying28 underlying3 rQ.2.1 (by rw[rQ.2.2.2.2];omega) t6 p;obtain⟨T,E,u,_⟩:=j W (Fr.refl _ _);obtain⟨e,D,k,_⟩:=z W (Fr.refl _ _);have B:=wm f4;exact⟨⟨U,R,J,Q,t,N,C⟩,⟨xp V,by unfold reachBytes at F;show N.length<=_;omega,B.1,B.2⟩,λO hF=>⟨T,N.length,E,e,C.length,D,by show [I 0,I 1,I 2,I 3,I 4,I 5,I 6]=_;rw[S,Y,q,P,g,u,k],by rw[<-u];exact j O hF,by rw[<-k];exact z O hF⟩⟩
end
end Go.Proofs.YtblpaldggenbaaaGreatDoor
