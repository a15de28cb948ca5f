/- A part. -/
import Derived.Test.YtblpaldggenbaaaGreatDoorMy
import Derived.Test.YtblpaldggenbaaaGreatDoorMo
namespace Go.Proofs.YtblpaldggenbaaaGreatDoor
open Go.RowKit
set_option maxRecDepth 100000
set_option maxHeartbeats 64000000
def Kg(k:Int->Nat):List bp->kZ->Prop
 |[],_=>True
 |s::r,b=>(∀y∈s.k,iT s b y=true)/\Kg k r (dq b (s.p.take (k s.t)))
theorem Gb{k:Int->Nat}:∀(G:List bp) (b:kZ),(∀s∈G,s.s.toNat<=k s.t/\k s.t<=s.p.length)->Kg k G b->eN G b≠none
 |[],_,_,_=>λh=>by cases h
 |s::r,b,F,⟨Z,V⟩=>by
  intro h;unfold eN at h;have B:jI s b=true:=yT.2 Z;rw[iP B]at h;obtain⟨M,Q⟩:=F s acy;have:=(oy _ _).1 h (s.p.length-k s.t) (by unfold bp.ways;omega);rw[s7,zcK,show s.p.length-(s.p.length-k s.t)=k s.t by omega]at this;exact Gb r _ (λx J=>F x (by simp[J])) V this
theorem Cg{S:Int->bp}{k:Int->Nat}(n:Nat):∀m:Nat,(∀t:Int,(n:Nat)<t->t<=(n+m:Nat)->(S t).p=[])->sL S k (n+m)=sL S k n
 |0,_=>rfl
 |m+1,h=>by
  show dq (sL S k (n+m)) ((S ((n+m+1:Nat):Int)).p.take (k ((n+m+1:Nat):Int)))=_;rw[h ((n+m+1:Nat):Int) oM oM,List.take_nil,Cg n m (λt Z V=>h t Z oM)]
  rfl
theorem xk{S:Int->bp}{k:Int->Nat}:∀(G:List bp) (n:Nat),(G.map bp.t).Pairwise (·<·)->(∀s∈G,(n:Int)<s.t/\s=S s.t/\∀y∈s.k,iT s (qL S k s.t) y=true)->(∀t:Int,(n:Nat)<t->t∉G.map bp.t->(S t).p=[])->Kg k G (sL S k n)
 |[],_,_,_,_=>trivial
 |s::r,n,U,h,D=>by
  obtain⟨Z,V,M⟩:=h s acy;rw[li,zcB]at U;have e:sL S k n=qL S k s.t:=by
   have:=Cg (S:=S) (k:=k) n ((s.t-1).toNat-n) (λt Q F=>D t Q (λp=>by
    rcases nO.1 p with p|p
    ·omega
    ·have:=U.1 t p
     omega))
   unfold qL;rw[<-this,show n+((s.t-1).toNat-n)=(s.t-1).toNat by omega]
  refine⟨λy E=>by rw[e];exact M y E,?_⟩;rw[e];have P:dq (qL S k s.t) (s.p.take (k s.t))=sL S k s.t.toNat:=by
   have:=yj S k (t:=s.t) oM;rw[<-V]at this;exact this.symm
  rw[P];refine xk r _ U.2 (λx J=> ?_) (λt R p=>D t oM (λQ=> ?_))
  ·obtain⟨_,j,u⟩:=h x (by simp[J])
   have:=U.1 x.t (oK.2 ⟨x,J,rfl⟩);exact⟨oM,j,u⟩
  ·rcases nO.1 Q with Q|Q
   ·omega
   ·exact p Q
theorem Ut{S:Int->bp}{D:Int->Vw}{x:Rg}{k:Int->Nat}{r:Int}{l:List eW}(z:S=λt=>aG r t l)(h:dw S D x k)(R:∀e∈l,e.cX r=true->1<=e.t){G:List bp}(o:G.Perm (fZ r l))(U:(G.map bp.t).Pairwise (·<=·)):(kC G).isSome=true:=by
 subst z;have ok:=qY r l;have W:(G.map bp.t).Nodup:=(o.map bp.t).nodup_iff.2 ok.nd;have B:(G.map bp.t).Pairwise (·<·):=by
  refine List.Pairwise.imp₂ ?_ U W;intro a b Z V;omega
 have I:∀s∈G,1<=s.t/\s=aG r s.t l:=λs J=>by
  have Z:=o.mem_iff.1 J;obtain⟨e,Y,u,K⟩:=(ok.ts s.t).1 (oK.2 ⟨s,Z,rfl⟩);have:=R e Y u;exact⟨oM,ok.eq s Z⟩
 have A:∀t:Int,((0:Nat):Int)<t->t∉G.map bp.t->(aG r t l).p=[]:=λt _ p=>by
  have Z:t∉(fZ r l).map bp.t:=λV=>p ((o.map bp.t).mem_iff.2 V);rw[ok.ts]at Z;have V:l.filter (mC r t)=[]:=by
   rw[zcL];intro e Y p;unfold mC at p;rw[mq,beq_iff_eq]at p;exact Z ⟨e,Y,p.1,p.2⟩
  unfold aG;rw[V]
  rfl
 have H:=xk (S:=λt=>aG r t l) (k:=k) G 0 B (λs J=>by
  obtain⟨Z,V⟩:=I s J;refine⟨oM,V,λy E=> ?_⟩;have:=h.lk s.t Z y (by rw[<-V];exact E);obtain⟨d,g⟩:=this;have d:s.t<=x.aE->iT (aG r s.t l) (qL (λt=>aG r t l) k s.t) y=true:=d;have g:x.aE<s.t->∀b,iT (aG r s.t l) b y=true:=g;rw[<-V]at d g;by_cases M:s.t<=x.aE
  ·exact d M
  ·exact g oM _) A
 have j:G.any zM=false:=by
  rw[XQ];intro s J;obtain⟨_,V⟩:=I s J;have:=Es r s.t l;rw[<-V]at this;unfold zM;rw[Mo,decide_eq_true_eq,decide_eq_true_eq];have Z:=this.s0;have V:=this.s1;omega
 have:=Gb (k:=k) G PZ (λs J=>by
  obtain⟨Z,V⟩:=I s J;have M:=h.kp s.t Z;have Q:=h.ks s.t Z;rw[<-V]at M Q;omega) H
 unfold kC;rw[iN (by rw[j];exact gV)]
 cases Y:eN G PZ with
 |none=>exact absurd Y this
 |some _=>rfl
def Ll(b:kZ):Prop:=∀j,(b j).length<=23
theorem As{b:kZ}(h:Ll b):∀l:List fj,(∀p∈l,p.d.length<=23)->Ll (dq b l)
 |[],_=>h
 |p::l,C=>by
  refine As (b:=kT b p) (λj=> ?_) l (λq d=>C q (by simp[d]));exact afm
theorem xl{P:LI->Prop}(S:∀b:kZ,Ll b->∀i,P (xM b i)):∀(O:List bp) (b:kZ),Ll b->(∀s∈O,∀p∈s.p,p.d.length<=23)->eN O b≠none->∀s∈O,∀y∈s.k,P y.d
 |[],_,_,_,_=>λs U=>by cases U
 |s::r,b,B,o,h=>by
  unfold eN at h
  split at h
  ·rename_i a
   cases Y:jB (λq=>(eN r (dq b (s.p.take (s.p.length-q)))).map ((s.p.length-q)::·)) s.ways 0 with
   |none=>exact absurd Y h
   |some g=>
    obtain⟨q,_,V,_⟩:=ry _ _ Y;obtain⟨c,M,_⟩:=zcg.1 V;have U:=o s acy;have d:=xl S r _ (As B (s.p.take (s.p.length-(0+q))) (λp J=>U p (Hn J))) (λz G=>o z (by simp[G])) (by rw[M];simp);intro z G y E;rcases nO.1 G with rfl|G
    ·have Q:iT z b y=true:=yT.1 a y E
     have F:xM (dq b (z.p.take y.a.toNat)) y.i=y.d:=of_decide_eq_true Q;rw[<-F];exact S _ (As B _ (λp J=>U p (Hn J))) _
    ·exact d z G y E
  ·exact absurd rfl h
theorem On{G:List bp}(o:∀s∈G,∀p∈s.p,p.d.length<=23){s:bp}{y:mG}(U:s∈G)(E:y∈s.k)(h:23<y.d.length):kC G=none:=by
 unfold kC
 split
 ·rfl
 ·cases Y:eN G PZ with
  |none=>rfl
  |some g=>
   have:=xl (P:=λd=>d.length<=23) (λb B i=>by
    unfold xM
    split
    ·exact B _
    ·exact jG _) G PZ (λ_=>jG _) o (by rw[Y];simp) s U y E
   omega
end Go.Proofs.YtblpaldggenbaaaGreatDoor
