/- A part. -/
import Derived.Test.YtblpaldggenbaaaGreatDoorMb
namespace Go.Proofs.YtblpaldggenbaaaGreatDoor
open Go.RowKit Go.Proofs.Tryz
set_option maxRecDepth 100000
set_option maxHeartbeats 64000000
theorem eF.ni{w:World}{b:Nat}{t:TypeId}{i U p q x n:Value}(h:eF w b t #[i,U,p,q,x,n]):w.cell? (aD b 0)=some i/\w.cell? (aD b 1)=some U/\w.cell? (aD b 2)=some p/\w.cell? (aD b 3)=some q/\w.cell? (aD b 4)=some x/\w.cell? (aD b 5)=some n:=
 ⟨h.cell 0,h.cell 1,h.cell 2,h.cell 3,h.cell 4,h.cell 5⟩
theorem Fc{I:aH}{L:List aw}(g:Nat)(m:Nat->Rg)(r:RQ)(A:OA)(n c:Nat)(w:World)(G0:r.ok)(hm:∀k,(m k).ok)(hn:n=r.data.length)(h:St I w (dL g m::L)):
 Rt I w 144 #[pO g,nQ r (.slice A n c)] (.tuple #[.bool (aC m r).1,iI (aC m r).2]) (dL g m::L):=by
 refine mr h G0 (vv r A n c) hn λH HR l b=>?_;have key:∀x,aC m r=x->Hid (aC m r=x):=λ_ h=>h;clear h G0;by_cases q:r.b9=0
 ·have hz:=RQ.gO q
  have F:=aa q;obtain⟨o,region,index,token,seq,data⟩:=r;obtain⟨z0,z1,z2,z3,z4,z5,z6⟩:=hz;simp only at z0 z1 z2 z3 z4 z5 z6 hn;obtain⟨k,rfl⟩:=zY z2;have d:=aa (λI0=>Gh ⟨o,k,index,token,seq,data⟩ (.slice A n c) I0);rw[q]at l;have Z:¬RQ.b9 ⟨o,k,index,token,seq,data⟩≠0:=λh=>h q;clear q z2 z3 hn z6;by_cases hk:4<=k
  ·have E:=key (false,93) (by unfold aC;rw[iN Z,iP (by show(4:Int)<=k;omega)])
   clear key Z;have H0:(4:Int)<=(k:Int):=oM
   exact aeg
  have O:k<4:=oM
  have H0:¬(4:Int)<=(k:Int):=oM
  have B0:¬(4:Int)<=(RQ.mk o k index token seq data).region:=H0;clear hk;by_cases o2:o<=2
  ·by_cases i4:4<=index
   ·have E:=key (false,101) (by unfold aC;rw[iN Z,iN B0,iP ⟨o2,i4⟩])
    clear key Z B0
    exact aeg
   have F0:¬((RQ.mk o k index token seq data).op<=2/\4<=(RQ.mk o k index token seq data).index):=λh=>i4 h.2;clear F0 B0 Z
   go_enter func144,ntmps144
   go_wp2_with fail
   refine qK (l _ b) λw1 a=>?_;have Y:=aa ((H.alloc 175 #[iI o,iI k,iI index,iU token,iW seq,.slice A n c]).grow a);obtain⟨M,S,P,t,p,u⟩:=(Y.ah 0 rfl).ni;clear H a
   go_wp2_with fail
   have E0:=(Y.swap.gz);obtain⟨U,C⟩:=E0;have B:=C.ah 0 rfl;have G:=dG B (k:=k) (j:=0) O oM rfl;have e:=hm k;have Q:=aa C;clear C B;have kn:(0:Int)<=(k:Int):=oM
   have i:(k:Int)<4:=oM
   simp only[vt]at G;by_cases R:token<(m k).aE
   ·have E:=key (false,100) acM
    have dt:decide (token<(m k).aE)=true:=dZ R;clear key
    go_wp2_with go_quiet (fail)
    go_ret2
    refine⟨by rw[E.out];rfl,?_⟩
    repeat(with_reducible refine St.drewN ?_ _)
    exact Y.tail
   have dt:decide (token<(m k).aE)=false:=dQ R;by_cases t0:token=0
   ·have bt:=Ec t0
    have E:=key (false,if RQ.bJ ⟨o,k,index,token,seq,data⟩=true then 100 else 0) (by
     unfold aC;rw[iN (λh=>h F.out),iN (Wf.2 i),iN (show¬(o<=2/\(4:Int)<=index)by omega)]
     cases hc:RQ.bJ ⟨o,k,index,token,seq,data⟩with
     |true=>rw[iP (.inr ⟨t0,rfl⟩)];rfl
     |false=>rw[iN (λh=>h.elim R (λh=>gV h.2)),iN gV,iN gV])
    clear key t0
    go_wp2_with go_quiet (fail)
    have K:=Q.out;refine bQ (λW=>St I W (im g U m::dx U m::ab w.heap.size 175 #[iI o,iI k,iI index,iU token,iW seq,.slice A n c]::L)) 17 (rG 13) [13,14,15,16] kR kR
     (λD0=>by cases D0<;>exact λ_ _ _ _ h=>h) (λW J=> ?_)
    have z:=aa (show St I W (im g U m::dx U m::ab w.heap.size 175 #[iI o,iI k,iI index,iU token,iW seq,.slice A n c]::L)by
     rw[J];exact(K.drewN _).drew)
    refine⟨z.out,?_⟩;clear K
    iterate 8 (refine bN rfl rfl (λW J=>by(have B:=J.ah 0 rfl;have G:=dG B (k:=k) (j:=0) O oM rfl;obtain⟨M,S,P,t,p,u⟩:=(J.ah 2 rfl).ni;clear B J;simp only[vt]at G;go_simp;try rfl)) ?_;simp only[aR])
    iterate 5 (refine CY rfl gS (λW J=>by(have B:=J.ah 0 rfl;have G:=dG B (k:=k) (j:=0) O oM rfl;obtain⟨M,S,P,t,p,u⟩:=(J.ah 2 rfl).ni;clear B J;simp only[vt]at G;go_simp;try rfl)) ?_;simp only[aR])
    refine take_nil ?_;refine q8 rfl gS (by go_simp;exact⟨rfl,rfl⟩) ?_;refine qK (d _) λX a=>?_;have T:=aa (z.out.grow a);clear a;refine⟨_,rfl,λ_=>T,?_⟩
    iterate 3 (simp only[aR];refine lX rfl gS gS (λ_=>T.out) ?_)
    simp only[aR];refine cN ?_;clear z J
    cases y:RQ.bJ ⟨o,k,index,token,seq,data⟩with
    |true=>
     exact ae1
    |false=>
     exact aek
   have bt:=kO t0
   cases y:RQ.bJ ⟨o,k,index,token,seq,data⟩with
   |false=>
    have E:=key (false,0) acD;rw[y]at d;clear key y
    go_wp2_with go_quiet (fail)
    refine qK (d _) λX a=>?_;have V:St I X (dL g m::L):=by
     refine St.grow ?_ a
     repeat(with_reducible refine St.drewN ?_ _)
     exact Y.tail
    exact afj
   |true=>
    have E:=key ((m k).next ⟨o,k,index,token,seq,data⟩) acH;rw[y]at d;clear key y
    go_wp2_with go_quiet (fail)
    refine qK (d _) λX a=>?_;have V:St I X (im g U m::dx U m::ab w.heap.size 175 #[iI o,iI k,iI index,iU token,iW seq,.slice A n c]::L):=by
     refine St.grow ?_ a
     repeat(with_reducible refine St.drewN ?_ _)
     exact Q.out
    exact adT
  have F0:¬((RQ.mk o k index token seq data).op<=2/\4<=(RQ.mk o k index token seq data).index):=λh=>o2 h.1;clear F0 B0 Z
  go_enter func144,ntmps144
  go_wp2_with fail
  refine qK (l _ b) λw1 a=>?_;have Y:=aa ((H.alloc 175 #[iI o,iI k,iI index,iU token,iW seq,.slice A n c]).grow a);obtain⟨M,S,P,t,p,u⟩:=(Y.ah 0 rfl).ni;clear H a
  go_wp2_with fail
  have E0:=(Y.swap.gz);obtain⟨U,C⟩:=E0;have B:=C.ah 0 rfl;have G:=dG B (k:=k) (j:=0) O oM rfl;have e:=hm k;have Q:=aa C;clear C B;have kn:(0:Int)<=(k:Int):=oM
  have i:(k:Int)<4:=oM
  simp only[vt]at G;by_cases R:token<(m k).aE
  ·have E:=key (false,100) acM
   have dt:decide (token<(m k).aE)=true:=dZ R;clear key
   go_wp2_with go_quiet (fail)
   go_ret2
   refine⟨by rw[E.out];rfl,?_⟩
   repeat(with_reducible refine St.drewN ?_ _)
   exact Y.tail
  have dt:decide (token<(m k).aE)=false:=dQ R;by_cases t0:token=0
  ·have bt:=Ec t0
   have E:=key (false,if RQ.bJ ⟨o,k,index,token,seq,data⟩=true then 100 else 0) (by
    unfold aC;rw[iN (λh=>h F.out),iN (Wf.2 i),iN (show¬(o<=2/\(4:Int)<=index)by omega)]
    cases hc:RQ.bJ ⟨o,k,index,token,seq,data⟩with
    |true=>rw[iP (.inr ⟨t0,rfl⟩)];rfl
    |false=>rw[iN (λh=>h.elim R (λh=>gV h.2)),iN gV,iN gV])
   clear key t0
   go_wp2_with go_quiet (fail)
   have K:=Q.out;refine bQ (λW=>St I W (im g U m::dx U m::ab w.heap.size 175 #[iI o,iI k,iI index,iU token,iW seq,.slice A n c]::L)) 17 (rG 13) [13,14,15,16] kR kR
    (λD0=>by cases D0<;>exact λ_ _ _ _ h=>h) (λW J=> ?_)
   have z:=aa (show St I W (im g U m::dx U m::ab w.heap.size 175 #[iI o,iI k,iI index,iU token,iW seq,.slice A n c]::L)by
    rw[J];exact(K.drewN _).drew)
   refine⟨z.out,?_⟩;clear K
   iterate 8 (refine bN rfl rfl (λW J=>by(have B:=J.ah 0 rfl;have G:=dG B (k:=k) (j:=0) O oM rfl;obtain⟨M,S,P,t,p,u⟩:=(J.ah 2 rfl).ni;clear B J;simp only[vt]at G;go_simp;try rfl)) ?_;simp only[aR])
   iterate 5 (refine CY rfl gS (λW J=>by(have B:=J.ah 0 rfl;have G:=dG B (k:=k) (j:=0) O oM rfl;obtain⟨M,S,P,t,p,u⟩:=(J.ah 2 rfl).ni;clear B J;simp only[vt]at G;go_simp;try rfl)) ?_;simp only[aR])
   refine take_nil ?_;refine q8 rfl gS (by go_simp;exact⟨rfl,rfl⟩) ?_;refine qK (d _) λX a=>?_;have T:=aa (z.out.grow a);clear a;refine⟨_,rfl,λ_=>T,?_⟩
   iterate 3 (simp only[aR];refine lX rfl gS gS (λ_=>T.out) ?_)
   simp only[aR];refine cN ?_;clear z J
   cases y:RQ.bJ ⟨o,k,index,token,seq,data⟩with
   |true=>
    exact ae1
   |false=>
    exact aek
  have bt:=kO t0
  cases y:RQ.bJ ⟨o,k,index,token,seq,data⟩with
  |false=>
   have E:=key (false,0) acD;rw[y]at d;clear key y
   go_wp2_with go_quiet (fail)
   refine qK (d _) λX a=>?_;have V:St I X (dL g m::L):=by
    refine St.grow ?_ a
    repeat(with_reducible refine St.drewN ?_ _)
    exact Y.tail
   exact afj
  |true=>
   have E:=key ((m k).next ⟨o,k,index,token,seq,data⟩) acH;rw[y]at d;clear key y
   go_wp2_with go_quiet (fail)
   refine qK (d _) λX a=>?_;have V:St I X (im g U m::dx U m::ab w.heap.size 175 #[iI o,iI k,iI index,iU token,iW seq,.slice A n c]::L):=by
    refine St.grow ?_ a
    repeat(with_reducible refine St.drewN ?_ _)
    exact Q.out
   exact adT
 ·have E:=key (false,r.b9) (by unfold aC;rw[iP q])
  have B:(r.b9 !=0)=true:=by simp[q]
  generalize r.b9=x at*;clear key hn
  go_enter func144,ntmps144
  go_wp2_with fail
  refine qK (l _ b) λw1 a=>?_;have Y:=aa ((H.nP _).grow a);clear H a
  go_wp2_with fail
  go_ret2
  exact⟨by rw[E.out];rfl,Y⟩
end Go.Proofs.YtblpaldggenbaaaGreatDoor
