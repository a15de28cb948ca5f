/- A part. -/
import Derived.Test.YtblpaldggenbaaaGreatDoorMw
namespace Go.Proofs.YtblpaldggenbaaaGreatDoor
open Go.RowKit Go.Proofs.Tryz
set_option maxRecDepth 100000
set_option maxHeartbeats 64000000
variable{T:Int}
section
theorem oU(S:gD)(c:Int)(C:aY)(r t:Int):(cZ S c C r t).c.bl=C.bl/\(cZ S c C r t).c.wr=C.wr/\(cZ S c C r t).c.r=C.r:=by
 show(if _ then _ else _:nP).c.bl=_/\(if _ then _ else _:nP).c.wr=_/\(if _ then _ else _:nP).c.r=_
 split
 ·exact aeC
 ·dsimp only
  unfold aY.nS
  split<;>exact⟨rfl,rfl,rfl⟩
def YC(x:CX)(C:aY)(p:Nat->Value):Prop:=∀i,(p i=x.p i/\C.r i=x.c.r i)\/(p i= sN/\(C.r i).aq=[])
section
variable {I:aK} {w:World} {L:List az} {g:Nat} {bl wr:List PU} {x:CX}
def CX.Hb(x:CX)(i:Nat):CX:=⟨x.id,x.c.kX i dO.zero,aI x.p i sN⟩
def CX.bK(x:CX)(i:Nat)(y:dO)(v:Value):CX:=⟨x.id,x.c.kX i y,aI x.p i v⟩
theorem vP(x:CX)(i:Nat):x.bK i (x.c.r i) (x.p i)=x:=by
 unfold CX.bK aY.kX;rw[show aI x.c.r i (x.c.r i)=x.c.r from funext λj=>by unfold aI;split<;>simp_all,show aI x.p i (x.p i)=x.p from funext λj=>by unfold aI;split<;>simp_all]
theorem yb(x:CX)(y:dO)(v:Value)(n:Int):∀{i:Nat},i<4->∀a c,(cH (x.bK i y v) a c).set! (22+i*5+0) (iW n)=cH (x.bK i ⟨n,y.cS,y.dh,y.aq,y.bu⟩ v) a c
 |0,_,_,_=>rfl
 |1,_,_,_=>rfl
 |2,_,_,_=>rfl
 |3,_,_,_=>rfl
 |n+4,h,_,_=>oM
theorem Lj(x:CX)(y:dO)(v:Value)(b:Bool):∀{i:Nat},i<4->∀a c,(cH (x.bK i y v) a c).set! (22+i*5+1) (.bool b)=cH (x.bK i ⟨y.seq,b,y.dh,y.aq,y.bu⟩ v) a c
 |0,_,_,_=>rfl
 |1,_,_,_=>rfl
 |2,_,_,_=>rfl
 |3,_,_,_=>rfl
 |n+4,h,_,_=>oM
theorem Dt(x:CX)(y:dO)(v:Value)(b:Bool):∀{i:Nat},i<4->∀a c,(cH (x.bK i y v) a c).set! (22+i*5+2) (.bool b)=cH (x.bK i ⟨y.seq,y.cS,b,y.aq,y.bu⟩ v) a c
 |0,_,_,_=>rfl
 |1,_,_,_=>rfl
 |2,_,_,_=>rfl
 |3,_,_,_=>rfl
 |n+4,h,_,_=>oM
theorem lO(x:CX)(y:dO)(v:Value)(q:List RQ)(u:Value):∀{i:Nat},i<4->∀a c,(cH (x.bK i y v) a c).set! (22+i*5+3) (u)=cH (x.bK i ⟨y.seq,y.cS,y.dh,q,y.bu⟩ u) a c
 |0,_,_,_=>rfl
 |1,_,_,_=>rfl
 |2,_,_,_=>rfl
 |3,_,_,_=>rfl
 |n+4,h,_,_=>oM
theorem uJ(x:CX)(y:dO)(v:Value)(n:Int):∀{i:Nat},i<4->∀a c,(cH (x.bK i y v) a c).set! (22+i*5+4) (iI n)=cH (x.bK i ⟨y.seq,y.cS,y.dh,y.aq,n⟩ v) a c
 |0,_,_,_=>rfl
 |1,_,_,_=>rfl
 |2,_,_,_=>rfl
 |3,_,_,_=>rfl
 |n+4,h,_,_=>oM
theorem nV(x:CX)(v u:Value):∀{i:Nat},i<4->(cH x v u)[22+i*5+0]? =some (iW (x.c.r i).seq)
 |0,_=>rfl
 |1,_=>rfl
 |2,_=>rfl
 |3,_=>rfl
 |n+4,h=>oM
theorem xX(x:CX)(v u:Value):∀{i:Nat},i<4->(cH x v u)[22+i*5+1]? =some (.bool (x.c.r i).cS)
 |0,_=>rfl
 |1,_=>rfl
 |2,_=>rfl
 |3,_=>rfl
 |n+4,h=>oM
theorem uN(x:CX)(v u:Value):∀{i:Nat},i<4->(cH x v u)[22+i*5+2]? =some (.bool (x.c.r i).dh)
 |0,_=>rfl
 |1,_=>rfl
 |2,_=>rfl
 |3,_=>rfl
 |n+4,h=>oM
theorem fv(x:CX)(v u:Value):∀{i:Nat},i<4->(cH x v u)[22+i*5+3]? =some (x.p i)
 |0,_=>rfl
 |1,_=>rfl
 |2,_=>rfl
 |3,_=>rfl
 |n+4,h=>oM
theorem qW(x:CX)(v u:Value):∀{i:Nat},i<4->(cH x v u)[22+i*5+4]? =some (iI (x.c.r i).bu)
 |0,_=>rfl
 |1,_=>rfl
 |2,_=>rfl
 |3,_=>rfl
 |n+4,h=>oM
theorem St.QH(h:St I w (ak x g bl wr::L)){i:Nat}(z:i<4):
 St I (((((w.setCell ⟨g,22+i*5,none⟩ (iW 0)).setCell ⟨g,22+i*5+1,none⟩ (.bool false)).setCell ⟨g,22+i*5+2,none⟩ (.bool false)).setCell ⟨g,22+i*5+3,none⟩ sN).setCell ⟨g,22+i*5+4,none⟩ (iI 0)) (ak (x.Hb i) g bl wr::L):=by
 have K:St I w (ak (x.bK i (x.c.r i) (x.p i)) g bl wr::L):=by rw[vP];exact h
 have Z:=St.dN K (22+i*5) (iW 0) (yb x (x.c.r i) (x.p i) 0 z);have G:=St.dN Z (22+i*5+1) (.bool false) (Lj x _ (x.p i) false z);have M:=St.dN G (22+i*5+2) (.bool false) (Dt x _ (x.p i) false z);have S:=St.dN M (22+i*5+3) sN (lO x _ (x.p i) [] sN z);exact St.dN S (22+i*5+4) (iI 0) (uJ x _ sN 0 z)
end
theorem BT(w:World):(Instr.build 72 #[]).run prog w= .ok (.agg #[iW 0,.bool false,.bool false,sN,iI 0]) w:=kR
theorem RS{x:CX}(K:0<=x.id)(M:x.id<3){o:Int}(q:o=1\/o=2):(dH.of ⟨o,0,0,0,0,0,0⟩ x).ok:=by
 have e:dH.of ⟨o,0,0,0,0,0,0⟩ x=⟨o,x.id,0,0,0,0,0⟩:=by unfold dH.of;rw[iN (by show¬2<o;omega)]
 rw[e];refine⟨?_,⟨K,?_⟩,⟨cO 0,?_⟩,⟨cO 0,?_⟩,⟨cO 0,?_⟩,⟨cO 0,?_⟩,⟨cO 0,?_⟩⟩
 ·show 1<=o/\o<=7;omega
 ·show x.id<=255;omega
 all_goals first|(show(0:Int)<=255;decide)|(show(0:Int)<4294967296;decide)|(show(0:Int)<18446744073709551616;decide)
theorem Mv{I:aK}{L:List az}(B g:Nat)(b:WX)(x:CX)(S:gD)(o:eH)(W J:Value)(k:Int)(w:World)(hs:da S x.c x.id k)(h0:0<=x.id)(h3:x.id<3)(M0:0<=k)(hk:k<4000000000)
 (hv:∀v,0<=o.r->o.r<4->(ia S x.id x.c).e=0->v=((ia S x.id x.c).s.apply ⟨3,x.id,dP (ia S x.id x.c).c.seq,o.r,2,0,0⟩)->v.e=0->0<=v.v/\v.v<18446744073709551616)
 (hl:x.c.wr.length<=1000000) (hd:∀y∈x.c.wr,y.data.length<=1000000) (h:St I w (ab B 55 (wC b)::ez b.gv S::ak x g x.c.bl x.c.wr::L)):
 Calls prog 36 #[pO B,pO g,.agg (dW o W J)] w λe P1=>e= .returned (.tuple #[sN,iI (eB S x.id x.c o.r).e])/\∃O1,YC x (eB S x.id x.c o.r).c O1/\St I P1 (ab B 55 (wC b)::ez b.gv (eB S x.id x.c o.r).s::ak ⟨x.id,(eB S x.id x.c o.r).c,O1⟩ g (eB S x.id x.c o.r).c.bl (eB S x.id x.c o.r).c.wr::L):=by
 cases ht:cB o.r with
 |false=>
  have E:eB S x.id x.c o.r=⟨S,x.c,93⟩:=iP ht;rw[E];have N1:=AM ht;clear E hs h0 h3 M0 hk hv hl hd ht;by_cases F0:o.r<0
  ·have d1:decide (o.r<0)=true:=dZ F0
   exact adp
  ·have d1:decide (o.r<0)=false:=dQ F0
   have d2:decide (o.r≥4)=true:=decide_eq_true (by omega);have d3:decide (4<=o.r)=true:=decide_eq_true (by omega);exact adp
 |true=>
  obtain⟨i,hi,B1⟩:=o8 ht;refine bq hi B1 λHI n=>?_;have F0:0<=o.r:=oM
  have S0:o.r<4:=oM
  have HR:=aa (And.intro F0 S0);have d1:decide (o.r<0)=false:=decide_eq_false (by omega);have d2:decide (o.r≥4)=false:=decide_eq_false (by omega);have d3:decide (4<=o.r)=false:=decide_eq_false (by omega);have HD:=aa (And.intro hl hd);obtain⟨y,hy⟩:=nM (eB S x.id x.c o.r);have EA:eB S x.id x.c o.r=if(ia S x.id x.c).e≠0 then ia S x.id x.c else mU (ia S x.id x.c).s x.id (ia S x.id x.c).c o.r:=iN (by rw[ht];decide);rw[<-hy]
  cases G0:x.c.a9 with
  |true=>
   have ew:ia S x.id x.c=⟨S,x.c,0⟩:=iP G0;have HY:=aa (show y=mU S x.id x.c o.r by rw[hy,EA,ew];exact iN abN);have hq:dP x.c.seq=x.c.seq+1:=zO hs.Ke (by have:=hs.Lq;omega);have HV:=aa (show∀v,v=(S.apply ⟨3,x.id,x.c.seq+1,o.r,2,0,0⟩)->v.e=0->0<=v.v/\v.v<18446744073709551616 from λv T0=>hv v F0 S0 (by rw[ew]) (by rw[ew,hq];exact T0));refine nK hq hs (And.intro h0 (And.intro h3 (And.intro M0 hk))) G0 λHQ HS d H0=>?_;obtain⟨vB,uB,A⟩:=(h.fi 2).bB;have b1:w.cell? (aD g 1)=some (.bool true):=((A.ah 0 rfl).cell 1).trans acb;have P0:=A.alloc 30 (dW o W J);have b2:World.cell? _ ⟨g,1,none⟩=some (.bool true):=((P0.ah 1 rfl).cell 1).trans acb;clear A P0 ew hq hs h0 h3 M0 hk hv hl hd ht hi B1 F0 S0 hy EA G0;have Z:=h.alloc 30 (dW o W J);obtain⟨q,c⟩:=nM (w.heap.size);obtain⟨l,P,T,O,C,R,V⟩:=(Z.ah 0 rfl).seven;rw[<-c]at Z;refine bq c Z λN0 C0=>?_;clear h Z c
   go_enter func36,ntmps36
   go_wp2_with fail
   rw[<-N0.out];clear l P T O C R V;have E0:=HS.ok d.1 d.2.1 abX;have Q0:=CG HS d.1 d.2.1 abX (o:=3) (r:=o.r) (m:=2) (t:=0) ⟨dC,dC⟩ HR ⟨dC,dC⟩ ⟨dC,dC⟩;have R0:=HS.next H0 abX 3 o.r 2 0 0;refine qK (uq B g b x x.c.bl x.c.wr S ⟨3,0,0,o.r,2,0,0⟩ _ E0 Q0 (.inl rfl) R0 (C0.pk 4 [1,2,3,0])) λz h=>?_;clear E0 Q0 R0;obtain⟨a,ha⟩:=nM (S.apply ⟨3,x.id,x.c.seq+1,o.r,2,0,0⟩);have V0:y=if a.e≠0 then⟨a.s,{x.c with seq:=x.c.seq+1},a.e⟩else if a.v=x.c.tok o.r then cZ a.s x.id {x.c with seq:=x.c.seq+1} o.r a.v else cZ a.s x.id ((({x.c with seq:=x.c.seq+1}:aY).drop o.r).kX o.r.toNat dO.zero) o.r a.v:=by
    rw[HY.out];unfold mU;rw[HQ.out,<-ha]
   have K0:=HS.Gn (o:=3) (.inl rfl) o.r 2 0;rw[<-ha]at K0;have U0:=HV.out a ha;rw[Yh,<-ha]at h⊢;have h:St I z (ab B 55 (wC b)::ez b.gv a.s::ak ⟨x.id,{x.c with seq:=x.c.seq+1},x.p⟩ g x.c.bl x.c.wr::ab q 30 (dW o W J)::L):=h;have G:=h.alloc 158 (aN a.e a.v);obtain⟨ga,J0⟩:=nM (z.heap.size);have r0:World.cell? _ ⟨z.heap.size,0,none⟩=some (iI a.e):=(G.ah 0 rfl).cell 0;rw[<-J0]at G;refine AS J0 G V0 K0 U0 λZ0 H2 I0 A0 O0=>?_;clear h G C0 J0 V0 K0 U0 ha;by_cases Y:a.e=0
   ·have e1:(a.e !=0)=false:=by simp[Y]
    have HE:=aa Y;clear Y
    go_wp2_with fail
    rw[<-Z0.out];clear r0;refine an (I:=I) (L0:=ab B 55 (wC b)::ez b.gv a.s::L) [⟨none,none,λe=>ab q 30 (dW o W J)⟩,⟨none,none,λe=>ab ga 158 (aN a.e a.v)⟩,⟨none,some 7,λe=>ak ⟨x.id,{x.c with seq:=x.c.seq+1},x.p⟩ g x.c.bl x.c.wr⟩,⟨some 7,none,λe=>ak ⟨x.id,{x.c with seq:=x.c.seq+1},x.p⟩ g x.c.bl x.c.wr⟩] [[],[0],[],[2],[2,3],[],[5],[2,3,4,5,6],rG 8] (rG 9) rfl kR kR kR (by rfl) (λ_=>rfl) H2.fk ?_;refine Xi ?_;refine bp 22 (λe=> #[.pointer (some ⟨g,4,none⟩),iI o.r]) (λe=> iU (x.c.tok o.r)) rfl (λe p Lx h=>by(
     have h:=h.fn;refine(lu g ⟨x.id,{x.c with seq:=x.c.seq+1},x.p⟩ x.c.bl x.c.wr o.r _ (h.fi 2)).mono ?_;rintro u wy⟨rfl,Z⟩;exact⟨⟨none,0,default⟩,rfl,Z.pk 3 [1,2,0]⟩)) ?_
    simp only[aW];refine nL ?_;refine aA ?_;intro e z h;have h:=h.fn;have K:=aa (h.pk 0 []);clear h H2;by_cases B0:a.v=x.c.tok o.r
    ·obtain⟨l,P,T,O,C,R,V⟩:=(K.ah 0 rfl).seven
     have y1:World.cell? _ ⟨ga,1,none⟩=some (iU a.v):=(K.ah 1 rfl).cell 1;have F:y=cZ a.s x.id {x.c with seq:=x.c.seq+1} o.r a.v:=by rw[I0.out,iN (by simp[HE.out]),iP B0]
     have U:=aa F;have e3:(a.v !=x.c.tok o.r)=false:=by simp[B0]
     clear F B0
     go_wp2_with fail
     refine qK (mW B g b ⟨x.id,{x.c with seq:=x.c.seq+1},x.p⟩ x.c.bl x.c.wr a.s o.r a.v (k+1) _ A0 d.1 d.2.1 abX H0 HR (O0 HE) (K.pk 5 [3,4,2])) λw5 h=>?_;have h:St I w5 (ab B 55 (wC b)::ez b.gv (cZ a.s x.id {x.c with seq:=x.c.seq+1} o.r a.v).s::ak ⟨x.id,(cZ a.s x.id {x.c with seq:=x.c.seq+1} o.r a.v).c,x.p⟩ g x.c.bl x.c.wr::L):=h;have H:=oU a.s x.id {x.c with seq:=x.c.seq+1} o.r a.v;rw[<-U.out]at h H;have EY:=U.out;rw[show(cZ a.s (CX.id ⟨x.id,{x.c with seq:=x.c.seq+1},x.p⟩) (CX.c ⟨x.id,{x.c with seq:=x.c.seq+1},x.p⟩) o.r a.v).e=y.e by rw[EY]];refine bq h H λN Q=>?_;clear h H K EY l P T O C R V y1
     go_wp2_with fail
     go_ret2
     refine⟨rfl,x.p,λj=> .inl ⟨rfl,by rw[Q.out.2.2]⟩,?_⟩;rw[Q.out.1,Q.out.2.1];exact N.out
    ·have e3:(a.v !=x.c.tok o.r)=true:=by simp[B0]
     have F:y=cZ a.s x.id ((({x.c with seq:=x.c.seq+1}:aY).drop o.r).kX o.r.toNat dO.zero) o.r a.v:=by rw[I0.out,iN (by simp[HE.out]),iN B0]
     rw[show o.r.toNat=i by rw[HI.out];rfl]at F;have U:=aa F;clear F B0
     go_wp2_with fail
     refine an (I:=I) (L0:=ab ga 158 (aN a.e a.v)::ab B 55 (wC b)::ez b.gv a.s::L) [⟨none,none,λe=>ab q 30 (dW o W J)⟩,⟨none,some 5,λe=>ak ⟨x.id,{x.c with seq:=x.c.seq+1},x.p⟩ g x.c.bl x.c.wr⟩,⟨some 5,none,λe=>ak ⟨x.id,{x.c with seq:=x.c.seq+1},x.p⟩ g (x.c.bl.filter (λy=> !ao o.r y)) (x.c.wr.filter (λy=> !ao o.r y))⟩] [[],[0],[0,1],[],[3],rG 5] (rG 6) rfl kR kR kR (by rfl) (λ_=>rfl) K.fk ?_;refine sW ?_;refine bp 63 (λe=> #[.pointer (some ⟨g,20,none⟩),iI o.r]) (λe=>(e 5).v) rfl (λe p Lx h=>by(
      have h:=h.fn;refine(DF (cx:=⟨x.id,{x.c with seq:=x.c.seq+1},x.p⟩) g x.c.bl x.c.wr o.r _ HD.1 HD.2 (h.fi 1)).mono ?_;rintro u wy⟨v6,rfl,Z⟩;exact⟨⟨none,0,v6⟩,rfl,Z.pk 3 [2,1]⟩)) ?_
     simp only[aW];refine aA ?_;intro e z h;have h:=h.fn;have H4:Hid (St I z (ab q 30 (dW o W J)::ak ⟨x.id,({x.c with seq:=x.c.seq+1}:aY).drop o.r,x.p⟩ g (x.c.bl.filter (λy=> !ao o.r y)) (x.c.wr.filter (λy=> !ao o.r y))::ab ga 158 (aN a.e a.v)::ab B 55 (wC b)::ez b.gv a.s::L)):=h;clear h K
     go_wp2_with fail
     refine an (I:=I) (L0:=ab ga 158 (aN a.e a.v)::ab B 55 (wC b)::ez b.gv a.s::L) [⟨none,none,λe=>ab q 30 (dW o W J)⟩,⟨none,some 7,λe=>ak ⟨x.id,({x.c with seq:=x.c.seq+1}:aY).drop o.r,x.p⟩ g (x.c.bl.filter (λy=> !ao o.r y)) (x.c.wr.filter (λy=> !ao o.r y))⟩,⟨some 7,none,λe=>ak (CX.Hb ⟨x.id,({x.c with seq:=x.c.seq+1}:aY).drop o.r,x.p⟩ i) g (x.c.bl.filter (λy=> !ao o.r y)) (x.c.wr.filter (λy=> !ao o.r y))⟩] [[],[],[1],[],[0],[0,4],rG 6,rG 7] (rG 8) rfl kR kR kR (by rfl) (λ_=>rfl) H4.fk ?_;refine xQ ?_;refine mH (λe=> iI (i:Nat)) rfl (λe p Lx h=>by(have h:=h.fn;obtain⟨l,P,T,O,C,R,V⟩:=(h.ah 0 rfl).seven;rw[HI.out]at T;go_simp;try rfl)) ?_;simp only[aW];refine mH (λe=> .agg #[iW 0,.bool false,.bool false,sN,iI 0]) rfl (λe p Lx h=>by(have R1:=BT p;go_simp;try rfl)) ?_;simp only[aW];refine xQ ?_;refine mH (λe=> .pointer (some ⟨g,22+i*5,none⟩)) rfl (λe p Lx h=>by(have i0:(0:Int)<=(i:Int):=oM;have i1:(i:Int)<4:=(by have:=n.out;omega);go_simp;try rfl)) ?_;simp only[aW];refine lM (λe=> .pointer (some ⟨g,22+i*5,none⟩)) (λe=> .agg #[iW 0,.bool false,.bool false,sN,iI 0]) rfl rfl (λe p Lx h=>by(
      have h:=h.fn;obtain⟨v,u,A⟩:=(h.fi 1).bB;have q0:p.cell? ⟨g,22+i*5,none⟩=some (iW (x.c.r i).seq):=((A.ah 0 rfl).cell (22+i*5+0)).trans (nV ⟨x.id,({x.c with seq:=x.c.seq+1}:aY).drop o.r,x.p⟩ v u n);have q1:p.cell? ⟨g,22+i*5+1,none⟩=some (.bool (x.c.r i).cS):=((A.ah 0 rfl).cell (22+i*5+1)).trans (xX ⟨x.id,({x.c with seq:=x.c.seq+1}:aY).drop o.r,x.p⟩ v u n);have q2:p.cell? ⟨g,22+i*5+2,none⟩=some (.bool (x.c.r i).dh):=((A.ah 0 rfl).cell (22+i*5+2)).trans (uN ⟨x.id,({x.c with seq:=x.c.seq+1}:aY).drop o.r,x.p⟩ v u n);have q3:p.cell? ⟨g,22+i*5+3,none⟩=some (x.p i):=((A.ah 0 rfl).cell (22+i*5+3)).trans (fv ⟨x.id,({x.c with seq:=x.c.seq+1}:aY).drop o.r,x.p⟩ v u n);have q4:p.cell? ⟨g,22+i*5+4,none⟩=some (iI (x.c.r i).bu):=((A.ah 0 rfl).cell (22+i*5+4)).trans (qW ⟨x.id,({x.c with seq:=x.c.seq+1}:aY).drop o.r,x.p⟩ v u n);have Q1:=(A.ah 0 rfl).frozen;have hs:=(h.fi 1).QH n;exact⟨_,gS,hs.fk⟩)) ?_
     simp only[Act.put];refine aA ?_;intro e z h;have h:=h.fn;have N:=aa h;clear h H4;obtain⟨l,P,T,O,C,R,V⟩:=(N.ah 0 rfl).seven;have y1:z.cell? (aD ga 1)=some (iU a.v):=(N.ah 2 rfl).cell 1;have A1:=aa (show da a.s (CX.c (CX.Hb ⟨x.id,({x.c with seq:=x.c.seq+1}:aY).drop o.r,x.p⟩ i)) (CX.id (CX.Hb ⟨x.id,({x.c with seq:=x.c.seq+1}:aY).drop o.r,x.p⟩ i)) (k+1)from⟨A0.be,A0.len,A0.Ke,A0.Lq,A0.num⟩)
     go_wp2_with fail
     refine qK (mW B g b (CX.Hb ⟨x.id,({x.c with seq:=x.c.seq+1}:aY).drop o.r,x.p⟩ i) (x.c.bl.filter (λy=> !ao o.r y)) (x.c.wr.filter (λy=> !ao o.r y)) a.s o.r a.v (k+1) _ A1 d.1 d.2.1 abX H0 HR (O0 HE) (N.pk 5 [3,4,1])) λw6 h=>?_;have EY:y=cZ a.s (CX.id (CX.Hb ⟨x.id,({x.c with seq:=x.c.seq+1}:aY).drop o.r,x.p⟩ i)) (CX.c (CX.Hb ⟨x.id,({x.c with seq:=x.c.seq+1}:aY).drop o.r,x.p⟩ i)) o.r a.v:=U.out;have H:=oU a.s (CX.id (CX.Hb ⟨x.id,({x.c with seq:=x.c.seq+1}:aY).drop o.r,x.p⟩ i)) (CX.c (CX.Hb ⟨x.id,({x.c with seq:=x.c.seq+1}:aY).drop o.r,x.p⟩ i)) o.r a.v;rw[<-EY]at h H⊢;refine bq h H λH6 Q=>?_;clear h H N EY l P T O C R V y1
     go_wp2_with fail
     go_ret2
     refine⟨rfl,aI x.p i sN,λj=> ?_,?_⟩
     ·rw[Q.out.2.2]
      by_cases hj:j=i
      ·exact .inr ⟨iP hj,by show(aI x.c.r i dO.zero j).aq=[];rw[show aI x.c.r i dO.zero j=dO.zero from iP hj];rfl⟩
      ·exact .inl ⟨(iN hj).trans (rfl),(show aI x.c.r i dO.zero j=x.c.r j from iN hj)⟩
     ·rw[Q.out.1,Q.out.2.1]
      exact H6.out
   ·have e1:(a.e !=0)=true:=by simp[Y]
    have F:y=⟨a.s,{x.c with seq:=x.c.seq+1},a.e⟩:=by rw[I0.out,iP Y]
    have U:=aa F;clear F Y
    go_wp2_with (go_quiet (fail))
    go_ret2
    rw[U.out];refine⟨rfl,x.p,λj=> .inl ⟨rfl,rfl⟩,?_⟩;exact(H2.pk 5 [1,2,3]).drewN nq
  |false=>
   obtain⟨s1,X0⟩:=nM ((S.apply ⟨2,x.id,0,0,0,0,0⟩));obtain⟨M,W0⟩:=nM (s1.s.apply ⟨1,x.id,0,0,0,0,0⟩);have ew:ia S x.id x.c=if M.e≠0 then⟨M.s,x.c,M.e⟩else⟨M.s,{x.c with a9:=true,seq:=0},0⟩:=by
    refine(iN (by rw[G0];decide)).trans ?_;rw[W0,X0]
   have Y0:=hs.shut G0 ⟨2,x.id,0,0,0,0,0⟩ (show(0:Int)<=_ by decide);rw[<-X0]at Y0;refine AS hs Y0 (And.intro h0 (And.intro h3 (And.intro M0 hk))) W0 X0 λG1 I1 d F1 C1=>?_;obtain⟨vB,uB,A⟩:=(h.fi 2).bB;have P0:=A.alloc 30 (dW o W J);have b2:World.cell? _ ⟨g,1,none⟩=some (.bool false):=((P0.ah 1 rfl).cell 1).trans acb;have K1:=aa (show M.e=0->da M.s {x.c with a9:=true,seq:=0} x.id k from λY=>by
    rw[W0]at Y⊢;exact Y0.open_ M0 Y)
   have HV:=aa (show∀v,M.e=0->v=(M.s.apply ⟨3,x.id,0+1,o.r,2,0,0⟩)->v.e=0->0<=v.v/\v.v<18446744073709551616 from λv Y T0=>by
    rw[iN (by simp[Y])]at ew;exact hv v F0 S0 (by rw[ew]) (by rw[ew];exact T0))
   have HY:=aa (show y=if M.e≠0 then⟨M.s,x.c,M.e⟩else mU M.s x.id {x.c with a9:=true,seq:=0} o.r by
    rw[hy,EA,ew];by_cases Y:M.e=0
    ·rw[iN (show¬M.e≠0 by simp[Y]),iN (show¬M.e≠0 by simp[Y])]
     exact iN (show¬(0:Int)≠0 by simp)
    ·rw[iP (show M.e≠0 from Y),iP (show M.e≠0 from Y)]
     exact(iP (show M.e≠0 from Y)).symm)
   clear A P0 ew hs h0 h3 M0 hk hv hl hd ht hi B1 F0 S0 hy EA G0 Y0 X0 W0;have Z:=h.alloc 30 (dW o W J);obtain⟨q,c⟩:=nM (w.heap.size);obtain⟨l,P,T,O,C,R,V⟩:=(Z.ah 0 rfl).seven;rw[<-c]at Z;refine bq c Z λN0 C0=>?_;clear h Z c
   go_enter func36,ntmps36
   go_wp2_with fail
   rw[<-N0.out];clear l P T O C R V;have E0:=G1.ok d.1 d.2.1 abX;refine qK (Em B g b x x.c.bl x.c.wr S ⟨2,0,0,0,0,0,0⟩ _ E0 (RS d.1 d.2.1 (.inr rfl)) (.inr rfl) (C0.pk 4 [1,2,3,0])) λz h=>?_;have h:St I z (ab B 55 (wC b)::ez b.gv (S.apply ⟨2,x.id,0,0,0,0,0⟩).s::ak x g x.c.bl x.c.wr::ab q 30 (dW o W J)::L):=h;rw[<-C1.out]at h;have H1:=aa h;clear h C0 E0
   go_wp2_with fail
   have E0:=I1.ok d.1 d.2.1 abX;refine qK (Em B g b x x.c.bl x.c.wr s1.s ⟨1,0,0,0,0,0,0⟩ _ E0 (RS d.1 d.2.1 (.inl rfl)) (.inl rfl) H1) λw2 h=>?_;rw[show dH.of ⟨1,0,0,0,0,0,0⟩ x=⟨1,x.id,0,0,0,0,0⟩from rfl,<-F1.out]at h⊢;have h:St I w2 (ab B 55 (wC b)::ez b.gv M.s::ak x g x.c.bl x.c.wr::ab q 30 (dW o W J)::L):=h;have G:=h.alloc 158 (aN M.e M.v);have r0:World.cell? _ ⟨w2.heap.size,0,none⟩=some (iI M.e):=(G.ah 0 rfl).cell 0;clear H1 E0;by_cases Y:M.e=0
   ·have e0:(M.e !=0)=false:=by simp[Y]
    have S1:=aa Y;obtain⟨vC,uC,hC⟩:=(G.fi 3).bB;have k1:World.cell? _ ⟨g,1,none⟩=some (.bool x.c.a9):=(hC.ah 0 rfl).cell 1;have kf:=(hC.ah 0 rfl).frozen;have h4:=St.dN (x':=⟨x.id,{x.c with a9:=true},x.p⟩) (G.front (X:=ak x g x.c.bl x.c.wr)) 1 (.bool true) (λ_ _=>rfl);obtain⟨vE,uE,hE⟩:=h4.bB;have k2:World.cell? _ ⟨g,2,none⟩=some (iW x.c.seq):=(hE.ah 0 rfl).cell 2;have kg:=(hE.ah 0 rfl).frozen;have h5:=St.dN (x':=⟨x.id,{x.c with a9:=true,seq:=0},x.p⟩) h4 2 (iW 0) (λ_ _=>rfl);obtain⟨D,D0⟩:∃D:CX,D=⟨x.id,{x.c with a9:=true,seq:=0},x.p⟩:=⟨_,rfl⟩;have HX:=aa D0;have J1:=aa (show da M.s D.c D.id k by rw[D0];exact K1 Y);have E1:=aa (show 0<=D.id/\D.id<3/\0<=k/\k<4000000000 by rw[D0];exact d.out);have M1:=aa (show y=mU M.s D.id D.c o.r by rw[D0,HY.out];exact iN (by simp[Y]));have L1:=aa (show∀v,v=(M.s.apply ⟨3,D.id,D.c.seq+1,o.r,2,0,0⟩)->v.e=0->0<=v.v/\v.v<18446744073709551616 by rw[D0];exact λv T0=>HV v Y T0);have HQ:=aa (show dP D.c.seq=D.c.seq+1 by rw[D0];exact zO (cO 0) (show(0:Int)<4294967295 by decide));have H0:=aa (show D.c.a9=true by rw[D0]);have D1:=aa (show D.c.wr.length<=1000000/\∀y∈D.c.wr,y.data.length<=1000000 by rw[D0];exact HD.out);have h6:=h5;rw[<-D0,show x.c.bl=D.c.bl by rw[D0],show x.c.wr=D.c.wr by rw[D0]]at h6;have T:World.cell? _ ⟨q,2,none⟩=some (iI o.r):=(h6.ah 4 rfl).cell 2;have C0:=aa (h6.pk 5 [4,2,3,0]);clear h G hC h4 hE h5 h6 D0 Y G1 I1 d HY HV HD F1 C1 K1;have HS:=J1;have d:=E1;have HY:=M1;have HV:=L1;have HD:=D1;clear J1 E1 M1 L1 D1
    go_wp2_with fail
    clear T k1 k2 kf kg e0 r0;have E0:=HS.ok d.1 d.2.1 abX;have Q0:=CG HS d.1 d.2.1 abX (o:=3) (r:=o.r) (m:=2) (t:=0) ⟨dC,dC⟩ HR ⟨dC,dC⟩ ⟨dC,dC⟩;have R0:=HS.next H0 abX 3 o.r 2 0 0;refine qK (uq B g b D D.c.bl D.c.wr M.s ⟨3,0,0,o.r,2,0,0⟩ _ E0 Q0 (.inl rfl) R0 (C0.pk 4 [1,2,3,0])) λz h=>?_;clear E0 Q0 R0;obtain⟨a,ha⟩:=nM (M.s.apply ⟨3,D.id,D.c.seq+1,o.r,2,0,0⟩);have V0:y=if a.e≠0 then⟨a.s,{D.c with seq:=D.c.seq+1},a.e⟩else if a.v=D.c.tok o.r then cZ a.s D.id {D.c with seq:=D.c.seq+1} o.r a.v else cZ a.s D.id ((({D.c with seq:=D.c.seq+1}:aY).drop o.r).kX o.r.toNat dO.zero) o.r a.v:=by
     rw[HY.out];unfold mU;rw[HQ.out,<-ha]
    have K0:=HS.Gn (o:=3) (.inl rfl) o.r 2 0;rw[<-ha]at K0;have U0:=HV.out a ha;rw[Yh,<-ha]at h⊢;have h:St I z (ab B 55 (wC b)::ez b.gv a.s::ak ⟨D.id,{D.c with seq:=D.c.seq+1},D.p⟩ g D.c.bl D.c.wr::ab q 30 (dW o W J)::L):=h;have G:=h.alloc 158 (aN a.e a.v);obtain⟨ga,J0⟩:=nM (z.heap.size);have r0:World.cell? _ ⟨z.heap.size,0,none⟩=some (iI a.e):=(G.ah 0 rfl).cell 0;rw[<-J0]at G;refine AS J0 G V0 K0 U0 λZ0 H2 I0 A0 O0=>?_;clear h G C0 J0 V0 K0 U0 ha;by_cases Y:a.e=0
    ·have e1:(a.e !=0)=false:=by simp[Y]
     have HE:=aa Y;clear Y
     go_wp2_with fail
     rw[<-Z0.out];clear r0;refine an (I:=I) (L0:=ab B 55 (wC b)::ez b.gv a.s::L) [⟨none,none,λe=>ab q 30 (dW o W J)⟩,⟨none,none,λe=>ab ga 158 (aN a.e a.v)⟩,⟨none,some 7,λe=>ak ⟨D.id,{D.c with seq:=D.c.seq+1},D.p⟩ g D.c.bl D.c.wr⟩,⟨some 7,none,λe=>ak ⟨D.id,{D.c with seq:=D.c.seq+1},D.p⟩ g D.c.bl D.c.wr⟩] [[],[0],[],[2],[2,3],[],[5],[2,3,4,5,6],rG 8] (rG 9) rfl kR kR kR (by rfl) (λ_=>rfl) H2.fk ?_;refine Xi ?_;refine bp 22 (λe=> #[.pointer (some ⟨g,4,none⟩),iI o.r]) (λe=> iU (D.c.tok o.r)) rfl (λe p Lx h=>by(
      have h:=h.fn;refine(lu g ⟨D.id,{D.c with seq:=D.c.seq+1},D.p⟩ D.c.bl D.c.wr o.r _ (h.fi 2)).mono ?_;rintro u wy⟨rfl,Z⟩;exact⟨⟨none,0,default⟩,rfl,Z.pk 3 [1,2,0]⟩)) ?_
     simp only[aW];refine nL ?_;refine aA ?_;intro e z h;have h:=h.fn;have K:=aa (h.pk 0 []);clear h H2;by_cases B0:a.v=D.c.tok o.r
     ·obtain⟨l,P,T,O,C,R,V⟩:=(K.ah 0 rfl).seven
      have y1:World.cell? _ ⟨ga,1,none⟩=some (iU a.v):=(K.ah 1 rfl).cell 1;have F:y=cZ a.s D.id {D.c with seq:=D.c.seq+1} o.r a.v:=by rw[I0.out,iN (by simp[HE.out]),iP B0]
      have U:=aa F;have e3:(a.v !=D.c.tok o.r)=false:=by simp[B0]
      clear F B0
      go_wp2_with fail
      refine qK (mW B g b ⟨D.id,{D.c with seq:=D.c.seq+1},D.p⟩ D.c.bl D.c.wr a.s o.r a.v (k+1) _ A0 d.1 d.2.1 abX H0 HR (O0 HE) (K.pk 5 [3,4,2])) λw5 h=>?_;have h:St I w5 (ab B 55 (wC b)::ez b.gv (cZ a.s D.id {D.c with seq:=D.c.seq+1} o.r a.v).s::ak ⟨D.id,(cZ a.s D.id {D.c with seq:=D.c.seq+1} o.r a.v).c,D.p⟩ g D.c.bl D.c.wr::L):=h;have H:=oU a.s D.id {D.c with seq:=D.c.seq+1} o.r a.v;rw[<-U.out]at h H;have EY:=U.out;rw[show(cZ a.s (CX.id ⟨D.id,{D.c with seq:=D.c.seq+1},D.p⟩) (CX.c ⟨D.id,{D.c with seq:=D.c.seq+1},D.p⟩) o.r a.v).e=y.e by rw[EY]];refine bq h H λN Q=>?_;clear h H K EY l P T O C R V y1
      go_wp2_with fail
      go_ret2
      refine⟨rfl,D.p,λj=> .inl ⟨by rw[HX.out],by rw[Q.out.2.2];show D.c.r j=x.c.r j;rw[HX.out]⟩,?_⟩;rw[Q.out.1,Q.out.2.1];exact(by have h9:=N.out;rw[show D.id=x.id by rw[HX.out]]at h9;exact h9)
     ·have e3:(a.v !=D.c.tok o.r)=true:=by simp[B0]
      have F:y=cZ a.s D.id ((({D.c with seq:=D.c.seq+1}:aY).drop o.r).kX o.r.toNat dO.zero) o.r a.v:=by rw[I0.out,iN (by simp[HE.out]),iN B0]
      rw[show o.r.toNat=i by rw[HI.out];rfl]at F;have U:=aa F;clear F B0
      go_wp2_with fail
      refine an (I:=I) (L0:=ab ga 158 (aN a.e a.v)::ab B 55 (wC b)::ez b.gv a.s::L) [⟨none,none,λe=>ab q 30 (dW o W J)⟩,⟨none,some 5,λe=>ak ⟨D.id,{D.c with seq:=D.c.seq+1},D.p⟩ g D.c.bl D.c.wr⟩,⟨some 5,none,λe=>ak ⟨D.id,{D.c with seq:=D.c.seq+1},D.p⟩ g (D.c.bl.filter (λy=> !ao o.r y)) (D.c.wr.filter (λy=> !ao o.r y))⟩] [[],[0],[0,1],[],[3],rG 5] (rG 6) rfl kR kR kR (by rfl) (λ_=>rfl) K.fk ?_;refine sW ?_;refine bp 63 (λe=> #[.pointer (some ⟨g,20,none⟩),iI o.r]) (λe=>(e 5).v) rfl (λe p Lx h=>by(
       have h:=h.fn;refine(DF (cx:=⟨D.id,{D.c with seq:=D.c.seq+1},D.p⟩) g D.c.bl D.c.wr o.r _ HD.1 HD.2 (h.fi 1)).mono ?_;rintro u wy⟨v6,rfl,Z⟩;exact⟨⟨none,0,v6⟩,rfl,Z.pk 3 [2,1]⟩)) ?_
      simp only[aW];refine aA ?_;intro e z h;have h:=h.fn;have H4:Hid (St I z (ab q 30 (dW o W J)::ak ⟨D.id,({D.c with seq:=D.c.seq+1}:aY).drop o.r,D.p⟩ g (D.c.bl.filter (λy=> !ao o.r y)) (D.c.wr.filter (λy=> !ao o.r y))::ab ga 158 (aN a.e a.v)::ab B 55 (wC b)::ez b.gv a.s::L)):=h;clear h K
      go_wp2_with fail
      refine an (I:=I) (L0:=ab ga 158 (aN a.e a.v)::ab B 55 (wC b)::ez b.gv a.s::L) [⟨none,none,λe=>ab q 30 (dW o W J)⟩,⟨none,some 7,λe=>ak ⟨D.id,({D.c with seq:=D.c.seq+1}:aY).drop o.r,D.p⟩ g (D.c.bl.filter (λy=> !ao o.r y)) (D.c.wr.filter (λy=> !ao o.r y))⟩,⟨some 7,none,λe=>ak (CX.Hb ⟨D.id,({D.c with seq:=D.c.seq+1}:aY).drop o.r,D.p⟩ i) g (D.c.bl.filter (λy=> !ao o.r y)) (D.c.wr.filter (λy=> !ao o.r y))⟩] [[],[],[1],[],[0],[0,4],rG 6,rG 7] (rG 8) rfl kR kR kR (by rfl) (λ_=>rfl) H4.fk ?_;refine xQ ?_;refine mH (λe=> iI (i:Nat)) rfl (λe p Lx h=>by(have h:=h.fn;obtain⟨l,P,T,O,C,R,V⟩:=(h.ah 0 rfl).seven;rw[HI.out]at T;go_simp;try rfl)) ?_;simp only[aW];refine mH (λe=> .agg #[iW 0,.bool false,.bool false,sN,iI 0]) rfl (λe p Lx h=>by(have R1:=BT p;go_simp;try rfl)) ?_;simp only[aW];refine xQ ?_;refine mH (λe=> .pointer (some ⟨g,22+i*5,none⟩)) rfl (λe p Lx h=>by(have i0:(0:Int)<=(i:Int):=oM;have i1:(i:Int)<4:=(by have:=n.out;omega);go_simp;try rfl)) ?_;simp only[aW];refine lM (λe=> .pointer (some ⟨g,22+i*5,none⟩)) (λe=> .agg #[iW 0,.bool false,.bool false,sN,iI 0]) rfl rfl (λe p Lx h=>by(
       have h:=h.fn;obtain⟨v,u,A⟩:=(h.fi 1).bB;have q0:p.cell? ⟨g,22+i*5,none⟩=some (iW (D.c.r i).seq):=((A.ah 0 rfl).cell (22+i*5+0)).trans (nV ⟨D.id,({D.c with seq:=D.c.seq+1}:aY).drop o.r,D.p⟩ v u n);have q1:p.cell? ⟨g,22+i*5+1,none⟩=some (.bool (D.c.r i).cS):=((A.ah 0 rfl).cell (22+i*5+1)).trans (xX ⟨D.id,({D.c with seq:=D.c.seq+1}:aY).drop o.r,D.p⟩ v u n);have q2:p.cell? ⟨g,22+i*5+2,none⟩=some (.bool (D.c.r i).dh):=((A.ah 0 rfl).cell (22+i*5+2)).trans (uN ⟨D.id,({D.c with seq:=D.c.seq+1}:aY).drop o.r,D.p⟩ v u n);have q3:p.cell? ⟨g,22+i*5+3,none⟩=some (D.p i):=((A.ah 0 rfl).cell (22+i*5+3)).trans (fv ⟨D.id,({D.c with seq:=D.c.seq+1}:aY).drop o.r,D.p⟩ v u n);have q4:p.cell? ⟨g,22+i*5+4,none⟩=some (iI (D.c.r i).bu):=((A.ah 0 rfl).cell (22+i*5+4)).trans (qW ⟨D.id,({D.c with seq:=D.c.seq+1}:aY).drop o.r,D.p⟩ v u n);have Q1:=(A.ah 0 rfl).frozen;have hs:=(h.fi 1).QH n;exact⟨_,gS,hs.fk⟩)) ?_
      simp only[Act.put];refine aA ?_;intro e z h;have h:=h.fn;have N:=aa h;clear h H4;obtain⟨l,P,T,O,C,R,V⟩:=(N.ah 0 rfl).seven;have y1:z.cell? (aD ga 1)=some (iU a.v):=(N.ah 2 rfl).cell 1;have A1:=aa (show da a.s (CX.c (CX.Hb ⟨D.id,({D.c with seq:=D.c.seq+1}:aY).drop o.r,D.p⟩ i)) (CX.id (CX.Hb ⟨D.id,({D.c with seq:=D.c.seq+1}:aY).drop o.r,D.p⟩ i)) (k+1)from⟨A0.be,A0.len,A0.Ke,A0.Lq,A0.num⟩)
      go_wp2_with fail
      refine qK (mW B g b (CX.Hb ⟨D.id,({D.c with seq:=D.c.seq+1}:aY).drop o.r,D.p⟩ i) (D.c.bl.filter (λy=> !ao o.r y)) (D.c.wr.filter (λy=> !ao o.r y)) a.s o.r a.v (k+1) _ A1 d.1 d.2.1 abX H0 HR (O0 HE) (N.pk 5 [3,4,1])) λw6 h=>?_;have EY:y=cZ a.s (CX.id (CX.Hb ⟨D.id,({D.c with seq:=D.c.seq+1}:aY).drop o.r,D.p⟩ i)) (CX.c (CX.Hb ⟨D.id,({D.c with seq:=D.c.seq+1}:aY).drop o.r,D.p⟩ i)) o.r a.v:=U.out;have H:=oU a.s (CX.id (CX.Hb ⟨D.id,({D.c with seq:=D.c.seq+1}:aY).drop o.r,D.p⟩ i)) (CX.c (CX.Hb ⟨D.id,({D.c with seq:=D.c.seq+1}:aY).drop o.r,D.p⟩ i)) o.r a.v;rw[<-EY]at h H⊢;refine bq h H λH6 Q=>?_;clear h H N EY l P T O C R V y1
      go_wp2_with fail
      go_ret2
      refine⟨rfl,aI D.p i sN,λj=> ?_,?_⟩
      ·rw[Q.out.2.2]
       by_cases hj:j=i
       ·exact .inr ⟨iP hj,by show(aI D.c.r i dO.zero j).aq=[];rw[show aI D.c.r i dO.zero j=dO.zero from iP hj];rfl⟩
       ·exact .inl ⟨(iN hj).trans (by rw[HX.out]),(show aI D.c.r i dO.zero j=D.c.r j from iN hj).trans (by rw[HX.out])⟩
      ·rw[Q.out.1,Q.out.2.1]
       exact(by have h9:=H6.out;exact(show D.id=x.id by rw[HX.out])▸h9)
    ·have e1:(a.e !=0)=true:=by simp[Y]
     have F:y=⟨a.s,{D.c with seq:=D.c.seq+1},a.e⟩:=by rw[I0.out,iP Y]
     have U:=aa F;clear F Y
     go_wp2_with (go_quiet (fail))
     go_ret2
     rw[U.out];refine⟨rfl,D.p,λj=> .inl ⟨by rw[HX.out],by show D.c.r j=_;rw[HX.out]⟩,?_⟩;exact(by have h9:=(H2.pk 5 [1,2,3]).drewN nq;exact(show D.id=x.id by rw[HX.out])▸h9)
   ·have e0:(M.e !=0)=true:=by simp[Y]
    refine bq (HY.trans (iP Y)) G λU H2=>?_;clear h G Y
    go_wp2_with (go_quiet (fail))
    go_ret2
    rw[U.out];exact⟨rfl,x.p,λj=> .inl ⟨rfl,rfl⟩,(H2.pk 5 [1,2,3]).drewN nq⟩
end
theorem aau(l:Int):bits .and .i64 l 3=l%4:=by
 have h:bits .and .i64 l 3=IntKind.i64.wrap (((BitVec.ofInt 64 l)&&&(BitVec.ofInt 64 3)).toNat:Int):=rfl;have G:((BitVec.ofInt 64 l)&&&(BitVec.ofInt 64 3)).toNat=(BitVec.ofInt 64 l).toNat%4:=by
  rw[BitVec.toNat_and];exact Nat.and_two_pow_sub_one_eq_mod _ 2
 have M:((BitVec.ofInt 64 l).toNat:Int)=l%18446744073709551616:=by
  rw[BitVec.toNat_ofInt];exact Zi (OC _ dC)
 rw[h,G,IntWalk.i64_in _ oM];omega
theorem sh{I:aK}{L:List az}(M:Nat)(l:Int)(w:World)(h:St I w (ab M 169 #[iI l]::L)):
 Rt I w 70 #[pO M] (iI (l%4)) (ab M 169 #[iI (l/4)]::L):=by
 have D:w.cell? (aD M 0)=some (iI l):=(h.ah 0 rfl).cell 0;have W:=(h.ah 0 rfl).frozen;have H:=aa (h.bE 0 (iI (l/4)));clear h
 go_enter func70,ntmps70
 go_wp2_with fail
 rw[aau]
 go_ret
 exact⟨rfl,H⟩
section
open Go.Shelf
def II(up:Bool)(a:Nat):Value:= .pointer (if up=true then some ⟨a,0,none⟩else none)
def stQ(gs gd:Nat)(X:dz)(p:Nat×Nat×Nat):az:=aX (ab gs 122 (fR 5 gd (II X.up p.1))) (aX (ab p.1 151 (il gd p.2.1 p.2.2 0 8 X.s.dn)) (aX (jR p.2.1 gd X.s.J) (aX (dq p.2.2 X.s.M) (di gd X.s.D))))
def uP(gs gd:Nat)(X:dz):az:=Bc (stQ gs gd X)
def ko(w:World)(K:LV)(x:Int×RQ):Prop:=∃i A n k,K=(iC 11 x.1 5 i false (.slice A n k)).toList/\ay w .u8 (.slice A n k) (aZ x.2)
abbrev WX.aw(b:WX)(v:Value):WX:=⟨b.gv,b.gd,b.gs,b.g0,b.g1,b.g2,v,b.ev⟩
def Ym(B:Nat)(b:WX)(X:dz)(v:Value):az:=aX (ab B 55 (wC (b.aw v))) (aX (aB 184 10 ko v X.aw) (uP b.gs b.gd X))
def bU(B:Nat)(b:WX)(X:dz):az:=Bc (Ym B b X)
section
variable {I:aK} {w:World} {L:List az} {B gs gd a j i:Nat} {X:dz} {b:WX} {v:Value}
theorem St.stO(h:St I w (uP gs gd X::L)):∃a j i,St I w (ab gs 122 (fR 5 gd (II X.up a))::eJ a gd j i 0 8 X.s L):=by
 obtain⟨⟨a,j,i⟩,h⟩:=h.ex;have Z:St I w (aX (ab gs 122 (fR 5 gd (II X.up a))) (aX (ab a 151 (il gd j i 0 8 X.s.dn)) (aX (jR j gd X.s.J) (aX (dq i X.s.M) (di gd X.s.D))))::L):=h;have G:=Z.star.swap.star.swap.star.swap.star;refine⟨a,j,i,G.sub ?_⟩;unfold eJ
 exact sU
theorem St.Xm(h:St I w (ab gs 122 (fR 5 gd (II X.up a))::eJ a gd j i 0 8 X.s L)):St I w (uP gs gd X::L):=by
 have Z:St I w (dq i X.s.M::di gd X.s.D::jR j gd X.s.J::ab a 151 (il gd j i 0 8 X.s.dn)::ab gs 122 (fR 5 gd (II X.up a))::L):=h.sub abP;have G:=Z.aM.swap.aM.swap.aM.swap.aM;exact St.eu (f:=stQ gs gd X) (a,j,i) G
theorem St.zr(h:St I w (bU B b X::L)):∃A c,X.aw.length<=c/\c<=9223372036854775807/\St I w (ab B 55 (wC (b.aw (.slice A X.aw.length c)))::aB 184 10 ko (.slice A X.aw.length c) X.aw::uP b.gs b.gd X::L):=by
 obtain⟨v,h⟩:=h.ex;have Z:St I w (aX (ab B 55 (wC (b.aw v))) (aX (aB 184 10 ko v X.aw) (uP b.gs b.gd X))::L):=h;have G:=Z.star.swap.star;obtain⟨A,c,rfl,D,p⟩:=G.eT;exact⟨A,c,D,by unfold maxLen at p;omega,G.sub⟩
theorem St.rK(h:St I w (ab B 55 (wC (b.aw v))::aB 184 10 ko v X.aw::uP b.gs b.gd X::L)):St I w (bU B b X::L):=by
 have Z:=(h.pk 3 [1,2,0]).aM.swap.aM;exact St.eu (f:=Ym B b X) v Z
end
theorem NR(m:Nat->Rg)(r:RQ):0<=(aE m r).2/\(aE m r).2<256:=by
 have M:r.b9=0\/r.b9=1\/r.b9=2:=by
  unfold RQ.b9
  split
  ·exact .inr (.inl rfl)
  ·split
   ·exact .inr (.inr rfl)
   ·exact adH
 unfold aE
 split
 ·show 0<=r.b9/\r.b9<256
  omega
 split;· decide
 split;· decide
 split;· decide
 split
 ·unfold Rg.next Rg.nC
  have G:∀n,0<=(Rg.cT n r).2/\(Rg.cT n r).2<256:=by
   exact aeW
  exact aeg
 ·decide
def YH(v:Value)(f i:Int)(ok:Bool)(X:LI)(p:Nat×OA×Nat):az:=aX (kd (v= .slice (aO p.1) 1 1)) (aX (ab p.1 184 (iC 12 5 f i ok (.slice p.2.1 X.length p.2.2))) (ai .u8 (.slice p.2.1 X.length p.2.2) X))
def Ua(v:Value)(f i:Int)(ok:Bool)(X:LI):az:=Bc (YH v f i ok X)
theorem St.Yd{I:aK}{w:World}{L:List az}{v:Value}{f i:Int}{ok:Bool}{X:LI}(h:St I w (Ua v f i ok X::L)):∃B A c,v= .slice (aO B) 1 1/\St I w (ab B 184 (iC 12 5 f i ok (.slice A X.length c))::ai .u8 (.slice A X.length c) X::L):=by
 obtain⟨⟨B,A,c⟩,h⟩:=h.ex;have Z:St I w (aX (kd (v= .slice (aO B) 1 1)) (aX (ab B 184 (iC 12 5 f i ok (.slice A X.length c))) (ai .u8 (.slice A X.length c) X))::L):=h;obtain⟨e,G⟩:=Z.star.xl;exact⟨B,A,c,e,G.star⟩
theorem zi{I:aK}{L:List az}(u:kL I)(gs gd:Nat)(f i:Int)(X:dz)(q:RQ){N:Nat->Rg}{n:Nat}(A:OA)(m c:Nat)(w:World)(K:fN X N n T)(W:n<=900000)(x:T<256)(d:eV q)
 (h:St I w (ai .u8 (.slice A m c) (aZ q)::uP gs gd X::L)):
 Calls prog 75 #[pO gs,wh 11 f 5 i false (.slice A m c)] w λe O=>
  (X.hZ q=true/\∃v,e= .returned v/\St I O (Ua v f i ((aE X.s.M q).2==0) (rL X.s.M q)::uP gs gd (X.cI q)::L))\/
  (X.hZ q=false/\e= .returned sN/\St I O (uP gs gd (X.cI q)::L)):=by
 obtain⟨a,j,g,Z⟩:=h.swap.stO
 cases y:X.up with
 |false=>
  have C:X.cI q=X:=iN (by rw[y];decide);have Y:X.hZ q=false:=by unfold dz.hZ;rw[y];rfl
  rw[y]at Z;have G:St I w (ab gs 122 (fR 5 gd (.pointer none))::eJ a gd j g 0 8 X.s (ai .u8 (.slice A m c) (aZ q)::L)):=Z;refine qK (Pv gs gd 5 11 f 5 i false A m c w G) λO M=>?_;refine .inr ⟨Y,rfl,?_⟩;rw[C];have S:St I O (ab gs 122 (fR 5 gd (II X.up a))::eJ a gd j g 0 8 X.s (ai .u8 (.slice A m c) (aZ q)::L)):=by rw[y];exact M
  exact S.Xm.sub
 |true=>
  obtain⟨_,b⟩:=K.c.same y;have E:=b.mi;have F:=b.sok oM 0;rw[y]at Z;have G:St I w (ai .u8 (.slice A m c) (aZ q)::ab gs 122 (fR 5 gd (pO a))::eJ a gd j g 0 8 X.s L):=(show St I w (ab gs 122 (fR 5 gd (pO a))::eJ a gd j g 0 8 X.s (ai .u8 (.slice A m c) (aZ q)::L))from Z).sub abP;have o:X.cI q=⟨X.s.jX 0 8 q,(X.s.mB 0 8 q !=43),X.aw⟩:=iP y;rcases b.jX oM x d.ok d.b with⟨d1,d2,d3,_⟩|⟨d1,d2,d3,d4,_⟩
  ·have D:=lI X.s.M q
   have k:=VL d1;have R:(X.s.jX 0 8 q).D.down=false:=d2.c.dn;have l:(X.s.mB 0 8 q !=43)=true:=by rw[d1];simp[D.2.2]
   refine(SQ u gs a gd j g 0 5 f i false X.s q A m c w oM F d.ok d.b d.w (by rw[d1];omega) (by rw[d1];exact D.2.2) R (by rw[k];have:=yB E.ok d.ok;omega) G).mono ?_;rintro e O⟨B,r,P,rfl,M⟩;rw[k,d1]at M;refine .inl ⟨by unfold dz.hZ;rw[y,l];rfl,_,rfl,?_⟩;rw[o,l];have S:St I O (ab gs 122 (fR 5 gd (pO a))::eJ a gd j g 0 8 (X.s.jX 0 8 q) (ab B 184 (iC 12 5 f i ((aE X.s.M q).2==0) (.slice r (rL X.s.M q).length P))::ai .u8 (.slice r (rL X.s.M q).length P) (rL X.s.M q)::L)):=M.sub (by unfold eJ rL;exact sU);have U:=St.Xm (a:=a) (j:=j) (i:=g) (X:=⟨X.s.jX 0 8 q,true,X.aw⟩) S;have V:=(U.pk 3 [1,2,0]).aM;have Q:=(V.ul (p:=Value.slice (aO B) 1 1=Value.slice (aO B) 1 1) rfl).aM;exact St.eu (f:=YH (.slice (aO B) 1 1) f i ((aE X.s.M q).2==0) (rL X.s.M q)) (B,r,P) Q
  ·have l:(X.s.mB 0 8 q !=43)=false:=by rw[d1];rfl
   refine qK (Tk u gs a gd j g 0 5 f i false X.s q A m c w oM F d.ok d.b d.w d1 G) λO M=>?_;refine .inr ⟨by unfold dz.hZ;rw[y,l];rfl,rfl,?_⟩;rw[o,l];exact St.Xm (a:=a) (j:=j) (i:=g) (X:=⟨X.s.jX 0 8 q,false,X.aw⟩) M
theorem MW:fY prog 53 184 (.agg (iC 0 0 0 0 false sN)) 10 112:=⟨underlying53,kR,kR,oM⟩
theorem It(w:World)(k f t i:Int)(A:OA)(n c:Nat):(Instr.buildSlice 53 1 #[(0,wh k f t i false (.slice A n c))]).run prog w= .ok (.slice (aO w.heap.size) 1 1) (w.alloc (.cells (iC k f t i false (.slice A n c)) 184)):=kR
theorem Ux(k f t i:Int)(A:OA)(n c:Nat):∀u∈(iC k f t i false (.slice A n c)).toList,u.oneCell'=true:=by
 have h:(iC k f t i false (.slice A n c)).toList.all (λu=>u.oneCell')=true:=rfl;exact AR.1 h
theorem VF{w:World}{g:Nat}{cs:LV}(h:eK w g 184 cs.toArray)(F:cs.length=10):Sl w Any 10 (aO g) 1 cs:=F▸yl h
theorem QX{M:Nat->Rg}{q:RQ}(p:MI M)(d:q.ok):(rL M q).length<=1000000:=by
 have Z:=yB p.ok d;have G:=Jm p.ok d;have K:∀l:List (LI),(∀x∈l,x.length<=24)->(l.flatMap bG).length<=32*l.length:=by
  intro l
  induction l with
  |nil=>exact λ_=>io 0
  |cons a l g=>
   intro h;have T:=h a Eg;have B:=g λx J=>h x (Bd _ J);rw[BA,dB,qR];have D:(bG a).length<=26:=by unfold bG;rw[dB,fV,au];omega
   omega
 have S:=K _ G;unfold rL kt;rw[dB,dB,au,au];omega
theorem r9(X:dz)(q:RQ):(X.cI q).aw=X.aw:=by
 unfold dz.cI
 split<;>rfl
theorem sy{I:aK}{L:List az}(hT:kL I)(B g:Nat)(b:WX)(x:CX)(bl wr:List PU)(X:dz)(q:RQ){J0:Nat->Rg}{n:Nat}(i:Int)(A:OA)(m c:Nat)(w:World)(S:fN X J0 n T)(hn:n<=800000)(B0:T<256)(U:eV q)(hl:0<=i/\i<4)
 (h:St I w (ai .u8 (.slice A m c) q.data::bU B b X::ak x g bl wr::L)):
 Calls prog 69 #[pO B,pO g,nv q (.slice A m c),iI i] w λe F0=>∃vs,e= .returned (.tuple #[vs,iI (X.ask x.id q i).e])/\St I F0 (aG 1 dG vs (X.ask x.id q i).l::bU B b (X.ask x.id q i).x::ak x g bl wr::L):=by
 have H:∀k,k=1\/k=3->X.ask x.id q k=⟨X,[],111⟩:=λk hk=>iP oM;have G:∀k,k=0\/k=2->X.ask x.id q k=if(X.send x.id q).hZ q=false\/2<=k then⟨(X.send x.id q).cI q,[],111⟩else⟨(X.send x.id q).cI q,mu X.s.M q,(aE X.s.M q).2⟩:=λk hk=>(iN oM).trans (iN (by rw[U.w];simp));have C0:fN (X.send x.id q) J0 (n+1) T:=by
  refine⟨fN.mono ⟨S.c,S.l,S.g⟩ (Nat.le_succ n) (cO _)|>.c,by show(X.aw++[(x.id,q)]).length<=n+1;rw[dB];exact zdb S.l,λM0 o=> ?_⟩;rcases oc.1 (show M0∈X.aw++[(x.id,q)]from o)with o|o
  ·exact S.g M0 o
  ·rw[nN.1 o];exact U
 have D0:X.aw.length<=800000:=qJ S.l hn;refine iG U (And.intro C0 (And.intro (show n+1<=900000 by omega) B0)) D0 λE D I0=>?_;have Z:=h.alloc 175 #[iI q.op,iI q.region,iI q.index,iU q.token,iW q.seq,.slice A m c];obtain⟨gq,W⟩:=nM (w.heap.size);rw[<-W]at Z;have N0:=aa W;have P0:i=1\/i=3\/i=0\/i=2:=oM
 rcases P0 with rfl|rfl|rfl|rfl
 ·rw[H 1 oM]
  exact adV
 ·rw[H 3 oM]
  exact adV
 case' inr.inr.inl=>
  have ea:=G 0 oM;obtain⟨y,hy⟩:=nM (X.ask x.id q 0)
 case' inr.inr.inr=>
  have ea:=G 2 oM;obtain⟨y,hy⟩:=nM (X.ask x.id q 2)
 all_goals
  rw[<-hy]at ea⊢;have HY:=aa ea;obtain⟨V,d,R0,S0,h2⟩:=(Z.fi 2).zr;have H0:=aa (h2.pk 6 [3,4,5,0,1,2]);have T0:(X.aw.length:Int)<=800000:=oM
  have wl:IntKind.u64.wrap (X.aw.length:Int)=(X.aw.length:Int):=IntWalk.u64_in _ oM;clear h Z h2 W H G S C0 D0 U hn B0 hl ea hy
  go_enter func69,ntmps69
  go_wp2_with fail
  rw[<-N0.out];refine an (I:=I) (L0:=aB 184 10 ko (.slice V X.aw.length d) X.aw::uP b.gs b.gd X::L) [⟨none,none,λe=>ab gq 175 #[iI q.op,iI q.region,iI q.index,iU q.token,iW q.seq,.slice A m c]⟩,⟨none,none,λe=>ak x g bl wr⟩,⟨none,none,λe=>ab B 55 (wC (b.aw (.slice V X.aw.length d)))⟩,⟨none,some 11,λe=>ai .u8 (.slice A m c) q.data⟩,⟨some 11,none,λe=>ai .u8 (.slice (e 11).A (aZ q).length (e 11).n) (aZ q)⟩,⟨some 15,some 16,λe=>ab (e 15).n 184 (iC 0 0 0 0 false sN)⟩,⟨some 16,none,λe=>ab (e 15).n 184 (iC 11 x.id 5 X.aw.length false (.slice (e 11).A (aZ q).length (e 11).n))⟩] [[],[0],[0,1],rG 3,[],[4],[4,5],[4,5,6],[4,5,6,7],[4,5,6,7,8],[],rG 11,rG 12,rG 13,rG 13,[],[0,1,2,3,4,5,6,7,8,9,10,11,12,13,15],rG 17] (rG 18) rfl kR kR kR (by rfl) (λ_=>rfl) H0.fk ?_
  iterate 2 (refine Cn ?_;refine mH _ rfl (λe p O h=>by(have h:=h.fn;obtain⟨z0,z1,z2,z3,z4,z5⟩:=(h.ah 0 rfl).ng;obtain⟨v,u,hB⟩:=(h.fi 1).bB;have k0:p.cell? (aD g 0)=some (iI x.id):=(hB.ah 0 rfl).cell 0;have q2:p.cell? (aD B 2)=some (pO b.gs):=(h.ah 2 rfl).cell 2;have q6:p.cell? (aD B 6)=some (.slice V X.aw.length d):=(h.ah 2 rfl).cell 6;go_simp;try rfl)) ?_;simp only[aW])
  refine xQ ?_;refine mH _ rfl (λe p O h=>by(have h:=h.fn;obtain⟨z0,z1,z2,z3,z4,z5⟩:=(h.ah 0 rfl).ng;obtain⟨v,u,hB⟩:=(h.fi 1).bB;have k0:p.cell? (aD g 0)=some (iI x.id):=(hB.ah 0 rfl).cell 0;have q2:p.cell? (aD B 2)=some (pO b.gs):=(h.ah 2 rfl).cell 2;have q6:p.cell? (aD B 6)=some (.slice V X.aw.length d):=(h.ah 2 rfl).cell 6;go_simp;try rfl)) ?_;simp only[aW];refine bp 109 (λe=> #[iI x.id,iI 5,iU X.aw.length,nv q (.slice A m c)]) (λe=> .tuple #[wh 11 x.id 5 X.aw.length false (.slice (e 11).A (aZ q).length (e 11).n),iI 0]) rfl (λe p O h=>by(
   have h:=h.fn;refine(Ws x.id 5 X.aw.length q A m c _ E.ok E.w (h.fi 3)).mono ?_;rintro u wy⟨r,P,rfl,Z⟩;exact⟨⟨r,P,default⟩,rfl,Z.pk 4 [1,2,3,0]⟩)) ?_
  simp only[aW];refine Cn ?_;refine GP (λe=> .pointer (some ⟨(e 15).n,0,none⟩)) rfl (λe p O h=>by(
   have h:=h.fn;have ha:=h.alloc 184 (iC 0 0 0 0 false sN);exact⟨⟨none,p.heap.size,default⟩,_,gS,ha.fk⟩)) ?_
  simp only[aW];refine lM (λe=> .pointer (some ⟨(e 15).n,0,none⟩)) (λe=>wh 11 x.id 5 X.aw.length false (.slice (e 11).A (aZ q).length (e 11).n)) rfl rfl (λe p O h=>by(
   have h:=h.fn;have hf:=h.fi 4;obtain⟨m0,m1,m2,m3,m4,m5,m6,m7,m8,m9⟩:=(hf.ah 0 rfl).SV;have fz:=(hf.ah 0 rfl).frozen;have hs:=hf.Ra (iI 11) (iI x.id) (iI 5) (iU 0) (iU X.aw.length) (iU 0) (iU 0) (.bool false) (.slice (e 11).A (aZ q).length (e 11).n) sN;exact⟨_,gS,hs.fk⟩)) ?_
  simp only[Act.put];refine nL ?_;refine aA ?_;intro e z h;have h:=h.fn;have F:=aa (h.pk 1 []);clear h H0
  go_wp2_with fail
  generalize(e 11).A=r at F⊢;generalize(e 11).n=P at F⊢;generalize(e 15).n=gm at F⊢;refine an (I:=I) (L0:=uP b.gs b.gd (X.send x.id q)::ak x g bl wr::L) [⟨none,some 10,λe=>ab B 55 (wC (b.aw (.slice V X.aw.length d)))⟩,⟨none,none,λe=>ab gm 184 (iC 11 x.id 5 X.aw.length false (.slice r (aZ q).length P))⟩,⟨none,none,λe=>ai .u8 (.slice r (aZ q).length P) (aZ q)⟩,⟨none,some 7,λe=>aB 184 10 ko (.slice V X.aw.length d) X.aw⟩,⟨some 6,none,λe=>ab (e 6).n 184 (iC 11 x.id 5 X.aw.length false (.slice r (aZ q).length P))⟩,⟨some 7,none,λe=>aB 184 10 ko (.slice (e 7).A (X.aw.length+1) (e 7).n) (X.aw++[(x.id,q)])⟩,⟨some 10,none,λe=>ab B 55 (wC (b.aw (.slice (e 7).A (X.aw.length+1) (e 7).n)))⟩] [[],[],[1],[1,2],[1,2,3],[],[5],[1,2,3,4,5,6],rG 8,rG 9,rG 10] (rG 11) rfl kR kR kR (by rfl) (λ_=>rfl) (show St I _ (uP b.gs b.gd (X.send x.id q)::_)from F.fi 5).fk ?_;refine KI ?_;refine GP (λe=> .slice (some ⟨(e 6).n,0,none⟩) 1 1) rfl (λe p O h=>by(
   have h:=h.fn;exact⟨⟨none,p.heap.size,default⟩,_,eY rfl rfl (It _ _ _ _ _ _ _ _),((h.alloc 184 (iC 11 x.id 5 X.aw.length false (.slice r (aZ q).length P)))).fk⟩)) ?_
  simp only[aW];refine GP (λe=> .slice (e 7).A (X.aw.length+1) (e 7).n) rfl (λe p O h=>by(
   have h:=h.fn;have hz:=VF (cs:=(iC 11 x.id 5 X.aw.length false (.slice r (aZ q).length P)).toList) (by rw[Array.toArray_toList];exact h.ah 4 rfl) rfl;have o:=(h.jd (Q:=λw=>ay w .u8 (.slice r (aZ q).length P) (aZ q))).bC (R':=λw=>ko w (iC 11 x.id 5 X.aw.length false (.slice r (aZ q).length P)).toList (x.id,q)) (λF0 hi=>⟨_,_,_,_,rfl,hi⟩);obtain⟨A',c',F0,O0,h2⟩:=(o.pk 5 [4,0,1,2,3]).Kg MW _ ⟨(e 6).n,0,none⟩ 1 hz (Ux _ _ _ _ _ _ _) rfl (by have:=I0.out;omega) (by have:=I0.out;omega);exact⟨⟨A',c',default⟩,_,lY rfl rfl rfl O0,h2.fk⟩)) ?_
  simp only[aW];refine xQ ?_;refine lM (λe=> .pointer (some ⟨B,6,none⟩)) (λe=> .slice (e 7).A (X.aw.length+1) (e 7).n) rfl rfl (λe p O h=>by(
   have h:=h.fn;have q2:p.cell? (aD B 2)=some (pO b.gs):=(h.ah 0 rfl).cell 2;have q6:p.cell? (aD B 6)=some (.slice V X.aw.length d):=(h.ah 0 rfl).cell 6;have qf:=(h.ah 0 rfl).frozen;have hs:=(h.fi 0).bx 6 (.slice (e 7).A (X.aw.length+1) (e 7).n) (wC (b.aw (.slice (e 7).A (X.aw.length+1) (e 7).n))) rfl;exact⟨_,gS,hs.fk⟩)) ?_
  simp only[Act.put];refine aA ?_;intro e z h;have h:=h.fn;have Y:=St.rK (X:=X.send x.id q) (h.pk 6 [4,3,5,0,1]);have N:=aa (h.pk 6 [4,3,5,0,1]);clear h Y F
  go_wp2_with fail
  generalize(e 7).A=A7 at N⊢;generalize(e 7).n=c7 at N⊢;have Q0:(X.send x.id q).hZ q=false\/(X.send x.id q).hZ q=true:=by cases(X.send x.id q).hZ q<;>simp
  rcases Q0 with l|l
  ·have t:=aa l
   clear l;refine an (I:=I) (L0:=aB 184 10 ko (.slice A7 (X.aw.length+1) c7) (X.aw++[(x.id,q)])::ak x g bl wr::L) [⟨none,none,λe=>ab B 55 (wC (b.aw (.slice A7 (X.aw.length+1) c7)))⟩,⟨none,none,λe=>ab gm 184 (iC 11 x.id 5 X.aw.length false (.slice r (aZ q).length P))⟩,⟨none,some 5,λe=>ai .u8 (.slice r (aZ q).length P) (aZ q)⟩,⟨none,some 5,λe=>uP b.gs b.gd (X.send x.id q)⟩,⟨some 5,none,λe=>uP b.gs b.gd ((X.send x.id q).cI q)⟩] [[],[0],[0,1],rG 3,[],rG 5,rG 6] (rG 7) rfl kR kR kR (by rfl) (λ_=>rfl) N.fk ?_;refine sW ?_;refine bp 75 (λe=> #[pO b.gs,wh 11 x.id 5 X.aw.length false (.slice r (aZ q).length P)]) (λe=> sN) rfl (λe p O h=>by(
    have h:=h.fn;refine(zi hT b.gs b.gd x.id X.aw.length (X.send x.id q) q r (aZ q).length P _ D.1 D.2.1 D.2.2 E (h.pk 4 [2,3,0,1])).mono ?_;rintro u wy C;rcases C with⟨l,_⟩|⟨_,rfl,Z⟩
    ·rw[t.out]at l;cases l
    exact⟨⟨none,0,default⟩,rfl,Z.pk 3 [1,2,0]⟩)) ?_
   simp only[aW];refine nL ?_;refine aA ?_;intro e z h;have h:=h.fn;have Y:St I z (bU B b ((X.send x.id q).cI q)::ak x g bl wr::L):=St.rK (v:= .slice A7 (X.aw.length+1) c7) (X:=(X.send x.id q).cI q) (by rw[show((X.send x.id q).cI q).aw=X.aw++[(x.id,q)]from r9 _ _];exact h.pk 4 [0,3,2]);have R:=HY.trans (iP (by first|exact .inl t|exact .inr dC));have K:=aa Y;clear h Y N
   exact ae7
  have t:=aa l;clear l;refine an (I:=I) (L0:=aB 184 10 ko (.slice A7 (X.aw.length+1) c7) (X.aw++[(x.id,q)])::ak x g bl wr::L) [⟨none,none,λe=>ab B 55 (wC (b.aw (.slice A7 (X.aw.length+1) c7)))⟩,⟨none,none,λe=>ab gm 184 (iC 11 x.id 5 X.aw.length false (.slice r (aZ q).length P))⟩,⟨none,some 5,λe=>ai .u8 (.slice r (aZ q).length P) (aZ q)⟩,⟨none,some 5,λe=>uP b.gs b.gd (X.send x.id q)⟩,⟨some 5,none,λe=>uP b.gs b.gd ((X.send x.id q).cI q)⟩,⟨some 5,none,λe=>Ua (e 5).v x.id X.aw.length ((aE X.s.M q).2==0) (rL X.s.M q)⟩] [[],[0],[0,1],rG 3,[],rG 5,rG 6] (rG 7) rfl kR kR kR (by rfl) (λ_=>rfl) N.fk ?_;refine sW ?_;refine bp 75 (λe=> #[pO b.gs,wh 11 x.id 5 X.aw.length false (.slice r (aZ q).length P)]) (λe=>(e 5).v) rfl (λe p O h=>by(
   have h:=h.fn;refine(zi hT b.gs b.gd x.id X.aw.length (X.send x.id q) q r (aZ q).length P _ D.1 D.2.1 D.2.2 E (h.pk 4 [2,3,0,1])).mono ?_;rintro u wy C;obtain⟨_,v5,rfl,Z⟩:=C.resolve_right (λhx=>by have j:=hx.1;rw[t.out]at j;cases j);have Z:St I wy (Ua v5 x.id X.aw.length ((aE X.s.M q).2==0) (rL X.s.M q)::uP b.gs b.gd ((X.send x.id q).cI q)::ab B 55 (wC (b.aw (.slice A7 (X.aw.length+1) c7)))::ab gm 184 (iC 11 x.id 5 X.aw.length false (.slice r (aZ q).length P))::O):=Z;exact⟨⟨none,0,v5⟩,rfl,Z.pk 4 [2,3,1,0]⟩)) ?_
  simp only[aW];refine nL ?_;refine aA ?_;intro e z h;have h:=h.fn
 ·have Y:St I z (bU B b ((X.send x.id q).cI q)::ak x g bl wr::L):=St.rK (v:= .slice A7 (X.aw.length+1) c7) (X:=(X.send x.id q).cI q) (by rw[show((X.send x.id q).cI q).aw=X.aw++[(x.id,q)]from r9 _ _];exact h.pk 5 [0,4,2])
  have R:=HY.trans (iP (by first|exact .inl t|exact .inr dC));obtain⟨gA,J,a,hv,A0⟩:=(h.fi 3).Yd;refine bq hv Y λHV K=>?_;clear h Y N A0 hv
  exact ae7
 ·obtain⟨gA,J,a,hv,A0⟩:=(h.fi 3).Yd
  have HV:=aa hv;have R:=HY.trans (iN (by rw[t.out];exact λhx=>hx.elim (λh=>by cases h) nD));have K0:=A0.pk 6 [2,5,4,0,1];have G0:St I z (bU B b ((X.send x.id q).cI q)::ab gA 184 (iC 12 5 x.id X.aw.length ((aE X.s.M q).2==0) (.slice J (rL X.s.M q).length a))::ai .u8 (.slice J (rL X.s.M q).length a) (rL X.s.M q)::ak x g bl wr::L):=St.rK (v:= .slice A7 (X.aw.length+1) c7) (X:=(X.send x.id q).cI q) (by rw[show((X.send x.id q).cI q).aw=X.aw++[(x.id,q)]from r9 _ _];exact K0);obtain⟨m0,m1,m2,m3,m4,m5,m6,m7,m8,m9⟩:=(G0.ah 1 rfl).SV;have K:=aa (G0.pk 3 [2,0]);clear h A0 K0 G0 N HV
  go_wp2_with fail
  have C:X.up=true:=by
   have j:=t.out;unfold dz.hZ at j;exact(Bool.and_eq_true_iff.1 j).1
  have hU:=(D.1.c.same C).2;have M:MI X.s.M:=hU.mi;have E0:=Mt (aE X.s.M q).2 (mu X.s.M q) (NR _ _) (by have:=yB M.ok E.ok;omega) (Jm M.ok E.ok);refine(SZ 5 x.id X.aw.length ((aE X.s.M q).2==0) 0 0 0 sN ⟨none,0,0,rfl⟩ J (rL X.s.M q).length a (rL X.s.M q) _ (JB (Co M.mb E.b)) (QX M E.ok) K).mono ?_;rintro e w2⟨ht,_⟩;obtain⟨vs,rfl,h⟩:=ht E0.2.2;rw[show(xE (rL X.s.M q)).1=(aE X.s.M q).2 by show(xE (kt _ _)).1=_;rw[E0.1]];rw[show(xw (rL X.s.M q)).1=mu X.s.M q by show(xw (kt _ _)).1=_;rw[E0.2.1]]at h;have H4:=aa h;clear h ht K E0 M hU C
  go_wp2_with fail
  go_ret2
  rw[R];exact⟨vs,rfl,H4⟩
end
section
section
variable (x:CX) (y z:dO) (v u:Value) (k:Nat)
theorem kx:(x.bK k y v).c.r k=y:=aT _ _ _
theorem kW:(x.bK k y v).p k=v:=aT _ _ _
theorem Qv(r:Int):(x.bK k y v).c.tok r=x.c.tok r:=rfl
end
theorem KC(n:Int):wrap64 n%4294967296=IntKind.u32.wrap n:=by
 rw[IntKind.wrap_u32];unfold wrap64;omega
theorem zZ{X:dz}{q:RQ}{N:Nat->Rg}{n:Nat}(S:fN X N n T)(d:eV q)(c l:Int):(X.ask c q l).l.length<=4/\∀b∈(X.ask c q l).l,Bytes b/\b.length<=24:=by
 unfold dz.ask
 split
 ·exact aeZ
 ·split
  ·exact aeZ
  ·split
   ·exact aeZ
   ·next h=>
    have H:(X.send c q).hZ q=true:=by
     cases D:(X.send c q).hZ q with
     |true=>rfl
     |false=>exact absurd (.inl D) h
    have y:X.up=true:=by
     unfold dz.hZ at H;exact(Bool.and_eq_true_iff.1 H).1
    have p:=(S.c.same y).2.mi;exact⟨yB p.ok d.ok,λb B=>⟨Co p.mb d.b b B,Jm p.ok d.ok b B⟩⟩
theorem Jh{I:aK}{L:List az}(hT:kL I)(B g M:Nat)(b:WX)(x:CX)(bl wr:List PU)(X:dz){Y0:Nat->Rg}{n:Nat}(k:Nat)(y:dO)(v:Value)(l:Int)(w:World)(hX:fN X Y0 n T)(hn:n<=700000)(W0:T<256)(hk:k<4)(ht:0<=x.c.tok (k:Int)/\x.c.tok (k:Int)<18446744073709551616)
 (h:St I w (bU B b X::ak (x.bK k y v) g bl wr::ab M 169 #[iI (l)]::aG 6 dY v y.aq::L)):
 Calls prog 107 #[pO B,pO g,iI (k:Nat),pO M] w λD0 O=>D0= .returned (iI (cy X x.id (k:Int) (x.c.tok (k:Int)) y l).e)/\∃v',St I O (bU B b (cy X x.id (k:Int) (x.c.tok (k:Int)) y l).x::ak (x.bK k (cy X x.id (k:Int) (x.c.tok (k:Int)) y l).r v') g bl wr::ab M 169 #[iI (cy X x.id (k:Int) (x.c.tok (k:Int)) y l).l]::aG 6 dY v' (cy X x.id (k:Int) (x.c.tok (k:Int)) y l).r.aq::L):=by
 obtain⟨t,S0⟩:=nM (x.c.tok (k:Int));obtain⟨P,hP⟩:=nM (cy X x.id (k:Int) (x.c.tok (k:Int)) y l);rw[<-hP];rw[<-S0]at hP ht;have R0:(0:Int)<=(k:Int)/\(k:Int)<4:=oM
 refine ye (uS R0 ht) (uX R0 ht) (And.intro hX (And.intro hn W0)) hk S0 hP λU0 I0 G d X0 HP=>?_;have i0:(0:Int)<=(k:Int):=oM
 have i1:(k:Int)<4:=oM
 obtain⟨D,o,A⟩:=(h.fi 1).bB;have T0:=aa (h.pk 2 [1,0]);clear h A hX hn W0 hk ht S0 hP R0 D o
 go_enter func107,ntmps107
 go_wp2_with fail
 refine qK (lu g (x.bK k y v) bl wr (k:Int) _ T0) λw1 h=>?_;rw[Qv,<-X0.out];obtain⟨D,o,A⟩:=h.bB;have kf:w1.cell? ⟨g,22+k*5+1,none⟩=some (.bool y.cS):=((A.ah 0 rfl).cell (22+k*5+1)).trans ((xX (x.bK k y v) D o d).trans (by rw[kx]));have F:=aa h;clear h A T0;by_cases W:y.cS=true
 ·rw[W]at kf
  have PL:P=ms X x.id (k:Int) t y l:=by
   rw[HP.out];have:jL X x.id (k:Int) t y l=⟨X,y,l,0⟩:=iP W;unfold cy;rw[this];exact iN abN
  refine bq PL (F.pk 3 [2,1,0]) λM0 F=>?_;clear PL W HP
  go_wp2_with fail
  refine qK (sh M l _ F) λw1 h=>?_;have N:=aa ((h.bH (R:=λw=>ay w .u8 sN []) (λO _=>ay.none_ O _)).pk 4 [0,2,3,1]);clear h F
  go_wp2_with fail
  refine(sy hT B g b (x.bK k y v) bl wr X (jH (k:Int) t) (l%4) none 0 0 _ G.1 (by have:=G.2.1;omega) G.2.2 I0 ⟨OC _ dC,PX _ dC⟩ N).mono ?_;rintro D0 Q⟨vs,rfl,h⟩;have E0:=aa (zZ (G.1) I0 x.id (l%4));obtain⟨a,C⟩:=nM ((X).ask x.id (jH (k:Int) t) (l%4));have h:St I Q (aG 1 dG vs ((X).ask x.id (jH (k:Int) t) (l%4)).l::bU B b ((X).ask x.id (jH (k:Int) t) (l%4)).x::ak (x.bK k y v) g bl wr::ab M 169 #[iI (l/4)]::aG 6 dY v (y).aq::L):=h;rw[show(dz.ask X (x.bK k y v).id (jH (k:Int) t) (l%4)).e=a.e by rw[C];rfl];rw[<-C]at h;have A0:=E0.out;rw[<-C]at A0;have EP:P=if a.e≠0 then⟨a.x,y,l/4,a.e⟩else if jK a.l≠0 then⟨a.x,{y with aq:=dL (k:Int) t 2 a.l},l/4,jK a.l⟩else⟨a.x,{y with aq:=dL (k:Int) t 2 a.l,dh:=true,seq:=IntKind.u32.wrap (2+((dL (k:Int) t 2 a.l).length:Nat))},l/4,0⟩:=by
   rw[M0.out,C]
   rfl
  refine iG EP A0 h λi e K=>?_;clear h A0 EP C E0 N;by_cases Y:a.e=0
  ·have e1:(a.e !=0)=false:=by simp[Y]
   have HE:=aa Y;obtain⟨K0,O0,hV,P0,Q0⟩:=(K.eM 0 rfl).slice;have HV:=aa hV;rw[hV]at K⊢;clear Y hV P0 Q0
   go_wp2_with fail
   refine(Po (k:Int) t 2 a.l K0 _ O0 _ ⟨dC,dC⟩ (by have:=e.1;omega) (λb hb=>⟨(e.2 b hb).1,by have:=(e.2 b hb).2;omega⟩) K).mono ?_;rintro D0 w4⟨V2,rfl,h⟩;obtain⟨r,S,c,G0,H0⟩:=h.eT;obtain⟨q,j⟩:=nM ((dL (k:Int) t 2 a.l).length);have L0:=aa j;rw[<-j]at c;rw[c]at h⊢;obtain⟨D,o,A⟩:=(h.fi 2).bB;have kp:w4.cell? ⟨g,22+k*5+3,none⟩=some v:=((A.ah 0 rfl).cell (22+k*5+3)).trans ((fv (x.bK k y v) D o d).trans (by rw[kW]));have kz:=(A.ah 0 rfl).frozen;have V:=St.dN (h.fi 2) (22+k*5+3) (.slice r q S) (lO x y v (dL (k:Int) t 2 a.l) (.slice r q S) d);have u:=((V.fi 1).nj);by_cases U:jK a.l=0
   ·have e2:(jK a.l !=0)=false:=by simp[U]
    have HR:=aa U;obtain⟨vC,uC,J⟩:=(u.fi 1).bB;have kq:World.cell? _ ⟨g,22+k*5+3,none⟩=some (.slice r q S):=((J.ah 0 rfl).cell (22+k*5+3)).trans ((fv (x.bK k ⟨(y).seq,(y).cS,(y).dh,dL (k:Int) t 2 a.l,(y).bu⟩ (.slice r q S)) vC uC d).trans (by rw[kW]));have kr:World.cell? _ ⟨g,22+k*5+2,none⟩=some (.bool (y).dh):=((J.ah 0 rfl).cell (22+k*5+2)).trans ((uN (x.bK k ⟨(y).seq,(y).cS,(y).dh,dL (k:Int) t 2 a.l,(y).bu⟩ (.slice r q S)) vC uC d).trans (by rw[kx]));have B1:=(J.ah 0 rfl).frozen;have B0:=St.dN (u.fi 1) (22+k*5+2) (.bool true) (Dt x ⟨(y).seq,(y).cS,(y).dh,dL (k:Int) t 2 a.l,(y).bu⟩ (.slice r q S) true d);obtain⟨vD,uD,Z⟩:=B0.bB;have ks:World.cell? _ ⟨g,22+k*5,none⟩=some (iW (y).seq):=((Z.ah 0 rfl).cell (22+k*5)).trans ((nV (x.bK k ⟨(y).seq,(y).cS,true,dL (k:Int) t 2 a.l,(y).bu⟩ (.slice r q S)) vD uD d).trans (by rw[kx]));have C1:=(Z.ah 0 rfl).frozen;have C0:=St.dN B0 (22+k*5) (iW (IntKind.u32.wrap (2+(q:Int)))) (yb x ⟨(y).seq,(y).cS,true,dL (k:Int) t 2 a.l,(y).bu⟩ (.slice r q S) (IntKind.u32.wrap (2+(q:Int))) d);obtain⟨sq,E⟩:=nM (IntKind.u32.wrap (2+(q:Int)));have Q:wrap64 (2+(q:Int))%4294967296=sq:=(KC _).trans E.symm;rw[<-E]at C0;refine iG E (i.trans ((iN (by simp[HE.out])).trans (iN (by simp[U])))) C0 λN0 z p=>?_;clear h A V u B0 C0 J Z K U i j c G0 H0 E
    go_wp2_with fail
    go_ret
    rw[z.out];refine⟨rfl,.slice r q S,?_⟩;show St I _ (bU B b a.x::ak (x.bK k ⟨IntKind.u32.wrap (2+((dL (k:Int) t 2 a.l).length:Nat)),(y).cS,true,dL (k:Int) t 2 a.l,(y).bu⟩ (.slice r q S)) g bl wr::ab M 169 #[iI (l/4)]::aG 6 dY (.slice r q S) (dL (k:Int) t 2 a.l)::L);rw[<-L0.out,<-N0.out];exact p.sub
   ·have e2:(jK a.l !=0)=true:=by simp[U]
    refine bq (i.trans ((iN (by simp[HE.out])).trans (iP U))) u λz p=>?_;clear h A V u K U i j c G0 H0
    go_wp2_with fail
    go_ret
    rw[z.out];refine⟨rfl,.slice r q S,?_⟩;show St I _ (bU B b a.x::ak (x.bK k ⟨(y).seq,(y).cS,(y).dh,dL (k:Int) t 2 a.l,(y).bu⟩ (.slice r q S)) g bl wr::ab M 169 #[iI (l/4)]::aG 6 dY (.slice r q S) (dL (k:Int) t 2 a.l)::L);exact p.sub
  ·exact adN
 ·have W:y.cS=false:=by simpa using W
  rw[W]at kf;have F:=aa (F.pk 3 [2,1,0])
  go_wp2_with fail
  refine qK (sh M l _ F) λw1 h=>?_;have N:=aa ((h.bH (R:=λw=>ay w .u8 sN []) (λO _=>ay.none_ O _)).pk 4 [0,2,3,1]);clear h F
  go_wp2_with fail
  refine(sy hT B g b (x.bK k y v) bl wr X (gE (k:Int) t) (l%4) none 0 0 _ G.1 (by have:=G.2.1;omega) G.2.2 U0 ⟨OC _ dC,PX _ dC⟩ N).mono ?_;rintro D0 Q⟨vs,rfl,h⟩;obtain⟨N2,J0,_⟩:=G.out.1.ask (by have:=G.2.1;omega) G.2.2 x.id U0 (l%4);obtain⟨H,F0⟩:=nM (X.ask x.id (gE (k:Int) t) (l%4));have h:St I Q (aG 1 dG vs (X.ask x.id (gE (k:Int) t) (l%4)).l::bU B b (X.ask x.id (gE (k:Int) t) (l%4)).x::ak (x.bK k y v) g bl wr::ab M 169 #[iI (l/4)]::aG 6 dY v y.aq::L):=h;rw[show(dz.ask X (x.bK k y v).id (gE (k:Int) t) (l%4)).e=H.e by rw[F0];rfl];rw[<-F0]at h J0;have EF:jL X x.id (k:Int) t y l=if H.e=0 then⟨H.x,{y with cS:=true},l/4,0⟩else⟨H.x,y,l/4,H.e⟩:=by
   rw[F0];exact iN (by simp[W])
  have V0:=aa J0;by_cases hz:H.e=0
  ·have e0:(H.e !=0)=false:=by simp[hz]
   have M0:=aa (show P=ms H.x x.id (k:Int) t {y with cS:=true} (l/4)by
    rw[HP.out];unfold cy;rw[EF,iP hz];exact iN abN)
   obtain⟨D,o,A⟩:=(h.fi 2).bB;have Z0:Q.cell? ⟨g,22+k*5+1,none⟩=some (.bool y.cS):=((A.ah 0 rfl).cell (22+k*5+1)).trans ((xX (x.bK k y v) D o d).trans (by rw[kx]));have A1:=(A.ah 0 rfl).frozen;have V:=St.dN (h.fi 2) (22+k*5+1) (.bool true) (Lj x y v true d);have F:=aa (V.pk 4 [3,2,0]);clear h A V N hz EF J0 F0 W HP
   go_wp2_with fail
   clear Z0 A1 e0;refine qK (sh M (l/4) _ F) λw1 h=>?_;have N:=aa ((h.bH (R:=λw=>ay w .u8 sN []) (λO _=>ay.none_ O _)).pk 4 [0,2,3,1]);clear h F
   go_wp2_with fail
   refine(sy hT B g b (x.bK k ({y with cS:=true}:dO) v) bl wr H.x (jH (k:Int) t) ((l/4)%4) none 0 0 _ V0 (by have:=G.2.1;omega) G.2.2 I0 ⟨OC _ dC,PX _ dC⟩ N).mono ?_;rintro D0 Q⟨vs,rfl,h⟩;have E0:=aa (zZ (V0) I0 x.id ((l/4)%4));obtain⟨a,C⟩:=nM ((H.x).ask x.id (jH (k:Int) t) ((l/4)%4));have h:St I Q (aG 1 dG vs ((H.x).ask x.id (jH (k:Int) t) ((l/4)%4)).l::bU B b ((H.x).ask x.id (jH (k:Int) t) ((l/4)%4)).x::ak (x.bK k ({y with cS:=true}:dO) v) g bl wr::ab M 169 #[iI ((l/4)/4)]::aG 6 dY v (({y with cS:=true}:dO)).aq::L):=h;rw[show(dz.ask H.x (x.bK k ({y with cS:=true}:dO) v).id (jH (k:Int) t) ((l/4)%4)).e=a.e by rw[C];rfl];rw[<-C]at h;have A0:=E0.out;rw[<-C]at A0;have EP:P=if a.e≠0 then⟨a.x,({y with cS:=true}:dO),(l/4)/4,a.e⟩else if jK a.l≠0 then⟨a.x,{({y with cS:=true}:dO)with aq:=dL (k:Int) t 2 a.l},(l/4)/4,jK a.l⟩else⟨a.x,{({y with cS:=true}:dO)with aq:=dL (k:Int) t 2 a.l,dh:=true,seq:=IntKind.u32.wrap (2+((dL (k:Int) t 2 a.l).length:Nat))},(l/4)/4,0⟩:=by
    rw[M0.out,C]
    rfl
   refine iG EP A0 h λi e K=>?_;clear h A0 EP C E0 N;by_cases Y:a.e=0
   ·have e1:(a.e !=0)=false:=by simp[Y]
    have HE:=aa Y;obtain⟨K0,O0,hV,P0,Q0⟩:=(K.eM 0 rfl).slice;have HV:=aa hV;rw[hV]at K⊢;clear Y hV P0 Q0
    go_wp2_with fail
    refine(Po (k:Int) t 2 a.l K0 _ O0 _ ⟨dC,dC⟩ (by have:=e.1;omega) (λb hb=>⟨(e.2 b hb).1,by have:=(e.2 b hb).2;omega⟩) K).mono ?_;rintro D0 w4⟨V2,rfl,h⟩;obtain⟨r,S,c,G0,H0⟩:=h.eT;obtain⟨q,j⟩:=nM ((dL (k:Int) t 2 a.l).length);have L0:=aa j;rw[<-j]at c;rw[c]at h⊢;obtain⟨D,o,A⟩:=(h.fi 2).bB;have kp:w4.cell? ⟨g,22+k*5+3,none⟩=some v:=((A.ah 0 rfl).cell (22+k*5+3)).trans ((fv (x.bK k ({y with cS:=true}:dO) v) D o d).trans (by rw[kW]));have kz:=(A.ah 0 rfl).frozen;have V:=St.dN (h.fi 2) (22+k*5+3) (.slice r q S) (lO x ({y with cS:=true}:dO) v (dL (k:Int) t 2 a.l) (.slice r q S) d);have u:=((V.fi 1).nj);by_cases U:jK a.l=0
    ·have e2:(jK a.l !=0)=false:=by simp[U]
     have HR:=aa U;obtain⟨vC,uC,J⟩:=(u.fi 1).bB;have kq:World.cell? _ ⟨g,22+k*5+3,none⟩=some (.slice r q S):=((J.ah 0 rfl).cell (22+k*5+3)).trans ((fv (x.bK k ⟨(({y with cS:=true}:dO)).seq,(({y with cS:=true}:dO)).cS,(({y with cS:=true}:dO)).dh,dL (k:Int) t 2 a.l,(({y with cS:=true}:dO)).bu⟩ (.slice r q S)) vC uC d).trans (by rw[kW]));have kr:World.cell? _ ⟨g,22+k*5+2,none⟩=some (.bool (({y with cS:=true}:dO)).dh):=((J.ah 0 rfl).cell (22+k*5+2)).trans ((uN (x.bK k ⟨(({y with cS:=true}:dO)).seq,(({y with cS:=true}:dO)).cS,(({y with cS:=true}:dO)).dh,dL (k:Int) t 2 a.l,(({y with cS:=true}:dO)).bu⟩ (.slice r q S)) vC uC d).trans (by rw[kx]));have B1:=(J.ah 0 rfl).frozen;have B0:=St.dN (u.fi 1) (22+k*5+2) (.bool true) (Dt x ⟨(({y with cS:=true}:dO)).seq,(({y with cS:=true}:dO)).cS,(({y with cS:=true}:dO)).dh,dL (k:Int) t 2 a.l,(({y with cS:=true}:dO)).bu⟩ (.slice r q S) true d);obtain⟨vD,uD,Z⟩:=B0.bB;have ks:World.cell? _ ⟨g,22+k*5,none⟩=some (iW (({y with cS:=true}:dO)).seq):=((Z.ah 0 rfl).cell (22+k*5)).trans ((nV (x.bK k ⟨(({y with cS:=true}:dO)).seq,(({y with cS:=true}:dO)).cS,true,dL (k:Int) t 2 a.l,(({y with cS:=true}:dO)).bu⟩ (.slice r q S)) vD uD d).trans (by rw[kx]));have C1:=(Z.ah 0 rfl).frozen;have C0:=St.dN B0 (22+k*5) (iW (IntKind.u32.wrap (2+(q:Int)))) (yb x ⟨(({y with cS:=true}:dO)).seq,(({y with cS:=true}:dO)).cS,true,dL (k:Int) t 2 a.l,(({y with cS:=true}:dO)).bu⟩ (.slice r q S) (IntKind.u32.wrap (2+(q:Int))) d);obtain⟨sq,E⟩:=nM (IntKind.u32.wrap (2+(q:Int)));have Q:wrap64 (2+(q:Int))%4294967296=sq:=(KC _).trans E.symm;rw[<-E]at C0;refine iG E (i.trans ((iN (by simp[HE.out])).trans (iN (by simp[U])))) C0 λN0 z p=>?_;clear h A V u B0 C0 J Z K U i j c G0 H0 E
     go_wp2_with fail
     go_ret
     rw[z.out];refine⟨rfl,.slice r q S,?_⟩;show St I _ (bU B b a.x::ak (x.bK k ⟨IntKind.u32.wrap (2+((dL (k:Int) t 2 a.l).length:Nat)),(({y with cS:=true}:dO)).cS,true,dL (k:Int) t 2 a.l,(({y with cS:=true}:dO)).bu⟩ (.slice r q S)) g bl wr::ab M 169 #[iI ((l/4)/4)]::aG 6 dY (.slice r q S) (dL (k:Int) t 2 a.l)::L);rw[<-L0.out,<-N0.out];exact p.sub
    ·have e2:(jK a.l !=0)=true:=by simp[U]
     refine bq (i.trans ((iN (by simp[HE.out])).trans (iP U))) u λz p=>?_;clear h A V u K U i j c G0 H0
     go_wp2_with fail
     go_ret
     rw[z.out];refine⟨rfl,.slice r q S,?_⟩;show St I _ (bU B b a.x::ak (x.bK k ⟨(({y with cS:=true}:dO)).seq,(({y with cS:=true}:dO)).cS,(({y with cS:=true}:dO)).dh,dL (k:Int) t 2 a.l,(({y with cS:=true}:dO)).bu⟩ (.slice r q S)) g bl wr::ab M 169 #[iI ((l/4)/4)]::aG 6 dY (.slice r q S) (dL (k:Int) t 2 a.l)::L);exact p.sub
   ·exact adN
  ·have e0:(H.e !=0)=true:=by simp[hz]
   have z:=aa (show P=⟨H.x,y,l/4,H.e⟩by
    rw[HP.out];unfold cy;rw[EF,iN hz];exact iP hz)
   have K:=aa h;clear h hz EF J0 F0 W HP N
   go_wp2_with fail
   go_ret
   rw[z.out];exact⟨rfl,v,K.sub⟩
end
end Go.Proofs.YtblpaldggenbaaaGreatDoor
