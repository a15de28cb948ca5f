/- A part. -/
import Derived.Test.YtblpaldggenbaaaGreatDoorMq
namespace Go.Proofs.YtblpaldggenbaaaGreatDoor
open Go.RowKit Go.Proofs.Tryz
set_option maxRecDepth 100000
set_option maxHeartbeats 64000000
variable{L:List aw}{I:aH}{w:World}
section
open Go.Shelf
theorem EH(g:Nat)(q:Int)(w:World)(K:0<=q)(Z:q<=18446744073709551615)(D:w.cell? (aD g 0)=some (iU q))(h:St I w L):
 Rt I w 184 #[pO g] (iU (fH q)) L:=by
 have H:=aa h;clear h;by_cases B:q>18446744073709551605
 ·have d1:decide (q>18446744073709551605)=true:=dZ B
  have d2:decide (18446744073709551605<q)=true:=d1;have E:Hid (fH q=18446744073709551615):=iP B;clear B Z
  go_enter func184,ntmps184
  exact ad9
 ·have d1:decide (q>18446744073709551605)=false:=dQ B
  have d2:decide (18446744073709551605<q)=false:=d1;have E:Hid (fH q=q+10):=iN B;have l:IntKind.u64.wrap (q+10)=q+10:=IntWalk.u64_in _ oM;clear B Z
  go_enter func184,ntmps184
  exact ad9
theorem xZ{b:Nat}{t:TypeId}{cs:LV}(h:eF w b t cs.toArray):Sl w Any cs.length (aO b) 1 cs:=
 ⟨by simp,λ_=>⟨_,rfl,trivial,h.lt,λj u E=>by
  rw[show(⟨b,0,none⟩:Addr).add j=⟨b,j,none⟩by simp[Addr.add];exact Qt,h.cell];simpa using E⟩⟩
theorem St.gY{X:Type}{C:X->LV}{P:Program}{t e:TypeId}{z:Value}{size bytes q c:Nat}{A:OA}{T:List X}(r:eB P t e z size bytes)(h:St I w (dV C e size (.slice A q c) T::L))(l:TypeId)(a:Addr)(k:Nat)(x:X)(D:Sl w Any size (some a) 1 (C x))(Z:∀u∈C x,u.oneCell'=true)(_hl:(C x).length=size)
 (B:(q+1)*bytes<=140737488355328) (W:q+1<=140737488355328):
 ∃N p O,(Builtin.append_ #[t,t] l #[.slice A q c,.slice (some a) 1 k]).run P w= .ok (.slice N (q+1) p) O/\St I O (dV C e size (.slice N (q+1) p) (T++[x])::L):=by
 obtain⟨d,V⟩:=h.kL;obtain⟨g,O,G,M⟩:=V.uU r l (some a) 1 k (C x) D Z B W;obtain⟨N,p,rfl⟩:=M.slice;exact⟨N,p,O,G,M.Dr d⟩
theorem St.Kn{g i:Nat}{q last:Int}{r:Nat->wb}{U vs0:Nat->ri}{hv wv:Lv}{K:List be}{u:List cS}(z:i<4)(b:U i=⟨hv,wv⟩)(a:∀j,j≠i->U j=vs0 j)(h:St I w (iq g q last U::fv hv K::en wv u::jo vs0 r i::L)):St I w (bW g ⟨q,last,aJ r i ⟨K,u⟩⟩::L):=by
 refine St.QL (U:=U) z ?_;rw[b,qy a (λ_ _=>rfl)];exact h
theorem Wa(Y:Addr):Y.add (0*2)=Y:=rfl
theorem ym(g i:Nat)(q last:Int)(r:Nat->wb)(Z:List be)(b:List cS)(U:Nat->ri)(w:World)(B:i<4)(K1:0<=q/\q<=18446744073709551615)(K0:0<=last/\last<=18446744073709551615)
 (h:St I w (iq g q last U::fv (U i).h Z::en (U i).w b::jo U r i::L)):
 Rt I w 150 #[pO g,.pointer (some ⟨g,2+i*2,none⟩)] (.tuple #[]) (bW g ⟨q,(fF q b Z last).2.2,aJ r i ⟨(fF q b Z last).2.1,(fF q b Z last).1⟩⟩::L):=by
 obtain⟨o,ho⟩:=nM (2+i*2);rw[<-ho];refine bm ho K1 λM Q0=>?_;obtain⟨qD,V0⟩:∃l0,l0=last:=⟨_,rfl⟩;obtain⟨gv,l⟩:=nM (fF q b Z last);rw[<-l];refine bm h l λM0 a=>?_;clear h ho l V0 qD
 go_enter func150,ntmps150
 go_wp2_with fail
 go_loopg [4] b.length (λgh xv wr=>∃(H:Nat->ri) (hv wv:Lv) (K:List be) (u:List cS) (la:Int),gh=u.length/\gv=fF q u K la/\H i=⟨hv,wv⟩/\(∀j,j≠i->H j=U j)/\0<=la/\la<=18446744073709551615/\St I wr (iq g q la H::fv hv K::en wv u::jo U r i::L))
 case atStart=>exact⟨U,(U i).h,(U i).w,Z,b,last,rfl,a,rfl,λ_ _=>rfl,K0.1,K0.2,M0⟩
 case round=>
  clear M0 a K0;clear last;obtain⟨H,⟨A,n,c⟩,⟨gw,m,d⟩,K,Y0,last,hg,l,G0,X0,V0,Q1,h⟩:=hrel;refine ib X0 hg G0 λJ HG Q=>?_;have A1:=aa (show(lS q last H)[o]? =some (.slice A n c)by rw[M.out];refine(p8 q last H B).trans ?_;rw[G0]);have H0:=aa (show(lS q last H)[o+1]? =some (.slice gw m d)by rw[M.out];refine(Ih q last H B).trans ?_;rw[G0]);have c1:wr.cell? (aD g 1)=some (iU last):=(h.ah 0 rfl).cell 1;have ch:wr.cell? ⟨g,o,none⟩=some (.slice A n c):=((h.ah 0 rfl).cell o).trans A1;have cw:wr.cell? ⟨g,o+1,none⟩=some (.slice gw m d):=((h.ah 0 rfl).cell (o+1)).trans H0;obtain⟨hn,_,O1,_⟩:=(h.eM (C:=cy) (e:=273) (size:=4) (v:= .slice A n c) (xs:=K)).sl;obtain⟨hm,R1,P1,_⟩:=(h.rQ (C:=il) (size:=2) (v:= .slice gw m d) (xs:=Y0)).sl;refine ib hm hn l λHM HN a=>?_;clear hg G0 l hm hn X0
  cases Y0 with
  |nil=>
   have I1:m=0:=HM.out;subst I1;refine bm (show gv=([],K,last)from a) h λE Y=>?_;exact afh
  |cons x u=>
   have W0:m=u.length+1:=HM.out;have m0:(0:Int)<(m:Int):=oM
   refine ib (show¬(K.length<4/\K.any (rj x.m)=false/\last<18446744073709551615)->gv=(x::u,K,last)from λJ1=>a.trans (iN J1)) (show(K.length<4/\K.any (rj x.m)=false/\last<18446744073709551615)->gv=fF q u (K++[⟨x.c,x.m,last+1,fH q⟩]) (last+1)from λG=>a.trans (iP G)) W0 λEX EY L1=>?_;have m1:decide ((m:Int)>0)=true:=dZ m0;clear HM a W0;by_cases T:n<4
   ·have n4:decide ((n:Int)<4)=true:=decide_eq_true (by omega)
    obtain⟨N,rfl,R⟩:=(h.rQ (C:=il) (size:=2) (v:= .slice gw m d) (xs:=x::u)).at_ kY (k:=0) (x:=x) rfl;rw[Wa]at R;obtain⟨e0,e1⟩:=yq R;have Y:=aa h;clear h R
    go_wp2_with fail
    refine qK (RJ g o A n c K x.m _ ch (λN1 hW=>hW.eM) Y) λX V=>?_;clear c1 ch cw e0 e1
    cases A0:K.any (rj x.m)with
    |true=>
     have E:=aa (EX (λG=>by rw[A0]at G;exact Bool.noConfusion G.2.1));have H2:=aa V;exact afb
    |false=>
     have c1:X.cell? (aD g 1)=some (iU last):=(V.ah 0 rfl).cell 1;by_cases hl:last<18446744073709551615
     ·have G1:decide (last<18446744073709551615)=true:=dZ hl
      have B1:=aa (EY ⟨by rw[<-HN.out];exact T,A0,hl⟩);have cw:X.cell? ⟨g,o+1,none⟩=some (.slice (some N) m d):=((V.ah 0 rfl).cell (o+1)).trans H0;obtain⟨R0,J0,R⟩:=(V.rQ (C:=il) (size:=2) (v:= .slice (some N) m d) (xs:=x::u)).at_ kY (k:=0) (x:=x) rfl;injection J0 with J0;subst J0;rw[Wa]at R;obtain⟨e0,e1⟩:=yq R;have f:=(V.ah 0 rfl).frozen;have wl:IntKind.u64.wrap (last+1)=last+1:=IntWalk.u64_in _ oM;have S1:(1:Int)<=(m:Int):=oM
      have T1:(m:Int)<=(d:Int):=oM
      have U1:(1:Int)<=(d:Int):=oM
      have V1:(0:Int)<=(m:Int):=oM
      by_cases hd:d=1
      case' pos=>
       subst hd;obtain⟨t,F0⟩:=nM (some N);obtain rfl:m=1:=oM
       obtain⟨P,B0⟩:=nM (1-1);obtain⟨W,C0⟩:=nM (1-1);have I0:St I X (ns il 2 (.slice t W P) u::iq g q last H::fv ⟨A,n,c⟩ K::en ⟨some N,1,1⟩ (x::u)::jo U r i::L):=by
        rw[B0,C0];exact V.Fm kY oM (A':=t) (by exact aU) (λR0 e hd=>absurd rfl hd)
      case' neg=>
       obtain⟨t,F0⟩:=nM (some (⟨N.block,N.off+2,none⟩:Addr));obtain⟨P,B0⟩:=nM (d-1);obtain⟨W,C0⟩:=nM (m-1);have I0:St I X (ns il 2 (.slice t W P) u::iq g q last H::fv ⟨A,n,c⟩ K::en ⟨some N,m,d⟩ (x::u)::jo U r i::L):=by
        rw[B0,C0];exact V.Fm kY oM (A':=t) (by exact aU) (λR0 e _=>by injection e with e;subst e;rw[F0];rfl)
      all_goals
       have F:=I0.alloc 317 #[iI x.c,iI x.m];have F1:(X.alloc (.cells #[iI x.c,iI x.m] 317)).cell? ⟨g,o+1,none⟩=_:=((F.ah 2 rfl).cell (o+1)).trans H0;have E1:(X.alloc (.cells #[iI x.c,iI x.m] 317)).cell? (aD g 1)=some (iU last):=(F.ah 2 rfl).cell 1;have f3:=(F.ah 2 rfl).frozen;have W1:¬(o+1=1):=by have:=M.out;omega
       generalize G:X.heap.size=y at F;obtain⟨z,D0⟩:=nM (aJ H i ⟨(H i).h,⟨t,W,P⟩⟩);have T:=(F.fi 2).br (o+1) (.slice t W P) (lS q last z) (by rw[M.out,D0];exact wz q last H B ⟨t,W,P⟩);have D:=T.br 1 (iU (last+1)) (lS q (last+1) z) rfl;have E0:=aa (show(lS q (last+1) z)[o]? =some (.slice A n c)by rw[M.out];refine(p8 q (last+1) z B).trans ?_;rw[D0,fb,Q.out]);have D1:=aa (show(z i).w=⟨t,W,P⟩by rw[D0,fb]);have C1:=aa (show∀j,j≠i->z j=U j from λj hj=>by rw[D0,pU _ _ hj];exact J j hj);refine Cz F0 B0 C0 (D.sub (L':=iq g q (last+1) z::ab y 317 #[iI x.c,iI x.m]::dV cy 273 4 (.slice A n c) K::en ⟨t,W,P⟩ u::jo U r i::L)) G λN0 O0 P0 H5 HY=>?_;clear V I0 F T D Y A0 F0 B0 C0 R G D0
       go_wp2_with fail
       generalize hW:World.setCell _ _ _=w5;have T0:(((X.alloc (.cells #[iI x.c,iI x.m] 317)).setCell ⟨g,o+1,none⟩ (.slice t W P)).setCell ⟨g,1,none⟩ (iU (last+1)))=w5:=by rw[N0.out,O0.out,P0.out];exact hW
       have h0:=H5.out;rw[T0]at h0;rw[HY.out];clear hW T0 H5 F1 E1 f3 f c1 cw e0 e1 N0 O0 P0 HY;refine ak (I:=I) (L0:=en ⟨t,W,P⟩ u::jo U r i::L) [⟨none,some 20,λe=>iq g q (last+1) z⟩,⟨none,none,λe=>ab y 317 #[iI x.c,iI x.m]⟩,⟨none,some 17,λe=>dV cy 273 4 (.slice A n c) K⟩,⟨some 16,none,λe=>ab (e 16).n 273 #[iI x.c,iI x.m,iU (last+1),iU (fH q)]⟩,⟨some 17,none,λe=>dV cy 273 4 (.slice (e 17).A (n+1) (e 17).n) (K++[(⟨x.c,x.m,last+1,fH q⟩:be)])⟩,⟨some 20,none,λe=>iq g q (last+1) (aJ z i ⟨⟨(e 17).A,n+1,(e 17).n⟩,(z i).w⟩)⟩] [[],[],[1],[1,2],[1,2,3],[],[5],[],[7],[],[9],[9,10],[9,10,11],[],[13],[5,6,7,8,9,10,11,12,13,14],[5,6,7,8,9,10,11,12,13,14,15],[1,2,3,4,5,6,7,8,9,10,11,12,13,14,15,16],rG 18,rG 19,rG 20] (rG 21) rfl kR kR kR (by rfl) (λ_=>rfl) h0.fk ?_;refine AG ?_
       iterate 2 (refine kj _ rfl (λe p O h=>by(have h:=h.fn;have b0:=(h.ah 0 rfl).cell 0;have b1:=(h.ah 0 rfl).cell 1;have bo:p.cell? ⟨g,o,none⟩=some (.slice A n c):=((h.ah 0 rfl).cell o).trans E0;have y0:=(h.ah 1 rfl).cell 0;have y1:=(h.ah 1 rfl).cell 1;go_simp;try rfl)) ?_;simp only[aR];refine lY ?_)
       refine kj _ rfl (λe p O h=>by(have h:=h.fn;have b0:=(h.ah 0 rfl).cell 0;have b1:=(h.ah 0 rfl).cell 1;have bo:p.cell? ⟨g,o,none⟩=some (.slice A n c):=((h.ah 0 rfl).cell o).trans E0;have y0:=(h.ah 1 rfl).cell 0;have y1:=(h.ah 1 rfl).cell 1;go_simp;try rfl)) ?_;simp only[aR];refine yk ?_;refine kj _ rfl (λe p O h=>by(have h:=h.fn;have b0:=(h.ah 0 rfl).cell 0;have b1:=(h.ah 0 rfl).cell 1;have bo:p.cell? ⟨g,o,none⟩=some (.slice A n c):=((h.ah 0 rfl).cell o).trans E0;have y0:=(h.ah 1 rfl).cell 0;have y1:=(h.ah 1 rfl).cell 1;go_simp;try rfl)) ?_;simp only[aR];refine lY ?_;refine aZ 184 (λe=> #[pO g]) (λe=> iU (fH q)) rfl (λe p O h=>by(
        have h:=h.fn;refine(EH g q _ Q0.1 Q0.2 ((h.ah 0 rfl).cell 0) h).mono ?_;rintro X1 wy⟨rfl,h1⟩;exact⟨⟨none,0,default⟩,rfl,h1.fk⟩)) ?_
       simp only[aR];refine lY ?_;refine xN (λe=> .slice (some ⟨(e 16).n,0,none⟩) 1 1) rfl (λe p O h=>by(
        have h:=h.fn;exact⟨⟨none,p.heap.size,default⟩,_,cM rfl rfl (Hx _ _ _ _ _),((h.alloc 273 #[iI x.c,iI x.m,iU (last+1),iU (fH q)])).fk⟩)) ?_
       simp only[aR];refine xN (λe=> .slice (e 17).A (n+1) (e 17).n) rfl (λe p O h=>by(
        have h:=h.fn;have hz:=xZ (cs:=[iI x.c,iI x.m,iU (last+1),iU (fH q)]) (h.ah 3 rfl);obtain⟨A',S,M1,Z0,V⟩:=(h.fi 2).gY kW _ ⟨(e 16).n,0,none⟩ 1 (⟨x.c,x.m,last+1,fH q⟩:be) hz (uW _) rfl oM oM;exact⟨⟨A',S,default⟩,_,gL rfl rfl rfl Z0,V.fk⟩)) ?_
       simp only[aR];refine vM ?_;refine jA (λe=> .pointer (some ⟨g,o,none⟩)) (λe=> .slice (e 17).A (n+1) (e 17).n) rfl rfl (λe p O h=>by(
        have h:=h.fn;have b0:=(h.ah 0 rfl).cell 0;have b1:=(h.ah 0 rfl).cell 1;have bo:p.cell? ⟨g,o,none⟩=some (.slice A n c):=((h.ah 0 rfl).cell o).trans E0;have f:=(h.ah 0 rfl).frozen;have h1:=(h.fi 0).br o (.slice (e 17).A (n+1) (e 17).n) (lS q (last+1) (aJ z i ⟨⟨(e 17).A,n+1,(e 17).n⟩,(z i).w⟩)) (by rw[M.out];exact wD q (last+1) z B ⟨(e 17).A,n+1,(e 17).n⟩);exact⟨_,gS,h1.fk⟩)) ?_
       simp only[Act.put];refine ax ?_;intro e w1 h;have h:=h.fn;obtain⟨A',S0⟩:∃A',(e 17).A=A':=⟨_,rfl⟩;obtain⟨S,U0⟩:∃S,(e 17).n=S:=⟨_,rfl⟩;have D:=h.sub (L':=iq g q (last+1) (aJ z i ⟨⟨(e 17).A,n+1,(e 17).n⟩,(z i).w⟩)::dV cy 273 4 (.slice (e 17).A (n+1) (e 17).n) (K++[(⟨x.c,x.m,last+1,fH q⟩:be)])::en ⟨t,W,P⟩ u::jo U r i::L);rw[S0,U0]at D;have H5:=aa D;clear h0 h D S0 U0
       go_wp2_with fail
       go_roundg u.length
       case measure=>have:=HG.out;simp at this;omega
       case rel=>exact⟨_,⟨A',n+1,S⟩,⟨t,W,P⟩,_,u,last+1,rfl,B1,by rw[fb,D1.out],λj hj=>by rw[pU _ _ hj];exact C1 j hj,oM,oM,H5⟩
     ·have G1:decide (last<18446744073709551615)=false:=dQ hl
      refine bm (EX (λG=>hl G.2.2)) V λE H2=>?_;exact afb
   ·have n4:decide ((n:Int)<4)=false:=decide_eq_false (by omega)
    have E:=aa (EX (λG=>T (by rw[HN.out];exact G.1)));have Y:=aa h;exact afh
end
section
open Go.Shelf
theorem mV{X:Type}(p:X->Bool)(l:List X):(dz p 0 l= -1/\l.find? p=none)\/∃(k:Nat) (x:X),dz p 0 l=(k:Int)/\l[k]? =some x/\p x=true/\l.find? p=some x/\l.eraseP p=l.eraseIdx k:=by
 rcases pj p l 0 with⟨Z,V⟩|⟨k,x,Z,V,M,Q⟩
 ·refine .inl ⟨Z,?_⟩
  rw[Zr];intro x J;have:=XQ.1 V x J;simpa using this
 ·refine .inr ⟨k,x,by rw[Z];congr 1;omega,V,M,?_,?_⟩
  ·clear Z
   induction l generalizing k with
   |nil=>simp at V
   |cons y r K=>
    cases k with
    |zero=>
     obtain rfl:y=x:=by simpa using V
     rw[List.find?_cons_of_pos M]
    |succ k=>
     rw[Kx,Yh,Yw]at Q;rw[List.find?_cons_of_neg (by rw[Q.1];exact gV)];exact K k (by simpa using V) Q.2
  ·clear Z
   induction l generalizing k with
   |nil=>simp at V
   |cons y r K=>
    cases k with
    |zero=>
     obtain rfl:y=x:=by simpa using V
     rw[VV M]
     rfl
    |succ k=>
     rw[Kx,Yh,Yw]at Q;rw[WE (by rw[Q.1];exact gV),List.eraseIdx_cons_succ];rw[K k (by simpa using V) Q.2]
theorem yF(T:aI)(i:Nat):(⟨T.now,T.last,aJ T.r i ⟨(T.r i).h,(T.r i).w⟩⟩:aI)=T:=by
 cases T with
 |mk a b r=>
  congr 1
  funext j
  unfold aJ
  split
  ·rename_i e
   subst e
   rfl
  ·rfl
theorem SF(c:Int)(w:World)(h:St I w L):Rt I w 212 #[iI c] (.bool (ub c)) L:=by
 obtain⟨d1,G⟩:∃d1,decide (0<=c)=d1:=⟨_,rfl⟩;have a:decide (c≥0)=d1:=G;obtain⟨d2,D⟩:∃d2,decide (c<16)=d2:=⟨_,rfl⟩;have C:=aa (show ub c=(d1&&d2)by unfold ub;rw[G,D]);have H:=aa h;clear h
 go_enter func212,ntmps212
 exact aeq
theorem GD(c:Int)(w:World)(h:St I w L):Rt I w 185 #[iI c] (.bool (cD c)) L:=by
 obtain⟨d1,G⟩:∃d1,decide (0<=c)=d1:=⟨_,rfl⟩;have a:decide (c≥0)=d1:=G;obtain⟨d2,D⟩:∃d2,decide (c<4)=d2:=⟨_,rfl⟩;have C:=aa (show cD c=(d1&&d2)by unfold cD;rw[G,D]);have H:=aa h;clear h
 go_enter func185,ntmps185
 exact aeq
theorem US(c:Int)(w:World)(h:St I w L):Rt I w 215 #[iI c] (.bool (Bk c)) L:=by
 obtain⟨d1,G⟩:∃d1,(c==1)=d1:=⟨_,rfl⟩;obtain⟨d2,D⟩:∃d2,(c==2)=d2:=⟨_,rfl⟩;have C:=aa (show Bk c=(d1||d2)by unfold Bk;rw[G,D]);have H:=aa h;clear h
 go_enter func215,ntmps215
 exact aeq
theorem yM(c r:Int)(w:World)(h:St I w L):Rt I w 190 #[iI c,iI r] (iI (cO c r)) L:=by
 have H:=aa h;clear h
 go_enter func190,ntmps190
 go_wp2_with fail
 refine qH (SF c _ H) λl Y=>?_;clear H
 cases W:ub c with
 |false=>
  have E:Hid (cO c r=31):=iP W
  go_wp2_with fail
  go_ret
  exact⟨by rw[E.out];try rfl,Y⟩
 |true=>
  have q:Hid (cO c r=if cD r=false then 93 else 0):=iN (by rw[W];exact Bool.noConfusion);clear W
  go_wp2_with fail
  refine qH (GD r _ Y) λX T=>?_;clear Y
  cases R:cD r with
  |false=>
   have E:=aa (q.trans (iP R))
   exact ad8
  |true=>
   have E:=aa (q.trans (iN (by rw[R];exact Bool.noConfusion)))
   exact ad8
theorem LX(g:Nat)(T:aI)(c r t:Int)(w:World)(h:St I w (bW g T::L)):
 Calls prog 187 #[pO g,iI c,iI r,iU t] w λe O=>∃p,e= .returned (.tuple #[.pointer p,iI (T.fY c r t)])/\
  (T.fY c r t≠0->St I O (bW g T::L))/\
  (T.fY c r t=0->∃(i k:Nat) (x:be) (U:Nat->ri) (b n o:Nat),i<4/\r=(i:Int)/\dz (λh=>h.c==c) 0 (T.r i).h=(k:Int)/\(T.r i).h[k]? =some x/\x.t=t/\(U i).h=⟨some ⟨b,0,none⟩,n,o⟩/\p=some ⟨b,k*4,none⟩/\St I O (iq g T.now T.last U::fv (U i).h (T.r i).h::en (U i).w (T.r i).w::jo U T.r i::L)):=by
 have H:=aa h;clear h
 go_enter func187,ntmps187
 go_wp2_with fail
 refine qK (yM c r _ H) λw1 Z=>?_;by_cases G:cO c r=0
 ·have W:=jZ G
  obtain⟨i,rfl⟩:=zY W.2.2.1;have D:i<4:=oM
  obtain⟨U,V⟩:=Z.Is D;obtain⟨⟨A,n,o⟩,wv,l⟩:∃hv wv,U i=⟨hv,wv⟩:=⟨_,_,rfl⟩;have J:(U i).h=⟨A,n,o⟩:=by rw[l]
  have j:=aa (show T.fY c (i:Int) t=match lK (T.r i).h c with
   |some h=>if h.t=t then 0 else 92
   |none=>92 from iN (by rw[G];simp))
  rw[G];have d:=aa J;rw[J]at V;have z:w1.cell? ⟨g,2+i*2,none⟩=some (.slice A n o):=by
   refine((V.ah 0 rfl).cell (2+i*2)).trans ?_;refine(p8 T.now T.last U D).trans ?_;rw[l]
  have i0:(0:Int)<=(i:Int):=oM
  have i1:(i:Int)<4:=oM
  have y:=aa V;clear Z V H G W l J
  go_wp2_with fail
  refine qK (sA g (2+i*2) A n o (T.r i).h c _ z (λB0 hW=>hW.eM) y) λX M=>?_;rcases mV (λh=>h.c==c) (T.r i).h with⟨B,a⟩|⟨k,x,B,F,hp,a,_⟩
  ·have E:=aa (j.trans (show _=(92:Int)by unfold lK;rw[a]))
   rw[B];have N:=aa (show St I X (bW g T::L)by
    have Q:St I X (iq g T.now T.last U::fv (U i).h (T.r i).h::en (U i).w (T.r i).w::jo U T.r i::L):=by rw[d.out];exact M
    have Y:=Q.QL D;rwa[show(⟨T.now,T.last,aJ T.r i ⟨(T.r i).h,(T.r i).w⟩⟩:aI)=T from yF T i]at Y)
   clear M y B a z
   go_wp2_with fail
   go_ret2
   exact⟨none,by rw[E.out];try rfl,λ_=>N,λh=>by rw[E.out]at h;omega⟩
  ·rw[B]
   refine bm B F λHZ HK=>?_;have u:=aa (j.trans (show _=if x.t=t then(0:Int)else 92 by unfold lK;rw[a]));have A0:=(lQ.1 F).1;obtain⟨P,D0,_,_⟩:=(M.eM (C:=cy) (e:=273) (size:=4) (v:= .slice A n o) (xs:=(T.r i).h)).sl;obtain⟨ad,rfl,q⟩:=(M.eM (C:=cy) (e:=273) (size:=4) (v:= .slice A n o) (xs:=(T.r i).h)).at_ gC F;obtain⟨b,S⟩:=fQ ((M.fi 1).kL.2.row 0 rfl) oM;injection S with S;subst S;rw[show(⟨b,0,none⟩:Addr).add (k*4)=⟨b,k*4,none⟩by(generalize k*4=m;simp[Addr.add];exact Qt)]at q;obtain⟨e0,e1,e2,e3⟩:=nZ q;have C0:X.cell? ⟨g,2+i*2,none⟩=some (.slice (aO b) n o):=by
    refine((M.ah 0 rfl).cell (2+i*2)).trans ?_;refine(p8 T.now T.last U D).trans ?_;rw[d.out]
   have k0:(0:Int)<=(k:Int):=oM
   have k1:(k:Int)<(n:Int):=oM
   have kn:decide ((k:Int)<0)=false:=decide_eq_false (by omega);refine bm M P λN HN=>?_;clear M y B a F z q A0 P;by_cases R:x.t=t
   ·have K:(x.t !=t)=false:=El R
    refine bm (u.trans (iP R)) R λE HT=>?_;clear R
    go_wp2_with fail
    go_ret2
    refine⟨some ⟨b,k*4,none⟩,by rw[E.out];try rfl,λh=>absurd E h,λ_=>⟨i,k,x,U,b,n,o,D,rfl,HZ,HK,HT,d,rfl,?_⟩⟩;rw[d.out];exact N.out
   ·have K:(x.t !=t)=true:=OC R
    have E:=aa (u.trans (iN R));have H4:=aa (show St I X (bW g T::L)by
     have Q:St I X (iq g T.now T.last U::fv (U i).h (T.r i).h::en (U i).w (T.r i).w::jo U T.r i::L):=by rw[d.out];exact N.out
     have Y:=Q.QL D;rwa[show(⟨T.now,T.last,aJ T.r i ⟨(T.r i).h,(T.r i).w⟩⟩:aI)=T from yF T i]at Y)
    clear R N
    go_wp2_with fail
    go_ret2
    exact⟨none,by rw[E.out];try rfl,λ_=>H4,λh=>by rw[E.out]at h;omega⟩
 ·have E:Hid (T.fY c r t=cO c r):=iP G
  obtain⟨F0,B⟩:=nM (cO c r);rw[<-B]at G E⊢;have K:=OC G;refine bm Z G λH1 HR=>?_;clear Z H B G
  go_wp2_with fail
  go_ret2
  exact⟨none,by rw[E.out];try rfl,λ_=>H1,λh=>absurd (E.symm.trans h) HR⟩
end
section
open Go.Shelf
theorem St.NW{P:Program}{t e:TypeId}{z:Value}{size bytes n:Nat}{T:LV}{d:Array Oper}{rest:List Oper}{o:Oper}{a:Act}{Q:Exit->Act->World->Prop}(q:eB P t e z size bytes)(h:St I w L)(r:o.guard=none)(s x:Operand)
 (H:o.op= .call {callee:= .builtin .append,args:= #[s,x],argTypes:= #[t,t]}) {S:OA} (U:a.eval s= .slice S n n) (M:Sl w Any size S n T)
 (A:OA) (m c:Nat) (J:a.eval x= .slice A m c) (R:LV) (E:Sl w Any size A m R) (Z:∀u∈R,u.oneCell'=true) (y:0<m)
 (B:(n+m)*bytes<=140737488355328) (W:n+m<=140737488355328)
 (k:∀G p O,St I O (bY e size (.slice G (n+m) p) (n+m) (T++R)::L)->wpList P d Q rest (a.put o.dst (.slice G (n+m) p)) O):wpList P d Q (o::rest) a w:=by
 obtain⟨g,O,C,V⟩:=St.FG q h o.type M A m c R E Z y B W;exact ael
theorem Zs(A:OA)(n c:Nat)(w:World)(_hn:n<=c)(_hc:c<=9223372036854775807):Calls prog 216 #[.slice A n c] w λe O=>e= .returned (.slice A n n)/\w=O:=by
 go_enter func216,ntmps216
 go_wp2
 exact afY
theorem Bn(T:aI)(i:Nat)(u:List cS):(T.cY i u).fh i=⟨T.now,(fF T.now u (T.r i).h T.last).2.2,aJ T.r i ⟨(fF T.now u (T.r i).h T.last).2.1,(fF T.now u (T.r i).h T.last).1⟩⟩:=by
 unfold aI.fh aI.cY;simp only[fb,FD]
theorem MA(T:aI)(i:Nat)(U:List be):(T.vS i U).fh i=⟨T.now,(fF T.now (T.r i).w U T.last).2.2,aJ T.r i ⟨(fF T.now (T.r i).w U T.last).2.1,(fF T.now (T.r i).w U T.last).1⟩⟩:=by
 unfold aI.fh aI.vS;simp only[fb,FD]
theorem St.qc{g i:Nat}{T:aI}{U:Nat->ri}{K wv:Lv}(z:i<4)(b:U i=⟨K,wv⟩)(h:St I w (iq g T.now T.last U::fv K (T.r i).h::en wv (T.r i).w::jo U T.r i::L)):St I w (bW g T::L):=by
 have F:=h.Kn z b (λ_ _=>rfl);rwa[yF T i]at F
theorem Jd(g:Nat)(T:aI)(c r q:Int)(w:World)(D1:bC T)(h:St I w (bW g T::L)):
 Rt I w 196 #[pO g,iI c,iI r,iI q] (.tuple #[iU (T.acquire c r q).2.1,iI (T.acquire c r q).2.2]) (bW g (T.acquire c r q).1::L):=by
 have K0:=aa h;obtain⟨av,T0⟩:=nM (T.acquire c r q);rw[<-T0];refine bm T0 D1 λZ0 F0=>?_;clear h T0 D1
 go_enter func196,ntmps196
 go_wp2_with fail
 refine qK (yM c r _ K0) λw1 h1=>?_;by_cases G:cO c r=0
 ·have N0:=aa (Z0.trans (show T.acquire c r q=if Bk q=false then(T,0,91)else T.oE c r.toNat q from iN (by rw[G];simp)))
  have hb:=jZ G;rw[G];have j:=aa h1;clear h1 K0 G
  go_wp2_with fail
  refine qK (US q _ j) λw2 h2=>?_
  cases hm:Bk q with
  |false=>
   refine bm (N0.trans (iP hm)) h2 λE H2=>?_;clear h2 j hm
   go_wp2_with fail
   go_ret2
   exact⟨by rw[E.out];try rfl,by rw[E.out];exact H2.out⟩
  |true=>
   obtain⟨i,rfl⟩:=zY hb.2.2.1;have B:i<4:=oM
   have O0:=aa (N0.trans (show _=T.oE c i q from iN (by rw[hm];exact Bool.noConfusion)));obtain⟨U,h3⟩:=h2.Is B;obtain⟨⟨A,n,o⟩,⟨S,m,d⟩,l⟩:∃hv wv,U i=⟨hv,wv⟩:=⟨_,_,rfl⟩;have V:=aa l;rw[show(U i).h=⟨A,n,o⟩by rw[l],show(U i).w=⟨S,m,d⟩by rw[l]]at h3;have W:=aa (show(lS T.now T.last U)[2+i*2]? =some (.slice A n o)by refine(p8 T.now T.last U B).trans ?_;rw[l]);have P0:=aa (show(lS T.now T.last U)[2+i*2+1]? =some (.slice S m d)by refine(Ih T.now T.last U B).trans ?_;rw[l]);have y:w2.cell? ⟨g,2+i*2,none⟩=some (.slice A n o):=((h3.ah 0 rfl).cell (2+i*2)).trans W;have i0:(0:Int)<=(i:Int):=oM
   have i1:(i:Int)<4:=oM
   have H3:=aa h3;clear h2 h3 j hm l N0 hb
   go_wp2_with fail
   refine qK (sA g (2+i*2) A n o (T.r i).h c _ y (λB1 O=>O.eM) H3) λw3 J=>?_;clear y;have cw:w3.cell? ⟨g,2+i*2+1,none⟩=some (.slice S m d):=((J.ah 0 rfl).cell (2+i*2+1)).trans P0;have H4:=aa J;obtain⟨zh,W0⟩:=nM (dz (λh:be=>h.c==c) 0 (T.r i).h);have G0:=aa (show(zh= -1/\lK (T.r i).h c=none)\/∃(k:Nat) (x:be),zh=(k:Int)/\(T.r i).h[k]? =some x/\lK (T.r i).h c=some x by
    rw[W0];rcases mV (λh:be=>h.c==c) (T.r i).h with⟨a,b⟩|⟨k,x,a,b,_,d,_⟩
    ·exact .inl ⟨a,b⟩
    ·exact .inr ⟨k,x,a,b,d⟩)
   rw[<-W0];clear J H3 W0
   go_wp2_with fail
   refine qK (Bi g (2+i*2) S m d (T.r i).w c _ cw (λB1 O=>O.rQ) H4) λt F=>?_;clear cw;obtain⟨zw,X0⟩:=nM (dz (λw:cS=>w.c==c) 0 (T.r i).w);have H0:=aa (show(zw= -1/\vk (T.r i).w c=none)\/∃(k:Nat) (x:cS),zw=(k:Int)/\(T.r i).w[k]? =some x/\vk (T.r i).w c=some x by
    rw[X0];rcases mV (λw:cS=>w.c==c) (T.r i).w with⟨a,b⟩|⟨k,x,a,b,_,d,_⟩
    ·exact .inl ⟨a,b⟩
    ·exact .inr ⟨k,x,a,b,d⟩)
   rw[<-X0];have y:t.cell? ⟨g,2+i*2,none⟩=some (.slice A n o):=((F.ah 0 rfl).cell (2+i*2)).trans W;have cw:t.cell? ⟨g,2+i*2+1,none⟩=some (.slice S m d):=((F.ah 0 rfl).cell (2+i*2+1)).trans P0;have c1:t.cell? (aD g 1)=some (iU T.last):=(F.ah 0 rfl).cell 1;obtain⟨hn,N1,J1,_⟩:=(F.eM (C:=cy) (e:=273) (size:=4) (v:= .slice A n o) (xs:=(T.r i).h)).sl;obtain⟨C1,M1,K1,B0⟩:=(F.rQ (C:=il) (size:=2) (v:= .slice S m d) (xs:=(T.r i).w)).sl;refine bm hn C1 λHN E0=>?_;clear H4 X0 hn C1;rcases G0.out with⟨rfl,P⟩|⟨k,x,rfl,Q,P⟩
   ·have P1:decide ((-1:Int)≥0)=false:=dC
    rcases H0.out with⟨rfl,A0⟩|⟨J0,F1,rfl,hq,A0⟩
    ·have X:=aa (O0.trans (show T.oE c i q=if 4<=(T.r i).w.length\/T.last=18446744073709551615 then(T,0,42)else T.Al c i q by unfold aI.oE;rw[P];simp only[A0]))
     clear P A0 G0 H0;by_cases Z:4<=(T.r i).w.length\/T.last=18446744073709551615
     ·have E:=aa (X.trans (iP Z))
      have K:=aa (F.qc B V);clear F B0 X;by_cases J:4<=m
      ·have d1:decide ((m:Int)≥4)=true:=decide_eq_true (by omega)
       have d2:decide ((4:Int)<=(m:Int))=true:=d1;clear Z
       exact ad6
      ·have d1:decide ((m:Int)≥4)=false:=decide_eq_false (by omega)
       have d2:decide ((4:Int)<=(m:Int))=false:=d1;have hl:T.last=18446744073709551615:=by
        rcases Z with hh|hh
        ·rw[<-E0.out]at hh
         exact absurd hh J
        ·exact hh
       have d3:(T.last==18446744073709551615)=true:=Ec hl;obtain⟨la,M⟩:=nM (T.last);rw[<-M]at d3 c1;clear Z hl M
       exact ad6
     ·have E:=aa (X.trans (iN Z))
      have J:m<4:=by have:=E0.out;omega
      have d1:decide ((m:Int)≥4)=false:=decide_eq_false (by omega);have d2:decide ((4:Int)<=(m:Int))=false:=d1;have d3:(T.last==18446744073709551615)=false:=kO (λe=>Z (.inr e));refine bm F B0 λK HS=>?_;obtain⟨la,M⟩:=nM (T.last);rw[<-M]at d3 c1;have O1:=aa M;clear Z X F B0 M
      go_wp2_with fail
      refine(Zs S m d t M1 K1).mono ?_;rintro e w5⟨rfl,rfl⟩;have h6:=K.alloc 317 #[iI c,iI q];refine ib (h6.ah 0 rfl) h6 (HS.LG ((Fr.refl iY t).alloc (.cells #[iI c,iI q] 317))) λHB H6 A1=>?_;clear K HS h6
      go_wp2_with (at_builtin;refine St.NW pg H6 rfl _ _ rfl rfl A1 (aO t.heap.size) 1 1 rfl [iI c,iI q] (xZ (cs:=[iI c,iI q]) HB) (yP ⟨c,q⟩) oM oM oM ?_;intro N p w6 h7;have I1:w6.cell? ⟨g,2+i*2+1,none⟩=some (.slice S m d):=((h7.ah 2 rfl).cell (2+i*2+1)).trans P0;have f6:=(h7.ah 2 rfl).frozen)
      obtain⟨ws,V0⟩:=nM ((T.r i).w++[⟨c,q⟩]);have h8:=(St.Dr (C:=il) (x:=⟨c,q⟩) h7 E0).yg;rw[<-V0]at h8;obtain⟨z,C0⟩:=nM (aJ U i ⟨(U i).h,⟨N,m+1,p⟩⟩);have h9:=(h8.fi 2).br (2+i*2+1) (.slice N (m+1) p) (lS T.now T.last z) (by rw[C0];exact wz T.now T.last U B ⟨N,m+1,p⟩);have Q0:=h9.sub (L':=iq g T.now T.last z::fv ⟨A,n,o⟩ (T.r i).h::en ⟨N,m+1,p⟩ ws::jo U T.r i::L);rw[show(⟨A,n,o⟩:Lv)=(z i).h by rw[C0,fb,V.out],show(⟨N,m+1,p⟩:Lv)=(z i).w by rw[C0,fb],show jo U T.r i=jo z T.r i from qy (λQ1 hj=>by rw[C0,pU _ _ hj]) (λ_ _=>rfl)]at Q0;refine bm Q0 V0 λY0 G1=>?_;clear h7 h8 h9 Q0 H6 A1 HB C0 V0 y cw c1 d1 d2 d3 I1 f6
      try go_wp2_with fail
      refine qK (ym g i T.now T.last T.r (T.r i).h ws z _ B ⟨F0.AZ,F0.Ee⟩ ⟨F0.qD,F0.uh⟩ Y0) λw7 R0=>?_;obtain⟨u,S0⟩:=nM ((T.cY i ((T.r i).w++[⟨c,q⟩])).fh i);rw[<-Bn,G1.out,<-S0]at R0;have E2:=aa (show av=match lK (u.r i).h c with
       |some h=>(u,h.t,0)
       |none=>(u,0,90)by rw[S0];exact E.out)
      obtain⟨D0,I0⟩:=R0.Is B;obtain⟨⟨A,n,o⟩,⟨S,m,d⟩,l⟩:∃hv wv,D0 i=⟨hv,wv⟩:=⟨_,_,rfl⟩;have V:=aa l;rw[show(D0 i).h=⟨A,n,o⟩by rw[l],show(D0 i).w=⟨S,m,d⟩by rw[l]]at I0;have W:=aa (show(lS u.now u.last D0)[2+i*2]? =some (.slice A n o)by refine(p8 u.now u.last D0 B).trans ?_;rw[l]);have y:w7.cell? ⟨g,2+i*2,none⟩=some (.slice A n o):=((I0.ah 0 rfl).cell (2+i*2)).trans W;have L0:=aa I0;clear R0 I0 Y0 S0 l E
      go_wp2_with fail
      refine qK (sA g (2+i*2) A n o (u.r i).h c _ y (λB1 O=>O.eM) L0) λw8 D=>?_;clear y;rcases mV (λh:be=>h.c==c) (u.r i).h with⟨H,P⟩|⟨k,x,H,Q,_,P,_⟩
      ·rw[H]
       have E:=aa (E2.trans (show _=(u,(0:Int),(90:Int))by unfold lK;rw[P]));have M0:=aa (D.qc B V);clear D L0 H P E2
       exact afc
      ·rw[H]
       have E:=aa (E2.trans (show _=(u,x.t,(0:Int))by unfold lK;rw[P]));have y:w8.cell? ⟨g,2+i*2,none⟩=some (.slice A n o):=((D.ah 0 rfl).cell (2+i*2)).trans W;have U0:=(lQ.1 Q).1;obtain⟨hn,N1,J1,_⟩:=(D.eM (C:=cy) (e:=273) (size:=4) (v:= .slice A n o) (xs:=(u.r i).h)).sl;obtain⟨ad,rfl,R⟩:=(D.eM (C:=cy) (e:=273) (size:=4) (v:= .slice A n o) (xs:=(u.r i).h)).at_ gC Q;obtain⟨e0,e1,e2,e3⟩:=nZ R;have k0:(0:Int)<=(k:Int):=oM
       have k1:(k:Int)<(n:Int):=oM
       have kg:decide ((k:Int)≥0)=true:=dZ k0;have E1:decide (0<=(k:Int))=true:=kg;have M0:=aa (D.qc B V);clear D L0 H P E2 R Q hn U0
       exact afc
    ·have X:=aa (O0.trans (show T.oE c i q=if F1.m=q then(T,0,90)else(T,0,91)by unfold aI.oE;rw[P];simp only[A0]))
     have L1:=(lQ.1 hq).1;obtain⟨ad,rfl,R⟩:=(F.rQ (C:=il) (size:=2) (v:= .slice S m d) (xs:=(T.r i).w)).at_ kY hq;obtain⟨e0,e1⟩:=yq R;have k0:(0:Int)<=(J0:Int):=oM
     have k1:(J0:Int)<(m:Int):=by have:=E0.out;omega
     have kg:decide ((J0:Int)≥0)=true:=dZ k0;have E1:decide (0<=(J0:Int))=true:=kg;have K:=aa (F.qc B V);clear F R P hq A0 G0 H0 B0 L1;by_cases Y:F1.m=q
     ·have b1:=El Y
      have E:=aa (X.trans (iP Y));clear Y X
      exact ad6
     ·have b1:=OC Y
      have E:=aa (X.trans (iN Y));clear Y X
      exact ad6
   ·have X:=aa (O0.trans (show T.oE c i q=if x.m=q then(T,x.t,0)else(T,0,91)by unfold aI.oE;rw[P]))
    have U0:=(lQ.1 Q).1;obtain⟨ad,rfl,R⟩:=(F.eM (C:=cy) (e:=273) (size:=4) (v:= .slice A n o) (xs:=(T.r i).h)).at_ gC Q;obtain⟨e0,e1,e2,e3⟩:=nZ R;have k0:(0:Int)<=(k:Int):=oM
    have k1:(k:Int)<(n:Int):=by have:=HN.out;omega
    have kg:decide ((k:Int)≥0)=true:=dZ k0;have E1:decide (0<=(k:Int))=true:=kg;have K:=aa (F.qc B V);clear F R P Q G0 H0 B0 U0;by_cases Y:x.m=q
    ·have b1:=Ec Y
     have E:=aa (X.trans (iP Y));clear Y X
     exact ad6
    ·have b1:=kO Y
     have E:=aa (X.trans (iN Y));clear Y X
     exact ad6
 ·have E:=aa (Z0.trans (show T.acquire c r q=(T,0,cO c r)from iP G))
  obtain⟨R1,H⟩:=nM (cO c r);rw[<-H]at G E⊢;have b1:=OC G;have j:=aa h1;clear h1 K0 H G
  go_wp2_with fail
  go_ret2
  exact⟨by rw[E.out];try rfl,by rw[E.out];exact j.out⟩
end
section
open Go.Shelf
theorem yI(g:Nat)(T:aI)(c r t:Int)(w:World)(A0:bC T)(h:St I w (bW g T::L)):
 Rt I w 152 #[pO g,iI c,iI r,iU t] (iI (T.release c r t).2) (bW g (T.release c r t).1::L):=by
 have H:=aa h;obtain⟨av,X⟩:=nM (T.release c r t);rw[<-X];refine bm X A0 λl B=>?_;clear h X A0
 go_enter func152,ntmps152
 go_wp2_with fail
 refine(LX g T c r t _ H).mono ?_;rintro e w1⟨J0,rfl,A,S⟩;by_cases Y:T.fY c r t=0
 ·obtain⟨i,k,x,U,b,n,o,D,rfl,G,d,G0,J,rfl,Z⟩:=S Y
  have W:=aa (l.trans (show T.release c (i:Int) t=((T.vS i (xo (T.r i).h c)).fh i,0)from iN (by rw[Y];simp)));rw[Y];rw[J]at Z;have H0:=aa J;have C:=aa (show(lS T.now T.last U)[2+i*2]? =some (.slice (aO b) n o)by refine(p8 T.now T.last U D).trans ?_;rw[J]);have y:w1.cell? ⟨g,2+i*2,none⟩=some (.slice (aO b) n o):=((Z.ah 0 rfl).cell (2+i*2)).trans C;have i0:(0:Int)<=(i:Int):=oM
  have i1:(i:Int)<4:=oM
  refine ib Z G d λK a HK=>?_;clear Z H A S Y G d G0 J
  go_wp2_with fail
  refine qK (sA g (2+i*2) (aO b) n o (T.r i).h c _ y (λI0 hW=>hW.eM) K) λw2 F=>?_;rw[a.out];have F0:=(lQ.1 HK).1;have Q:xo (T.r i).h c=(T.r i).h.eraseIdx k:=by
   rcases mV (λh:be=>h.c==c) (T.r i).h with⟨C0,_⟩|⟨k',x',C0,_,_,_,D0⟩
   ·have:=a.out;omega
   ·have e:k=k':=by have:=a.out;omega
    rw[e];exact D0
  have E0:=B.hl i D;obtain⟨j,N⟩:=nM (k+1);have jw:IntKind.i64.wrap ((k:Int)+1)=(j:Int):=by rw[N,IntWalk.i64_in _ oM];omega
  clear y;have y:w2.cell? ⟨g,2+i*2,none⟩=some (.slice (aO b) n o):=((F.ah 0 rfl).cell (2+i*2)).trans C;refine ib (F.fi 1) N Q λP HJ HD=>?_;clear F K N Q E0
  go_wp2_with fail
  refine(Hy (T.r i).h (aO b) n o k j _ HJ F0 P).mono ?_;rintro e w3⟨q,hq,rfl,M⟩;obtain⟨z,R⟩:=nM (aJ U i ⟨⟨some ⟨b,0,none⟩,q,o⟩,(U i).w⟩);clear y jw;have y:w3.cell? ⟨g,2+i*2,none⟩=some (.slice (aO b) n o):=((M.ah 1 rfl).cell (2+i*2)).trans C;have f:=(M.ah 1 rfl).frozen;have u:=(M.fi 1).br (2+i*2) (.slice (aO b) q o) (lS T.now T.last z) (by rw[R];exact wD T.now T.last U D ⟨some ⟨b,0,none⟩,q,o⟩);have O:=u.sub (L':=iq g T.now T.last z::fv ⟨some ⟨b,0,none⟩,q,o⟩ ((T.r i).h.eraseIdx k)::en (U i).w (T.r i).w::jo U T.r i::L);rw[<-HD.out,show(⟨some ⟨b,0,none⟩,q,o⟩:Lv)=(z i).h by rw[R,fb],show(U i).w=(z i).w by rw[R,fb],show jo U T.r i=jo z T.r i from qy (λj N=>by rw[R,pU _ _ N]) (λ_ _=>rfl)]at O;have p:=aa O;clear M u O P R hq
  go_wp2_with fail
  clear y f;refine qK (ym g i T.now T.last T.r (xo (T.r i).h c) (T.r i).w z _ D ⟨B.AZ,B.Ee⟩ ⟨B.qD,B.uh⟩ p) λw4 V=>?_;rw[<-MA]at V;have B0:=aa V;clear V p
  go_wp2_with fail
  go_ret
  exact⟨by rw[W.out];try rfl,by rw[W.out];exact B0.out⟩
 ·have Z:=A Y
  have E:=aa (l.trans (show T.release c r t=(T,T.fY c r t)from iP Y));obtain⟨K0,G⟩:=nM (T.fY c r t);rw[<-G]at Y E⊢;have b1:=OC Y;have K:=aa Z;clear Z H G Y A S
  go_wp2_with fail
  go_ret
  exact aea
theorem yX:∀(U:List be) (c u:Int) (k:Nat) (x:be),U[k]? =some x->(x.c==c)=true->(U.take k).any (λh=>h.c==c)=false->iD U c u=U.set k ⟨x.c,x.m,x.t,u⟩
 |[],_,_,k,x,h,_,_=>by simp at h
 |y::r,c,u,0,x,h,J,_=>by
  obtain rfl:y=x:=by simpa using h
  unfold iD;rw[iP J]
  rfl
 |y::r,c,u,k+1,x,h,J,o=>by
  rw[Kx,Yh,Yw]at o;unfold iD;rw[iN (by rw[o.1];exact gV),yX r c u k x acX J o.2]
  rfl
theorem Qn(g:Nat)(T:aI)(c r t:Int)(w:World)(P:bC T)(h:St I w (bW g T::L)):
 Rt I w 199 #[pO g,iI c,iI r,iU t] (.tuple #[iU (T.renew c r t).2.1,iI (T.renew c r t).2.2]) (bW g (T.renew c r t).1::L):=by
 have H:=aa h;obtain⟨av,K⟩:=nM (T.renew c r t);rw[<-K];refine bm K P λX B=>?_;clear h K P
 go_enter func199,ntmps199
 go_wp2_with fail
 refine(LX g T c r t _ H).mono ?_;rintro e w1⟨G0,rfl,D,C⟩;by_cases Y:T.fY c r t=0
 ·obtain⟨i,k,x,U,b,n,o,A0,rfl,G,F,C0,J,rfl,Z⟩:=C Y
  obtain⟨u,l⟩:=nM (fH T.now);have p:iD (T.r i).h c u=(T.r i).h.set k ⟨x.c,x.m,x.t,u⟩:=by
   rcases pj (λh:be=>h.c==c) (T.r i).h 0 with⟨a,_⟩|⟨k',x',a,O,hp,B0⟩
   ·omega
   ·have e:k=k':=oM
    subst e;rw[F]at O;obtain rfl:x=x':=by simpa using O
    exact yX _ c u k x F hp B0
  have A:=aa (X.trans (show T.renew c (i:Int) t=(T.vS i (iD (T.r i).h c u),u,0)by rw[l];exact iN (by rw[Y];simp)));rw[Y];rw[J]at Z;have z:w1.cell? (aD g 0)=some (iU T.now):=(Z.ah 0 rfl).cell 0;have F0:=(lQ.1 F).1;refine Cz p l J Z F λd W Q N S=>?_;clear Z H D C Y G F C0 J p l
  go_wp2_with fail
  refine qK (EH g T.now _ B.AZ B.Ee z N) λw2 V=>?_;rw[<-W.out];obtain⟨M,q,D0⟩:=(V.fi 1).Dp gC (k:=k) (j:=3) (x:=x) (y:=⟨x.c,x.m,x.t,u⟩) (u:= iU u) S oM rfl;obtain⟨y0,E0⟩:=zb9.1 q;rw[<-d.out]at M;have R:=aa (M.sub (L':=iq g T.now T.last U::fv ⟨some ⟨b,0,none⟩,n,o⟩ (iD (T.r i).h c u)::en (U i).w (T.r i).w::jo U T.r i::L));clear V M N q z
  go_wp2_with fail
  go_ret2
  refine⟨by rw[A.out];try rfl,?_⟩;rw[A.out];refine St.Kn (U:=U) A0 (by rw[<-Q.out]) (λ_ _=>rfl) R
 ·have Z:=D Y
  have E:=aa (X.trans (show T.renew c r t=(T,0,T.fY c r t)from iP Y));obtain⟨H0,G⟩:=nM (T.fY c r t);rw[<-G]at Y E⊢;have b1:=OC Y;have N:=aa Z;clear Z H G Y D C
  go_wp2_with fail
  go_ret2
  exact⟨by rw[E.out];try rfl,by rw[E.out];exact N.out⟩
end
section
open Go.Shelf
theorem Oq(g:Nat)(T:aI)(c r:Int)(w:World)(E0:bC T)(C0:St I w (bW g T::L)):
 Rt I w 153 #[pO g,iI c,iI r] (iI (T.cancel c r).2) (bW g (T.cancel c r).1::L):=by
 have H:=aa C0;obtain⟨av,p⟩:=nM (T.cancel c r);rw[<-p];refine bm p E0 λA0 X=>?_;clear C0 p E0
 go_enter func153,ntmps153
 go_wp2_with fail
 refine qK (yM c r _ H) λw1 Z=>?_;by_cases G:cO c r=0
 ·have hb:=jZ G
  rw[G];obtain⟨i,rfl⟩:=zY hb.2.2.1;have B:i<4:=oM
  have D:=aa (A0.trans (show T.cancel c (i:Int)=match vk (T.r i).w c with
   |some _=>((T.cY i (qF (T.r i).w c)).fh i,0)
   |none=>(T,41)from iN (by rw[G];simp)))
  obtain⟨U,M⟩:=Z.Is B;obtain⟨⟨A,n,o⟩,⟨S,m,d⟩,b⟩:∃hv wv,U i=⟨hv,wv⟩:=⟨_,_,rfl⟩;have B0:=aa b;rw[show(U i).h=⟨A,n,o⟩by rw[b],show(U i).w=⟨S,m,d⟩by rw[b]]at M;have e:=aa (show(lS T.now T.last U)[2+i*2+1]? =some (.slice S m d)by refine(Ih T.now T.last U B).trans ?_;rw[b]);have u:w1.cell? ⟨g,2+i*2+1,none⟩=some (.slice S m d):=((M.ah 0 rfl).cell (2+i*2+1)).trans e;have i0:(0:Int)<=(i:Int):=oM
  have i1:(i:Int)<4:=oM
  have y:=aa M;clear Z M H b hb G
  go_wp2_with fail
  refine qK (Bi g (2+i*2) S m d (T.r i).w c _ u (λH0 J=>J.rQ) y) λw2 F=>?_;clear u;rcases mV (λw:cS=>w.c==c) (T.r i).w with⟨O,P⟩|⟨k,x,O,hk,_,P,hd⟩
  ·rw[O]
   have E:=aa (D.trans (show _=(T,(41:Int))by unfold vk;rw[P]));have K:=aa (F.qc B B0);clear F y O P D
   go_wp2_with fail
   go_ret
   exact aea
  ·rw[O]
   have E:=aa (D.trans (show _=((T.cY i (qF (T.r i).w c)).fh i,(0:Int))by unfold vk;rw[P]));have D0:=(lQ.1 hk).1;obtain⟨K0,P0,N0,_⟩:=(F.rQ (C:=il) (size:=2) (v:= .slice S m d) (xs:=(T.r i).w)).sl;have u:w2.cell? ⟨g,2+i*2+1,none⟩=some (.slice S m d):=((F.ah 0 rfl).cell (2+i*2+1)).trans e;have kn:decide ((k:Int)<0)=false:=decide_eq_false (by omega);have L0:=X.wl i B;have O0:m<=4:=oM
   obtain⟨j,N⟩:=nM (k+1);have jw:IntKind.i64.wrap ((k:Int)+1)=(j:Int):=by rw[N,IntWalk.i64_in _ oM];omega
   refine mr (show qF (T.r i).w c=(T.r i).w.eraseIdx k from hd) D0 N F λHD G0 HJ K=>?_;clear F y O P D hk hd D0 N K0 L0
   go_wp2_with fail
   refine(DN S m d (T.r i).w _ (λH0 J=>J.rQ) oM K).mono ?_;rintro I0 w3⟨v3,rfl,Y⟩;obtain⟨a,R,rfl,J0⟩:=(Y.eM At.here).value;obtain⟨m3,Q⟩:=nM ((T.r i).w.length);rw[<-Q]at Y J0⊢;refine bm Q Y λM0 H6=>?_;clear Y K u kn Q
   go_wp2_with fail
   refine(Hp (T.r i).w a m3 R k j _ HJ G0 H6).mono ?_;rintro I0 w4⟨q,hq,rfl,h7⟩;have t:=h7.yg;rw[<-HD.out]at t;obtain⟨z,l⟩:=nM (aJ U i ⟨(U i).h,⟨a,q,R⟩⟩);have u:w4.cell? ⟨g,2+i*2+1,none⟩=some (.slice S m d):=((t.ah 1 rfl).cell (2+i*2+1)).trans e;have f:=(t.ah 1 rfl).frozen;have h9:=(t.fi 1).br (2+i*2+1) (.slice a q R) (lS T.now T.last z) (by rw[l];exact wz T.now T.last U B ⟨a,q,R⟩);have V:=h9.sub (L':=iq g T.now T.last z::fv ⟨A,n,o⟩ (T.r i).h::en ⟨a,q,R⟩ (qF (T.r i).w c)::jo U T.r i::L);rw[show(⟨A,n,o⟩:Lv)=(z i).h by rw[l,fb,B0.out],show(⟨a,q,R⟩:Lv)=(z i).w by rw[l,fb],show jo U T.r i=jo z T.r i from qy (λj N=>by rw[l,pU _ _ N]) (λ_ _=>rfl)]at V;have h:=aa V;clear h7 t h9 V H6 l hq jw
   go_wp2_with fail
   clear u f;refine qK (ym g i T.now T.last T.r (T.r i).h (qF (T.r i).w c) z _ B ⟨X.AZ,X.Ee⟩ ⟨X.qD,X.uh⟩ h) λw5 W=>?_;rw[<-Bn]at W;have F0:=aa W;clear W h
   go_wp2_with fail
   go_ret
   exact⟨by rw[E.out];try rfl,by rw[E.out];exact F0.out⟩
 ·have E:=aa (A0.trans (show T.cancel c r=(T,cO c r)from iP G))
  obtain⟨Q0,O⟩:=nM (cO c r);rw[<-O]at G E⊢;have b1:=OC G;have H1:=aa Z;clear Z H O G
  go_wp2_with fail
  go_ret
  exact⟨by rw[E.out];try rfl,by rw[E.out];exact H1.out⟩
theorem Ld(g:Nat)(T:aI)(w:World)(h:St I w (bW g T::L)):Rt I w 60 #[pO g] (iU T.now) (bW g T::L):=by
 obtain⟨U,Z⟩:=h.IT;have z:w.cell? (aD g 0)=some (iU T.now):=(Z.ah 0 rfl).cell 0;have H:=aa h;clear h Z
 go_enter func60,ntmps60
 exact adY
theorem o6{r:Int}(h:cD r=true):∃i:Nat,r=(i:Int)/\i<4:=by
 unfold cD at h;simp at h;exact⟨r.toNat,oM,oM⟩
theorem IF(g:Nat)(T:aI)(r:Int)(w:World)(X:bC T)(h:St I w (bW g T::L)):Calls prog 151 #[pO g,iI r] w λe O=>∃v,e= .returned v/\St I O (ns cy 4 v (T.ly r)::bW g T::L):=by
 refine bm h X λH c=>?_;clear h X
 go_enter func151,ntmps151
 go_wp2_with fail
 refine qK (GD r _ H) λz Z=>?_
 cases R:cD r with
 |false=>
  have E:Hid (T.ly r=[]):=iN (by rw[R];exact gV);have Y:=aa (Z.KC cy 4);clear Z H R
  go_wp2_with fail
  go_ret
  exact⟨_,rfl,by rw[E.out];exact Y.out⟩
 |true=>
  obtain⟨i,rfl,B⟩:=o6 R;have E:Hid (T.ly (i:Int)=(T.r i).h):=iP R;obtain⟨U,M⟩:=Z.Is B;obtain⟨⟨A,n,o⟩,wv,b⟩:∃K wv,U i=⟨K,wv⟩:=⟨_,_,rfl⟩;have l:=aa b;rw[show(U i).h=⟨A,n,o⟩by rw[b],show(U i).w=wv by rw[b]]at M;have y:z.cell? ⟨g,2+i*2,none⟩=some (.slice A n o):=((M.ah 0 rfl).cell (2+i*2)).trans (by refine(p8 T.now T.last U B).trans ?_;rw[b]);have d:=(M.eM (C:=cy) (e:=273) (size:=4) (v:= .slice A n o) (xs:=(T.r i).h)).sl.1;have S:=c.hl i B;have k:n<=4:=oM
  have a:(0:Int)<=(i:Int):=oM
  have F:(i:Int)<4:=oM
  have N:=aa M;clear Z M H b R d S
  go_wp2_with fail
  refine(DL A n o (T.r i).h _ (λW J=>J.eM) oM N).mono ?_;rintro e G⟨q,rfl,P⟩;have j:=P.yg.sub (L':=iq g T.now T.last U::fv ⟨A,n,o⟩ (T.r i).h::en wv (T.r i).w::jo U T.r i::ns cy 4 q (T.r i).h::L);have D:=aa (j.qc B l).swap;clear P j N y
  go_wp2_with fail
  go_ret
  exact⟨_,rfl,by rw[E.out];exact D.out⟩
end
section
open Go.Shelf
theorem JR{L R:List aw}(C:Nat)(q:Int)(x:be)(w:World)(o:At (ab C 31 #[iU q]) L R)(h:St I w L):
 Calls prog 148 (#[.agg (cy x).toArray]++ #[pO C]) w λe O=>e= .returned (.bool (decide (x.u<=q)))/\St I O L:=by
 have Z:=h.alloc 273 #[iI x.c,iI x.m,iU x.t,iU x.u];have D:=(Z.ah 0 rfl).cell 3;have z:=(Z.tT (At.there o)).cell 0;have H:=aa Z.tail;clear h Z
 go_enter func148,ntmps148
 exact adY
def wU(r:Nat->wb)(q:Int)(k:Nat):Nat->wb:=λj=>if j<k then⟨(r j).h.filter (λh=> !decide (h.u<=q)),(r j).w⟩else r j
theorem Mx(r:Nat->wb)(q:Int)(k:Nat){N:Nat->wb}(h:N=wU r q k):aJ N k ⟨(N k).h.filter (λh=> !decide (h.u<=q)),(N k).w⟩=wU r q (k+1):=by
 subst h
 funext j
 unfold aJ wU;by_cases S:j=k
 ·subst S
  simp only[if_true,zdz,if_false,Nat.lt_succ_self]
 ·rw[iN S]
  by_cases B:j<k
  ·rw[iP B,iP oM]
  ·rw[iN B,iN oM]
theorem Kv(g:Nat)(q last:Int){r r':Nat->wb}(h:∀j,j<4->r' j=r j):bW g ⟨q,last,r⟩=bW g ⟨q,last,r'⟩:=by
 unfold bW
 congr 1
 funext U
 show aX (iq g q last U) (gQ [dr U r 0,dr U r 1,dr U r 2,dr U r 3])=aX (iq g q last U) (gQ [dr U r' 0,dr U r' 1,dr U r' 2,dr U r' 3]);unfold dr;rw[h 0 oM,h 1 oM,h 2 oM,h 3 oM]
def aI.gives(T:aI):Nat->aI
 |0=>T
 |k+1=>(aI.gives T k).fh k
theorem bC.gives{T:aI}(h:bC T):∀k,k<=4->bC (T.gives k)
 |0,_=>h
 |k+1,F=>(h.gives k oM).fh oM
theorem UP(g:Nat)(T:aI)(q:Int)(w:World)(z:bC T)(t:q<=18446744073709551615)(h:St I w (bW g T::L)):
 Rt I w 95 #[pO g,iU q] (.tuple #[]) (bW g (T.time q)::L):=by
 have Z:=h.alloc 31 #[iU q];generalize S0:w.heap.size=gb at Z;obtain⟨vs0,V⟩:=Z.swap.IT;have c0:(w.alloc (.cells #[iU q] 31)).cell? (aD g 0)=some (iU T.now):=(V.ah 0 rfl).cell 0;have n0:=(V.ah 5 rfl).cell 0;obtain⟨c,y⟩:=nM (T.now);refine mr V z t y λH2 B M0 R0=>?_;rw[<-y]at c0;by_cases p:q<=T.now
 ·have E:Hid (T.time q=T):=iP p
  have J:q<=c:=by rw[y];exact p
  have d1:decide (q<=c)=true:=dZ J;have r:=aa Z.tail;clear h Z V z t y p J
  go_enter func95,ntmps95
  go_wp2_with fail
  go_quiet (fail)
  go_wp2_with fail
  ((try simp only[Exit.inBlock,Exit.then]);refine bodyPost_ret (results_none rfl _ _ _) rfl ?_)
  exact⟨rfl,by rw[E.out];exact r.drewN _⟩
 ·have E:Hid (T.time q=(aI.mk q T.last (λi=>⟨(T.r i).h.filter (λh=> !decide (h.u<=q)),(T.r i).w⟩)).gives 4):=iN p
  have J:¬q<=c:=by rw[y];exact p
  have d1:decide (q<=c)=false:=dQ J;have K0:=aa p;clear h Z V z t y p J
  go_enter func95,ntmps95
  go_wp2_with fail
  go_quiet (fail)
  have M:=H2.drewN nq;have f:=(M.ah 0 rfl).frozen;have h4:=M.br 0 (iU q) (lS q T.last vs0) rfl;obtain⟨la,P⟩:=nM (T.last);have F:=St.QW (T:=⟨q,T.last,T.r⟩) h4;rw[show(⟨q,T.last,T.r⟩:aI)=⟨q,la,wU T.r q 0⟩by rw[P,show wU T.r q 0=T.r from funext λj=>iN oM]]at F;refine bm F P λH4 J0=>?_;clear M h4 F H2 d1 P
  go_wp2_with fail
  go_loopg [18] 4 (λQ iv wr=>∃(k:Nat),Q=4-k/\k<=4/\iv= iI (k:Nat)/\St I wr (bW g ⟨q,la,wU T.r q k⟩::ab gb 31 #[iU q]::L))
  case atStart=>exact⟨0,rfl,oM,rfl,H4⟩
  case round=>
   clear H4 f c0 n0;obtain⟨k,u,hk,rfl,h⟩:=hrel;have R:=aa u;clear u;by_cases H:k<4
   ·obtain⟨N,A0⟩:=nM (wU T.r q k)
    rw[<-A0]at h;have O0:=aa A0;obtain⟨U,Z⟩:=h.Is H;obtain⟨⟨A,n,o⟩,wv,b⟩:∃hv wv,U k=⟨hv,wv⟩:=⟨_,_,rfl⟩;have P0:=aa b;have V:St I wr (iq g q la U::fv (U k).h (N k).h::en (U k).w (N k).w::jo U N k::ab gb 31 #[iU q]::L):=Z;rw[show(U k).h=⟨A,n,o⟩by rw[b],show(U k).w=wv by rw[b]]at V;have B0:=aa (show(lS q la U)[2+k*2]? =some (.slice A n o)by refine(p8 q la U H).trans ?_;rw[b]);have K:=V.pk 5 [0,1,4,2,3];have i0:(0:Int)<=(k:Int):=oM
    have i1:(k:Int)<4:=oM
    clear h Z V b A0
    go_wp2_with fail
    refine ak (I:=I) (L0:=en wv (N k).w::jo U N k::L) [⟨none,some 15,λe=>iq g q la U⟩,⟨none,some 10,λe=>dV cy 273 4 (.slice A n o) (N k).h⟩,⟨none,none,λe=>ab gb 31 #[iU q]⟩,⟨some 10,none,λe=>dV cy 273 4 (.slice (e 10).A ((N k).h.filter (λh=> !decide (h.u<=q))).length (e 10).n) ((N k).h.filter (λh=> !decide (h.u<=q)))⟩,⟨some 15,none,λe=>iq g q la (aJ U k ⟨⟨(e 10).A,((N k).h.filter (λh=> !decide (h.u<=q))).length,(e 10).n⟩,(U k).w⟩)⟩] [[],[],[],[],[2],[2,4],[2,3,4,5],[2,3,4,5,6],[2,3,4,5,6,7],[],[2,3,4,5,6,7,8,9],[0],[0,11],rG 13,rG 14,rG 15] (rG 16) rfl kR kR kR (by rfl) (λ_=>rfl) K.fk ?_;refine Sq ?_;refine kj _ rfl (λe D O h=>by(have h:=h.fn;have bo:D.cell? ⟨g,2+k*2,none⟩=some (.slice A n o):=((h.ah 0 rfl).cell (2+k*2)).trans B0;go_simp;try rfl)) ?_;simp only[aR];refine lY ?_;refine aZ 149 (λe=> #[.slice A n o,.func (.func 148) #[] #[pO gb]]) (λe=> .slice (e 10).A ((N k).h.filter (λh=> !decide (h.u<=q))).length (e 10).n) rfl (λe D O h=>by(
     have h:=h.fn;refine(FE (L:=iq g q la U::ab gb 31 #[iU q]::O) 148 #[pO gb] (λh=>decide (h.u<=q)) (N k).h A n o _ (enters_of func148 kR rfl) (λX x Q0 _ hW=>JR gb q x Q0 (by exact aU) hW) (h.sub)).mono ?_;rintro T0 wy⟨v,rfl,Z⟩;obtain⟨G,a,rfl,_⟩:=(Z.eM At.here).value;exact⟨⟨G,a,default⟩,rfl,Z.fk⟩)) ?_
    simp only[aR];refine AG ?_;refine jA (λe=> .pointer (some ⟨g,2+k*2,none⟩)) (λe=> .slice (e 10).A ((N k).h.filter (λh=> !decide (h.u<=q))).length (e 10).n) rfl rfl (λe D O h=>by(
     have h:=h.fn;have bo:D.cell? ⟨g,2+k*2,none⟩=some (.slice A n o):=((h.ah 0 rfl).cell (2+k*2)).trans B0;have f:=(h.ah 0 rfl).frozen;have Z:=(h.fi 0).br (2+k*2) (.slice (e 10).A ((N k).h.filter (λh=> !decide (h.u<=q))).length (e 10).n) (lS q la (aJ U k ⟨⟨(e 10).A,((N k).h.filter (λh=> !decide (h.u<=q))).length,(e 10).n⟩,(U k).w⟩)) (wD q la U H ⟨(e 10).A,((N k).h.filter (λh=> !decide (h.u<=q))).length,(e 10).n⟩);exact⟨_,gS,Z.fk⟩)) ?_
    simp only[Act.put];refine ax ?_;intro e w1 h;have h:=h.fn;obtain⟨G,D0⟩:∃G,(e 10).A=G:=⟨_,rfl⟩;obtain⟨a,E0⟩:∃a,(e 10).n=a:=⟨_,rfl⟩;obtain⟨FL,d⟩:=nM (((N k).h.filter (λh=> !decide (h.u<=q))));have F:=h.pk 5 [2,1,3,4,0];rw[D0,E0,<-d]at F;have h6:=St.Kn (U:=aJ U k ⟨⟨G,FL.length,a⟩,(U k).w⟩) (vs0:=U) (hv:=⟨G,FL.length,a⟩) (wv:=wv) H (by rw[fb,P0.out]) (λj S=>pU _ _ S) F;refine bm h6 d λC I0=>?_;clear K h F h6 D0 E0 d
    go_wp2_with fail
    go_roundg (4-(k+1))
    case measure=>exact aec
    case rel=>exact⟨k+1,rfl,oM,by go_num,by have h:=C.out;rw[I0.out]at h;rw[<-Mx T.r q k O0.out];exact h⟩
   ·obtain rfl:k=4:=oM
    obtain⟨l,W⟩:∃l:aI,l=aI.mk q T.last (λi=>⟨(T.r i).h.filter (λh=> !decide (h.u<=q)),(T.r i).w⟩):=⟨_,rfl⟩;have F:St I wr (bW g (l.gives 0)::L):=by
     rw[show l.gives 0=l from rfl,W,Kv g q T.last (r':=wU T.r q 4) (λj S=>iP S),<-J0.out];exact h.sub
    have F0:bC l:=by
     rw[W];have K:=B.AZ;have Z:=K0.out;exact⟨by show 0<=q;omega,M0,B.qD,B.uh,λj S=>qJ (VP _ _) (B.hl j S),λj S=>B.wl j S⟩
    have N0:=aa F0;have E1:=aa (show T.time q=l.gives 4 by rw[W];exact E.out);have H5:=aa F;clear h F W F0 H
    go_wp2_with fail
    go_loopg [37] 4 (λQ iv wr=>∃(k:Nat),Q=4-k/\k<=4/\iv= iI (k:Nat)/\St I wr (bW g (l.gives k)::L))
    case atStart=>exact⟨0,rfl,oM,rfl,H5⟩
    case round=>
     clear H5 R;obtain⟨k,u,hk,rfl,h⟩:=hrel;have R:=aa u;clear u;by_cases H:k<4
     ·obtain⟨U,Z⟩:=h.Is H
      have i0:(0:Int)<=(k:Int):=oM
      have i1:(k:Int)<4:=oM
      have r:=aa Z;have G0:=N0.gives k oM;have Y:=aa G0;clear h Z G0
      go_wp2_with fail
      refine qK (ym g k (l.gives k).now (l.gives k).last (l.gives k).r ((l.gives k).r k).h ((l.gives k).r k).w U _ H ⟨Y.AZ,Y.Ee⟩ ⟨Y.qD,Y.uh⟩ r) λw4 C0=>?_;have H0:Hid (St I w4 (bW g (l.gives (k+1))::L)):=C0;clear C0 r
      go_wp2_with fail
      go_roundg (4-(k+1))
      case measure=>exact aec
      case rel=>exact⟨k+1,rfl,oM,by go_num,H0⟩
     ·obtain rfl:k=4:=oM
      have C:=aa h;clear h
      go_wp2_with fail
      go_end0
      exact⟨rfl,by rw[E1.out];exact C.out⟩
end
end Go.Proofs.YtblpaldggenbaaaGreatDoor
