/- A part. -/
import Derived.Test.YtblpaldggenbaaaGreatDoorMk
namespace Go.Proofs.YtblpaldggenbaaaGreatDoor
open Go.RowKit Go.Proofs.Tryz
set_option maxRecDepth 100000
set_option maxHeartbeats 64000000
variable{L:List az}{I:aK}
section
open Go.Shelf
theorem St.Nz{P:Program}{w:World}{t e:TypeId}{z:Value}{size bytes n:Nat}{N:LV}{i:Array Oper}{rest:List Oper}{o:Oper}{a:Act}{Q:Exit->Act->World->Prop}(M:fY P t e z size bytes)(h:St I w L)(H:o.guard=none)(s x:Operand)
 (E:o.op= .call {callee:= .builtin .append,args:= #[s,x],argTypes:= #[t,t]}) {q:OA} (V:a.eval s= .slice q n n) (U:Sl w Any size q n N)
 (A:OA) (m c:Nat) (J:a.eval x= .slice A m c) (R:LV) (F:Sl w Any size A m R) (Z:∀u∈R,u.oneCell'=true) (p:0<m)
 (B:(n+m)*bytes<=140737488355328) (W:n+m<=140737488355328)
 (k:∀X r O,St I O (ct e size (.slice X (n+m) r) (n+m) (N++R)::L)->wpList P i Q rest (a.put o.dst (.slice X (n+m) r)) O):wpList P i Q (o::rest) a w:=by
 obtain⟨l,O,d,G⟩:=St.FD M h o.type U A m c R F Z p B W;obtain⟨X,r,rfl⟩:=G.slice;refine wpList_plain H λK g=> ?_;unfold Oper.wp execOp;simp only[E,resolve,invoke,builtin,Sem.run_bind,Sem.run_pure,Result.andThen_ok,CB,nG,zF,V,J,d];exact g _ _ (k X r O G)
theorem Yz(A:OA)(n c:Nat)(w:World)(_hn:n<=c)(_hc:c<=9223372036854775807):Calls prog 216 #[.slice A n c] w λe O=>e= .returned (.slice A n n)/\w=O:=by
 go_enter func216,ntmps216
 go_wp2
 exact ae9
theorem Bz(T:aH)(i:Nat)(B:List cY):(T.cz i B).ff i=⟨T.now,(fF T.now B (T.r i).h T.last).2.2,aI T.r i ⟨(fF T.now B (T.r i).h T.last).2.1,(fF T.now B (T.r i).h T.last).1⟩⟩:=by
 unfold aH.ff aH.cz;simp only[fa,FB]
theorem Mr(T:aH)(i:Nat)(V:List bh):(T.vX i V).ff i=⟨T.now,(fF T.now (T.r i).w V T.last).2.2,aI T.r i ⟨(fF T.now (T.r i).w V T.last).2.1,(fF T.now (T.r i).w V T.last).1⟩⟩:=by
 unfold aH.ff aH.vX;simp only[fa,FB]
theorem St.qa{w:World}{g i:Nat}{T:aH}{V:Nat->rz}{o wv:Lh}(z:i<4)(b:V i=⟨o,wv⟩)(h:St I w (iA g T.now T.last V::fx o (T.r i).h::er wv (T.r i).w::ju V T.r i::L)):St I w (bX g T::L):=by
 have U:=h.JP z b (λ_ _=>rfl);rwa[yM T i]at U
theorem IS(g:Nat)(T:aH)(c r j:Int)(w:World)(D1:bD T)(h:St I w (bX g T::L)):
 Rt I w 196 #[pO g,iI c,iI r,iI j] (.tuple #[iU (T.acquire c r j).2.1,iI (T.acquire c r j).2.2]) (bX g (T.acquire c r j).1::L):=by
 have K0:=aa h;obtain⟨av,T0⟩:=nM (T.acquire c r j);rw[<-T0];refine bq T0 D1 λZ0 F0=>?_;clear h T0 D1
 go_enter func196,ntmps196
 go_wp2_with fail
 refine qK (yT c r _ K0) λw1 h1=>?_;by_cases U:cQ c r=0
 ·have N0:=aa (Z0.trans (show T.acquire c r j=if Bv j=false then(T,0,91)else T.oB c r.toNat j from iN (by rw[U];simp)))
  have hb:=j7 U;rw[U];have F:=aa h1;clear h1 K0 U
  go_wp2_with fail
  refine qK (Ut j _ F) λw2 h2=>?_
  cases hm:Bv j with
  |false=>
   refine bq (N0.trans (iP hm)) h2 λE H2=>?_;clear h2 F hm
   go_wp2_with fail
   go_ret2
   exact⟨by rw[E.out];try rfl,by rw[E.out];exact H2.out⟩
  |true=>
   obtain⟨i,rfl⟩:=BE hb.2.2.1;have X:i<4:=oM
   have O0:=aa (N0.trans (show _=T.oB c i j from iN (by rw[hm];exact Bool.noConfusion)));obtain⟨V,h3⟩:=h2.Ib X;obtain⟨⟨A,n,t⟩,⟨q,m,d⟩,D⟩:∃hv wv,V i=⟨hv,wv⟩:=⟨_,_,rfl⟩;have G:=aa D;rw[show(V i).h=⟨A,n,t⟩by rw[D],show(V i).w=⟨q,m,d⟩by rw[D]]at h3;have O:=aa (show(lP T.now T.last V)[2+i*2]? =some (.slice A n t)by refine(pZ T.now T.last V X).trans ?_;rw[D]);have P0:=aa (show(lP T.now T.last V)[2+i*2+1]? =some (.slice q m d)by refine(Hr T.now T.last V X).trans ?_;rw[D]);have y:w2.cell? ⟨g,2+i*2,none⟩=some (.slice A n t):=((h3.ah 0 rfl).cell (2+i*2)).trans O;have i0:(0:Int)<=(i:Int):=oM
   have i1:(i:Int)<4:=oM
   have H3:=aa h3;clear h2 h3 F hm D N0 hb
   go_wp2_with fail
   refine qK (sI g (2+i*2) A n t (T.r i).h c _ y (λB1 W=>W.jg) H3) λw3 S=>?_;clear y;have cw:w3.cell? ⟨g,2+i*2+1,none⟩=some (.slice q m d):=((S.ah 0 rfl).cell (2+i*2+1)).trans P0;have H4:=aa S;obtain⟨zh,W0⟩:=nM (jj (λh:bh=>h.c==c) 0 (T.r i).h);have G0:=aa (show(zh= -1/\lG (T.r i).h c=none)\/∃(k:Nat) (x:bh),zh=(k:Int)/\(T.r i).h[k]? =some x/\lG (T.r i).h c=some x by
    rw[W0];rcases mO (λh:bh=>h.c==c) (T.r i).h with⟨a,b⟩|⟨k,x,a,b,_,d,_⟩
    ·exact .inl ⟨a,b⟩
    ·exact .inr ⟨k,x,a,b,d⟩)
   rw[<-W0];clear S H3 W0
   go_wp2_with fail
   refine qK (Bt g (2+i*2) q m d (T.r i).w c _ cw (λB1 W=>W.rZ) H4) λJ u=>?_;clear cw;obtain⟨zw,X0⟩:=nM (jj (λw:cY=>w.c==c) 0 (T.r i).w);have H0:=aa (show(zw= -1/\vt (T.r i).w c=none)\/∃(k:Nat) (x:cY),zw=(k:Int)/\(T.r i).w[k]? =some x/\vt (T.r i).w c=some x by
    rw[X0];rcases mO (λw:cY=>w.c==c) (T.r i).w with⟨a,b⟩|⟨k,x,a,b,_,d,_⟩
    ·exact .inl ⟨a,b⟩
    ·exact .inr ⟨k,x,a,b,d⟩)
   rw[<-X0];have y:J.cell? ⟨g,2+i*2,none⟩=some (.slice A n t):=((u.ah 0 rfl).cell (2+i*2)).trans O;have cw:J.cell? ⟨g,2+i*2+1,none⟩=some (.slice q m d):=((u.ah 0 rfl).cell (2+i*2+1)).trans P0;have c1:J.cell? (aD g 1)=some (iU T.last):=(u.ah 0 rfl).cell 1;obtain⟨hn,N1,J1,_⟩:=(u.jg (C:=cC) (e:=273) (size:=4) (v:= .slice A n t) (xs:=(T.r i).h)).sl;obtain⟨C1,M1,K1,B0⟩:=(u.rZ (C:=ir) (size:=2) (v:= .slice q m d) (xs:=(T.r i).w)).sl;refine bq hn C1 λHN E0=>?_;clear H4 X0 hn C1;rcases G0.out with⟨rfl,P⟩|⟨k,x,rfl,Q,P⟩
   ·have P1:decide ((-1:Int)≥0)=false:=dC
    rcases H0.out with⟨rfl,A0⟩|⟨J0,F1,rfl,hq,A0⟩
    ·have R:=aa (O0.trans (show T.oB c i j=if 4<=(T.r i).w.length\/T.last=18446744073709551615 then(T,0,42)else T.Ar c i j by unfold aH.oB;rw[P];simp only[A0]))
     clear P A0 G0 H0;by_cases N:4<=(T.r i).w.length\/T.last=18446744073709551615
     ·have E:=aa (R.trans (iP N))
      have l:=aa (u.qa X G);clear u B0 R;by_cases S:4<=m
      ·have d1:decide ((m:Int)≥4)=true:=decide_eq_true (by omega)
       have d2:decide ((4:Int)<=(m:Int))=true:=d1;clear N
       exact adf
      ·have d1:decide ((m:Int)≥4)=false:=decide_eq_false (by omega)
       have d2:decide ((4:Int)<=(m:Int))=false:=d1;have hl:T.last=18446744073709551615:=by
        rcases N with hh|hh
        ·rw[<-E0.out]at hh
         exact absurd hh S
        ·exact hh
       have d3:(T.last==18446744073709551615)=true:=Bl hl;obtain⟨la,p⟩:=nM (T.last);rw[<-p]at d3 c1;clear N hl p
       exact adf
     ·have E:=aa (R.trans (iN N))
      have S:m<4:=by have:=E0.out;omega
      have d1:decide ((m:Int)≥4)=false:=decide_eq_false (by omega);have d2:decide ((4:Int)<=(m:Int))=false:=d1;have d3:(T.last==18446744073709551615)=false:=jM (λe=>N (.inr e));refine bq u B0 λl HS=>?_;obtain⟨la,p⟩:=nM (T.last);rw[<-p]at d3 c1;have O1:=aa p;clear N R u B0 p
      go_wp2_with fail
      refine(Yz q m d J M1 K1).mono ?_;rintro e w5⟨rfl,rfl⟩;have h6:=l.alloc 317 #[iI c,iI j];refine iG (h6.ah 0 rfl) h6 (HS.RY ((Fr.refl jo J).alloc (.cells #[iI c,iI j] 317))) λHB H6 A1=>?_;clear l HS h6
      go_wp2_with (at_builtin;refine St.Nz pj H6 rfl _ _ rfl rfl A1 (aO J.heap.size) 1 1 rfl [iI c,iI j] (yl (cs:=[iI c,iI j]) HB) (yW ⟨c,j⟩) oM oM oM ?_;intro Z M w6 h7;have I1:w6.cell? ⟨g,2+i*2+1,none⟩=some (.slice q m d):=((h7.ah 2 rfl).cell (2+i*2+1)).trans P0;have f6:=(h7.ah 2 rfl).frozen)
      obtain⟨ws,V0⟩:=nM ((T.r i).w++[⟨c,j⟩]);have h8:=(St.Lf (C:=ir) (x:=⟨c,j⟩) h7 E0).Dx;rw[<-V0]at h8;obtain⟨z,C0⟩:=nM (aI V i ⟨(V i).h,⟨Z,m+1,M⟩⟩);have h9:=(h8.fi 2).bx (2+i*2+1) (.slice Z (m+1) M) (lP T.now T.last z) (by rw[C0];exact wI T.now T.last V X ⟨Z,m+1,M⟩);have Q0:=h9.sub (L':=iA g T.now T.last z::fx ⟨A,n,t⟩ (T.r i).h::er ⟨Z,m+1,M⟩ ws::ju V T.r i::L);rw[show(⟨A,n,t⟩:Lh)=(z i).h by rw[C0,fa,G.out],show(⟨Z,m+1,M⟩:Lh)=(z i).w by rw[C0,fa],show ju V T.r i=ju z T.r i from qx (λQ1 hj=>by rw[C0,pS _ _ hj]) (λ_ _=>rfl)]at Q0;refine bq Q0 V0 λY0 G1=>?_;clear h7 h8 h9 Q0 H6 A1 HB C0 V0 y cw c1 d1 d2 d3 I1 f6
      try go_wp2_with fail
      refine qK (yA g i T.now T.last T.r (T.r i).h ws z _ X ⟨F0.Bf,F0.Ej⟩ ⟨F0.qD,F0.uh⟩ Y0) λw7 R0=>?_;obtain⟨H,S0⟩:=nM ((T.cz i ((T.r i).w++[⟨c,j⟩])).ff i);rw[<-Bz,G1.out,<-S0]at R0;have E2:=aa (show av=match lG (H.r i).h c with
       |some h=>(H,h.t,0)
       |none=>(H,0,90)by rw[S0];exact E.out)
      obtain⟨D0,I0⟩:=R0.Ib X;obtain⟨⟨A,n,t⟩,⟨q,m,d⟩,D⟩:∃hv wv,D0 i=⟨hv,wv⟩:=⟨_,_,rfl⟩;have G:=aa D;rw[show(D0 i).h=⟨A,n,t⟩by rw[D],show(D0 i).w=⟨q,m,d⟩by rw[D]]at I0;have O:=aa (show(lP H.now H.last D0)[2+i*2]? =some (.slice A n t)by refine(pZ H.now H.last D0 X).trans ?_;rw[D]);have y:w7.cell? ⟨g,2+i*2,none⟩=some (.slice A n t):=((I0.ah 0 rfl).cell (2+i*2)).trans O;have L0:=aa I0;clear R0 I0 Y0 S0 D E
      go_wp2_with fail
      refine qK (sI g (2+i*2) A n t (H.r i).h c _ y (λB1 W=>W.jg) L0) λw8 K=>?_;clear y;rcases mO (λh:bh=>h.c==c) (H.r i).h with⟨o,P⟩|⟨k,x,o,Q,_,P,_⟩
      ·rw[o]
       have E:=aa (E2.trans (show _=(H,(0:Int),(90:Int))by unfold lG;rw[P]));have M0:=aa (K.qa X G);clear K L0 o P E2
       exact aet
      ·rw[o]
       have E:=aa (E2.trans (show _=(H,x.t,(0:Int))by unfold lG;rw[P]));have y:w8.cell? ⟨g,2+i*2,none⟩=some (.slice A n t):=((K.ah 0 rfl).cell (2+i*2)).trans O;have U0:=(nQ.1 Q).1;obtain⟨hn,N1,J1,_⟩:=(K.jg (C:=cC) (e:=273) (size:=4) (v:= .slice A n t) (xs:=(H.r i).h)).sl;obtain⟨ad,rfl,B⟩:=(K.jg (C:=cC) (e:=273) (size:=4) (v:= .slice A n t) (xs:=(H.r i).h)).at_ gH Q;obtain⟨e0,e1,e2,e3⟩:=sg B;have k0:(0:Int)<=(k:Int):=oM
       have k1:(k:Int)<(n:Int):=oM
       have kg:decide ((k:Int)≥0)=true:=dZ k0;have E1:decide (0<=(k:Int))=true:=kg;have M0:=aa (K.qa X G);clear K L0 o P E2 B Q hn U0
       exact aet
    ·have R:=aa (O0.trans (show T.oB c i j=if F1.m=j then(T,0,90)else(T,0,91)by unfold aH.oB;rw[P];simp only[A0]))
     have L1:=(nQ.1 hq).1;obtain⟨ad,rfl,B⟩:=(u.rZ (C:=ir) (size:=2) (v:= .slice q m d) (xs:=(T.r i).w)).at_ kZ hq;obtain⟨e0,e1⟩:=yC B;have k0:(0:Int)<=(J0:Int):=oM
     have k1:(J0:Int)<(m:Int):=by have:=E0.out;omega
     have kg:decide ((J0:Int)≥0)=true:=dZ k0;have E1:decide (0<=(J0:Int))=true:=kg;have l:=aa (u.qa X G);clear u B P hq A0 G0 H0 B0 L1;by_cases Y:F1.m=j
     ·have b1:=Md Y
      have E:=aa (R.trans (iP Y));clear Y R
      exact adf
     ·have b1:=Oc Y
      have E:=aa (R.trans (iN Y));clear Y R
      exact adf
   ·have R:=aa (O0.trans (show T.oB c i j=if x.m=j then(T,x.t,0)else(T,0,91)by unfold aH.oB;rw[P]))
    have U0:=(nQ.1 Q).1;obtain⟨ad,rfl,B⟩:=(u.jg (C:=cC) (e:=273) (size:=4) (v:= .slice A n t) (xs:=(T.r i).h)).at_ gH Q;obtain⟨e0,e1,e2,e3⟩:=sg B;have k0:(0:Int)<=(k:Int):=oM
    have k1:(k:Int)<(n:Int):=by have:=HN.out;omega
    have kg:decide ((k:Int)≥0)=true:=dZ k0;have E1:decide (0<=(k:Int))=true:=kg;have l:=aa (u.qa X G);clear u B P Q G0 H0 B0 U0;by_cases Y:x.m=j
    ·have b1:=Bl Y
     have E:=aa (R.trans (iP Y));clear Y R
     exact adf
    ·have b1:=jM Y
     have E:=aa (R.trans (iN Y));clear Y R
     exact adf
 ·have E:=aa (Z0.trans (show T.acquire c r j=(T,0,cQ c r)from iP U))
  obtain⟨R1,o⟩:=nM (cQ c r);rw[<-o]at U E⊢;have b1:=Oc U;have F:=aa h1;clear h1 K0 o U
  go_wp2_with fail
  go_ret2
  exact ad8
end
section
open Go.Shelf
theorem yP(g:Nat)(T:aH)(c r t:Int)(w:World)(A0:bD T)(h:St I w (bX g T::L)):
 Rt I w 152 #[pO g,iI c,iI r,iU t] (iI (T.release c r t).2) (bX g (T.release c r t).1::L):=by
 have H:=aa h;obtain⟨av,S⟩:=nM (T.release c r t);rw[<-S];refine bq S A0 λW P=>?_;clear h S A0
 go_enter func152,ntmps152
 go_wp2_with fail
 refine(LJ g T c r t _ H).mono ?_;rintro e w1⟨J0,rfl,l,C⟩;by_cases Y:T.gy c r t=0
 ·obtain⟨i,k,x,V,b,n,O,X,rfl,o,d,G0,J,rfl,Z⟩:=C Y
  have D:=aa (W.trans (show T.release c (i:Int) t=((T.vX i (xz (T.r i).h c)).ff i,0)from iN (by rw[Y];simp)));rw[Y];rw[J]at Z;have H0:=aa J;have K:=aa (show(lP T.now T.last V)[2+i*2]? =some (.slice (aO b) n O)by refine(pZ T.now T.last V X).trans ?_;rw[J]);have y:w1.cell? ⟨g,2+i*2,none⟩=some (.slice (aO b) n O):=((Z.ah 0 rfl).cell (2+i*2)).trans K;have i0:(0:Int)<=(i:Int):=oM
  have i1:(i:Int)<4:=oM
  refine iG Z o d λF A HK=>?_;clear Z H l C Y o d G0 J
  go_wp2_with fail
  refine qK (sI g (2+i*2) (aO b) n O (T.r i).h c _ y (λI0 hW=>hW.jg) F) λw2 B=>?_;rw[A.out];have F0:=(nQ.1 HK).1;have a:xz (T.r i).h c=(T.r i).h.eraseIdx k:=by
   rcases mO (λh:bh=>h.c==c) (T.r i).h with⟨C0,_⟩|⟨k',x',C0,_,_,_,D0⟩
   ·have:=A.out;omega
   ·have e:k=k':=by have:=A.out;omega
    rw[e];exact D0
  have E0:=P.hl i X;obtain⟨j,N⟩:=nM (k+1);have jw:IntKind.i64.wrap ((k:Int)+1)=(j:Int):=by rw[N,IntWalk.i64_in _ oM];omega
  clear y;have y:w2.cell? ⟨g,2+i*2,none⟩=some (.slice (aO b) n O):=((B.ah 0 rfl).cell (2+i*2)).trans K;refine iG (B.fi 1) N a λU HJ HD=>?_;clear B F N a E0
  go_wp2_with fail
  refine(Hl (T.r i).h (aO b) n O k j _ HJ F0 U).mono ?_;rintro e w3⟨q,hq,rfl,M⟩;obtain⟨z,u⟩:=nM (aI V i ⟨⟨some ⟨b,0,none⟩,q,O⟩,(V i).w⟩);clear y jw;have y:w3.cell? ⟨g,2+i*2,none⟩=some (.slice (aO b) n O):=((M.ah 1 rfl).cell (2+i*2)).trans K;have f:=(M.ah 1 rfl).frozen;have Q:=(M.fi 1).bx (2+i*2) (.slice (aO b) q O) (lP T.now T.last z) (by rw[u];exact wL T.now T.last V X ⟨some ⟨b,0,none⟩,q,O⟩);have G:=Q.sub (L':=iA g T.now T.last z::fx ⟨some ⟨b,0,none⟩,q,O⟩ ((T.r i).h.eraseIdx k)::er (V i).w (T.r i).w::ju V T.r i::L);rw[<-HD.out,show(⟨some ⟨b,0,none⟩,q,O⟩:Lh)=(z i).h by rw[u,fa],show(V i).w=(z i).w by rw[u,fa],show ju V T.r i=ju z T.r i from qx (λj N=>by rw[u,pS _ _ N]) (λ_ _=>rfl)]at G;have p:=aa G;clear M Q G U u hq
  go_wp2_with fail
  clear y f;refine qK (yA g i T.now T.last T.r (xz (T.r i).h c) (T.r i).w z _ X ⟨P.Bf,P.Ej⟩ ⟨P.qD,P.uh⟩ p) λw4 R=>?_;rw[<-Mr]at R;have B0:=aa R;clear R p
  go_wp2_with fail
  go_ret
  exact⟨by rw[D.out];try rfl,by rw[D.out];exact B0.out⟩
 ·have Z:=l Y
  have E:=aa (W.trans (show T.release c r t=(T,T.gy c r t)from iP Y));obtain⟨K0,o⟩:=nM (T.gy c r t);rw[<-o]at Y E⊢;have b1:=Oc Y;have F:=aa Z;clear Z H o Y l C
  go_wp2_with fail
  go_ret
  exact ad8
theorem zc:∀(V:List bh) (c u:Int) (k:Nat) (x:bh),V[k]? =some x->(x.c==c)=true->(V.take k).any (λh=>h.c==c)=false->iL V c u=V.set k ⟨x.c,x.m,x.t,u⟩
 |[],_,_,k,x,h,_,_=>by simp at h
 |y::r,c,u,0,x,h,J,_=>by
  obtain rfl:y=x:=by simpa using h
  unfold iL;rw[iP J]
  rfl
 |y::r,c,u,k+1,x,h,J,P=>by
  rw[IE,XP,XK]at P;unfold iL;rw[iN (by rw[P.1];exact iu),zc r c u k x ace J P.2]
  rfl
theorem PK(g:Nat)(T:aH)(c r t:Int)(w:World)(B:bD T)(h:St I w (bX g T::L)):
 Rt I w 199 #[pO g,iI c,iI r,iU t] (.tuple #[iU (T.renew c r t).2.1,iI (T.renew c r t).2.2]) (bX g (T.renew c r t).1::L):=by
 have H:=aa h;obtain⟨av,S⟩:=nM (T.renew c r t);rw[<-S];refine bq S B λW P=>?_;clear h S B
 go_enter func199,ntmps199
 go_wp2_with fail
 refine(LJ g T c r t _ H).mono ?_;rintro e w1⟨G0,rfl,O,U⟩;by_cases Y:T.gy c r t=0
 ·obtain⟨i,k,x,V,b,n,R,A0,rfl,o,Q,C0,J,rfl,Z⟩:=U Y
  obtain⟨u,C⟩:=nM (fI T.now);have d:iL (T.r i).h c u=(T.r i).h.set k ⟨x.c,x.m,x.t,u⟩:=by
   rcases sx (λh:bh=>h.c==c) (T.r i).h 0 with⟨a,_⟩|⟨k',x',a,q,hp,B0⟩
   ·omega
   ·have e:k=k':=oM
    subst e;rw[Q]at q;obtain rfl:x=x':=by simpa using q
    exact zc _ c u k x Q hp B0
  have D:=aa (W.trans (show T.renew c (i:Int) t=(T.vX i (iL (T.r i).h c u),u,0)by rw[C];exact iN (by rw[Y];simp)));rw[Y];rw[J]at Z;have l:w1.cell? (aD g 0)=some (iU T.now):=(Z.ah 0 rfl).cell 0;have F0:=(nQ.1 Q).1;refine AS d C J Z Q λX p z F A=>?_;clear Z H O U Y o Q C0 J d C
  go_wp2_with fail
  refine qK (EZ g T.now _ P.Bf P.Ej l F) λw2 G=>?_;rw[<-p.out];obtain⟨M,N,D0⟩:=(G.fi 1).Wx gH (k:=k) (j:=3) (x:=x) (y:=⟨x.c,x.m,x.t,u⟩) (u:= iU u) A oM rfl;obtain⟨y0,E0⟩:=Option.isSome_iff_exists.1 N;rw[<-X.out]at M;have K:=aa (M.sub (L':=iA g T.now T.last V::fx ⟨some ⟨b,0,none⟩,n,R⟩ (iL (T.r i).h c u)::er (V i).w (T.r i).w::ju V T.r i::L));clear G M F N l
  go_wp2_with fail
  go_ret2
  refine⟨by rw[D.out];try rfl,?_⟩;rw[D.out];refine St.JP (V:=V) A0 (by rw[<-z.out]) (λ_ _=>rfl) K
 ·have Z:=O Y
  have E:=aa (W.trans (show T.renew c r t=(T,0,T.gy c r t)from iP Y));obtain⟨H0,o⟩:=nM (T.gy c r t);rw[<-o]at Y E⊢;have b1:=Oc Y;have F:=aa Z;clear Z H o Y O U
  go_wp2_with fail
  go_ret2
  exact ad8
end
section
open Go.Shelf
theorem NV(g:Nat)(T:aH)(c r:Int)(w:World)(E0:bD T)(C0:St I w (bX g T::L)):
 Rt I w 153 #[pO g,iI c,iI r] (iI (T.cancel c r).2) (bX g (T.cancel c r).1::L):=by
 have H:=aa C0;obtain⟨av,p⟩:=nM (T.cancel c r);rw[<-p];refine bq p E0 λA0 P=>?_;clear C0 p E0
 go_enter func153,ntmps153
 go_wp2_with fail
 refine qK (yT c r _ H) λw1 Z=>?_;by_cases U:cQ c r=0
 ·have hb:=j7 U
  rw[U];obtain⟨i,rfl⟩:=BE hb.2.2.1;have X:i<4:=oM
  have Q:=aa (A0.trans (show T.cancel c (i:Int)=match vt (T.r i).w c with
   |some _=>((T.cz i (qE (T.r i).w c)).ff i,0)
   |none=>(T,41)from iN (by rw[U];simp)))
  obtain⟨V,M⟩:=Z.Ib X;obtain⟨⟨A,n,R⟩,⟨S,m,d⟩,b⟩:∃hv wv,V i=⟨hv,wv⟩:=⟨_,_,rfl⟩;have B0:=aa b;rw[show(V i).h=⟨A,n,R⟩by rw[b],show(V i).w=⟨S,m,d⟩by rw[b]]at M;have Y:=aa (show(lP T.now T.last V)[2+i*2+1]? =some (.slice S m d)by refine(Hr T.now T.last V X).trans ?_;rw[b]);have O:w1.cell? ⟨g,2+i*2+1,none⟩=some (.slice S m d):=((M.ah 0 rfl).cell (2+i*2+1)).trans Y;have i0:(0:Int)<=(i:Int):=oM
  have i1:(i:Int)<4:=oM
  have K:=aa M;clear Z M H b hb U
  go_wp2_with fail
  refine qK (Bt g (2+i*2) S m d (T.r i).w c _ O (λH0 B=>B.rZ) K) λw2 t=>?_;clear O;rcases mO (λw:cY=>w.c==c) (T.r i).w with⟨o,u⟩|⟨k,x,o,hk,_,u,hd⟩
  ·rw[o]
   have E:=aa (Q.trans (show _=(T,(41:Int))by unfold vt;rw[u]));have l:=aa (t.qa X B0);clear t K o u Q
   go_wp2_with fail
   go_ret
   exact⟨by rw[E.out];try rfl,by rw[E.out];exact l.out⟩
  ·rw[o]
   have E:=aa (Q.trans (show _=((T.cz i (qE (T.r i).w c)).ff i,(0:Int))by unfold vt;rw[u]));have D0:=(nQ.1 hk).1;obtain⟨K0,P0,N0,_⟩:=(t.rZ (C:=ir) (size:=2) (v:= .slice S m d) (xs:=(T.r i).w)).sl;have O:w2.cell? ⟨g,2+i*2+1,none⟩=some (.slice S m d):=((t.ah 0 rfl).cell (2+i*2+1)).trans Y;have kn:decide ((k:Int)<0)=false:=decide_eq_false (by omega);have L0:=P.wl i X;have O0:m<=4:=oM
   obtain⟨j,N⟩:=nM (k+1);have jw:IntKind.i64.wrap ((k:Int)+1)=(j:Int):=by rw[N,IntWalk.i64_in _ oM];omega
   refine nK (show qE (T.r i).w c=(T.r i).w.eraseIdx k from hd) D0 N t λHD G0 HJ l=>?_;clear t K o u Q hk hd D0 N K0 L0
   go_wp2_with fail
   refine(DP S m d (T.r i).w _ (λH0 B=>B.rZ) oM l).mono ?_;rintro I0 w3⟨v3,rfl,J⟩;obtain⟨a,y,rfl,J0⟩:=(J.jg At.here).value;obtain⟨m3,F⟩:=nM ((T.r i).w.length);rw[<-F]at J J0⊢;refine bq F J λM0 H6=>?_;clear J l O kn F
   go_wp2_with fail
   refine(Hf (T.r i).w a m3 y k j _ HJ G0 H6).mono ?_;rintro I0 w4⟨q,hq,rfl,h7⟩;have W:=h7.Dx;rw[<-HD.out]at W;obtain⟨z,D⟩:=nM (aI V i ⟨(V i).h,⟨a,q,y⟩⟩);have O:w4.cell? ⟨g,2+i*2+1,none⟩=some (.slice S m d):=((W.ah 1 rfl).cell (2+i*2+1)).trans Y;have f:=(W.ah 1 rfl).frozen;have h9:=(W.fi 1).bx (2+i*2+1) (.slice a q y) (lP T.now T.last z) (by rw[D];exact wI T.now T.last V X ⟨a,q,y⟩);have e:=h9.sub (L':=iA g T.now T.last z::fx ⟨A,n,R⟩ (T.r i).h::er ⟨a,q,y⟩ (qE (T.r i).w c)::ju V T.r i::L);rw[show(⟨A,n,R⟩:Lh)=(z i).h by rw[D,fa,B0.out],show(⟨a,q,y⟩:Lh)=(z i).w by rw[D,fa],show ju V T.r i=ju z T.r i from qx (λj N=>by rw[D,pS _ _ N]) (λ_ _=>rfl)]at e;have h:=aa e;clear h7 W h9 e H6 D hq jw
   go_wp2_with fail
   clear O f;refine qK (yA g i T.now T.last T.r (T.r i).h (qE (T.r i).w c) z _ X ⟨P.Bf,P.Ej⟩ ⟨P.qD,P.uh⟩ h) λw5 G=>?_;rw[<-Bz]at G;have F0:=aa G;clear G h
   go_wp2_with fail
   go_ret
   exact⟨by rw[E.out];try rfl,by rw[E.out];exact F0.out⟩
 ·have E:=aa (A0.trans (show T.cancel c r=(T,cQ c r)from iP U))
  obtain⟨Q0,o⟩:=nM (cQ c r);rw[<-o]at U E⊢;have b1:=Oc U;have H1:=aa Z;clear Z H o U
  go_wp2_with fail
  go_ret
  exact⟨by rw[E.out];try rfl,by rw[E.out];exact H1.out⟩
theorem KN(g:Nat)(T:aH)(w:World)(h:St I w (bX g T::L)):Rt I w 60 #[pO g] (iU T.now) (bX g T::L):=by
 obtain⟨V,Z⟩:=h.IG;have D:w.cell? (aD g 0)=some (iU T.now):=(Z.ah 0 rfl).cell 0;have H:=aa h;clear h Z
 go_enter func60,ntmps60
 exact adb
theorem o8{r:Int}(h:cB r=true):∃i:Nat,r=(i:Int)/\i<4:=by
 unfold cB at h;simp at h;exact⟨r.toNat,oM,oM⟩
theorem Ir(g:Nat)(T:aH)(r:Int)(w:World)(B:bD T)(h:St I w (bX g T::L)):Calls prog 151 #[pO g,iI r] w λe O=>∃v,e= .returned v/\St I O (nm cC 4 v (T.lp r)::bX g T::L):=by
 refine bq h B λH P=>?_;clear h B
 go_enter func151,ntmps151
 go_wp2_with fail
 refine qK (Gv r _ H) λz Z=>?_
 cases R:cB r with
 |false=>
  have E:Hid (T.lp r=[]):=iN (by rw[R];exact iu);have F:=aa (Z.Kh cC 4);clear Z H R
  go_wp2_with fail
  go_ret
  exact⟨_,rfl,by rw[E.out];exact F.out⟩
 |true=>
  obtain⟨i,rfl,X⟩:=o8 R;have E:Hid (T.lp (i:Int)=(T.r i).h):=iP R;obtain⟨V,M⟩:=Z.Ib X;obtain⟨⟨A,n,t⟩,wv,b⟩:∃o wv,V i=⟨o,wv⟩:=⟨_,_,rfl⟩;have D:=aa b;rw[show(V i).h=⟨A,n,t⟩by rw[b],show(V i).w=wv by rw[b]]at M;have y:z.cell? ⟨g,2+i*2,none⟩=some (.slice A n t):=((M.ah 0 rfl).cell (2+i*2)).trans (by refine(pZ T.now T.last V X).trans ?_;rw[b]);have d:=(M.jg (C:=cC) (e:=273) (size:=4) (v:= .slice A n t) (xs:=(T.r i).h)).sl.1;have Q:=P.hl i X;have a:n<=4:=oM
  have G:(0:Int)<=(i:Int):=oM
  have N:(i:Int)<4:=oM
  have K:=aa M;clear Z M H b R d Q
  go_wp2_with fail
  refine(DM A n t (T.r i).h _ (λW J=>J.jg) oM K).mono ?_;rintro e Y⟨q,rfl,u⟩;have l:=u.Dx.sub (L':=iA g T.now T.last V::fx ⟨A,n,t⟩ (T.r i).h::er wv (T.r i).w::ju V T.r i::nm cC 4 q (T.r i).h::L);have j:=aa (l.qa X D).swap;clear u l K y
  go_wp2_with fail
  go_ret
  exact⟨_,rfl,by rw[E.out];exact j.out⟩
end
section
open Go.Shelf
theorem Jw{L R:List az}(n:Nat)(l:Int)(x:bh)(w:World)(g:At (ab n 31 #[iU l]) L R)(h:St I w L):
 Calls prog 148 (#[.agg (cC x).toArray]++ #[pO n]) w λe O=>e= .returned (.bool (decide (x.u<=l)))/\St I O L:=by
 have Z:=h.alloc 273 #[iI x.c,iI x.m,iU x.t,iU x.u];have Q:=(Z.ah 0 rfl).cell 3;have D:=(Z.Um (At.there g)).cell 0;have H:=aa Z.tail;clear h Z
 go_enter func148,ntmps148
 exact adb
def xn(r:Nat->wz)(l:Int)(k:Nat):Nat->wz:=λj=>if j<k then⟨(r j).h.filter (λh=> !decide (h.u<=l)),(r j).w⟩else r j
theorem Mn(r:Nat->wz)(l:Int)(k:Nat){i:Nat->wz}(h:i=xn r l k):aI i k ⟨(i k).h.filter (λh=> !decide (h.u<=l)),(i k).w⟩=xn r l (k+1):=by
 subst h
 funext j
 unfold aI xn;by_cases H:j=k
 ·subst H
  simp only[if_true,Nat.lt_irrefl,if_false,Nat.lt_succ_self]
 ·rw[iN H]
  by_cases t:j<k
  ·rw[iP t,iP oM]
  ·rw[iN t,iN oM]
theorem JY(g:Nat)(l last:Int){r r':Nat->wz}(h:∀j,j<4->r' j=r j):bX g ⟨l,last,r⟩=bX g ⟨l,last,r'⟩:=by
 unfold bX
 congr 1
 funext V
 show aX (iA g l last V) (gU [dv V r 0,dv V r 1,dv V r 2,dv V r 3])=aX (iA g l last V) (gU [dv V r' 0,dv V r' 1,dv V r' 2,dv V r' 3]);unfold dv;rw[h 0 oM,h 1 oM,h 2 oM,h 3 oM]
def aH.gives(T:aH):Nat->aH
 |0=>T
 |k+1=>(aH.gives T k).ff k
theorem bD.gives{T:aH}(h:bD T):∀k,k<=4->bD (T.gives k)
 |0,_=>h
 |k+1,Q=>(h.gives k oM).ff oM
theorem Uo(g:Nat)(T:aH)(l:Int)(w:World)(R:bD T)(N:l<=18446744073709551615)(h:St I w (bX g T::L)):
 Rt I w 95 #[pO g,iU l] (.tuple #[]) (bX g (T.time l)::L):=by
 have Z:=h.alloc 31 #[iU l];generalize S0:w.heap.size=gb at Z;obtain⟨vs0,G⟩:=Z.swap.IG;have c0:(w.alloc (.cells #[iU l] 31)).cell? (aD g 0)=some (iU T.now):=(G.ah 0 rfl).cell 0;have n0:=(G.ah 5 rfl).cell 0;obtain⟨c,W⟩:=nM (T.now);refine nK G R N W λH2 P M0 R0=>?_;rw[<-W]at c0;by_cases B:l<=T.now
 ·have E:Hid (T.time l=T):=iP B
  have Y:l<=c:=by rw[W];exact B
  have d1:decide (l<=c)=true:=dZ Y;have F:=aa Z.tail;clear h Z G R N W B Y
  go_enter func95,ntmps95
  go_wp2_with fail
  go_quiet (fail)
  go_wp2_with fail
  ((try simp only[Exit.inBlock,Exit.then]);refine bodyPost_ret (results_none rfl _ _ _) rfl ?_)
  exact⟨rfl,by rw[E.out];exact F.drewN _⟩
 ·have E:Hid (T.time l=(aH.mk l T.last (λi=>⟨(T.r i).h.filter (λh=> !decide (h.u<=l)),(T.r i).w⟩)).gives 4):=iN B
  have Y:¬l<=c:=by rw[W];exact B
  have d1:decide (l<=c)=false:=dQ Y;have K0:=aa B;clear h Z G R N W B Y
  go_enter func95,ntmps95
  go_wp2_with fail
  go_quiet (fail)
  have z:=H2.drewN nq;have f:=(z.ah 0 rfl).frozen;have h4:=z.bx 0 (iU l) (lP l T.last vs0) rfl;obtain⟨la,y⟩:=nM (T.last);have U:=St.Qy (T:=⟨l,T.last,T.r⟩) h4;rw[show(⟨l,T.last,T.r⟩:aH)=⟨l,la,xn T.r l 0⟩by rw[y,show xn T.r l 0=T.r from funext λj=>iN oM]]at U;refine bq U y λH4 J0=>?_;clear z h4 U H2 d1 y
  go_wp2_with fail
  go_loopg [18] 4 (λM iv wr=>∃(k:Nat),M=4-k/\k<=4/\iv= iI (k:Nat)/\St I wr (bX g ⟨l,la,xn T.r l k⟩::ab gb 31 #[iU l]::L))
  case atStart=>exact⟨0,rfl,oM,rfl,H4⟩
  case round=>
   clear H4 f c0 n0;obtain⟨k,C,hk,rfl,h⟩:=hrel;have a:=aa C;clear C;by_cases d:k<4
   ·obtain⟨o,A0⟩:=nM (xn T.r l k)
    rw[<-A0]at h;have O0:=aa A0;obtain⟨V,Z⟩:=h.Ib d;obtain⟨⟨A,n,t⟩,wv,b⟩:∃hv wv,V k=⟨hv,wv⟩:=⟨_,_,rfl⟩;have P0:=aa b;have G:St I wr (iA g l la V::fx (V k).h (o k).h::er (V k).w (o k).w::ju V o k::ab gb 31 #[iU l]::L):=Z;rw[show(V k).h=⟨A,n,t⟩by rw[b],show(V k).w=wv by rw[b]]at G;have B0:=aa (show(lP l la V)[2+k*2]? =some (.slice A n t)by refine(pZ l la V d).trans ?_;rw[b]);have K:=G.pk 5 [0,1,4,2,3];have i0:(0:Int)<=(k:Int):=oM
    have i1:(k:Int)<4:=oM
    clear h Z G b A0
    go_wp2_with fail
    refine an (I:=I) (L0:=er wv (o k).w::ju V o k::L) [⟨none,some 15,λe=>iA g l la V⟩,⟨none,some 10,λe=>kJ cC 273 4 (.slice A n t) (o k).h⟩,⟨none,none,λe=>ab gb 31 #[iU l]⟩,⟨some 10,none,λe=>kJ cC 273 4 (.slice (e 10).A ((o k).h.filter (λh=> !decide (h.u<=l))).length (e 10).n) ((o k).h.filter (λh=> !decide (h.u<=l)))⟩,⟨some 15,none,λe=>iA g l la (aI V k ⟨⟨(e 10).A,((o k).h.filter (λh=> !decide (h.u<=l))).length,(e 10).n⟩,(V k).w⟩)⟩] [[],[],[],[],[2],[2,4],[2,3,4,5],[2,3,4,5,6],[2,3,4,5,6,7],[],[2,3,4,5,6,7,8,9],[0],[0,11],rG 13,rG 14,rG 15] (rG 16) rfl kR kR kR (by rfl) (λ_=>rfl) K.fk ?_;refine RU ?_;refine mH _ rfl (λe p O h=>by(have h:=h.fn;have bo:p.cell? ⟨g,2+k*2,none⟩=some (.slice A n t):=((h.ah 0 rfl).cell (2+k*2)).trans B0;go_simp;try rfl)) ?_;simp only[aW];refine nL ?_;refine bp 149 (λe=> #[.slice A n t,.func (.func 148) #[] #[pO gb]]) (λe=> .slice (e 10).A ((o k).h.filter (λh=> !decide (h.u<=l))).length (e 10).n) rfl (λe p O h=>by(
     have h:=h.fn;refine(FC (L:=iA g l la V::ab gb 31 #[iU l]::O) 148 #[pO gb] (λh=>decide (h.u<=l)) (o k).h A n t _ (enters_of func148 kR rfl) (λX x Q0 _ hW=>Jw gb l x Q0 (by exact aU) hW) (h.sub)).mono ?_;rintro T0 wy⟨v,rfl,Z⟩;obtain⟨S,r,rfl,_⟩:=(Z.jg At.here).value;exact⟨⟨S,r,default⟩,rfl,Z.pk 3 [1,2,0]⟩)) ?_
    simp only[aW];refine Ed ?_;refine lM (λe=> .pointer (some ⟨g,2+k*2,none⟩)) (λe=> .slice (e 10).A ((o k).h.filter (λh=> !decide (h.u<=l))).length (e 10).n) rfl rfl (λe p O h=>by(
     have h:=h.fn;have bo:p.cell? ⟨g,2+k*2,none⟩=some (.slice A n t):=((h.ah 0 rfl).cell (2+k*2)).trans B0;have f:=(h.ah 0 rfl).frozen;have Z:=(h.fi 0).bx (2+k*2) (.slice (e 10).A ((o k).h.filter (λh=> !decide (h.u<=l))).length (e 10).n) (lP l la (aI V k ⟨⟨(e 10).A,((o k).h.filter (λh=> !decide (h.u<=l))).length,(e 10).n⟩,(V k).w⟩)) (wL l la V d ⟨(e 10).A,((o k).h.filter (λh=> !decide (h.u<=l))).length,(e 10).n⟩);exact⟨_,gS,Z.fk⟩)) ?_
    simp only[Act.put];refine aA ?_;intro e w1 h;have h:=h.fn;obtain⟨S,D0⟩:∃S,(e 10).A=S:=⟨_,rfl⟩;obtain⟨r,E0⟩:∃r,(e 10).n=r:=⟨_,rfl⟩;obtain⟨FL,q⟩:=nM (((o k).h.filter (λh=> !decide (h.u<=l))));have U:=h.pk 5 [2,1,3,4,0];rw[D0,E0,<-q]at U;have h6:=St.JP (V:=aI V k ⟨⟨S,FL.length,r⟩,(V k).w⟩) (vs0:=V) (hv:=⟨S,FL.length,r⟩) (wv:=wv) d (by rw[fa,P0.out]) (λj H=>pS _ _ H) U;refine bq h6 q λD I0=>?_;clear K h U h6 D0 E0 q
    go_wp2_with fail
    go_roundg (4-(k+1))
    case measure=>exact adI
    case rel=>exact⟨k+1,rfl,oM,by go_num,by have h:=D.out;rw[I0.out]at h;rw[<-Mn T.r l k O0.out];exact h⟩
   ·obtain rfl:k=4:=oM
    obtain⟨Q,u⟩:∃Q:aH,Q=aH.mk l T.last (λi=>⟨(T.r i).h.filter (λh=> !decide (h.u<=l)),(T.r i).w⟩):=⟨_,rfl⟩;have U:St I wr (bX g (Q.gives 0)::L):=by
     rw[show Q.gives 0=Q from rfl,u,JY g l T.last (r':=xn T.r l 4) (λj H=>iP H),<-J0.out];exact h.sub
    have F0:bD Q:=by
     rw[u];have K:=P.Bf;have Z:=K0.out;exact⟨by show 0<=l;omega,M0,P.qD,P.uh,λj H=>qJ (Xd _ _) (P.hl j H),λj H=>P.wl j H⟩
    have N0:=aa F0;have E1:=aa (show T.time l=Q.gives 4 by rw[u];exact E.out);have H5:=aa U;clear h U u F0 d
    go_wp2_with fail
    go_loopg [37] 4 (λM iv wr=>∃(k:Nat),M=4-k/\k<=4/\iv= iI (k:Nat)/\St I wr (bX g (Q.gives k)::L))
    case atStart=>exact⟨0,rfl,oM,rfl,H5⟩
    case round=>
     clear H5 a;obtain⟨k,C,hk,rfl,h⟩:=hrel;have a:=aa C;clear C;by_cases d:k<4
     ·obtain⟨V,Z⟩:=h.Ib d
      have i0:(0:Int)<=(k:Int):=oM
      have i1:(k:Int)<4:=oM
      have F:=aa Z;have G0:=N0.gives k oM;have J:=aa G0;clear h Z G0
      go_wp2_with fail
      refine qK (yA g k (Q.gives k).now (Q.gives k).last (Q.gives k).r ((Q.gives k).r k).h ((Q.gives k).r k).w V _ d ⟨J.Bf,J.Ej⟩ ⟨J.qD,J.uh⟩ F) λw4 C0=>?_;have H0:Hid (St I w4 (bX g (Q.gives (k+1))::L)):=C0;clear C0 F
      go_wp2_with fail
      go_roundg (4-(k+1))
      case measure=>exact adI
      case rel=>exact⟨k+1,rfl,oM,by go_num,H0⟩
     ·obtain rfl:k=4:=oM
      have D:=aa h;clear h
      go_wp2_with fail
      go_end0
      exact⟨rfl,by rw[E1.out];exact D.out⟩
end
end Go.Proofs.YtblpaldggenbaaaGreatDoor
