/- The statement is proved, for every input, with no condition. -/
import Derived.Test.YtblpaldggenbaaaGreatDoorTie
import Derived.Test.YtblpaldggenbaaaGreatDoorCards
import Derived.Test.YtblpaldggenbaaaGreatDoorMae
import Derived.Test.YtblpaldggenbaaaGreatDoorMad
import Derived.Test.YtblpaldggenbaaaGreatDoorMab
namespace Go.Proofs.YtblpaldggenbaaaGreatDoor
open Go.RowKit Go.Proofs.Tryz
set_option maxRecDepth 100000
set_option maxHeartbeats 64000000
variable{e:eW}
section
theorem PL(e:eW)(l:List bp):(tq l e).length<=l.length+1:=by
 have h:=congrArg List.length (CP e l);rw[nL]at h;rw[h]
 split<;>simp
theorem AN(r:Int)(l:List eW)(e:eW):(fZ r (l++[e])).length<=(fZ r l).length+1:=by
 rw[lp]
 split
 ·exact PL _ _
 ·omega
section
variable {X:WM} {a:Nat->Int->Vw} {own:dj} {N:Nat->Rg} {n m:Nat} {T:Int}
theorem GI.Zz(h:GI X a own N n m T)(z:sP X)(C:X.ev.length<=30)(q:e.d=6)(R:1<=e.t)(B:AM e.b)(D:e.b.length<=1000):Jy (X.ev++[e]) where
 Wk r:=by have:=z.Wk r;have:=AN r X.ev e;omega
 n:=by rw[eG];show _+1<=_;omega
 ok r h0 h4 s hs:=by
  have ok:=qY r (X.ev++[e]);obtain⟨x,J,u,S⟩:=(ok.ts s.t).1 (oK.2 ⟨s,hs,rfl⟩);have Z:1<=s.t:=by
   rcases lU.1 J with J|J
   ·have:=(h.ev x J r u).1;omega
   ·rw[lA.1 J]at S;omega
  have V:=h.VR z oM h0 h4 Z;rw[ok.eq s hs,jH]
  split
  ·refine⟨λx J=> ?_,λy E=> ?_,?_⟩
   ·unfold bH at J
    rw[iN oM,iP q]at J;exact V.p x J
   ·unfold bH at E
    rw[iN oM,iP q]at E;rcases lU.1 E with E|E
    ·exact V.k y E
    ·rw[lA.1 E]
     exact B
   ·unfold bH
    rw[iN oM,iP q];exact V.pl
  ·exact V
 bl r h0 h4 x J u hdd:=by
  rcases lU.1 J with J|J
  ·exact h.ZP z h0 h4 x J u hdd
  ·rw[lA.1 J]
   exact D
theorem GI.YR(h:GI X a own N n m T){r:Int}(u:e.cX r=false)(K:0<=r)(Q:r<4){G:List bp}(o:G.Perm (fZ r (X.ev++[e])))(U:(G.map bp.t).Pairwise (·<=·)):(kC G).isSome=true:=by
 rw[lp,iN (by rw[u];exact gV)]at o;exact h.Zy K Q o U
end
theorem GI.aba{X:WM}{gv:Nat->Int->Vw}{own:dj}{N:Nat->Rg}{n m:Nat}{T:Int}(h:GI X gv own N n m T){r:Int}(u:e.cX r=true)(q:e.d=6)(B:23<e.b.length){G:List bp}(o:G.Perm (fZ r (X.ev++[e]))):kC G=none:=by
 have ok:=qY r (X.ev++[e]);have I:∀s∈G,s=aG r s.t (X.ev++[e]):=λs J=>ok.eq s (o.mem_iff.1 J);obtain⟨s,U,V⟩:=oK.1 ((ok.ts e.t).2 ⟨e,by simp,u,rfl⟩);have U:=o.mem_iff.2 U;refine On (λs J p g=> ?_) (y:=⟨((aG r e.t X.ev).p.length:Nat),e.i,e.b⟩) U ?_ B
 ·rw[I s J]at g
  obtain⟨x,J,F,K,Z⟩:=LN _ _ _ p g;rw[Z];rcases lU.1 J with J|J
  ·exact h.ed x J F K
  ·rw[lA.1 J,q]at F
   cases F
 ·rw[I s U,V,jH,iP (by unfold mC;rw[u];simp)]
  unfold bH;rw[iN oM,iP q];exact acy
end
section
open Go.Shelf
theorem MJ{P:Program}{d:Array Oper}{rest:List Oper}{o:Oper}{a:Act}{Q:Exit->Act->World->Prop}{w O:World}{v:Value}(r:o.guard=none)(t:TypeId)(p V E j i:Nat)(G c F D R:Operand)(A b W Y J:Value)(H:o.op= .build t #[(p,G),(V,c),(E,F),(j,D),(i,R)])(M:a.eval G=A)(S:a.eval c=b)(u:a.eval F=W)(q:a.eval D=Y)(g:a.eval R=J)
 (C:(Instr.build t #[(p,A),(V,b),(E,W),(j,Y),(i,J)]).run P w= .ok v O) (h:wpList P d Q rest (a.put o.dst v) O):wpList P d Q (o::rest) a w:=by
 refine wpList_plain r λK l=> ?_;unfold Oper.wp execOp;simp only[H,M,S,u,q,g,FV,li,BQ,Sem.run_bind,Sem.run_pure,Result.andThen_ok,C];exact l _ _ h
abbrev AO(r b:Int):eW:=⟨6,0,r,b,18446744073709551615,List.replicate 24 0,0⟩
abbrev Mi(R D:Int)(C:Nat):Vq:=kM 6 0 R D 18446744073709551615 (.slice (aO C) 24 24) 0
abbrev WD(R D:Int)(C:Nat):LV:=OQ 6 0 R D 18446744073709551615 (.slice (aO C) 24 24) 0
theorem Nt(r b:Int)(A:OA)(n c:Nat)(w:World):(Instr.build 34 #[(0,iI 6),(2,iI r),(3,iI b),(4,iU 18446744073709551615),(5,.slice A n c)]).run prog w= .ok (.agg (kM 6 0 r b 18446744073709551615 (.slice A n c) 0)) w:=kR
theorem Xf(w:World):(Instr.makeSlice 27 (iI 24) (iI 24)).run prog w= .ok (.slice (aO w.heap.size) 24 24) (w.alloc (.cells ((List.replicate 24 (0:Int)).map (Value.int .u8)).toArray 5)):=Ry 24 oM w
theorem Ph{I:aH}{L:List aw}(hT:ml I)(v:Value)(l:List jd)(r D:Int)(w:World)(hq:∀o∈l,Pd o)(h:St I w (aB 7 AY v l::L)):
 Rt I w 7 #[v,iI r,iI D] (.bool true) L:=by
 obtain⟨A,D0,rfl,hc,hm⟩:=(h.dJ 0 rfl).slice;obtain⟨n,hn⟩:=nM (l.length);have b:=aa hn;rw[<-hn]at h⊢;refine bm hq h λHQ H=>?_;clear h hq hn hc hm;have key:((30:Int)<n\/(¬(30:Int)<n/\r<0)\/(¬(30:Int)<n/\¬r<0/\r>3)\/(¬(30:Int)<n/\¬r<0/\¬r>3/\D<0)\/(¬(30:Int)<n/\¬r<0/\¬r>3/\¬D<0/\D>3))\/(¬(30:Int)<n/\¬r<0/\¬r>3/\¬D<0/\¬D>3):=oM
 rcases key with key|⟨a,p,y,K,F⟩
 ·rcases key with a|⟨a,p⟩|⟨a,p,y⟩|⟨a,p,y,K⟩|⟨a,p,y,K,F⟩
  all_goals(
   first
   |have d5:decide (D>3)=true:=dZ F
   |skip
   first
   |have d4:decide (D<0)=true:=dZ K
   |have d4:decide (D<0)=false:=dQ K
   |skip
   first
   |have d3:decide (r>3)=true:=dZ y
   |have d3:decide (r>3)=false:=dQ y
   |skip
   first
   |have d2:decide (r<0)=true:=dZ p
   |have d2:decide (r<0)=false:=dQ p
   |skip
   go_enter func7,ntmps7
   go_wp2_with fail
   refine qH (rU _ H) λw1 Y=>?_;clear H
   go_wp2_with fail
   refine(yd hT _ Y).mono ?_;rintro e w2⟨B,rfl,h⟩;have T:=aa h;clear h Y
   go_wp2_with fail
   go_ret
   exact⟨rfl,T.tail.tail⟩)
 obtain⟨R,rfl⟩:∃R:Nat,r=(R:Int):=⟨r.toNat,oM⟩;have D1:R<4:=oM
 have Z0:n<=30:=oM
 have d2:decide ((R:Int)<0)=false:=dQ p;have d3:decide ((R:Int)>3)=false:=dQ y;have d4:decide (D<0)=false:=dQ K;have d5:decide (D>3)=false:=dQ F
 go_enter func7,ntmps7
 go_wp2_with fail
 refine qH (rU _ H) λw1 Y=>?_;clear H
 go_wp2_with fail
 refine(yd hT _ Y).mono ?_;rintro e w2⟨B,rfl,h⟩;have T:=aa h;clear h Y
 go_wp2_with fail
 clear d2 d3 d4 d5 p y K F
 go_loopg [9] n (λgh iv wr=>∃(k:Nat) (E:WM) (v:Nat->Int->Vw) (own:dj) (N:Nat->Rg) (T1:Int),gh=n-k/\k<=n/\iv= iI (k:Nat)/\yC E v own N k T1/\T1<=1+(k:Int)/\E.ev.length=k/\sP E/\St I wr (Ka B E::aB 7 AY (.slice A n D0) l::L))
 case atStart=>exact afO
 case round=>
  clear T;obtain⟨k,E,v,own,N,T1,O0,hk,rfl,T0,I0,N0,Q0,h⟩:=hrel;have u:=aa (And.intro O0 (And.intro T0 (And.intro I0 (And.intro N0 Q0))));clear O0 T0 I0 N0 Q0;by_cases E1:k<n
  case neg=>
   have G0:E.ev.length<=30:=by rw[u.out.2.2.2.1];omega
   have F1:=Xf;have P0:(AO R D).cX R=true:=by simp[eW.cX]
   have R0:∀j:Nat,j<R->(AO R D).cX j=false:=λj hj=>by
    have:¬(R:Int)=(j:Int):=oM
    simp[eW.cX,this]
   have J0:AM (List.replicate 24 (0:Int)):=λx J=>by
    obtain⟨_,rfl⟩:=List.mem_replicate.1 J;omega
   have HH:=aa (u.2.1.g.Zz (e:=AO R D) u.2.2.2.2 G0 rfl (by show(1:Int)<=18446744073709551615;decide) J0 (by show(List.replicate 24 (0:Int)).length<=1000;rw[Sr];omega));have HX:=aa (λ(j:Nat) (hj:j<R) (G:List bp) (d:G.Perm (fZ j (E.ev++[AO R D]))) (hs:(G.map bp.t).Pairwise (·<=·))=>u.2.1.g.YR (R0 j hj) oM oM d hs);have HY:=aa (λ(G:List bp) (d:G.Perm (fZ R (E.ev++[AO R D])))=>u.2.1.g.aba (e:=AO R D) P0 rfl (by show 23<(List.replicate 24 (0:Int)).length;rw[Sr];omega) d);have V:St I _ (ai .u8 (.slice (aO wr.heap.size) 24 24) (List.replicate 24 0)::Ka B E::aB 7 AY (.slice A n D0) l::L):=h.pK 5 .u8 (List.replicate 24 0) (by rw[Sr];omega) wr.heap.size rfl;obtain⟨C,q⟩:=nM (wr.heap.size);have V0:=aa q;rw[<-q]at V;have M:=V.alloc 34 (Mi R D C);have W:=aa G0;rw[World.size_alloc,<-q]at M;obtain⟨ge,F0⟩:=nM (C+1);have W0:=aa F0;rw[<-F0]at M;have P:=aa M;clear h V M G0 P0 R0 J0 q F0 u b HQ Z0
   go_upto_region 13 with((with_reducible apply MJ (t:=34));(focus rfl);(focus rfl);(focus rfl);(focus rfl);(focus rfl);(focus rfl);(focus rfl);(focus exact Nt _ _ _ _ _ _))
   rw[<-V0.out,<-W0.out];have h0:=P.out;clear P;refine ak (I:=I) (L0:=aB 7 AY (.slice A n D0) l::L) [⟨none,none,λe=>ab ge 34 (Mi R D C)⟩,⟨none,none,λe=>ai .u8 (.slice (aO C) 24 24) (List.replicate 24 0)⟩,⟨none,none,λe=>Ka B E⟩,⟨some 1,some 4,λe=>ay 34 7 qI ((e 1).v) E.ev⟩,⟨some 3,none,λe=>ab (e 3).n 34 (Mi R D C)⟩,⟨some 4,some 5,λe=>ay 34 7 qI ((e 4).v) (E.ev++[AO R D])⟩] [[],[0],[],[2],rG 4,rG 5,rG 6] (rG 7) rfl kR kR kR (by rfl) (λ_=>rfl) h0.fk ?_;refine lY ?_;refine aZ 16 (λe=> #[pO B]) (λe=>(e 1).v) rfl (λe O z h=>by(
    have h:=h.fn;refine(Bq B E _ (by have:=W.out;omega) (h.fi 2)).mono ?_;rintro C1 wy⟨v,rfl,Z⟩;exact⟨⟨none,0,v⟩,rfl,Z.fk⟩)) ?_
   simp only[aR];refine kj _ rfl (λe O z h=>by(have h:=h.fn;obtain⟨y0,y1,y2,y3,y4,y5,y6⟩:=(h.tT (g:=ge) (t:=34) (cs:=Mi R D C)).seven;go_simp;try rfl)) ?_;simp only[aR];refine xN (λe=> .slice (some ⟨(e 3).n,0,none⟩) 1 1) rfl (λe O z h=>by(
    have h:=h.fn;have Z:=h.alloc 34 (Mi R D C);exact⟨⟨none,O.heap.size,default⟩,_,cM rfl rfl (vJ _ _ _ _ _ _ _ _ _ _),Z.fk⟩)) ?_
   simp only[aR];refine xN (λe=>(e 4).v) rfl (λe O z h=>by(
    have h:=h.fn;have hz:=PX (cs:=WD R D C) (h.tT (g:=(e 3).n) (t:=34) (cs:=Mi R D C)) rfl;have Z:=(h.jT (Q:=λw=>aA w .u8 (.slice (aO C) 24 24) (List.replicate 24 0))).bu (R':=λw=>qI w (WD R D C) (AO R D)) (λX0 hw=>⟨_,_,rfl,hw⟩);have V:=Z.fi 4;obtain⟨A1,c1,q1,_,hv,G1,_⟩:=V.nC;rw[hv]at V;obtain⟨A',c',X0,U0,M⟩:=(V.front (X:=aS (λw=>qI w (WD R D C) (AO R D)))).swap.yB uM _ ⟨(e 3).n,0,none⟩ 1 hz (Dh _ _ _ _ _ _ _ _ _) rfl (by have:=W.out;omega) (by have:=W.out;omega);exact⟨⟨none,0,.slice A' (q1+1) c'⟩,_,gL rfl hv rfl U0,M.fk⟩)) ?_
   simp only[aR];refine aZ 15 (λe=> #[(e 4).v]) (λe=> iI (R:Nat)) rfl (λe O z h=>by(
    have h:=h.fn;refine(BA ((e 4).v) (E.ev++[AO R D]) R _ oM HH HX (λ_ G d _=>HY G d) ((h.fi 4).PS)).mono ?_;rintro C1 wy⟨rfl,Z⟩;exact⟨⟨none,0,default⟩,by rw[iN oM],Z.fk⟩)) ?_
   simp only[aR];refine lY ?_;refine ax ?_;intro e w1 h;have h:=h.fn;have U:=aa (h.pk 5 []);clear h h0
   go_wp2_with fail
   go_ret
   exact⟨rfl,U⟩
  have J:=gP (l:=l) (i:=k) (by have:=b.out;omega);generalize l[k]'(by have:=b.out;omega)=o at J;obtain⟨ad,A0,S,c0,B0,m0,k0,rfl,Y0,K0,Z⟩:=(h.fi 1).wop J;obtain⟨x0,x1,x2,x3,x4,x5,x6⟩:=Rh K0;refine bm (HQ o (pJ J)) (Z.pk 4 [0,1,3,2]) λHO P=>?_;clear h Z K0 J Y0 hk;by_cases c:o.n>1073741824
  ·have d1:decide (o.n>1073741824)=true:=dZ c
   exact aeO
  have d1:decide (o.n>1073741824)=false:=dQ c;by_cases E0:(S:Int)>23
  ·have d2:decide ((S:Int)>23)=true:=dZ E0
   exact aeO
  have d2:decide ((S:Int)>23)=false:=dQ E0;have H0:=aa (Rb HO c)
  go_wp2_with fail
  refine(Qw hT B E o A0 S c0 (.slice B0 m0 k0) _ (u.2.1.now oM adj) H0 HO.2.1 adm P).mono ?_;rintro e w3⟨A3,n3,c3,rfl,h⟩;obtain⟨v2,B1,N2,S0,_⟩:=u.out.2.1.step (o:=o) (T1:=T1+1) oM adj H0 oM oM;have M0:(E.step o).ev.length=k+1:=by rw[oB,eG,u.out.2.2.2.1];rfl
  refine bm (And.intro S0 (And.intro M0 (u.2.2.2.2.step HO.1))) h.tail λC0 U=>?_;clear h P S0 M0 c E0 d1 d2
  go_wp2_with fail
  go_roundg (n-(k+1))
  case measure=>have:=u.1;omega
  case rel=>exact⟨k+1,E.step o,v2,B1,N2,T1+1,rfl,oM,by go_num,C0.1,by have:=u.2.2.1;omega,C0.2.1,C0.2.2,U⟩
end
section
open Go.ChangeAt Go.ChangeShapes Go.Deep Go.WideShapes
theorem tJ(os:Os)(E:os.Started)(H:Type)(enc:TypeId×Value->H):
 ReturnsInHanded {} Tryz.checked os 7 .any (λw args=>(Rows.historyLiesSpec.pre enc prog Tryz.f7 Rows.historyLiesRow.domain false w args/\laidMet prog Rows.historyLiesRow.laid w)/\sizedMet enc prog Tryz.f7 (OpenSpec.ofChange Rows.historyLiesSpec) false w args)
  (Rows.historyLiesSpec.post enc prog Tryz.f7 false true false false):=by
 refine Cw E kR func7 kR rfl underlying4 rfl ?_
  (ChangeSpec.witness_at (enc:=enc) (C:=Tryz.checked) (os:=os) (X:=λw _=>laidMet prog Rows.historyLiesRow.laid w) false (World.laidAll prog os Rows.historyLiesRow.laid) #[sN,iI 0,iI 0] 8 (World.laidAll_os _ _ _) kR kR kR kR kR (laidMet_laidAll _ kR kR)) ?_
 ·intro n h
  match n,h with
  |[_,_,_],_=>rfl
 intro W base args n A y o B T u;rw[params7]at y;have o:DataW.TrodAll enc prog W 0 (λ_=>true) true Tryz.f7.params.toList args.toList n A:=o;rw[params7]at o;obtain⟨i,t,d0,k,a,J,q,rfl,rfl,K,F⟩:=trodAll_cons o;obtain⟨U,L,d1,x,S,M,rfl,rfl,rfl,Z,N⟩:=trodAll_cons F;obtain⟨p,z,d2,I,P,c,rfl,rfl,rfl,V,j⟩:=trodAll_cons N;obtain⟨rfl,rfl,rfl⟩:=trodAll_nil j;obtain rfl:args= #[i,U,p]:=by cases args;simp_all
 rw[params7]at T;simp only[DataW.weightsEach,YJ,mq]at T;obtain⟨l,b,d,G⟩:=Bz (y 0 22 i rfl rfl) K T.1;obtain⟨r,rfl,rfl,rfl,_⟩:=open_int underlying3 (y 1 3 U rfl rfl) Z;obtain⟨D,rfl,rfl,rfl,_⟩:=open_int underlying3 (y 2 3 p rfl rfl) V;refine(Ph (Gr (wV u)) i l r D W d ((St.init W).Wc G)).mono ?_;rintro e g⟨Y,h⟩;exact⟨Y,h.done⟩
theorem wA:Rows.historyLiesRow.holds Tryz.pinned (OpenSpec.ofChange Rows.historyLiesSpec):=
 OpenClaim.holds_of_wide 7 Tryz.f7 rfl rfl rfl rfl rfl rfl rfl ⟨rfl,rfl,rfl,rfl,rfl⟩ rfl rfl rfl rfl rfl kR func7 kR
  (of_decide_eq_true kR) acJ
  (λb E H a _=>tJ b E H a)
theorem HistoryLies_holds:Rows.HistoryLiesCardSaid:=
 Claim7.holds_tied_plain_at .later [] [.data] true (true, "29b42cd94584fd114e4f1010933af93af63949972e10cfd92949e99ad9b520f4") true
  wA (λ_ h=>by cases h) kR (λ_ h=>by cases h) historyLies_row_tie rfl ⟨rfl,rfl⟩ kR rfl
  (λf Y a z=>by
   obtain rfl:f=7:=Ps ((show prog.funcNamed "pursuivant/pursuivantlaw28.HistoryLies" =some 7 by kernel_rfl).symm.trans a)|>.symm;obtain rfl:Y=Tryz.f7:=(Ps (func7.symm.trans z)).symm;exact⟨kR,λj t R=>by
    rw[params7]at R;have y:t∈[22,3,3]:=by simpa using zdx R
    have p:([22,3,3].all λu=> !prog.wantsStandIn u)=true:=kR
    exact(show prog.wantsStandIn t=false by simpa using yT.1 p t y)⟩)
  kR
end
end Go.Proofs.YtblpaldggenbaaaGreatDoor
