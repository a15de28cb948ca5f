/- The statement is proved, for every input, with no condition. -/
import Derived.Test.YtblpaldggenbaaaGreatDoorTie
import Derived.Test.YtblpaldggenbaaaGreatDoorCards
import Derived.Test.YtblpaldggenbaaaGreatDoorMad
import Derived.Test.YtblpaldggenbaaaGreatDoorMac
namespace Go.Proofs.YtblpaldggenbaaaGreatDoor
open Go.RowKit Go.Proofs.Tryz
set_option maxRecDepth 100000
set_option maxHeartbeats 64000000
section
open Go.Shelf
section
variable {I:aK} {w:World} {L:List az}
theorem St.aaj{A:OA}{n c k:Nat}{N:List jZ}{x:jZ}(h:St I w (aB 34 7 sV (.slice A n c) N::L))(Q:N[k]? =some x):
 ∃G d M S,A=some ⟨G,0,none⟩/\∀j u,(Eo x.d x.c x.r x.i x.t (.slice d M S) x.e)[j]? =some u->w.cell? ⟨G,k*7+j,none⟩=some u:=by
 obtain⟨V,W,F,Z⟩:=h.cu;have t:=(nQ.1 Q).1;have B:∃b,A=some ⟨b,0,none⟩:=by
  rcases(Z.row 0 rfl).2 with⟨_,K⟩|⟨g,cap,E,C,_⟩
  ·omega
  ·injection C with C _ _
   exact⟨g,C⟩
 obtain⟨b,rfl⟩:=B;obtain⟨d,S,Y,_⟩:=Z.get 1 rfl k x Q;refine⟨b,d,x.b.length,S,rfl,λj u y=> ?_⟩;obtain⟨T,o,_,_,D⟩:=Z.sl.2 oM;injection o with o;subst o;have y:([iI x.d,iI x.c,iI x.r,iI x.i,iU x.t,.slice d x.b.length S,iI x.e]:LV)[j]? =some u:=y;rw[<-Y,AW]at y
 split at y
 ·rw[zU]at y
  have:=D (k*7+j) u y;rwa[show(⟨b,0,none⟩:Addr).add (k*7+j)=⟨b,k*7+j,none⟩by simp[Addr.add];intro a b;omega]at this
 ·cases y
end
theorem Of{I:aK}{L:List az}(A:kL I)(v:Value)(l:List eH)(w:World)(hq:∀o∈l,LU o)(h:St I w (aG 7 iH v l::L)):
 Rt I w 3 #[v] (.bool true) L:=by
 obtain⟨G1,c,rfl,hc,hm⟩:=(h.eM 0 rfl).slice;obtain⟨n,hn⟩:=nM (l.length);have HN:=aa hn;rw[<-hn]at h⊢;refine bq hq h λHQ H=>?_;clear h hq hn hc hm;by_cases U1:n<=40
 case neg=>
  have R1:(40:Int)<(n:Int):=oM
  go_enter func3,ntmps3
  go_wp2_with fail
  refine qH (ei A _ H) λw1 F=>?_;clear H
  go_wp2_with fail
  refine(gC A _ F).mono ?_;rintro N0 w2⟨B,rfl,h⟩;have N:=aa h;clear h F
  go_wp2_with fail
  go_ret
  exact⟨rfl,N.tail.tail⟩
 have R1:¬(40:Int)<(n:Int):=oM
 go_enter func3,ntmps3
 go_wp2_with fail
 refine qH (ei A _ H) λw1 F=>?_;clear H
 go_wp2_with fail
 refine(gC A _ F).mono ?_;rintro N0 w2⟨B,rfl,h⟩;have N:=aa ((h.eU 34 7 sV).pk 3 [1,2,0]);clear h F
 go_wp2_with fail
 go_loopg [5,6] n (λgh gv iv wr=>∃(k:Nat) (p:WM) (v:Nat->Int->Vw) (own:cU) (L0:Nat->Rg) (T1:Int) (t:List jZ) (b:OA) (u C:Nat),gh=n-k/\k<=n/\iv= iI (k:Nat)/\gv= .slice b u C/\mg p v own L0 k T1/\T1<=1+(k:Int)/\p.ev.length=k/\NS p own t/\u=t.length/\u<=k/\St I wr (tQ B p::aG 7 iH (.slice G1 n c) l::aB 34 7 sV (.slice b u C) t::L))
 case atStart=>exact⟨0,vq,_,_,_,1,[],none,0,0,rfl,oM,rfl,rfl,mg.new,oM,rfl,⟨λ_ h=>(by cases h),λ_ h=>(by cases h)⟩,rfl,io _,N⟩
 case round=>
  clear N;obtain⟨k,p,v,own,L0,T1,t,b,u,C,U0,hk,rfl,rfl,Z0,P0,T0,C1,X0,W0,h⟩:=hrel;have d:=aa (And.intro U0 (And.intro Z0 (And.intro P0 (And.intro T0 (And.intro C1 (And.intro X0 W0))))));clear U0 Z0 P0 T0 C1 X0 W0;by_cases X1:k<n
  case neg=>
   have J:=aa h;clear h
   go_wp2_with fail
   go_ret
   exact⟨rfl,J.tail.tail.tail⟩
  have R:=g7 (l:=l) (i:=k) acd;generalize l[k]' acd=o at R;obtain⟨ad,A0,n0,c0,B0,m0,z,rfl,Q1,R0,Z⟩:=(h.fi 1).Zw R;obtain⟨x0,x1,x2,x3,x4,x5,x6⟩:=Du R0;refine bq (HQ o (qP R)) (Z.pk 4 [0,1,3,2]) λHO J=>?_;clear h Z R0 R Q1 hk;by_cases hN:o.n>1073741824
  ·go_wp2_with fail
   go_ret
   exact⟨rfl,J.tail.tail.tail.tail.tail⟩
  have I0:=aa (Jc HO hN)
  go_wp2_with fail
  refine(ry A B p o A0 n0 c0 (.slice B0 m0 z) _ (d.2.1.now oM acE) I0 HO.2.1 (by rw[d.out.2.2.2.1];omega) J).mono ?_;rintro N0 w3⟨a,q,y,rfl,h⟩;obtain⟨v2,G0,Q,E0,E1⟩:=d.out.2.1.step (o:=o) (T1:=T1+1) oM acE I0 oM oM;obtain⟨B1,F0⟩:=d.out.2.2.2.2.1.next E0.g E1 rfl;have S0:(p.step o).ev.length=k+1:=by rw[cv,dB,d.out.2.2.2.1];rfl
  obtain⟨E,hE⟩:=nM (p.bw o);have C0:=dr p o;rw[<-hE]at h F0 C0⊢;refine nK (And.intro E0 S0) B1 F0 C0 λP K0 L1 e=>?_;have Z:=h.alloc 34 (fM o.d o.c o.r o.i E.t (.slice a q y) E.e);obtain⟨ge,D0⟩:=nM (w3.heap.size);have H0:=aa D0;rw[<-D0]at Z;have S:=aa (Z.pk 0 []);clear h Z J E0 E1 B1 F0 S0 C0 D0 hE hN
  go_upto_region 12 with fail
  rw[<-H0.out];clear x0 x1 x2 x3 x4 x5 x6 H0;generalize w3.alloc (.cells (fM o.d o.c o.r o.i E.t (.slice a q y) E.e) 34)=W at S⊢;obtain⟨y0,y1,y2,y3,y4,y5,y6⟩:=(S.ah 0 rfl).seven;have O1:(o.d=3/\E.e=0)\/(o.d=3/\¬E.e=0)\/¬o.d=3:=by
   by_cases M:o.d=3
   ·by_cases Y:E.e=0
    ·exact .inl ⟨M,Y⟩
    ·exact .inr (.inl ⟨M,Y⟩)
   ·exact .inr (.inr M)
  rcases O1 with⟨M,Y⟩|⟨M,Y⟩|M
  case inr.inl=>
   have b3:(o.d !=3)=false:=by simp[M]
   have b4:(E.e !=0)=true:=by simp[Y]
   clear M Y
   exact ads
  case inr.inr=>
   have b3:(o.d !=3)=true:=by simp[M]
   clear M
   exact ads
  have hg:SN E=true:=by
   unfold SN;rw[e.out.1,M,Y]
   rfl
  obtain⟨Q0,D1⟩:=L1.out hg;refine bq Q0 D1 λJ1 M1=>?_;have V1:u<=50:=by have:=d.2.2.2.2.2.2;omega
  have b3:(o.d !=3)=false:=by simp[M]
  have b4:(E.e !=0)=false:=by simp[Y]
  clear Q0 D1 hg M Y
  go_wp2_with fail
  clear y0 y1 y2 y3 y4 y5 y6
  go_loopg [8] u (λgh jv wr=>∃j:Nat,gh=u-j/\j<=u/\jv= iI (j:Nat)/\St I wr (ab ge 34 (fM o.d o.c o.r o.i E.t (.slice a q y) E.e)::ai .u8 (.slice a q y) E.b::tQ B (p.step o)::aG 7 iH (.slice (some ad) n c) l::aB 34 7 sV (.slice b u C) t::L))
  case atStart=>exact⟨0,rfl,oM,rfl,S⟩
  case round=>
   clear S;obtain⟨j,V0,hj,rfl,h⟩:=hrel;have K1:=aa V0;clear V0;obtain⟨y0,y1,y2,y3,y4,y5,y6⟩:=(h.ah 0 rfl).seven;by_cases W1:j<u
   ·have G:=g7 (l:=t) (i:=j) (by have:=d.2.2.2.2.2.1;omega)
    generalize t[j]'(by have:=d.2.2.2.2.2.1;omega)=g at G;obtain⟨U,A1,O,c1,rfl,D⟩:=(h.fi 4).aaj G;have f1:wr.cell? ⟨U,j*7+1,none⟩=some (iI g.c):=D 1 _ rfl;have f2:wr.cell? ⟨U,j*7+2,none⟩=some (iI g.r):=D 2 _ rfl;have f4:wr.cell? ⟨U,j*7+4,none⟩=some (iU g.t):=D 4 _ rfl;have K:=J1.out g (qP G);unfold Ih at K;rw[e.out.2.1,e.out.2.2.1]at K;have j0:(0:Int)<=(j:Int):=oM
    have j1:(j:Int)<(u:Int):=oM
    have H5:=aa h;clear h D G y0 y3 y5 y6
    cases z:(E.t==0)with
    |true=>rw[z]at K;cases K
    |false=>
    cases k1:(g.c==o.c)<;>cases k2:(g.r==o.r)<;>cases k3:(g.t==E.t)<;>cases k4:decide (g.t>E.t)
    all_goals(
     have O:(g.c !=o.c)= !(g.c==o.c):=rfl;have r:(g.r !=o.r)= !(g.r==o.r):=rfl;rw[k1]at O;rw[k2]at r;rw[z,O,r,k2,k3,k4]at K
     first
     |exact absurd K dC
     |skip)
    all_goals(
     have O:(g.c !=o.c)= !(g.c==o.c):=rfl;have r:(g.r !=o.r)= !(g.r==o.r):=rfl;rw[k1]at O;rw[k2]at r;simp only[ZH,Zr]at O r;clear K
     go_wp2_with fail
     go_quiet (fail)
     go_wp2_with fail
     go_quiet (fail)
     go_wp2_with fail
     go_roundg (u-(j+1))
     case measure=>have:=K1.out;omega
     case rel=>exact⟨j+1,rfl,oM,by go_num,H5.drewN _⟩)
   ·obtain rfl:u=j:=oM
    have hp:=(h.front (X:=ai .u8 (.slice a q y) E.b)).bC (R':=λw=>sV w (Eo o.d o.c o.r o.i E.t (.slice a q y) E.e) E) (λS1 hi=>by
     have P1:=hi;obtain⟨A',c',e1,_⟩:=P1;injection e1 with e1 e2 e3;have V:=e.out;exact⟨a,y,by rw[V.1,V.2.1,V.2.2.1,V.2.2.2,<-e2],by rw[<-e2];exact hi⟩)
    have h6:=(hp.alloc 34 (fM o.d o.c o.r o.i E.t (.slice a q y) E.e)).pk 6 [5,0,1,3,4];obtain⟨M0,Y0,F1,h7⟩:=h6.cu;refine iG h7 Y0 F1 λT J0 N1=>?_;have K:=vN;clear h hp h6 h7 Y0 F1
    go_wp2_with (at_builtin;refine St.fj Af T rfl _ _ rfl rfl (aO wr.heap.size) 1 1 rfl (Eo o.d o.c o.r o.i E.t (.slice a q y) E.e) (Ps (cs:=Eo o.d o.c o.r o.i E.t (.slice a q y) E.e) (T.ah 2 rfl) rfl) (IP _ _ _ _ _ _ _ _ _) oM oM ?_;intro A6 c6 w7 h9)
    have O0:=(h9.sub (L':=ct 34 7 (.slice A6 (u+1) c6) (u+1) (M0++Eo o.d o.c o.r o.i E.t (.slice a q y) E.e)::bj (λw=>∀(i:Nat) x,t[i]? =some x->sV w ((M0.drop (i*7)).take 7) x)::bj (λw=>sV w (Eo o.d o.c o.r o.i E.t (.slice a q y) E.e) E)::tQ B (p.step o)::aG 7 iH (.slice (some ad) n c) l::L)).fS J0 rfl N1;have I1:=aa O0;clear h9 O0 T
    go_wp2_with fail
    go_roundg (n-(k+1))
    case measure=>have:=d.1;omega
    case rel=>exact⟨k+1,p.step o,v2,G0,Q,T1+1,t++[E],A6,u+1,c6,rfl,oM,by go_num,rfl,P.1,by have:=d.2.2.1;omega,P.2,M1,by rw[dB,<-J0.out];rfl,by have:=d.2.2.2.2.2.2;omega,I1.sub⟩
end
section
open Go.ChangeAt Go.ChangeShapes Go.Deep Go.WideShapes
theorem tE(os:Os)(I:os.Started)(H:Type)(enc:TypeId×Value->H):
 ReturnsInHanded {} Tryz.checked os 3 .any (λw args=>(Rows.worldTokensSpec.pre enc prog Tryz.f3 Rows.worldTokensRow.domain false w args/\laidMet prog Rows.worldTokensRow.laid w)/\sizedMet enc prog Tryz.f3 (OpenSpec.ofChange Rows.worldTokensSpec) false w args)
  (Rows.worldTokensSpec.post enc prog Tryz.f3 false true false false):=by
 refine wW I kR func3 kR rfl underlying4 rfl ?_
  (ChangeSpec.witness_at (enc:=enc) (C:=Tryz.checked) (os:=os) (X:=λw _=>laidMet prog Rows.worldTokensRow.laid w) false (World.laidAll prog os Rows.worldTokensRow.laid) #[sN] 8 (World.laidAll_os _ _ _) kR kR kR kR kR (laidMet_laidAll _ kR kR)) ?_
 ·intro n h
  match n,h with
  |[_],_=>rfl
 intro W base args n T F o t E S;rw[params3]at F;have o:DataW.TrodAll enc prog W 0 (λ_=>true) true Tryz.f3.params.toList args.toList n T:=o;rw[params3]at o;obtain⟨q,r,d0,N,a,k,O,rfl,rfl,K,Q⟩:=trodAll_cons o;obtain⟨rfl,rfl,rfl⟩:=trodAll_nil Q;obtain rfl:args= #[q]:=by cases args;simp_all
 rw[params3]at E;simp only[DataW.weightsEach,XG,mf]at E;obtain⟨l,b,d,U⟩:=vS (F 0 22 q rfl rfl) K E.1;refine(Of (Ae (q9 S)) q l W d ((St.init W).Ru U)).mono ?_;rintro e g⟨Y,h⟩;exact⟨Y,h.done⟩
theorem vy:Rows.worldTokensRow.holds Tryz.pinned (OpenSpec.ofChange Rows.worldTokensSpec):=
 OpenClaim.holds_of_wide 3 Tryz.f3 rfl rfl rfl rfl rfl rfl rfl ⟨rfl,rfl,rfl,rfl,rfl⟩ rfl rfl rfl rfl rfl kR func3 kR
  (of_decide_eq_true kR) abR
  (λu I H a _=>tE u I H a)
theorem WorldTokens_holds:Rows.WorldTokensCardSaid:=
 Claim7.holds_tied_plain_at .later [] [.data] true (true, "29b42cd94584fd114e4f1010933af93af63949972e10cfd92949e99ad9b520f4") true
  vy (λ_ h=>by cases h) kR (λ_ h=>by cases h) worldTokens_row_tie rfl ⟨rfl,rfl⟩ kR rfl
  (λf r a y=>by
   obtain rfl:f=3:=ME ((show prog.funcNamed "pursuivant/pursuivantlaw27.WorldTokens" =some 3 by kernel_rfl).symm.trans a)|>.symm;obtain rfl:r=Tryz.f3:=(ME (func3.symm.trans y)).symm;exact⟨kR,λj t R=>by
    rw[params3]at R;have p:t∈[22]:=by simpa using zcB R
    have G:([22].all λu=> !prog.wantsStandIn u)=true:=kR
    exact(show prog.wantsStandIn t=false by simpa using AR.1 G t p)⟩)
  kR
end
end Go.Proofs.YtblpaldggenbaaaGreatDoor
