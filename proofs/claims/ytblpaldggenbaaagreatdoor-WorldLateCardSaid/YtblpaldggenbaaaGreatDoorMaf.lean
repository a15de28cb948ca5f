/- The statement is proved, for every input, with no condition. -/
import Derived.Test.YtblpaldggenbaaaGreatDoorTie
import Derived.Test.YtblpaldggenbaaaGreatDoorCards
import Derived.Test.YtblpaldggenbaaaGreatDoorMad
import Derived.Test.YtblpaldggenbaaaGreatDoorMac
namespace Go.Proofs.YtblpaldggenbaaaGreatDoor
open Go.RowKit Go.Proofs.Tryz
set_option maxRecDepth 100000
set_option maxHeartbeats 64000000
section
open Go.Shelf
theorem uw.oks{a X:WM}{j:Nat}(h:uw a X j):∀k,(X.st.s.M k).ok:=by
 obtain⟨P,own,N,g⟩:=h.g;exact(g.w.s.c.same (g.w.z.nf rfl).1).2.mi.ok
theorem Ue{I:aK}{L:List az}(A:kL I)(v D0:Value)(l:List eH)(D:LI)(w:World)(hq:∀o∈l,LU o)(P:∀x∈D,-9223372036854775808<=x/\x<=9223372036854775807)(h:St I w (aG 7 iH v l::ai .i64 D0 D::L)):
 Rt I w 5 #[v,D0] (.bool true) L:=by
 obtain⟨E0,c,rfl,hc,hm⟩:=(h.eM 0 rfl).slice;obtain⟨V,d,rfl,hd,S0⟩:=ay.DL (show ay w .i64 D0 D from h.get 1 rfl);obtain⟨n,hn⟩:=nM (l.length);obtain⟨a,C0⟩:∃n,n=D.length:=⟨_,rfl⟩;refine bq hn C0 λHN F0=>?_;rw[<-hn,<-C0]at h⊢;refine iG hq P h λHQ Q0 H=>?_;clear h hq hn hc hm C0 hd S0 P;by_cases Z0:n<=30
 case neg=>
  have U0:(30:Int)<(n:Int):=oM
  exact adt
 have U0:¬(30:Int)<(n:Int):=oM
 by_cases A1:a<=40
 case neg=>
  have V0:(40:Int)<(a:Int):=oM
  exact adt
 have V0:¬(40:Int)<(a:Int):=oM
 go_enter func5,ntmps5
 go_wp2_with fail
 refine qH (ei A _ H) λw1 F=>?_;clear H
 go_wp2_with fail
 refine(gC A _ F).mono ?_;rintro e w2⟨B,rfl,h⟩;have C:=aa h;clear h F
 go_wp2_with fail
 go_loopg [7] n (λM iv wr=>∃(k:Nat) (p:WM) (v:Nat->Int->Vw) (own:cU) (N:Nat->Rg),M=n-k/\k<=n/\iv= iI (k:Nat)/\mg p v own N k 1/\p.ev.length=k/\St I wr (tQ B p::aG 7 iH (.slice E0 n c) l::ai .i64 (.slice V a d) D::L))
 case atStart=>exact⟨0,vq,_,_,_,rfl,oM,rfl,mg.new,rfl,C⟩
 case round=>
  clear C;obtain⟨k,p,v,own,N,S,hk,rfl,N0,K0,h⟩:=hrel;have q:=aa (And.intro S (And.intro N0 K0));clear S N0 K0;by_cases P:k<n
  ·have J:=g7 (l:=l) (i:=k) acd
   generalize l[k]' acd=o at J;obtain⟨ad,A0,n0,W,B0,m0,k0,rfl,T0,I0,Z⟩:=(h.fi 1).Zw J;obtain⟨x0,x1,x2,x3,x4,x5,x6⟩:=Du I0;refine bq (HQ o (qP J)) (Z.pk 4 [0,1,3,2]) λHO K=>?_;clear h Z I0 J T0 hk;by_cases hN:o.n>1073741824
   ·exact aeP
   by_cases u:o.d=11
   ·exact aeP
   refine bq (Jc HO hN) u λG0 HD=>?_;have d11:(o.d==11)=false:=jM u
   go_wp2_with fail
   refine(ry A B p o A0 n0 W (.slice B0 m0 k0) _ (q.2.1.now oM oM) G0 HO.2.1 (by rw[q.out.2.2];omega) K).mono ?_;rintro e w3⟨A3,n3,U,rfl,h⟩;obtain⟨v2,W0,N2,M0,_⟩:=q.out.2.1.step (o:=o) (T1:=1) oM oM G0 oM (λe=>absurd e HD);have H0:=aa (And.intro M0 (show(p.step o).ev.length=k+1 by rw[cv,dB,q.out.2.2];rfl));have E:=aa (h.pk 1 []);clear h K M0 hN u x0 x1 x2 x3 x4 x5 x6
   go_wp2_with fail
   go_roundg (n-(k+1))
   case measure=>have:=q.1;omega
   case rel=>exact⟨k+1,p.step o,v2,W0,N2,rfl,oM,by go_num,H0.1,H0.2,E⟩
  ·obtain rfl:n=k:=oM
   have L0:uw p p 0:=⟨⟨v,own,N,q.2.1.g.mono oM oM (cO _)⟩,λc W U=>(q.2.1.s c W U).He rfl rfl oM,rfl,rfl⟩;have r:=aa L0;have J0:p.ev.length<=30:=by rw[q.out.2.2];omega
   refine bq J0 h λO0 K=>?_;clear h hk L0 J0 q
   go_wp2_with fail
   refine(wS B p _ r.up K).mono ?_;rintro e w3⟨gi,X0,rfl,h,y⟩;refine bq y h λHB E=>?_;clear h y K
   go_wp2_with fail
   refine(DG gi p.st.s.M _ r.oks E).mono ?_;rintro e w4⟨v1,rfl,h⟩;have Z:=(St.ints h).fi 1;have h2:=HB.out _ _ (Z.perm ((List.Perm.cons _ (List.Perm.swap _ _ _))));have H5:=aa h2;clear h Z h2 E HB
   go_wp2_with fail
   go_loopg [10] a (λM iv wr=>∃(j:Nat) (Y:WM),M=a-j/\j<=a/\iv= iI (j:Nat)/\uw p Y j/\St I wr (tQ B Y::ai .u8 v1 (bi p.st.s.M)::aG 7 iH (.slice E0 n c) l::ai .i64 (.slice V a d) D::L))
   case atStart=>exact⟨0,p,rfl,oM,rfl,r,H5⟩
   case round=>
    clear H5;obtain⟨j,Y,S,hj,rfl,hY,h⟩:=hrel;have g:=aa (And.intro S hY);clear S hY;by_cases B1:j<a
    ·have J:=g7 (l:=D) (i:=j) (by have:=F0.out;omega)
     generalize D[j]'(by have:=F0.out;omega)=x at J;obtain⟨bd,rfl,b⟩:=(h.qq (Q:=λw=>ay w .i64 (.slice V a d) D)).atW J;have HX:=aa (Q0 x (qP J));have b:wr.cell? (bd.add j)=some (iI x):=b;have j0:(0:Int)<=(j:Int):=oM
     have j1:(j:Int)<(a:Int):=oM
     have G:=aa ((((h.bH (R:=λw=>ay w .i64 sN []) (λO _=>ay.none_ O _)).bH (R:=λw=>ay w .u8 sN []) (λO _=>ay.none_ O _))).pk 0 []);clear h J hj
     go_wp2_with ((with_reducible apply iQ (t:=30));(focus rfl);(focus rfl);(focus rfl);(focus rfl);(focus exact mV _ _ _))
     obtain⟨Y0,D1,NY,gY⟩:=g.out.2.g;have P0:=aa gY;clear gY;refine(ry A B Y (fG x) none 0 0 sN _ (n:=20000+j) (m:=60) (T:=1) (k:=60) ⟨P0,g.2.s,oM,oM,oM,oM,oM⟩ ⟨λ_ h=>(by cases h),HX.1,λh=>absurd rfl h⟩ (iD _) (by rw[g.out.2.e];have:=O0.out;omega) G).mono ?_;rintro e w7⟨A3,n3,U,rfl,h⟩;have z:=aa (h.pk 1 []);clear h G b
     go_wp2_with fail
     go_roundg (a-(j+1))
     case measure=>have:=g.1;omega
     case rel=>exact⟨j+1,Y.step (fG x),rfl,oM,by go_num,g.2.next oM x,z⟩
    ·obtain rfl:a=j:=oM
     have G:=aa h;clear h hj
     go_wp2_with fail
     refine(wS B Y _ g.2.up G).mono ?_;rintro e w5⟨R0,K2,rfl,h,y⟩;have z:=aa h;clear h y G
     go_wp2_with fail
     refine(DG R0 Y.st.s.M _ g.2.oks z).mono ?_;rintro e w6⟨v2,rfl,h⟩;have X:=aa (St.ints h);clear h z
     go_wp2_with fail
     refine(IX v1 v2 (bi p.st.s.M) (bi Y.st.s.M) _ (X.qq (Q:=λw=>ay w .u8 v1 (bi p.st.s.M))) (X.get 0 rfl)).mono ?_;rintro e w7⟨rfl,C1,rfl⟩
     go_wp2_with fail
     go_ret
     exact⟨by rw[g.out.2.m];simp,((X.drewN _).tail.tail.tail.tail.tail.tail)⟩
end
section
open Go.ChangeAt Go.ChangeShapes Go.Deep Go.WideShapes
theorem vI(os:Os)(I:os.Started)(H:Type)(enc:TypeId×Value->H):
 ReturnsInHanded {} Tryz.checked os 5 .any (λw args=>(Rows.worldLateSpec.pre enc prog Tryz.f5 Rows.worldLateRow.domain false w args/\laidMet prog Rows.worldLateRow.laid w)/\sizedMet enc prog Tryz.f5 (OpenSpec.ofChange Rows.worldLateSpec) false w args)
  (Rows.worldLateSpec.post enc prog Tryz.f5 false true false false):=by
 refine wW I kR func5 kR rfl underlying4 rfl ?_
  (ChangeSpec.witness_at (enc:=enc) (C:=Tryz.checked) (os:=os) (X:=λw _=>laidMet prog Rows.worldLateRow.laid w) false (World.laidAll prog os Rows.worldLateRow.laid) #[sN,sN] 8 (World.laidAll_os _ _ _) kR kR kR kR kR (laidMet_laidAll _ kR kR)) ?_
 ·intro n h
  match n,h with
  |[_,_],_=>rfl
 intro W base args n T F o t E S;rw[params5]at F;have o:DataW.TrodAll enc prog W 0 (λ_=>true) true Tryz.f5.params.toList args.toList n T:=o;rw[params5]at o;obtain⟨q,r,d0,N,a,k,O,rfl,rfl,K,Q⟩:=trodAll_cons o;obtain⟨u,c,d1,j,B,M,rfl,rfl,rfl,Z,i⟩:=trodAll_cons Q;obtain⟨rfl,rfl,rfl⟩:=trodAll_nil i;obtain rfl:args= #[q,u]:=by cases args;simp_all
 rw[params5]at E;simp only[DataW.weightsEach,XG,mf]at E;obtain⟨l,b,d,U⟩:=vS (F 0 22 q rfl rfl) K E.1;obtain⟨p,L,z⟩:=x9 underlying28 underlying3 kR (F 1 28 u rfl rfl) Z;refine(Ue (Ae (q9 S)) q u l p W d (λx J=>wm (L x J)) (((St.init W).GV z).Ru U)).mono ?_;rintro e g⟨Y,h⟩;exact⟨Y,h.done⟩
theorem AJ:Rows.worldLateRow.holds Tryz.pinned (OpenSpec.ofChange Rows.worldLateSpec):=
 OpenClaim.holds_of_wide 5 Tryz.f5 rfl rfl rfl rfl rfl rfl rfl ⟨rfl,rfl,rfl,rfl,rfl⟩ rfl rfl rfl rfl rfl kR func5 kR
  (of_decide_eq_true kR) abR
  (λu I H a _=>vI u I H a)
theorem WorldLate_holds:Rows.WorldLateCardSaid:=
 Claim7.holds_tied_plain_at .later [] [.data] true (true, "29b42cd94584fd114e4f1010933af93af63949972e10cfd92949e99ad9b520f4") true
  AJ (λ_ h=>by cases h) kR (λ_ h=>by cases h) worldLate_row_tie rfl ⟨rfl,rfl⟩ kR rfl
  (λf r a y=>by
   obtain rfl:f=5:=ME ((show prog.funcNamed "pursuivant/pursuivantlaw27.WorldLate" =some 5 by kernel_rfl).symm.trans a)|>.symm;obtain rfl:r=Tryz.f5:=(ME (func5.symm.trans y)).symm;exact⟨kR,λj t R=>by
    rw[params5]at R;have p:t∈[22,28]:=by simpa using zcB R
    have G:([22,28].all λu=> !prog.wantsStandIn u)=true:=kR
    exact(show prog.wantsStandIn t=false by simpa using AR.1 G t p)⟩)
  kR
end
end Go.Proofs.YtblpaldggenbaaaGreatDoor
