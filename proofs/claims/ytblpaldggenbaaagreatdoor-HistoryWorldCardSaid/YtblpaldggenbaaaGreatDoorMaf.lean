/- The statement is proved, for every input, with no condition. -/
import Derived.Test.YtblpaldggenbaaaGreatDoorTie
import Derived.Test.YtblpaldggenbaaaGreatDoorCards
import Derived.Test.YtblpaldggenbaaaGreatDoorMae
import Derived.Test.YtblpaldggenbaaaGreatDoorMad
import Derived.Test.YtblpaldggenbaaaGreatDoorMab
namespace Go.Proofs.YtblpaldggenbaaaGreatDoor
open Go.RowKit Go.Proofs.Tryz
set_option maxRecDepth 100000
set_option maxHeartbeats 64000000
section
open Go.Shelf
theorem Ov{I:aH}{L:List aw}(Y:ml I)(v:Value)(l:List jd)(w:World)(G:∀o∈l,Pd o)(h:St I w (aB 7 AY v l::L)):
 Rt I w 6 #[v] (.bool true) L:=by
 obtain⟨A,c,rfl,X,hm⟩:=(h.dJ 0 rfl).slice;obtain⟨n,W⟩:=nM (l.length);have b:=aa W;rw[<-W]at h⊢;refine bm G h λp H=>?_;clear h G W X hm;by_cases H0:n<=36
 case neg=>
  have E0:(36:Int)<(n:Int):=oM
  go_enter func6,ntmps6
  go_wp2_with fail
  refine qH (rU _ H) λw1 r=>?_;clear H
  go_wp2_with fail
  refine(yd Y _ r).mono ?_;rintro e w2⟨B,rfl,h⟩;have T:=aa h;clear h r
  go_wp2_with fail
  go_ret
  exact⟨rfl,T.tail.tail⟩
 have E0:¬(36:Int)<(n:Int):=oM
 go_enter func6,ntmps6
 go_wp2_with fail
 refine qH (rU _ H) λw1 r=>?_;clear H
 go_wp2_with fail
 refine(yd Y _ r).mono ?_;rintro e w2⟨B,rfl,h⟩;have T:=aa h;clear h r
 go_wp2_with fail
 go_loopg [5] n (λQ iv wr=>∃(k:Nat) (E:WM) (v:Nat->Int->Vw) (own:dj) (N:Nat->Rg) (T1:Int),Q=n-k/\k<=n/\iv= iI (k:Nat)/\yC E v own N k T1/\T1<=1+(k:Int)/\E.ev.length=k/\sP E/\St I wr (Ka B E::aB 7 AY (.slice A n c) l::L))
 case atStart=>exact afO
 case round=>
  clear T;obtain⟨k,E,v,own,N,T1,y,x,rfl,C,q,D,F,h⟩:=hrel;have u:=aa (And.intro y (And.intro C (And.intro q (And.intro D F))));clear y C q D F;by_cases I0:k<n
  case neg=>
   have P:=aa h;clear h
   go_wp2_with fail
   refine(Bq B E _ adm P).mono ?_;rintro e w3⟨v3,rfl,h⟩;have d:=aa h.PS;clear h P
   go_wp2_with fail
   have C0:E.ev.length<=36:=by rw[u.out.2.2.2.1];omega
   refine qK (BA v3 E.ev 4 _ (g9 _) (u.2.1.g.abH u.2.2.2.2 C0) (λJ0 G0 ss hp hs=>u.2.1.g.Zy oM oM hp hs) (λh=>absurd h (zdz _)) d) λw4 h=>?_;rw[iP rfl];have K:=aa h;clear h d
   go_wp2_with fail
   go_ret
   exact⟨rfl,K.tail.tail⟩
  have J:=gP (l:=l) (i:=k) (by have:=b.out;omega);generalize l[k]'(by have:=b.out;omega)=o at J;obtain⟨ad,M,n0,t,g,m0,k0,rfl,D0,O,Z⟩:=(h.fi 1).wop J;obtain⟨x0,x1,x2,x3,x4,x5,x6⟩:=Rh O;refine bm (p o (pJ J)) (Z.pk 4 [0,1,3,2]) λz P=>?_;clear h Z O J D0 x;by_cases U:o.n>1073741824
  ·exact aeO
  have S:=aa (Rb z U)
  go_wp2_with fail
  refine(Qw Y B E o M n0 t (.slice g m0 k0) _ (u.2.1.now oM adj) S z.2.1 adm P).mono ?_;rintro e w3⟨A3,n3,c3,rfl,h⟩;obtain⟨v2,F0,a,R,_⟩:=u.out.2.1.step (o:=o) (T1:=T1+1) oM adj S oM oM;have j:(E.step o).ev.length=k+1:=by rw[oB,eG,u.out.2.2.2.1];rfl
  refine bm (And.intro R (And.intro j (u.2.2.2.2.step z.1))) h.tail λV d=>?_;clear h P R j U
  go_wp2_with fail
  go_roundg (n-(k+1))
  case measure=>have:=u.1;omega
  case rel=>exact⟨k+1,E.step o,v2,F0,a,T1+1,rfl,oM,by go_num,V.1,by have:=u.2.2.1;omega,V.2.1,V.2.2,d⟩
end
section
open Go.ChangeAt Go.ChangeShapes Go.Deep Go.WideShapes
theorem sR(os:Os)(E:os.Started)(H:Type)(enc:TypeId×Value->H):
 ReturnsInHanded {} Tryz.checked os 6 .any (λw args=>(Rows.historyWorldSpec.pre enc prog Tryz.f6 Rows.historyWorldRow.domain false w args/\laidMet prog Rows.historyWorldRow.laid w)/\sizedMet enc prog Tryz.f6 (OpenSpec.ofChange Rows.historyWorldSpec) false w args)
  (Rows.historyWorldSpec.post enc prog Tryz.f6 false true false false):=by
 refine Cw E kR func6 kR rfl underlying4 rfl ?_
  (ChangeSpec.witness_at (enc:=enc) (C:=Tryz.checked) (os:=os) (X:=λw _=>laidMet prog Rows.historyWorldRow.laid w) false (World.laidAll prog os Rows.historyWorldRow.laid) #[sN] 8 (World.laidAll_os _ _ _) kR kR kR kR kR (laidMet_laidAll _ kR kR)) ?_
 ·intro n h
  match n,h with
  |[_],_=>rfl
 intro W base args n A y r B T u;rw[params6]at y;have r:DataW.TrodAll enc prog W 0 (λ_=>true) true Tryz.f6.params.toList args.toList n A:=r;rw[params6]at r;obtain⟨i,t,d0,k,a,J,q,rfl,rfl,K,F⟩:=trodAll_cons r;obtain⟨rfl,rfl,rfl⟩:=trodAll_nil F;obtain rfl:args= #[i]:=by cases args;simp_all
 rw[params6]at T;simp only[DataW.weightsEach,YJ,mq]at T;obtain⟨l,b,d,G⟩:=Bz (y 0 22 i rfl rfl) K T.1;refine(Ov (Gr (wV u)) i l W d ((St.init W).Wc G)).mono ?_;rintro e g⟨Y,h⟩;exact⟨Y,h.done⟩
theorem vi:Rows.historyWorldRow.holds Tryz.pinned (OpenSpec.ofChange Rows.historyWorldSpec):=
 OpenClaim.holds_of_wide 6 Tryz.f6 rfl rfl rfl rfl rfl rfl rfl ⟨rfl,rfl,rfl,rfl,rfl⟩ rfl rfl rfl rfl rfl kR func6 kR
  (of_decide_eq_true kR) acJ
  (λb E H a _=>sR b E H a)
theorem HistoryWorld_holds:Rows.HistoryWorldCardSaid:=
 Claim7.holds_tied_plain_at .later [] [.data] true (true, "29b42cd94584fd114e4f1010933af93af63949972e10cfd92949e99ad9b520f4") true
  vi (λ_ h=>by cases h) kR (λ_ h=>by cases h) historyWorld_row_tie rfl ⟨rfl,rfl⟩ kR rfl
  (λf Y a z=>by
   obtain rfl:f=6:=Ps ((show prog.funcNamed "pursuivant/pursuivantlaw28.HistoryWorld" =some 6 by kernel_rfl).symm.trans a)|>.symm;obtain rfl:Y=Tryz.f6:=(Ps (func6.symm.trans z)).symm;exact⟨kR,λj t R=>by
    rw[params6]at R;have y:t∈[22]:=by simpa using zdx R
    have p:([22].all λu=> !prog.wantsStandIn u)=true:=kR
    exact(show prog.wantsStandIn t=false by simpa using yT.1 p t y)⟩)
  kR
end
end Go.Proofs.YtblpaldggenbaaaGreatDoor
