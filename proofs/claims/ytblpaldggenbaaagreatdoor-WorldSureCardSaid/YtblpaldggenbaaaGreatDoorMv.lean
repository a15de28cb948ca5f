/- A part. -/
import Derived.Test.YtblpaldggenbaaaGreatDoorMu
import Derived.Test.YtblpaldggenbaaaGreatDoorMt
namespace Go.Proofs.YtblpaldggenbaaaGreatDoor
open Go.RowKit Go.Proofs.Tryz
set_option maxRecDepth 100000
set_option maxHeartbeats 64000000
abbrev fX(gs gl:Nat):Vq:= #[pO gs,pO gl]
theorem Sp{I:aK}{L:List az}(g gs gl n:Nat)(T:aH)(q:dH)(w:World)(B:bD T)(h:St I w (ab n 47 #[pO g]::ab g 113 (fX gs gl)::bX gl T::L)):
 Rt I w 194 #[.agg (dV q),pO n] (.agg (aN ((T.acquire q.c q.r q.m).2.2) ((T.acquire q.c q.r q.m).2.1))) (ab n 47 #[pO g]::ab g 113 (fX gs gl)::bX gl ((T.acquire q.c q.r q.m).1)::L):=by
 have K:=(h.alloc 156 (dV q)).alloc 158 (aN 0 0);rw[World.size_alloc]at K;obtain⟨d,C⟩:=nM (w.heap.size);obtain⟨k,x⟩:=nM (w.heap.size+1);rw[<-x,<-C]at K;refine nK C x B (K.pk 5 [2,3,1,4,0]) λN D P H=>?_;clear h K C x B
 go_enter func194,ntmps194
 go_wp2_with fail
 rw[<-D.out,<-N.out];refine an (I:=I) (L0:=L) [⟨none,none,λe=>ab n 47 #[pO g]⟩,⟨none,none,λe=>ab g 113 (fX gs gl)⟩,⟨none,none,λe=>ab d 156 (dV q)⟩,⟨none,some 10,λe=>bX gl T⟩,⟨some 10,none,λe=>bX gl ((T.acquire q.c q.r q.m).1)⟩,⟨none,some 14,λe=>ab k 158 (aN 0 0)⟩,⟨some 14,none,λe=>ab k 158 (aN ((T.acquire q.c q.r q.m).2.2) ((T.acquire q.c q.r q.m).2.1))⟩] [[],[0],[0,1],rG 3,[],[4],[],[6],[],[8],rG 10,rG 11,rG 11,rG 13,rG 14] (rG 15) rfl kR kR kR (by rfl) (λ_=>rfl) H.fk ?_;refine PP ?_;refine bp 196 (λe=> #[pO gl,iI q.c,iI q.r,iI q.m]) (λe=> .tuple #[iU (T.acquire q.c q.r q.m).2.1,iI (T.acquire q.c q.r q.m).2.2]) rfl (λe p O h=>by(
  have h:=h.fn;refine(IS gl T q.c q.r q.m _ P (h.fi 3)).mono ?_;rintro u b⟨rfl,Z⟩;exact⟨⟨none,0,default⟩,rfl,Z.pk 4 [1,2,3,0]⟩)) ?_
 simp only[aW];refine xQ ?_;refine bp 195 (λe=> #[iU ((T.acquire q.c q.r q.m).2.1),iI ((T.acquire q.c q.r q.m).2.2)]) (λe=> .agg (aN ((T.acquire q.c q.r q.m).2.2) ((T.acquire q.c q.r q.m).2.1))) rfl (λe p O h=>by(
  have h:=h.fn;refine(Jy ((T.acquire q.c q.r q.m).2.1) ((T.acquire q.c q.r q.m).2.2) _ h).mono ?_;rintro u b⟨rfl,Z⟩;exact⟨⟨none,0,default⟩,rfl,Z.pk 0 []⟩)) ?_
 simp only[aW];refine lM (λe=> pO k) (λe=> .agg (aN ((T.acquire q.c q.r q.m).2.2) ((T.acquire q.c q.r q.m).2.1))) rfl rfl (λe p O h=>by(
  have h:=h.fn;have a:=h.fi 4;have Q:p.cell? (aD k 0)=some (iI 0):=(a.ah 0 rfl).cell 0;have i:p.cell? (aD k 1)=some (iU 0):=(a.ah 0 rfl).cell 1;have W:=(a.ah 0 rfl).frozen;have V:=(a.bx 0 (iI ((T.acquire q.c q.r q.m).2.2)) (aN ((T.acquire q.c q.r q.m).2.2) 0) rfl).bx 1 (iU ((T.acquire q.c q.r q.m).2.1)) (aN ((T.acquire q.c q.r q.m).2.2) ((T.acquire q.c q.r q.m).2.1)) rfl;exact⟨_,gS,V.fk⟩)) ?_
 simp only[Act.put];refine aA ?_;intro e z h;have h:=h.fn;have h:=h;obtain⟨Q,i⟩:z.cell? (aD k 0)=some (iI ((T.acquire q.c q.r q.m).2.2))/\z.cell? (aD k 1)=some (iU ((T.acquire q.c q.r q.m).2.1)):=⟨(h.ah 4 rfl).cell 0,(h.ah 4 rfl).cell 1⟩;have o:=aa h;clear h H
 go_wp2_with fail
 refine bodyPost_ret (v:= .agg (aN ((T.acquire q.c q.r q.m).2.2) ((T.acquire q.c q.r q.m).2.1))) (aL (fn:=Tryz.f194) (t:=3) (ty:=158) rfl _ rfl ?_) rfl ⟨rfl,o.sub⟩;go_simp
theorem Sx{I:aK}{L:List az}(g gs gl n:Nat)(T:aH)(q:dH)(w:World)(B:bD T)(h:St I w (ab n 47 #[pO g]::ab g 113 (fX gs gl)::bX gl T::L)):
 Rt I w 197 #[.agg (dV q),pO n] (.agg (aN ((T.release q.c q.r q.t).2) (0))) (ab n 47 #[pO g]::ab g 113 (fX gs gl)::bX gl ((T.release q.c q.r q.t).1)::L):=by
 have K:=(h.alloc 156 (dV q)).alloc 158 (aN 0 0);rw[World.size_alloc]at K;obtain⟨d,C⟩:=nM (w.heap.size);obtain⟨k,x⟩:=nM (w.heap.size+1);rw[<-x,<-C]at K;refine nK C x B (K.pk 5 [2,3,1,4,0]) λN D P H=>?_;clear h K C x B
 go_enter func197,ntmps197
 go_wp2_with fail
 rw[<-D.out,<-N.out];refine an (I:=I) (L0:=L) [⟨none,none,λe=>ab n 47 #[pO g]⟩,⟨none,none,λe=>ab g 113 (fX gs gl)⟩,⟨none,none,λe=>ab d 156 (dV q)⟩,⟨none,some 10,λe=>bX gl T⟩,⟨some 10,none,λe=>bX gl ((T.release q.c q.r q.t).1)⟩,⟨none,some 12,λe=>ab k 158 (aN 0 0)⟩,⟨some 12,none,λe=>ab k 158 (aN ((T.release q.c q.r q.t).2) (0))⟩] [[],[0],[0,1],rG 3,[],[4],[],[6],[],[8],rG 10,rG 11,rG 12] (rG 13) rfl kR kR kR (by rfl) (λ_=>rfl) H.fk ?_;refine PP ?_;refine bp 152 (λe=> #[pO gl,iI q.c,iI q.r,iU q.t]) (λe=> iI (T.release q.c q.r q.t).2) rfl (λe p O h=>by(
  have h:=h.fn;refine(yP gl T q.c q.r q.t _ P (h.fi 3)).mono ?_;rintro u b⟨rfl,Z⟩;exact⟨⟨none,0,default⟩,rfl,Z.pk 4 [1,2,3,0]⟩)) ?_
 simp only[aW];refine bp 195 (λe=> #[iU (0),iI ((T.release q.c q.r q.t).2)]) (λe=> .agg (aN ((T.release q.c q.r q.t).2) (0))) rfl (λe p O h=>by(
  have h:=h.fn;refine(Jy (0) ((T.release q.c q.r q.t).2) _ h).mono ?_;rintro u b⟨rfl,Z⟩;exact⟨⟨none,0,default⟩,rfl,Z.pk 0 []⟩)) ?_
 simp only[aW];refine lM (λe=> pO k) (λe=> .agg (aN ((T.release q.c q.r q.t).2) (0))) rfl rfl (λe p O h=>by(
  have h:=h.fn;have a:=h.fi 4;have Q:p.cell? (aD k 0)=some (iI 0):=(a.ah 0 rfl).cell 0;have i:p.cell? (aD k 1)=some (iU 0):=(a.ah 0 rfl).cell 1;have W:=(a.ah 0 rfl).frozen;have V:=(a.bx 0 (iI ((T.release q.c q.r q.t).2)) (aN ((T.release q.c q.r q.t).2) 0) rfl).bx 1 (iU (0)) (aN ((T.release q.c q.r q.t).2) (0)) rfl;exact⟨_,gS,V.fk⟩)) ?_
 simp only[Act.put];refine aA ?_;intro e z h;have h:=h.fn;have h:=h;obtain⟨Q,i⟩:z.cell? (aD k 0)=some (iI ((T.release q.c q.r q.t).2))/\z.cell? (aD k 1)=some (iU (0)):=⟨(h.ah 4 rfl).cell 0,(h.ah 4 rfl).cell 1⟩;have o:=aa h;clear h H
 go_wp2_with fail
 refine bodyPost_ret (v:= .agg (aN ((T.release q.c q.r q.t).2) (0))) (aL (fn:=Tryz.f197) (t:=3) (ty:=158) rfl _ rfl ?_) rfl ⟨rfl,o.sub⟩;go_simp
theorem SH{I:aK}{L:List az}(g gs gl n:Nat)(T:aH)(q:dH)(w:World)(B:bD T)(h:St I w (ab n 47 #[pO g]::ab g 113 (fX gs gl)::bX gl T::L)):
 Rt I w 198 #[.agg (dV q),pO n] (.agg (aN ((T.renew q.c q.r q.t).2.2) ((T.renew q.c q.r q.t).2.1))) (ab n 47 #[pO g]::ab g 113 (fX gs gl)::bX gl ((T.renew q.c q.r q.t).1)::L):=by
 have K:=(h.alloc 156 (dV q)).alloc 158 (aN 0 0);rw[World.size_alloc]at K;obtain⟨d,C⟩:=nM (w.heap.size);obtain⟨k,x⟩:=nM (w.heap.size+1);rw[<-x,<-C]at K;refine nK C x B (K.pk 5 [2,3,1,4,0]) λN D P H=>?_;clear h K C x B
 go_enter func198,ntmps198
 go_wp2_with fail
 rw[<-D.out,<-N.out];refine an (I:=I) (L0:=L) [⟨none,none,λe=>ab n 47 #[pO g]⟩,⟨none,none,λe=>ab g 113 (fX gs gl)⟩,⟨none,none,λe=>ab d 156 (dV q)⟩,⟨none,some 10,λe=>bX gl T⟩,⟨some 10,none,λe=>bX gl ((T.renew q.c q.r q.t).1)⟩,⟨none,some 14,λe=>ab k 158 (aN 0 0)⟩,⟨some 14,none,λe=>ab k 158 (aN ((T.renew q.c q.r q.t).2.2) ((T.renew q.c q.r q.t).2.1))⟩] [[],[0],[0,1],rG 3,[],[4],[],[6],[],[8],rG 10,rG 11,rG 11,rG 13,rG 14] (rG 15) rfl kR kR kR (by rfl) (λ_=>rfl) H.fk ?_;refine PP ?_;refine bp 199 (λe=> #[pO gl,iI q.c,iI q.r,iU q.t]) (λe=> .tuple #[iU (T.renew q.c q.r q.t).2.1,iI (T.renew q.c q.r q.t).2.2]) rfl (λe p O h=>by(
  have h:=h.fn;refine(PK gl T q.c q.r q.t _ P (h.fi 3)).mono ?_;rintro u b⟨rfl,Z⟩;exact⟨⟨none,0,default⟩,rfl,Z.pk 4 [1,2,3,0]⟩)) ?_
 simp only[aW];refine xQ ?_;refine bp 195 (λe=> #[iU ((T.renew q.c q.r q.t).2.1),iI ((T.renew q.c q.r q.t).2.2)]) (λe=> .agg (aN ((T.renew q.c q.r q.t).2.2) ((T.renew q.c q.r q.t).2.1))) rfl (λe p O h=>by(
  have h:=h.fn;refine(Jy ((T.renew q.c q.r q.t).2.1) ((T.renew q.c q.r q.t).2.2) _ h).mono ?_;rintro u b⟨rfl,Z⟩;exact⟨⟨none,0,default⟩,rfl,Z.pk 0 []⟩)) ?_
 simp only[aW];refine lM (λe=> pO k) (λe=> .agg (aN ((T.renew q.c q.r q.t).2.2) ((T.renew q.c q.r q.t).2.1))) rfl rfl (λe p O h=>by(
  have h:=h.fn;have a:=h.fi 4;have Q:p.cell? (aD k 0)=some (iI 0):=(a.ah 0 rfl).cell 0;have i:p.cell? (aD k 1)=some (iU 0):=(a.ah 0 rfl).cell 1;have W:=(a.ah 0 rfl).frozen;have V:=(a.bx 0 (iI ((T.renew q.c q.r q.t).2.2)) (aN ((T.renew q.c q.r q.t).2.2) 0) rfl).bx 1 (iU ((T.renew q.c q.r q.t).2.1)) (aN ((T.renew q.c q.r q.t).2.2) ((T.renew q.c q.r q.t).2.1)) rfl;exact⟨_,gS,V.fk⟩)) ?_
 simp only[Act.put];refine aA ?_;intro e z h;have h:=h.fn;have h:=h;obtain⟨Q,i⟩:z.cell? (aD k 0)=some (iI ((T.renew q.c q.r q.t).2.2))/\z.cell? (aD k 1)=some (iU ((T.renew q.c q.r q.t).2.1)):=⟨(h.ah 4 rfl).cell 0,(h.ah 4 rfl).cell 1⟩;have o:=aa h;clear h H
 go_wp2_with fail
 refine bodyPost_ret (v:= .agg (aN ((T.renew q.c q.r q.t).2.2) ((T.renew q.c q.r q.t).2.1))) (aL (fn:=Tryz.f198) (t:=3) (ty:=158) rfl _ rfl ?_) rfl ⟨rfl,o.sub⟩;go_simp
def oL(n:Nat)(f:Nat):Value:= .func (.func f) #[] #[pO n]
def Hy(n:Nat):List (Int×Value):=[(3,oL n 194),(4,oL n 197),(5,oL n 198),(6,oL n 200)]
theorem Ho{I:aK}{L:List az}(g:Nat)(w:World)(h:St I w L):
 Calls prog 156 #[pO g] w λe O=>∃n,e= .returned (.map (some (n+1)))/\St I O (nO (n+1) (Hy n)::ab n 47 #[pO g]::L):=by
 have a:∀r first cap w,(Instr.makeFunc r first cap).run prog w= .ok (.func r first cap) w:=λ_ _ _ _=>rfl;have T:= @run_makeMap prog;have K:=(h.alloc 47 #[pO g]).Di;rw[World.size_alloc]at K;obtain⟨z,i,Z⟩:=K.yZ (P:=prog) underlying286 underlying3 (c:=3) rfl (oL w.heap.size 194);obtain⟨R,H,G⟩:=Z.yZ (P:=prog) underlying286 underlying3 (c:=4) rfl (oL w.heap.size 197);obtain⟨Y,t,M⟩:=G.yZ (P:=prog) underlying286 underlying3 (c:=5) rfl (oL w.heap.size 198);obtain⟨o,l,S⟩:=M.yZ (P:=prog) underlying286 underlying3 (c:=6) rfl (oL w.heap.size 200);have q:=aa S;unfold oL at i H t l;clear h K Z G M S
 go_enter func156,ntmps156
 go_wp2_with fail
 go_ret
 exact⟨_,rfl,q⟩
theorem CZ(w:World):∃z,(zeroValue 210).run prog w= .ok z w:=⟨.nilFunc,kR⟩
theorem CA(c r:Int):0<=cQ c r/\cQ c r<=255:=by
 unfold cQ
 repeat' split
 all_goals omega
theorem FP(T:aH)(c r t:Int):0<=T.gy c r t/\T.gy c r t<=255:=by
 unfold aH.gy;have:=CA c r
 repeat' split
 all_goals omega
theorem IR(T:aH)(c r t:Int):0<=(T.release c r t).2/\(T.release c r t).2<=255:=by
 unfold aH.release;have:=FP T c r t
 split
 ·exact this
 ·exact⟨cO 0,(by decide:(0:Int)<=255)⟩
theorem Rb(T:aH)(c r t:Int):0<=(T.renew c r t).2.2/\(T.renew c r t).2.2<=255:=by
 unfold aH.renew;have:=FP T c r t
 split
 ·exact this
 ·exact⟨cO 0,(by decide:(0:Int)<=255)⟩
theorem Ri(T:aH)(c:Int)(k:Nat)(j:Int):0<=(T.oB c k j).2.2/\(T.oB c k j).2.2<=255:=by
 unfold aH.oB aH.Ar
 repeat' split
 all_goals refine⟨?_,?_⟩
 all_goals(dsimp only;omega)
theorem Jn(T:aH)(c r m:Int):0<=(T.acquire c r m).2.2/\(T.acquire c r m).2.2<=255:=by
 unfold aH.acquire
 split
 ·exact CA c r
 ·split
  ·exact⟨(by decide:(0:Int)<=91),(by decide:(91:Int)<=255)⟩
  ·exact Ri T c r.toNat m
theorem Uu{I:aK}{L:List az}(g gs gl:Nat)(S:List (Int×Int))(T:aH)(q:dH)(w:World)(W:aP S q.c=none)(h:St I w (ab g 113 (fX gs gl)::eZ gs S::bX gl T::L)):
 Rt I w 99 #[pO g,.agg (dV q)] (.agg (aN 81 0)) (ab g 113 (fX gs gl)::eZ gs S::bX gl T::L):=by
 have K:=(h.alloc 156 (dV q)).alloc 158 (aN 0 0);rw[World.size_alloc]at K;obtain⟨d,k⟩:=nM (w.heap.size);obtain⟨r,O⟩:=nM (w.heap.size+1);rw[<-O,<-k]at K;refine iG k O (K.pk 5 [2,1,3,4,0]) λC c H=>?_;have b:=aa (show∀x,aP S q.c=some x->q.seq=x.2+1/\0<=x.2/\x.2<4294967295 from λx J=>by rw[W]at J;cases J);have Y:lQ S q.c=81:=by unfold lQ;rw[W];rfl
 clear W;have D:=aa Y;clear Y;clear h K k O
 go_enter func99,ntmps99
 go_wp2_with fail
 rw[<-c.out,<-C.out];refine an (I:=I) (L0:=bX gl T::ab r 158 (aN 0 0)::L) [⟨none,none,λe=>ab g 113 (fX gs gl)⟩,⟨none,none,λe=>ab d 156 (dV q)⟩,⟨none,some 8,λe=>eZ gs S⟩,⟨some 8,none,λe=>eZ gs S⟩] [[],[0],[0,1],rG 3,[],[4],[],[6],rG 8,rG 9,rG 10,rG 10,rG 10,rG 11,[0,1,2,3,4,5,6,7,8,9,10,11,13],rG 15] (rG 16) rfl kR kR kR (by rfl) (λ_=>rfl) H.fk ?_;refine RU ?_;refine bp 154 (λe=> #[pO gs,iI q.c,iW q.seq]) (λe=> .tuple #[sN,.bool false,iI (lQ S q.c)]) rfl (λe p l h=>by(
  have h:=h.fn;refine(ym gs S q.c q.seq _ b (h.fi 2)).mono ?_;rintro u P⟨rfl,Z⟩;exact⟨⟨none,0,default⟩,rfl,Z.pk 3 [1,2,0]⟩)) ?_
 simp only[aW];refine Xi ?_;refine aA ?_;intro e z h;have h:=h.fn;rw[D.out];have Q:z.cell? (aD r 0)=some (iI 0):=(h.ah 4 rfl).cell 0;have i:z.cell? (aD r 1)=some (iU 0):=(h.ah 4 rfl).cell 1;have F:=(h.ah 4 rfl).frozen;have V:=((h.fi 4).bx 0 (iI 81) (aN 81 0) rfl).bx 1 (iU 0) (aN 81 0) rfl;have o:=aa V;clear h H V
 go_wp2_with fail
 have U:World.cell? _ ⟨r,0,none⟩=some (iI 81):=(o.ah 0 rfl).cell 0;have R:World.cell? _ ⟨r,1,none⟩=some (iU 0):=(o.ah 0 rfl).cell 1;refine bodyPost_ret (v:= .agg (aN 81 0)) (aL (fn:=Tryz.f99) (t:=4) (ty:=158) rfl _ rfl ?_) rfl ⟨rfl,o.sub⟩;go_simp
theorem YZ{I:aK}{L:List az}(g gs gl:Nat)(S:List (Int×Int))(T:aH)(q:dH)(w:World)(B:bD T)(X:q.op=3)(W:∃x,aP S q.c=some x/\q.seq=x.2+1/\0<=x.2/\x.2<4294967295)(h:St I w (ab g 113 (fX gs gl)::eZ gs S::bX gl T::L)):
 Rt I w 99 #[pO g,.agg (dV q)] (.agg (aN ((T.acquire q.c q.r q.m).2.2) ((T.acquire q.c q.r q.m).2.1))) (ab g 113 (fX gs gl)::eZ gs (bR S q.c q.seq)::bX gl ((T.acquire q.c q.r q.m).1)::L):=by
 have K:=(h.alloc 156 (dV q)).alloc 158 (aN 0 0);rw[World.size_alloc]at K;obtain⟨d,k⟩:=nM (w.heap.size);obtain⟨r,c⟩:=nM (w.heap.size+1);rw[<-c,<-k]at K;refine nK k c (K.pk 5 [2,1,3,4,0]) W λC U H l=>?_;have R:=aa (show∀x,aP S q.c=some x->q.seq=x.2+1/\0<=x.2/\x.2<4294967295 from λx J=>by obtain⟨B0,Z,G⟩:=W;rw[Z]at J;injection J with J;rw[<-J];exact G);have Y:lQ S q.c=0:=by obtain⟨B0,Z,G⟩:=W;unfold lQ;rw[Z];rfl
 have Q:=aa (show∀n,pH (Hy n) q.op=some (oL n 194)from λn=>by rw[X];rfl);have P:=aa B;have y:=aa (show 0<=(T.acquire q.c q.r q.m).2.2/\(T.acquire q.c q.r q.m).2.2<18446744073709551616 by have:=Jn T q.c q.r q.m;omega);clear W X B;have D:=aa Y;clear Y;clear h K k c
 go_enter func99,ntmps99
 go_wp2_with fail
 rw[<-U.out,<-C.out];refine an (I:=I) (L0:=bX gl T::ab r 158 (aN 0 0)::L) [⟨none,none,λe=>ab g 113 (fX gs gl)⟩,⟨none,none,λe=>ab d 156 (dV q)⟩,⟨none,some 8,λe=>eZ gs S⟩,⟨some 8,none,λe=>eZ gs S⟩] [[],[0],[0,1],rG 3,[],[4],[],[6],rG 8,rG 9,rG 10,rG 10,rG 10,rG 11,[0,1,2,3,4,5,6,7,8,9,10,11,13],rG 15] (rG 16) rfl kR kR kR (by rfl) (λ_=>rfl) H.fk ?_;refine RU ?_;refine bp 154 (λe=> #[pO gs,iI q.c,iW q.seq]) (λe=> .tuple #[sN,.bool false,iI (lQ S q.c)]) rfl (λe p O h=>by(
  have h:=h.fn;refine(ym gs S q.c q.seq _ R (h.fi 2)).mono ?_;rintro u b⟨rfl,Z⟩;exact⟨⟨none,0,default⟩,rfl,Z.pk 3 [1,2,0]⟩)) ?_
 simp only[aW];refine Xi ?_;refine aA ?_;intro e z h;have h:=h.fn;rw[D.out];have F:=aa h;clear h H
 go_wp2_with fail
 refine an (I:=I) (L0:=eZ gs S::ab r 158 (aN 0 0)::L) [⟨none,none,λe=>ab g 113 (fX gs gl)⟩,⟨none,none,λe=>ab d 156 (dV q)⟩,⟨none,some 6,λe=>bX gl T⟩,⟨some 6,none,λe=>bX gl ((T.acquire q.c q.r q.m).1)⟩,⟨some 1,none,λe=>ab (e 1).n 47 #[pO g]⟩,⟨some 1,none,λe=>nO ((e 1).n+1) (Hy (e 1).n)⟩,⟨some 7,some 8,λe=>ab (e 7).n 158 (aN 0 0)⟩,⟨some 8,none,λe=>ab (e 7).n 158 (aN ((T.acquire q.c q.r q.m).2.2) ((T.acquire q.c q.r q.m).2.1))⟩] [[],[0],[],[2],rG 4,[],rG 6,[],rG 8] (rG 9) rfl kR kR kR (by rfl) (λ_=>rfl) F.fk ?_;refine nL ?_;refine bp 156 (λe=> #[pO g]) (λe=> .map (some ((e 1).n+1))) rfl (λe p O h=>by(
  have h:=h.fn;refine(Ho g _ h).mono ?_;rintro u b⟨n,rfl,Z⟩;exact⟨⟨none,n,default⟩,rfl,Z.pk 5 [2,3,4,1,0]⟩)) ?_
 simp only[aW];refine xQ ?_;refine mH (λe=>oL (e 1).n 194) rfl (λe p O h=>by(have h:=h.fn;have A0:=(h.fi 4).Ax 0 rfl;obtain⟨C0,hz⟩:=CZ p;have A:=na (w:=p) underlying286 underlying3 hz A0 q.op false;rw[Q.out]at A;have A:(Instr.lookup 286 (.map (some ((e 1).n+1))) (iI q.op) false).run prog p= .ok (oL (e 1).n 194) p:=A;go_simp;try rfl)) ?_;simp only[aW];refine nL ?_;refine o7 194 (λe=> #[.agg (dV q),.pointer (some ⟨(e 1).n,0,none⟩)]) (λe=> .agg (aN ((T.acquire q.c q.r q.m).2.2) ((T.acquire q.c q.r q.m).2.1))) rfl (λ_=>rfl) (by intro e;rfl) (λe p=>by(unfold oL;go_simp;try rfl)) (λe p O h=>by(
  have h:=h.fn;refine(Sp g gs gl (e 1).n T q _ P (h.pk 4 [3,0,2,1])).mono ?_;rintro u b⟨rfl,Z⟩;exact⟨⟨none,0,default⟩,rfl,Z.pk 4 [1,3,2,0]⟩)) ?_
 simp only[aW];refine GP (λe=> .pointer (some ⟨(e 7).n,0,none⟩)) rfl (λe p O h=>by(
  have h:=h.fn;have M:=h.alloc 158 (aN 0 0);exact⟨⟨none,p.heap.size,default⟩,_,gS,M.fk⟩)) ?_
 simp only[aW];refine lM (λe=> .pointer (some ⟨(e 7).n,0,none⟩)) (λe=> .agg (aN ((T.acquire q.c q.r q.m).2.2) ((T.acquire q.c q.r q.m).2.1))) rfl rfl (λe p O h=>by(
  have h:=h.fn;have a:=h.fi 5;have r0:p.cell? ⟨(e 7).n,0,none⟩=some (iI 0):=(a.ah 0 rfl).cell 0;have r1:p.cell? ⟨(e 7).n,1,none⟩=some (iU 0):=(a.ah 0 rfl).cell 1;have E:=(a.ah 0 rfl).frozen;have V:=(a.bx 0 (iI ((T.acquire q.c q.r q.m).2.2)) (aN ((T.acquire q.c q.r q.m).2.2) 0) rfl).bx 1 (iU ((T.acquire q.c q.r q.m).2.1)) (aN ((T.acquire q.c q.r q.m).2.2) ((T.acquire q.c q.r q.m).2.1)) rfl;exact⟨_,gS,V.fk⟩)) ?_
 simp only[Act.put];refine aA ?_;intro e z h;have h:=h.fn;have j:=aa (h.pk 7 [0,1,6,2,5]);clear h F
 go_wp2_with fail
 generalize(e 7).n=gr at j⊢;refine an (I:=I) (L0:=bX gl ((T.acquire q.c q.r q.m).1)::ab r 158 (aN 0 0)::L) [⟨none,none,λe=>ab g 113 (fX gs gl)⟩,⟨none,none,λe=>ab d 156 (dV q)⟩,⟨none,none,λe=>ab gr 158 (aN ((T.acquire q.c q.r q.m).2.2) ((T.acquire q.c q.r q.m).2.1))⟩,⟨none,some 10,λe=>eZ gs S⟩,⟨some 10,none,λe=>eZ gs (bR S q.c q.seq)⟩,⟨some 9,some 10,λe=>ai .u8 (.slice (e 9).A 9 (e 9).n) (yN ((T.acquire q.c q.r q.m).2.2) ((T.acquire q.c q.r q.m).2.1))⟩] [[],[0],[0,1],rG 3,[],[4],[],[6],[],[8],rG 10] (rG 11) rfl kR kR kR (by rfl) (λ_=>rfl) j.fk ?_;refine fs9 ?_;refine bp 158 (λe=> #[.agg (aN ((T.acquire q.c q.r q.m).2.2) ((T.acquire q.c q.r q.m).2.1))]) (λe=> .slice (e 9).A 9 (e 9).n) rfl (λe p O h=>by(
  have h:=h.fn;refine(vH ((T.acquire q.c q.r q.m).2.2) ((T.acquire q.c q.r q.m).2.1) _ y h).mono ?_;rintro u b⟨N,i,rfl,Z⟩;exact⟨⟨N,i,default⟩,rfl,Z.pk 5 [1,2,3,4,0]⟩)) ?_
 simp only[aW];refine bp 157 (λe=> #[pO gs,iI q.c,iW q.seq,.slice (e 9).A 9 (e 9).n]) (λe=> iI 0) rfl (λe p O h=>by(
  have h:=h.fn;refine(zb gs S q.c q.seq (e 9).A 9 (e 9).n (yN ((T.acquire q.c q.r q.m).2.2) ((T.acquire q.c q.r q.m).2.1)) _ oM l (h.pk 5 [4,3,0,1,2])).mono ?_;rintro u b⟨rfl,Z⟩;exact⟨⟨none,0,default⟩,rfl,Z.pk 4 [1,2,3,0]⟩)) ?_
 simp only[aW];refine aA ?_;intro e z h;have h:=h.fn;have y0:z.cell? (aD gr 0)=some (iI ((T.acquire q.c q.r q.m).2.2)):=(h.ah 2 rfl).cell 0;have y1:z.cell? (aD gr 1)=some (iU ((T.acquire q.c q.r q.m).2.1)):=(h.ah 2 rfl).cell 1;have r0:z.cell? (aD r 0)=some (iI 0):=(h.ah 5 rfl).cell 0;have r1:z.cell? (aD r 1)=some (iU 0):=(h.ah 5 rfl).cell 1;have E:=(h.ah 5 rfl).frozen;have V:=((h.fi 5).bx 0 (iI ((T.acquire q.c q.r q.m).2.2)) (aN ((T.acquire q.c q.r q.m).2.2) 0) rfl).bx 1 (iU ((T.acquire q.c q.r q.m).2.1)) (aN ((T.acquire q.c q.r q.m).2.2) ((T.acquire q.c q.r q.m).2.1)) rfl;have o:=aa V;clear h j V
 go_wp2_with fail
 have y0:World.cell? _ ⟨r,0,none⟩=some (iI ((T.acquire q.c q.r q.m).2.2)):=(o.ah 0 rfl).cell 0;have y1:World.cell? _ ⟨r,1,none⟩=some (iU ((T.acquire q.c q.r q.m).2.1)):=(o.ah 0 rfl).cell 1;refine bodyPost_ret (v:= .agg (aN ((T.acquire q.c q.r q.m).2.2) ((T.acquire q.c q.r q.m).2.1))) (aL (fn:=Tryz.f99) (t:=4) (ty:=158) rfl _ rfl ?_) rfl ⟨rfl,o.sub⟩;go_simp
theorem YM{I:aK}{L:List az}(g gs gl:Nat)(S:List (Int×Int))(T:aH)(q:dH)(w:World)(B:bD T)(X:q.op=4)(W:∃x,aP S q.c=some x/\q.seq=x.2+1/\0<=x.2/\x.2<4294967295)(h:St I w (ab g 113 (fX gs gl)::eZ gs S::bX gl T::L)):
 Rt I w 99 #[pO g,.agg (dV q)] (.agg (aN ((T.release q.c q.r q.t).2) (0))) (ab g 113 (fX gs gl)::eZ gs (bR S q.c q.seq)::bX gl ((T.release q.c q.r q.t).1)::L):=by
 have K:=(h.alloc 156 (dV q)).alloc 158 (aN 0 0);rw[World.size_alloc]at K;obtain⟨d,k⟩:=nM (w.heap.size);obtain⟨r,c⟩:=nM (w.heap.size+1);rw[<-c,<-k]at K;refine nK k c (K.pk 5 [2,1,3,4,0]) W λC U H l=>?_;have R:=aa (show∀x,aP S q.c=some x->q.seq=x.2+1/\0<=x.2/\x.2<4294967295 from λx J=>by obtain⟨B0,Z,G⟩:=W;rw[Z]at J;injection J with J;rw[<-J];exact G);have Y:lQ S q.c=0:=by obtain⟨B0,Z,G⟩:=W;unfold lQ;rw[Z];rfl
 have Q:=aa (show∀n,pH (Hy n) q.op=some (oL n 197)from λn=>by rw[X];rfl);have P:=aa B;have y:=aa (show 0<=(T.release q.c q.r q.t).2/\(T.release q.c q.r q.t).2<18446744073709551616 by have:=IR T q.c q.r q.t;omega);clear W X B;have D:=aa Y;clear Y;clear h K k c
 go_enter func99,ntmps99
 go_wp2_with fail
 rw[<-U.out,<-C.out];refine an (I:=I) (L0:=bX gl T::ab r 158 (aN 0 0)::L) [⟨none,none,λe=>ab g 113 (fX gs gl)⟩,⟨none,none,λe=>ab d 156 (dV q)⟩,⟨none,some 8,λe=>eZ gs S⟩,⟨some 8,none,λe=>eZ gs S⟩] [[],[0],[0,1],rG 3,[],[4],[],[6],rG 8,rG 9,rG 10,rG 10,rG 10,rG 11,[0,1,2,3,4,5,6,7,8,9,10,11,13],rG 15] (rG 16) rfl kR kR kR (by rfl) (λ_=>rfl) H.fk ?_;refine RU ?_;refine bp 154 (λe=> #[pO gs,iI q.c,iW q.seq]) (λe=> .tuple #[sN,.bool false,iI (lQ S q.c)]) rfl (λe p O h=>by(
  have h:=h.fn;refine(ym gs S q.c q.seq _ R (h.fi 2)).mono ?_;rintro u b⟨rfl,Z⟩;exact⟨⟨none,0,default⟩,rfl,Z.pk 3 [1,2,0]⟩)) ?_
 simp only[aW];refine Xi ?_;refine aA ?_;intro e z h;have h:=h.fn;rw[D.out];have F:=aa h;clear h H
 go_wp2_with fail
 refine an (I:=I) (L0:=eZ gs S::ab r 158 (aN 0 0)::L) [⟨none,none,λe=>ab g 113 (fX gs gl)⟩,⟨none,none,λe=>ab d 156 (dV q)⟩,⟨none,some 6,λe=>bX gl T⟩,⟨some 6,none,λe=>bX gl ((T.release q.c q.r q.t).1)⟩,⟨some 1,none,λe=>ab (e 1).n 47 #[pO g]⟩,⟨some 1,none,λe=>nO ((e 1).n+1) (Hy (e 1).n)⟩,⟨some 7,some 8,λe=>ab (e 7).n 158 (aN 0 0)⟩,⟨some 8,none,λe=>ab (e 7).n 158 (aN ((T.release q.c q.r q.t).2) (0))⟩] [[],[0],[],[2],rG 4,[],rG 6,[],rG 8] (rG 9) rfl kR kR kR (by rfl) (λ_=>rfl) F.fk ?_;refine nL ?_;refine bp 156 (λe=> #[pO g]) (λe=> .map (some ((e 1).n+1))) rfl (λe p O h=>by(
  have h:=h.fn;refine(Ho g _ h).mono ?_;rintro u b⟨n,rfl,Z⟩;exact⟨⟨none,n,default⟩,rfl,Z.pk 5 [2,3,4,1,0]⟩)) ?_
 simp only[aW];refine xQ ?_;refine mH (λe=>oL (e 1).n 197) rfl (λe p O h=>by(have h:=h.fn;have A0:=(h.fi 4).Ax 0 rfl;obtain⟨C0,hz⟩:=CZ p;have A:=na (w:=p) underlying286 underlying3 hz A0 q.op false;rw[Q.out]at A;have A:(Instr.lookup 286 (.map (some ((e 1).n+1))) (iI q.op) false).run prog p= .ok (oL (e 1).n 197) p:=A;go_simp;try rfl)) ?_;simp only[aW];refine nL ?_;refine o7 197 (λe=> #[.agg (dV q),.pointer (some ⟨(e 1).n,0,none⟩)]) (λe=> .agg (aN ((T.release q.c q.r q.t).2) (0))) rfl (λ_=>rfl) (by intro e;rfl) (λe p=>by(unfold oL;go_simp;try rfl)) (λe p O h=>by(
  have h:=h.fn;refine(Sx g gs gl (e 1).n T q _ P (h.pk 4 [3,0,2,1])).mono ?_;rintro u b⟨rfl,Z⟩;exact⟨⟨none,0,default⟩,rfl,Z.pk 4 [1,3,2,0]⟩)) ?_
 simp only[aW];refine GP (λe=> .pointer (some ⟨(e 7).n,0,none⟩)) rfl (λe p O h=>by(
  have h:=h.fn;have M:=h.alloc 158 (aN 0 0);exact⟨⟨none,p.heap.size,default⟩,_,gS,M.fk⟩)) ?_
 simp only[aW];refine lM (λe=> .pointer (some ⟨(e 7).n,0,none⟩)) (λe=> .agg (aN ((T.release q.c q.r q.t).2) (0))) rfl rfl (λe p O h=>by(
  have h:=h.fn;have a:=h.fi 5;have r0:p.cell? ⟨(e 7).n,0,none⟩=some (iI 0):=(a.ah 0 rfl).cell 0;have r1:p.cell? ⟨(e 7).n,1,none⟩=some (iU 0):=(a.ah 0 rfl).cell 1;have E:=(a.ah 0 rfl).frozen;have V:=(a.bx 0 (iI ((T.release q.c q.r q.t).2)) (aN ((T.release q.c q.r q.t).2) 0) rfl).bx 1 (iU (0)) (aN ((T.release q.c q.r q.t).2) (0)) rfl;exact⟨_,gS,V.fk⟩)) ?_
 simp only[Act.put];refine aA ?_;intro e z h;have h:=h.fn;have j:=aa (h.pk 7 [0,1,6,2,5]);clear h F
 go_wp2_with fail
 generalize(e 7).n=gr at j⊢;refine an (I:=I) (L0:=bX gl ((T.release q.c q.r q.t).1)::ab r 158 (aN 0 0)::L) [⟨none,none,λe=>ab g 113 (fX gs gl)⟩,⟨none,none,λe=>ab d 156 (dV q)⟩,⟨none,none,λe=>ab gr 158 (aN ((T.release q.c q.r q.t).2) (0))⟩,⟨none,some 10,λe=>eZ gs S⟩,⟨some 10,none,λe=>eZ gs (bR S q.c q.seq)⟩,⟨some 9,some 10,λe=>ai .u8 (.slice (e 9).A 9 (e 9).n) (yN ((T.release q.c q.r q.t).2) (0))⟩] [[],[0],[0,1],rG 3,[],[4],[],[6],[],[8],rG 10] (rG 11) rfl kR kR kR (by rfl) (λ_=>rfl) j.fk ?_;refine fs9 ?_;refine bp 158 (λe=> #[.agg (aN ((T.release q.c q.r q.t).2) (0))]) (λe=> .slice (e 9).A 9 (e 9).n) rfl (λe p O h=>by(
  have h:=h.fn;refine(vH ((T.release q.c q.r q.t).2) (0) _ y h).mono ?_;rintro u b⟨N,i,rfl,Z⟩;exact⟨⟨N,i,default⟩,rfl,Z.pk 5 [1,2,3,4,0]⟩)) ?_
 simp only[aW];refine bp 157 (λe=> #[pO gs,iI q.c,iW q.seq,.slice (e 9).A 9 (e 9).n]) (λe=> iI 0) rfl (λe p O h=>by(
  have h:=h.fn;refine(zb gs S q.c q.seq (e 9).A 9 (e 9).n (yN ((T.release q.c q.r q.t).2) (0)) _ oM l (h.pk 5 [4,3,0,1,2])).mono ?_;rintro u b⟨rfl,Z⟩;exact⟨⟨none,0,default⟩,rfl,Z.pk 4 [1,2,3,0]⟩)) ?_
 simp only[aW];refine aA ?_;intro e z h;have h:=h.fn;have y0:z.cell? (aD gr 0)=some (iI ((T.release q.c q.r q.t).2)):=(h.ah 2 rfl).cell 0;have y1:z.cell? (aD gr 1)=some (iU (0)):=(h.ah 2 rfl).cell 1;have r0:z.cell? (aD r 0)=some (iI 0):=(h.ah 5 rfl).cell 0;have r1:z.cell? (aD r 1)=some (iU 0):=(h.ah 5 rfl).cell 1;have E:=(h.ah 5 rfl).frozen;have V:=((h.fi 5).bx 0 (iI ((T.release q.c q.r q.t).2)) (aN ((T.release q.c q.r q.t).2) 0) rfl).bx 1 (iU (0)) (aN ((T.release q.c q.r q.t).2) (0)) rfl;have o:=aa V;clear h j V
 go_wp2_with fail
 have y0:World.cell? _ ⟨r,0,none⟩=some (iI ((T.release q.c q.r q.t).2)):=(o.ah 0 rfl).cell 0;have y1:World.cell? _ ⟨r,1,none⟩=some (iU (0)):=(o.ah 0 rfl).cell 1;refine bodyPost_ret (v:= .agg (aN ((T.release q.c q.r q.t).2) (0))) (aL (fn:=Tryz.f99) (t:=4) (ty:=158) rfl _ rfl ?_) rfl ⟨rfl,o.sub⟩;go_simp
theorem YP{I:aK}{L:List az}(g gs gl:Nat)(S:List (Int×Int))(T:aH)(q:dH)(w:World)(B:bD T)(X:q.op=5)(W:∃x,aP S q.c=some x/\q.seq=x.2+1/\0<=x.2/\x.2<4294967295)(h:St I w (ab g 113 (fX gs gl)::eZ gs S::bX gl T::L)):
 Rt I w 99 #[pO g,.agg (dV q)] (.agg (aN ((T.renew q.c q.r q.t).2.2) ((T.renew q.c q.r q.t).2.1))) (ab g 113 (fX gs gl)::eZ gs (bR S q.c q.seq)::bX gl ((T.renew q.c q.r q.t).1)::L):=by
 have K:=(h.alloc 156 (dV q)).alloc 158 (aN 0 0);rw[World.size_alloc]at K;obtain⟨d,k⟩:=nM (w.heap.size);obtain⟨r,c⟩:=nM (w.heap.size+1);rw[<-c,<-k]at K;refine nK k c (K.pk 5 [2,1,3,4,0]) W λC U H l=>?_;have R:=aa (show∀x,aP S q.c=some x->q.seq=x.2+1/\0<=x.2/\x.2<4294967295 from λx J=>by obtain⟨B0,Z,G⟩:=W;rw[Z]at J;injection J with J;rw[<-J];exact G);have Y:lQ S q.c=0:=by obtain⟨B0,Z,G⟩:=W;unfold lQ;rw[Z];rfl
 have Q:=aa (show∀n,pH (Hy n) q.op=some (oL n 198)from λn=>by rw[X];rfl);have P:=aa B;have y:=aa (show 0<=(T.renew q.c q.r q.t).2.2/\(T.renew q.c q.r q.t).2.2<18446744073709551616 by have:=Rb T q.c q.r q.t;omega);clear W X B;have D:=aa Y;clear Y;clear h K k c
 go_enter func99,ntmps99
 go_wp2_with fail
 rw[<-U.out,<-C.out];refine an (I:=I) (L0:=bX gl T::ab r 158 (aN 0 0)::L) [⟨none,none,λe=>ab g 113 (fX gs gl)⟩,⟨none,none,λe=>ab d 156 (dV q)⟩,⟨none,some 8,λe=>eZ gs S⟩,⟨some 8,none,λe=>eZ gs S⟩] [[],[0],[0,1],rG 3,[],[4],[],[6],rG 8,rG 9,rG 10,rG 10,rG 10,rG 11,[0,1,2,3,4,5,6,7,8,9,10,11,13],rG 15] (rG 16) rfl kR kR kR (by rfl) (λ_=>rfl) H.fk ?_;refine RU ?_;refine bp 154 (λe=> #[pO gs,iI q.c,iW q.seq]) (λe=> .tuple #[sN,.bool false,iI (lQ S q.c)]) rfl (λe p O h=>by(
  have h:=h.fn;refine(ym gs S q.c q.seq _ R (h.fi 2)).mono ?_;rintro u b⟨rfl,Z⟩;exact⟨⟨none,0,default⟩,rfl,Z.pk 3 [1,2,0]⟩)) ?_
 simp only[aW];refine Xi ?_;refine aA ?_;intro e z h;have h:=h.fn;rw[D.out];have F:=aa h;clear h H
 go_wp2_with fail
 refine an (I:=I) (L0:=eZ gs S::ab r 158 (aN 0 0)::L) [⟨none,none,λe=>ab g 113 (fX gs gl)⟩,⟨none,none,λe=>ab d 156 (dV q)⟩,⟨none,some 6,λe=>bX gl T⟩,⟨some 6,none,λe=>bX gl ((T.renew q.c q.r q.t).1)⟩,⟨some 1,none,λe=>ab (e 1).n 47 #[pO g]⟩,⟨some 1,none,λe=>nO ((e 1).n+1) (Hy (e 1).n)⟩,⟨some 7,some 8,λe=>ab (e 7).n 158 (aN 0 0)⟩,⟨some 8,none,λe=>ab (e 7).n 158 (aN ((T.renew q.c q.r q.t).2.2) ((T.renew q.c q.r q.t).2.1))⟩] [[],[0],[],[2],rG 4,[],rG 6,[],rG 8] (rG 9) rfl kR kR kR (by rfl) (λ_=>rfl) F.fk ?_;refine nL ?_;refine bp 156 (λe=> #[pO g]) (λe=> .map (some ((e 1).n+1))) rfl (λe p O h=>by(
  have h:=h.fn;refine(Ho g _ h).mono ?_;rintro u b⟨n,rfl,Z⟩;exact⟨⟨none,n,default⟩,rfl,Z.pk 5 [2,3,4,1,0]⟩)) ?_
 simp only[aW];refine xQ ?_;refine mH (λe=>oL (e 1).n 198) rfl (λe p O h=>by(have h:=h.fn;have A0:=(h.fi 4).Ax 0 rfl;obtain⟨C0,hz⟩:=CZ p;have A:=na (w:=p) underlying286 underlying3 hz A0 q.op false;rw[Q.out]at A;have A:(Instr.lookup 286 (.map (some ((e 1).n+1))) (iI q.op) false).run prog p= .ok (oL (e 1).n 198) p:=A;go_simp;try rfl)) ?_;simp only[aW];refine nL ?_;refine o7 198 (λe=> #[.agg (dV q),.pointer (some ⟨(e 1).n,0,none⟩)]) (λe=> .agg (aN ((T.renew q.c q.r q.t).2.2) ((T.renew q.c q.r q.t).2.1))) rfl (λ_=>rfl) (by intro e;rfl) (λe p=>by(unfold oL;go_simp;try rfl)) (λe p O h=>by(
  have h:=h.fn;refine(SH g gs gl (e 1).n T q _ P (h.pk 4 [3,0,2,1])).mono ?_;rintro u b⟨rfl,Z⟩;exact⟨⟨none,0,default⟩,rfl,Z.pk 4 [1,3,2,0]⟩)) ?_
 simp only[aW];refine GP (λe=> .pointer (some ⟨(e 7).n,0,none⟩)) rfl (λe p O h=>by(
  have h:=h.fn;have M:=h.alloc 158 (aN 0 0);exact⟨⟨none,p.heap.size,default⟩,_,gS,M.fk⟩)) ?_
 simp only[aW];refine lM (λe=> .pointer (some ⟨(e 7).n,0,none⟩)) (λe=> .agg (aN ((T.renew q.c q.r q.t).2.2) ((T.renew q.c q.r q.t).2.1))) rfl rfl (λe p O h=>by(
  have h:=h.fn;have a:=h.fi 5;have r0:p.cell? ⟨(e 7).n,0,none⟩=some (iI 0):=(a.ah 0 rfl).cell 0;have r1:p.cell? ⟨(e 7).n,1,none⟩=some (iU 0):=(a.ah 0 rfl).cell 1;have E:=(a.ah 0 rfl).frozen;have V:=(a.bx 0 (iI ((T.renew q.c q.r q.t).2.2)) (aN ((T.renew q.c q.r q.t).2.2) 0) rfl).bx 1 (iU ((T.renew q.c q.r q.t).2.1)) (aN ((T.renew q.c q.r q.t).2.2) ((T.renew q.c q.r q.t).2.1)) rfl;exact⟨_,gS,V.fk⟩)) ?_
 simp only[Act.put];refine aA ?_;intro e z h;have h:=h.fn;have j:=aa (h.pk 7 [0,1,6,2,5]);clear h F
 go_wp2_with fail
 generalize(e 7).n=gr at j⊢;refine an (I:=I) (L0:=bX gl ((T.renew q.c q.r q.t).1)::ab r 158 (aN 0 0)::L) [⟨none,none,λe=>ab g 113 (fX gs gl)⟩,⟨none,none,λe=>ab d 156 (dV q)⟩,⟨none,none,λe=>ab gr 158 (aN ((T.renew q.c q.r q.t).2.2) ((T.renew q.c q.r q.t).2.1))⟩,⟨none,some 10,λe=>eZ gs S⟩,⟨some 10,none,λe=>eZ gs (bR S q.c q.seq)⟩,⟨some 9,some 10,λe=>ai .u8 (.slice (e 9).A 9 (e 9).n) (yN ((T.renew q.c q.r q.t).2.2) ((T.renew q.c q.r q.t).2.1))⟩] [[],[0],[0,1],rG 3,[],[4],[],[6],[],[8],rG 10] (rG 11) rfl kR kR kR (by rfl) (λ_=>rfl) j.fk ?_;refine fs9 ?_;refine bp 158 (λe=> #[.agg (aN ((T.renew q.c q.r q.t).2.2) ((T.renew q.c q.r q.t).2.1))]) (λe=> .slice (e 9).A 9 (e 9).n) rfl (λe p O h=>by(
  have h:=h.fn;refine(vH ((T.renew q.c q.r q.t).2.2) ((T.renew q.c q.r q.t).2.1) _ y h).mono ?_;rintro u b⟨N,i,rfl,Z⟩;exact⟨⟨N,i,default⟩,rfl,Z.pk 5 [1,2,3,4,0]⟩)) ?_
 simp only[aW];refine bp 157 (λe=> #[pO gs,iI q.c,iW q.seq,.slice (e 9).A 9 (e 9).n]) (λe=> iI 0) rfl (λe p O h=>by(
  have h:=h.fn;refine(zb gs S q.c q.seq (e 9).A 9 (e 9).n (yN ((T.renew q.c q.r q.t).2.2) ((T.renew q.c q.r q.t).2.1)) _ oM l (h.pk 5 [4,3,0,1,2])).mono ?_;rintro u b⟨rfl,Z⟩;exact⟨⟨none,0,default⟩,rfl,Z.pk 4 [1,2,3,0]⟩)) ?_
 simp only[aW];refine aA ?_;intro e z h;have h:=h.fn;have y0:z.cell? (aD gr 0)=some (iI ((T.renew q.c q.r q.t).2.2)):=(h.ah 2 rfl).cell 0;have y1:z.cell? (aD gr 1)=some (iU ((T.renew q.c q.r q.t).2.1)):=(h.ah 2 rfl).cell 1;have r0:z.cell? (aD r 0)=some (iI 0):=(h.ah 5 rfl).cell 0;have r1:z.cell? (aD r 1)=some (iU 0):=(h.ah 5 rfl).cell 1;have E:=(h.ah 5 rfl).frozen;have V:=((h.fi 5).bx 0 (iI ((T.renew q.c q.r q.t).2.2)) (aN ((T.renew q.c q.r q.t).2.2) 0) rfl).bx 1 (iU ((T.renew q.c q.r q.t).2.1)) (aN ((T.renew q.c q.r q.t).2.2) ((T.renew q.c q.r q.t).2.1)) rfl;have o:=aa V;clear h j V
 go_wp2_with fail
 have y0:World.cell? _ ⟨r,0,none⟩=some (iI ((T.renew q.c q.r q.t).2.2)):=(o.ah 0 rfl).cell 0;have y1:World.cell? _ ⟨r,1,none⟩=some (iU ((T.renew q.c q.r q.t).2.1)):=(o.ah 0 rfl).cell 1;refine bodyPost_ret (v:= .agg (aN ((T.renew q.c q.r q.t).2.2) ((T.renew q.c q.r q.t).2.1))) (aL (fn:=Tryz.f99) (t:=4) (ty:=158) rfl _ rfl ?_) rfl ⟨rfl,o.sub⟩;go_simp
section
def tB(c:Int)(T:aH):Nat->aH
 |0=>T
 |k+1=>ij c (tB c T k) k
theorem vx(c:Int){T:aH}(h:bD T):∀k,bD (tB c T k)
 |0=>h
 |k+1=>by
  have a:∀(l:List bh) (T:aH),bD T->bD (l.foldl (λT h=>if h.c==c then(T.release c (k:Int) h.t).1 else T) T):=by
   intro l
   induction l with
   |nil=>exact λT h=>h
   |cons x l K=>
    intro T A;refine K _ ?_;show bD (if _ then _ else _)
    split
    ·exact A.release _ _ _
    ·exact A
  exact(a _ _ (vx c h k)).cancel _ _
def sY(c:Int)(k:Nat)(T:aH)(l:List bh):aH:=l.foldl (λT h=>if h.c==c then(T.release c (k:Int) h.t).1 else T) T
theorem DQ(c:Int)(k:Nat):∀(l:List bh) (T:aH),bD T->bD (sY c k T l)
 |[],_,h=>h
 |x::l,T,h=>by
  show bD (sY c k _ l);refine DQ c k l _ ?_;show bD (if _ then _ else _)
  split
  ·exact h.release _ _ _
  ·exact h
theorem MC(c:Int)(k:Nat)(T:aH)(l:List bh)(x:bh):sY c k T (l++[x])=if(x.c==c)=true then((sY c k T l).release c (k:Int) x.t).1 else sY c k T l:=by
 unfold sY;rw[XI]
 rfl
theorem Ng(c:Int)(k:Nat)(T:aH){l:List bh}{j:Nat}{x:bh}(h:l[j]? =some x):sY c k T (l.take (j+1))=if(x.c==c)=true then((sY c k T (l.take j)).release c (k:Int) x.t).1 else sY c k T (l.take j):=by
 rw[JU,h];exact MC c k T (l.take j) x
theorem Qc{I:aK}{L:List az}(g gs gl:Nat)(T:aH)(c:Int)(w:World)(P:bD T)(h:St I w (ab g 113 (fX gs gl)::bX gl T::L)):
 Rt I w 98 #[pO g,iI c] (.tuple #[]) (ab g 113 (fX gs gl)::bX gl (nh T c)::L):=by
 refine bq P h λA0 H=>?_;clear h P
 go_enter func98,ntmps98
 go_wp2_with fail
 go_loopg [7] 4 (λU R wr=>∃(k:Nat),U=4-k/\k<=4/\R= iI (k:Nat)/\St I wr (ab g 113 (fX gs gl)::bX gl (tB c T k)::L))
 case atStart=>exact aeN
 case round=>
  clear H;obtain⟨k,F,hk,rfl,h⟩:=hrel;have HG:=aa F;clear F;by_cases E0:k<4
  ·have i1:(k:Int)<4:=oM
   have O:=vx c A0 k;have Q:tB c T (k+1)=((sY c k (tB c T k) ((tB c T k).lp (k:Int))).cancel c (k:Int)).1:=rfl;generalize tB c T k=T1 at*;refine bq Q O λx d=>?_;have D:wr.cell? (aD g 1)=some (pO gl):=(h.ah 0 rfl).cell 1;have K:=aa h.swap;clear h O Q
   go_wp2_with fail
   refine(Ir gl T1 (k:Int) _ d K).mono ?_;rintro e V⟨v,rfl,Z⟩;have C0:(T1.lp (k:Int)).length<=4:=by
    unfold aH.lp
    split
    ·exact d.hl _ oM
    ·exact iD _
   obtain⟨A,t,rfl,_⟩:=(Z.rZ At.here).value;obtain⟨n,W⟩:=nM ((T1.lp (k:Int)).length);rw[<-W]at Z C0⊢;have b:=aa W;generalize T1.lp (k:Int)=hs at*;have N:Hid (St I V (nm cC 4 (.slice A n t) hs::ab g 113 (fX gs gl)::bX gl (sY c k T1 (hs.take 0))::L)):=Z.pk 3 [0,2,1];clear Z K W
   go_wp2_with fail
   go_loopg [17] n (λU R wr=>∃(j:Nat),U=n-j/\j<=n/\R= iI (j:Nat)/\St I wr (nm cC 4 (.slice A n t) hs::ab g 113 (fX gs gl)::bX gl (sY c k T1 (hs.take j))::L))
   case atStart=>exact⟨0,rfl,oM,rfl,N⟩
   case round=>
    clear N D;obtain⟨j,F,hj,rfl,h⟩:=hrel;have G:=aa F;clear F;by_cases a:j<n
    ·have J:=g7 (l:=hs) (i:=j) (by rw[<-b.out];exact a)
     generalize hs[j]'(by rw[<-b.out];exact a)=z at J;obtain⟨B0,rfl,B⟩:=(h.rZ (C:=cC) (size:=4) (v:= .slice A n t) (xs:=hs)).at_ gH J;obtain⟨e0,e1,e2,e3⟩:=sg B;have r:=aa (Ng c k T1 J);have X:=DQ c k (hs.take j) T1 d;generalize sY c k T1 (hs.take j)=T2 at*;have o:=aa X;have S:=h.alloc 273 #[iI z.c,iI z.m,iU z.t,iU z.u];have k0:(0:Int)<=(j:Int):=oM
     have k1:(j:Int)<(n:Int):=oM
     obtain⟨D0,E⟩:=nM (wr.heap.size);have HY:=aa E;rw[<-E]at S
     cases Y:(z.c==c)with
     |true=>
      refine bq (show sY c k T1 (hs.take (j+1))=(T2.release c (k:Int) z.t).1 by rw[r.out,iP Y]) (S.pk 4 [2,0,3,1]) λp q=>?_;clear h S J B r X E
      go_wp2_with fail
      rw[<-HY.out];refine an (I:=I) (L0:=nm cC 4 (.slice (some B0) n t) hs::L) [⟨none,none,λe=>ab g 113 (fX gs gl)⟩,⟨none,none,λe=>ab D0 273 #[iI z.c,iI z.m,iU z.t,iU z.u]⟩,⟨none,some 8,λe=>bX gl T2⟩,⟨some 8,none,λe=>bX gl (T2.release c (k:Int) z.t).1⟩] [[],[0],[0,1],rG 3,[],[],[],[6],rG 8] (rG 9) rfl kR kR kR (by rfl) (λ_=>rfl) q.fk ?_;refine RU ?_;refine bp 152 (λe=> #[pO gl,iI c,iI (k:Nat),iU z.t]) (λe=> iI (T2.release c (k:Int) z.t).2) rfl (λe wx Lx h=>by(
       have h:=h.fn;refine(yP gl T2 c (k:Int) z.t _ o (h.fi 2)).mono ?_;rintro F0 wy⟨rfl,Z⟩;exact⟨⟨none,0,default⟩,rfl,Z.pk 3 [1,2,0]⟩)) ?_
      simp only[aW];refine aA ?_;intro e V h;have h:=h.fn;have h:=h.pk 4 [3,0,2];have u:=aa h;clear h q
      go_wp2_with fail
      go_roundg (n-(j+1))
      case measure=>have:=G.out;omega
      case rel=>exact⟨j+1,rfl,oM,by go_num,by rw[p.out];exact u.out⟩
     |false=>
      have p:=aa (show sY c k T1 (hs.take (j+1))=T2 by rw[r.out,iN (by rw[Y];exact iu)]);have q:=aa S.tail;clear h S J B r X E
      go_wp2_with fail
      go_roundg (n-(j+1))
      case measure=>have:=G.out;omega
      case rel=>exact⟨j+1,rfl,oM,by go_num,by rw[p.out];exact q.out⟩
    ·obtain rfl:n=j:=oM
     rw[oJ abZ]at h;have X:=DQ c k hs T1 d;have x:=x;generalize sY c k T1 hs=T2 at*;have o:=aa X;have D:wr.cell? (aD g 1)=some (pO gl):=(h.ah 1 rfl).cell 1;have y:=aa (h.pk 3 [2,1]);clear h X
     go_wp2_with fail
     refine qK (NV gl T2 c (k:Int) _ o y) λw3 M=>?_;rw[<-x.out]at M;have q:=aa M.swap;clear M y D
     go_wp2_with fail
     go_roundg (4-(k+1))
     case measure=>exact adi
     case rel=>exact⟨k+1,rfl,oM,by go_num,q⟩
  ·obtain rfl:k=4:=oM
   have H6:=aa h;clear h
   go_wp2_with fail
   go_end0
   exact⟨rfl,H6⟩
def XS(g:Nat)(S:gD)(p:Nat×Nat):az:=aX (ab g 113 (fX p.1 p.2)) (aX (eZ p.1 S.a9) (bX p.2 S.be))
def ez(g:Nat)(S:gD):az:=Bc (XS g S)
section
variable {I:aK} {w:World} {L:List az} {g gs a:Nat} {S:gD}
theorem St.UF(h:St I w (ez g S::L)):∃gs a,St I w (ab g 113 (fX gs a)::eZ gs S.a9::bX a S.be::L):=by
 obtain⟨⟨gs,a⟩,Z⟩:=h.ex;have G:St I w (aX (ab g 113 (fX gs a)) (aX (eZ gs S.a9) (bX a S.be))::L):=Z;have M:=G.star.swap.star;exact⟨gs,a,M.pick 3 [2,0,1]⟩
theorem St.RW(h:St I w (ab g 113 (fX gs a)::eZ gs S.a9::bX a S.be::L)):St I w (ez g S::L):=by
 have G:=(h.pk 3 [1,2,0]).aM.swap.aM;exact St.eu (f:=XS g S) (gs,a) G
end
def kj(S:gD)(q:dH):Prop:=∀x,aP S.a9 q.c=some x->q.seq=x.2+1/\0<=x.2/\x.2<4294967295
theorem vF{I:aK}{L:List az}(g:Nat)(S:gD)(q:dH)(A:OA)(n c:Nat)(w:World)(d:q.ok)(B:bD S.be)(D:0<=q.c/\q.c<16)(F:S.a9.length<=1000)(W:q.op=3\/q.op=4\/q.op=5->kj S q)(X:q.op=7)(h:St I w (ai .u8 (.slice A n c) (mL q)::ez g S::L)):
 Rt I w 61 #[pO g,.slice A n c] (.agg (aN (S.apply q).e (S.apply q).v)) (ez g (S.apply q).s::L):=by
 obtain⟨gs,gl,a⟩:=h.swap.UF;have K:=(a.fi 3).alloc 158 (aN 0 0);obtain⟨r,O⟩:=nM (w.heap.size);rw[<-O]at K;refine ye O d B D F W λY E P U HL A0=>?_;obtain⟨B0,i⟩:∃x,x=S.a9:=⟨_,rfl⟩;have H:=aa (K.pk 5 [1,2,3,4,0]);have b:=aa (show S.apply q=⟨⟨S.a9,(S.be.time q.tm)⟩,0,(S.be.time q.tm).now⟩by unfold gD.apply;rw[iP X]);have u:=aa (show q.tm<=18446744073709551615 by have:=d.tm;omega);clear h K a O B D F W d i
 go_enter func61,ntmps61
 go_wp2_with fail
 rw[<-Y.out];refine qK (ow q A n c _ E H) λz Z=>?_;have G:=Z.alloc 156 (dV q);obtain⟨C,k⟩:=nM (z.heap.size);rw[<-k]at G;refine bq k (G.pk 0 []) λj N=>?_;obtain⟨l,y,T,M,Q,R,p⟩:=(G.ah 0 rfl).seven;have l:World.cell? _ ⟨C,0,none⟩=some (iI 7):=l.trans (by rw[X]);rw[k]at l y T M Q R p;clear Z G H X k
 go_wp2_with fail
 rw[<-j.out];refine an (I:=I) (L0:=eZ gs S.a9::ab r 158 (aN 0 0)::L) [⟨none,none,λe=>ab g 113 (fX gs gl)⟩,⟨none,none,λe=>ab C 156 (dV q)⟩,⟨none,some 6,λe=>bX gl S.be⟩,⟨some 6,none,λe=>bX gl (S.be.time q.tm)⟩] [[],[0],[0,1],rG 3,[],[4],rG 6] (rG 7) rfl kR kR kR (by rfl) (λ_=>rfl) N.fk ?_;refine KI ?_;refine bp 95 (λe=> #[pO gl,iU q.tm]) (λe=> .tuple #[]) rfl (λe wx Lx h=>by(
  have h:=h.fn;refine(Uo gl S.be q.tm _ P u (h.fi 2)).mono ?_;rintro C0 wy⟨rfl,Z⟩;exact⟨⟨none,0,default⟩,rfl,Z.pk 3 [1,2,0]⟩)) ?_
 simp only[aW];refine aA ?_;intro e z h;have h:=h.fn;have x1:z.cell? (aD g 1)=some (pO gl):=(h.ah 0 rfl).cell 1;have J:=aa (h.pk 3 [2,0]);clear h N
 go_wp2_with fail
 refine qK (KN gl (S.be.time q.tm) _ J) λz h=>?_;have r0:z.cell? (aD r 0)=some (iI 0):=(h.ah 3 rfl).cell 0;have r1:z.cell? (aD r 1)=some (iU 0):=(h.ah 3 rfl).cell 1;have fz:=(h.ah 3 rfl).frozen;have V:=((h.fi 3).bx 0 (iI (0)) (aN (0) 0) rfl).bx 1 (iU ((S.be.time q.tm).now)) (aN (0) ((S.be.time q.tm).now)) rfl;have o:=aa V;clear h V
 go_wp2_with fail
 have y0:World.cell? _ ⟨r,0,none⟩=some (iI (0)):=(o.ah 0 rfl).cell 0;have y1:World.cell? _ ⟨r,1,none⟩=some (iU ((S.be.time q.tm).now)):=(o.ah 0 rfl).cell 1;rw[b.out];refine bodyPost_ret (v:= .agg (aN (0) ((S.be.time q.tm).now))) (aL (fn:=Tryz.f61) (t:=4) (ty:=158) rfl _ rfl ?_) rfl ⟨rfl,(o.pk 4 [2,3,1]).RW (S:=⟨S.a9,(S.be.time q.tm)⟩)⟩;go_simp
theorem Ca{I:aK}{L:List az}(g:Nat)(S:gD)(q:dH)(A:OA)(n c:Nat)(w:World)(y:q.ok)(B:bD S.be)(D:0<=q.c/\q.c<16)(F:S.a9.length<=1000)(W:q.op=3\/q.op=4\/q.op=5->kj S q)(X:q.op=1)(h:St I w (ai .u8 (.slice A n c) (mL q)::ez g S::L)):
 Rt I w 61 #[pO g,.slice A n c] (.agg (aN (S.apply q).e (S.apply q).v)) (ez g (S.apply q).s::L):=by
 obtain⟨gs,gl,J⟩:=h.swap.UF;have K:=(J.fi 3).alloc 158 (aN 0 0);obtain⟨r,O⟩:=nM (w.heap.size);rw[<-O]at K;refine ye O y B D F W λj E B0 M Y A0=>?_;obtain⟨C0,i⟩:∃x,x=S.a9:=⟨_,rfl⟩;have H:=aa (K.pk 5 [1,2,3,4,0]);have b:=aa (show S.apply q=⟨⟨Al S.a9 q.c,S.be⟩,qM S.a9 q.c,0⟩by
  unfold gD.apply qM Al;rw[iN oM,iP X]
  repeat' split
  all_goals rfl)
 clear h K J O B D F W y i
 go_enter func61,ntmps61
 go_wp2_with fail
 rw[<-j.out];refine qK (ow q A n c _ E H) λz Z=>?_;have G:=Z.alloc 156 (dV q);obtain⟨d,k⟩:=nM (z.heap.size);rw[<-k]at G;refine bq k (G.pk 0 []) λC N=>?_;obtain⟨l,Q,T,u,z4,z5,z6⟩:=(G.ah 0 rfl).seven;have l:World.cell? _ ⟨d,0,none⟩=some (iI 1):=l.trans (by rw[X]);rw[k]at l Q T u z4 z5 z6;clear Z G H X k
 go_wp2_with fail
 rw[<-C.out];refine an (I:=I) (L0:=bX gl S.be::L) [⟨none,none,λe=>ab g 113 (fX gs gl)⟩,⟨none,none,λe=>ab d 156 (dV q)⟩,⟨none,some 6,λe=>eZ gs S.a9⟩,⟨some 6,none,λe=>eZ gs (Al S.a9 q.c)⟩,⟨none,some 8,λe=>ab r 158 (aN 0 0)⟩,⟨some 8,none,λe=>ab r 158 (aN (qM S.a9 q.c) 0)⟩] [[],[0],[0,1],rG 3,[],[4],rG 6,rG 7,rG 8] (rG 9) rfl kR kR kR (by rfl) (λ_=>rfl) N.fk ?_;refine KI ?_;refine bp 96 (λe=> #[pO gs,iI q.c]) (λe=> iI (qM S.a9 q.c)) rfl (λe p P h=>by(
  have h:=h.fn;refine(Ql gs S.a9 q.c _ M Y (h.fi 2)).mono ?_;rintro D0 wy⟨rfl,Z⟩;exact⟨⟨none,0,default⟩,rfl,Z.pk 3 [1,2,0]⟩)) ?_
 simp only[aW];refine nL ?_;refine lM (λe=> pO r) (λe=> .agg (aN (qM S.a9 q.c) 0)) rfl rfl (λe p P h=>by(
  have h:=h.fn;have a:=h.fi 3;have r0:p.cell? (aD r 0)=some (iI 0):=(a.ah 0 rfl).cell 0;have r1:p.cell? (aD r 1)=some (iU 0):=(a.ah 0 rfl).cell 1;have fz:=(a.ah 0 rfl).frozen;have V:=(a.bx 0 (iI (qM S.a9 q.c)) (aN (qM S.a9 q.c) 0) rfl).bx 1 (iU 0) (aN (qM S.a9 q.c) 0) rfl;exact⟨_,gS,V.fk⟩)) ?_
 simp only[Act.put];refine aA ?_;intro e z h;have h:=h.fn;have o:=aa (h.fi 3);have U:z.cell? (aD r 0)=some (iI (qM S.a9 q.c)):=(o.ah 0 rfl).cell 0;have R:z.cell? (aD r 1)=some (iU 0):=(o.ah 0 rfl).cell 1;clear h N
 go_wp2_with fail
 have U:World.cell? _ ⟨r,0,none⟩=some (iI (qM S.a9 q.c)):=(o.ah 0 rfl).cell 0;have R:World.cell? _ ⟨r,1,none⟩=some (iU (0)):=(o.ah 0 rfl).cell 1;rw[b.out];refine bodyPost_ret (v:= .agg (aN (qM S.a9 q.c) (0))) (aL (fn:=Tryz.f61) (t:=4) (ty:=158) rfl _ rfl ?_) rfl ⟨rfl,(o.pk 3 [1]).RW (S:=⟨(Al S.a9 q.c),S.be⟩)⟩;go_simp
theorem JG{I:aK}{L:List az}(g:Nat)(S:gD)(q:dH)(A:OA)(n c:Nat)(w:World)(y:q.ok)(B:bD S.be)(D:0<=q.c/\q.c<16)(F:S.a9.length<=1000)(W:q.op=3\/q.op=4\/q.op=5->kj S q)(X:q.op=2/\(aP S.a9 q.c).isSome=true)(h:St I w (ai .u8 (.slice A n c) (mL q)::ez g S::L)):
 Rt I w 61 #[pO g,.slice A n c] (.agg (aN (S.apply q).e (S.apply q).v)) (ez g (S.apply q).s::L):=by
 obtain⟨gs,gl,i⟩:=h.swap.UF;have K:=(i.fi 3).alloc 158 (aN 0 0);obtain⟨r,O⟩:=nM (w.heap.size);rw[<-O]at K;refine ye O y B D F W λY E P HC HL A0=>?_;obtain⟨B0,u⟩:∃x,x=S.a9:=⟨_,rfl⟩;have H:=aa (K.pk 5 [1,2,3,4,0]);obtain⟨X,a⟩:=X;have b:=aa (show S.apply q=⟨⟨(jV S.a9 q.c),(nh S.be q.c)⟩,0,0⟩by
  unfold gD.apply;rw[iN oM,iN oM,iP X,iP a])
 have J:=aa (show lQ S.a9 q.c=0/\CO S.a9 q.c=(jV S.a9 q.c)by unfold lQ CO;rw[a];exact⟨rfl,rfl⟩);clear a;clear h K i O B D F W y u
 go_enter func61,ntmps61
 go_wp2_with fail
 rw[<-Y.out];refine qK (ow q A n c _ E H) λz Z=>?_;have G:=Z.alloc 156 (dV q);obtain⟨d,k⟩:=nM (z.heap.size);rw[<-k]at G;refine bq k (G.pk 0 []) λR N=>?_;obtain⟨l,j,T,M,Q,p,U⟩:=(G.ah 0 rfl).seven;have l:World.cell? _ ⟨d,0,none⟩=some (iI 2):=l.trans (by rw[X]);rw[k]at l j T M Q p U;clear Z G H X k
 go_wp2_with fail
 rw[<-R.out];refine an (I:=I) (L0:=bX gl S.be::ab r 158 (aN 0 0)::L) [⟨none,none,λe=>ab g 113 (fX gs gl)⟩,⟨none,none,λe=>ab d 156 (dV q)⟩,⟨none,some 6,λe=>eZ gs S.a9⟩,⟨some 6,none,λe=>eZ gs (jV S.a9 q.c)⟩] [[],[0],[0,1],rG 3,[],[4],rG 6,rG 7] (rG 8) rfl kR kR kR (by rfl) (λ_=>rfl) N.fk ?_;refine KI ?_;refine bp 97 (λe=> #[pO gs,iI q.c]) (λe=> iI 0) rfl (λe wx Lx h=>by(
  have h:=h.fn;refine(Cr gs S.a9 q.c _ (h.fi 2)).mono ?_;rintro C0 wy⟨rfl,Z⟩;rw[J.out.2]at Z;rw[J.out.1];exact⟨⟨none,0,default⟩,rfl,Z.pk 3 [1,2,0]⟩)) ?_
 simp only[aW];refine nL ?_;refine aA ?_;intro e z h;have h:=h.fn;have j:z.cell? (aD d 1)=some (iI q.c):=(h.ah 1 rfl).cell 1;have C:=aa (h.pk 4 [0,3,2]);clear h N
 go_wp2_with fail
 refine qK (Qc g gs gl S.be q.c _ P C) λz h=>?_;have r0:z.cell? (aD r 0)=some (iI 0):=(h.ah 3 rfl).cell 0;have r1:z.cell? (aD r 1)=some (iU 0):=(h.ah 3 rfl).cell 1;have fz:=(h.ah 3 rfl).frozen;have V:=((h.fi 3).bx 0 (iI (0)) (aN (0) 0) rfl).bx 1 (iU (0)) (aN (0) (0)) rfl;have o:=aa V;clear h V
 go_wp2_with fail
 have y0:World.cell? _ ⟨r,0,none⟩=some (iI (0)):=(o.ah 0 rfl).cell 0;have y1:World.cell? _ ⟨r,1,none⟩=some (iU (0)):=(o.ah 0 rfl).cell 1;rw[b.out];refine bodyPost_ret (v:= .agg (aN (0) (0))) (aL (fn:=Tryz.f61) (t:=4) (ty:=158) rfl _ rfl ?_) rfl ⟨rfl,(o.pk 4 [1,3,2]).RW (S:=⟨(jV S.a9 q.c),(nh S.be q.c)⟩)⟩;go_simp
theorem JO{I:aK}{L:List az}(g:Nat)(S:gD)(q:dH)(A:OA)(n c:Nat)(w:World)(y:q.ok)(B:bD S.be)(D:0<=q.c/\q.c<16)(F:S.a9.length<=1000)(W:q.op=3\/q.op=4\/q.op=5->kj S q)(X:q.op=2/\(aP S.a9 q.c).isSome=false)(h:St I w (ai .u8 (.slice A n c) (mL q)::ez g S::L)):
 Rt I w 61 #[pO g,.slice A n c] (.agg (aN (S.apply q).e (S.apply q).v)) (ez g (S.apply q).s::L):=by
 obtain⟨gs,gl,i⟩:=h.swap.UF;have K:=(i.fi 3).alloc 158 (aN 0 0);obtain⟨r,O⟩:=nM (w.heap.size);rw[<-O]at K;refine ye O y B D F W λj E B0 U p A0=>?_;obtain⟨C0,u⟩:∃x,x=S.a9:=⟨_,rfl⟩;have H:=aa (K.pk 5 [1,2,3,4,0]);obtain⟨X,a⟩:=X;have b:=aa (show S.apply q=⟨⟨S.a9,S.be⟩,81,0⟩by
  unfold gD.apply;rw[iN oM,iN oM,iP X,iN (by rw[a];exact iu)])
 have J:=aa (show lQ S.a9 q.c=81/\CO S.a9 q.c=S.a9 by unfold lQ CO;rw[a];exact⟨rfl,rfl⟩);clear a;clear h K i O B D F W y u
 go_enter func61,ntmps61
 go_wp2_with fail
 rw[<-j.out];refine qK (ow q A n c _ E H) λz Z=>?_;have G:=Z.alloc 156 (dV q);obtain⟨d,k⟩:=nM (z.heap.size);rw[<-k]at G;refine bq k (G.pk 0 []) λC N=>?_;obtain⟨l,P,T,Y,M,Q,R⟩:=(G.ah 0 rfl).seven;have l:World.cell? _ ⟨d,0,none⟩=some (iI 2):=l.trans (by rw[X]);rw[k]at l P T Y M Q R;clear Z G H X k
 go_wp2_with fail
 rw[<-C.out];refine an (I:=I) (L0:=bX gl S.be::ab r 158 (aN 0 0)::L) [⟨none,none,λe=>ab g 113 (fX gs gl)⟩,⟨none,none,λe=>ab d 156 (dV q)⟩,⟨none,some 6,λe=>eZ gs S.a9⟩,⟨some 6,none,λe=>eZ gs S.a9⟩] [[],[0],[0,1],rG 3,[],[4],rG 6,rG 7] (rG 8) rfl kR kR kR (by rfl) (λ_=>rfl) N.fk ?_;refine KI ?_;refine bp 97 (λe=> #[pO gs,iI q.c]) (λe=> iI 81) rfl (λe wx Lx h=>by(
  have h:=h.fn;refine(Cr gs S.a9 q.c _ (h.fi 2)).mono ?_;rintro D0 wy⟨rfl,Z⟩;rw[J.out.2]at Z;rw[J.out.1];exact⟨⟨none,0,default⟩,rfl,Z.pk 3 [1,2,0]⟩)) ?_
 simp only[aW];refine nL ?_;refine aA ?_;intro e z h;have h:=h.fn;have r0:z.cell? (aD r 0)=some (iI 0):=(h.ah 4 rfl).cell 0;have r1:z.cell? (aD r 1)=some (iU 0):=(h.ah 4 rfl).cell 1;have fz:=(h.ah 4 rfl).frozen;have V:=((h.fi 4).bx 0 (iI (81)) (aN (81) 0) rfl).bx 1 (iU (0)) (aN (81) (0)) rfl;have o:=aa V;clear h V;clear N
 go_wp2_with fail
 have y0:World.cell? _ ⟨r,0,none⟩=some (iI (81)):=(o.ah 0 rfl).cell 0;have y1:World.cell? _ ⟨r,1,none⟩=some (iU (0)):=(o.ah 0 rfl).cell 1;rw[b.out];refine bodyPost_ret (v:= .agg (aN (81) (0))) (aL (fn:=Tryz.f61) (t:=4) (ty:=158) rfl _ rfl ?_) rfl ⟨rfl,(o.pk 3 [1]).RW (S:=⟨S.a9,S.be⟩)⟩;go_simp
end
theorem NQ{I:aK}{L:List az}(g:Nat)(S:gD)(q:dH)(A:OA)(n c:Nat)(w:World)(d:q.ok)(B:bD S.be)(D:0<=q.c/\q.c<16)(F:S.a9.length<=1000)(W:q.op=3\/q.op=4\/q.op=5->kj S q)(X:q.op=3/\(aP S.a9 q.c).isSome=true)(h:St I w (ai .u8 (.slice A n c) (mL q)::ez g S::L)):
 Rt I w 61 #[pO g,.slice A n c] (.agg (aN (S.apply q).e (S.apply q).v)) (ez g (S.apply q).s::L):=by
 obtain⟨gs,gl,J⟩:=h.swap.UF;have K:=(J.fi 3).alloc 158 (aN 0 0);obtain⟨r,O⟩:=nM (w.heap.size);rw[<-O]at K;refine ye O d B D F W λC E P u HL B0=>?_;obtain⟨C0,i⟩:∃x,x=S.a9:=⟨_,rfl⟩;have H:=aa (K.pk 5 [1,2,3,4,0]);obtain⟨X,a⟩:=X;have b:=aa (show S.apply q=⟨⟨(bR S.a9 q.c q.seq),((S.be.acquire q.c q.r q.m).1)⟩,(S.be.acquire q.c q.r q.m).2.2,(S.be.acquire q.c q.r q.m).2.1⟩by
  unfold gD.apply;have U:FF S.be q=((S.be.acquire q.c q.r q.m).1,(S.be.acquire q.c q.r q.m).2.1,(S.be.acquire q.c q.r q.m).2.2):=by unfold FF;rw[iP X]
  rw[iN oM,iN oM,iN oM,iP a,U])
 have y:=aa (show∃x,aP S.a9 q.c=some x/\q.seq=x.2+1/\0<=x.2/\x.2<4294967295 by
  cases Y:aP S.a9 q.c with
  |none=>rw[Y]at a;cases a
  |some x=>exact⟨x,rfl,W oM x Y⟩)
 have p:=aa X;clear a;clear h K J O B D F W d i
 go_enter func61,ntmps61
 go_wp2_with fail
 rw[<-C.out];refine qK (ow q A n c _ E H) λz Z=>?_;have G:=Z.alloc 156 (dV q);obtain⟨gc,k⟩:=nM (z.heap.size);rw[<-k]at G;refine bq k (G.pk 0 []) λA0 N=>?_;obtain⟨l,j,T,M,Q,R,e⟩:=(G.ah 0 rfl).seven;have b7:(q.op==7)=false:=jM oM;have b1:(q.op==1)=false:=jM oM;have b2:(q.op==2)=false:=jM oM;rw[k]at l j T M Q R e;have N:=aa (N.pk 4 [1,2,3,0]);clear Z G H X k
 go_wp2_with fail
 refine qK (YZ g gs gl S.a9 S.be q _ P p y N) λz h=>?_;have r0:z.cell? (aD r 0)=some (iI 0):=(h.ah 4 rfl).cell 0;have r1:z.cell? (aD r 1)=some (iU 0):=(h.ah 4 rfl).cell 1;have fz:=(h.ah 4 rfl).frozen;have V:=((h.fi 4).bx 0 (iI ((S.be.acquire q.c q.r q.m).2.2)) (aN ((S.be.acquire q.c q.r q.m).2.2) 0) rfl).bx 1 (iU ((S.be.acquire q.c q.r q.m).2.1)) (aN ((S.be.acquire q.c q.r q.m).2.2) ((S.be.acquire q.c q.r q.m).2.1)) rfl;have o:=aa V;clear h V;clear N
 go_wp2_with fail
 have y0:World.cell? _ ⟨r,0,none⟩=some (iI ((S.be.acquire q.c q.r q.m).2.2)):=(o.ah 0 rfl).cell 0;have y1:World.cell? _ ⟨r,1,none⟩=some (iU ((S.be.acquire q.c q.r q.m).2.1)):=(o.ah 0 rfl).cell 1;rw[b.out];refine bodyPost_ret (v:= .agg (aN ((S.be.acquire q.c q.r q.m).2.2) ((S.be.acquire q.c q.r q.m).2.1))) (aL (fn:=Tryz.f61) (t:=4) (ty:=158) rfl _ rfl ?_) rfl ⟨rfl,(o.pk 5 [1,2,3]).RW (S:=⟨(bR S.a9 q.c q.seq),((S.be.acquire q.c q.r q.m).1)⟩)⟩;go_simp
theorem MN{I:aK}{L:List az}(g:Nat)(S:gD)(q:dH)(A:OA)(n c:Nat)(w:World)(d:q.ok)(B:bD S.be)(D:0<=q.c/\q.c<16)(F:S.a9.length<=1000)(W:q.op=3\/q.op=4\/q.op=5->kj S q)(X:q.op=4/\(aP S.a9 q.c).isSome=true)(h:St I w (ai .u8 (.slice A n c) (mL q)::ez g S::L)):
 Rt I w 61 #[pO g,.slice A n c] (.agg (aN (S.apply q).e (S.apply q).v)) (ez g (S.apply q).s::L):=by
 obtain⟨gs,gl,J⟩:=h.swap.UF;have K:=(J.fi 3).alloc 158 (aN 0 0);obtain⟨r,O⟩:=nM (w.heap.size);rw[<-O]at K;refine ye O d B D F W λC E P u HL B0=>?_;obtain⟨C0,i⟩:∃x,x=S.a9:=⟨_,rfl⟩;have H:=aa (K.pk 5 [1,2,3,4,0]);obtain⟨X,a⟩:=X;have b:=aa (show S.apply q=⟨⟨(bR S.a9 q.c q.seq),((S.be.release q.c q.r q.t).1)⟩,(S.be.release q.c q.r q.t).2,0⟩by
  unfold gD.apply;have U:FF S.be q=((S.be.release q.c q.r q.t).1,0,(S.be.release q.c q.r q.t).2):=by unfold FF;rw[iN oM,iP X]
  rw[iN oM,iN oM,iN oM,iP a,U])
 have y:=aa (show∃x,aP S.a9 q.c=some x/\q.seq=x.2+1/\0<=x.2/\x.2<4294967295 by
  cases Y:aP S.a9 q.c with
  |none=>rw[Y]at a;cases a
  |some x=>exact⟨x,rfl,W oM x Y⟩)
 have p:=aa X;clear a;clear h K J O B D F W d i
 go_enter func61,ntmps61
 go_wp2_with fail
 rw[<-C.out];refine qK (ow q A n c _ E H) λz Z=>?_;have G:=Z.alloc 156 (dV q);obtain⟨gc,k⟩:=nM (z.heap.size);rw[<-k]at G;refine bq k (G.pk 0 []) λA0 N=>?_;obtain⟨l,j,T,M,Q,R,e⟩:=(G.ah 0 rfl).seven;have b7:(q.op==7)=false:=jM oM;have b1:(q.op==1)=false:=jM oM;have b2:(q.op==2)=false:=jM oM;rw[k]at l j T M Q R e;have N:=aa (N.pk 4 [1,2,3,0]);clear Z G H X k
 go_wp2_with fail
 refine qK (YM g gs gl S.a9 S.be q _ P p y N) λz h=>?_;have r0:z.cell? (aD r 0)=some (iI 0):=(h.ah 4 rfl).cell 0;have r1:z.cell? (aD r 1)=some (iU 0):=(h.ah 4 rfl).cell 1;have fz:=(h.ah 4 rfl).frozen;have V:=((h.fi 4).bx 0 (iI ((S.be.release q.c q.r q.t).2)) (aN ((S.be.release q.c q.r q.t).2) 0) rfl).bx 1 (iU (0)) (aN ((S.be.release q.c q.r q.t).2) (0)) rfl;have o:=aa V;clear h V;clear N
 go_wp2_with fail
 have y0:World.cell? _ ⟨r,0,none⟩=some (iI ((S.be.release q.c q.r q.t).2)):=(o.ah 0 rfl).cell 0;have y1:World.cell? _ ⟨r,1,none⟩=some (iU (0)):=(o.ah 0 rfl).cell 1;rw[b.out];refine bodyPost_ret (v:= .agg (aN ((S.be.release q.c q.r q.t).2) (0))) (aL (fn:=Tryz.f61) (t:=4) (ty:=158) rfl _ rfl ?_) rfl ⟨rfl,(o.pk 5 [1,2,3]).RW (S:=⟨(bR S.a9 q.c q.seq),((S.be.release q.c q.r q.t).1)⟩)⟩;go_simp
theorem NB{I:aK}{L:List az}(g:Nat)(S:gD)(q:dH)(A:OA)(n c:Nat)(w:World)(d:q.ok)(B:bD S.be)(D:0<=q.c/\q.c<16)(F:S.a9.length<=1000)(W:q.op=3\/q.op=4\/q.op=5->kj S q)(X:q.op=5/\(aP S.a9 q.c).isSome=true)(h:St I w (ai .u8 (.slice A n c) (mL q)::ez g S::L)):
 Rt I w 61 #[pO g,.slice A n c] (.agg (aN (S.apply q).e (S.apply q).v)) (ez g (S.apply q).s::L):=by
 obtain⟨gs,gl,J⟩:=h.swap.UF;have K:=(J.fi 3).alloc 158 (aN 0 0);obtain⟨r,O⟩:=nM (w.heap.size);rw[<-O]at K;refine ye O d B D F W λC E P u HL B0=>?_;obtain⟨C0,i⟩:∃x,x=S.a9:=⟨_,rfl⟩;have H:=aa (K.pk 5 [1,2,3,4,0]);obtain⟨X,a⟩:=X;have b:=aa (show S.apply q=⟨⟨(bR S.a9 q.c q.seq),((S.be.renew q.c q.r q.t).1)⟩,(S.be.renew q.c q.r q.t).2.2,(S.be.renew q.c q.r q.t).2.1⟩by
  unfold gD.apply;have U:FF S.be q=((S.be.renew q.c q.r q.t).1,(S.be.renew q.c q.r q.t).2.1,(S.be.renew q.c q.r q.t).2.2):=by unfold FF;rw[iN oM,iN oM,iP X]
  rw[iN oM,iN oM,iN oM,iP a,U])
 have y:=aa (show∃x,aP S.a9 q.c=some x/\q.seq=x.2+1/\0<=x.2/\x.2<4294967295 by
  cases Y:aP S.a9 q.c with
  |none=>rw[Y]at a;cases a
  |some x=>exact⟨x,rfl,W oM x Y⟩)
 have p:=aa X;clear a;clear h K J O B D F W d i
 go_enter func61,ntmps61
 go_wp2_with fail
 rw[<-C.out];refine qK (ow q A n c _ E H) λz Z=>?_;have G:=Z.alloc 156 (dV q);obtain⟨gc,k⟩:=nM (z.heap.size);rw[<-k]at G;refine bq k (G.pk 0 []) λA0 N=>?_;obtain⟨l,j,T,M,Q,R,e⟩:=(G.ah 0 rfl).seven;have b7:(q.op==7)=false:=jM oM;have b1:(q.op==1)=false:=jM oM;have b2:(q.op==2)=false:=jM oM;rw[k]at l j T M Q R e;have N:=aa (N.pk 4 [1,2,3,0]);clear Z G H X k
 go_wp2_with fail
 refine qK (YP g gs gl S.a9 S.be q _ P p y N) λz h=>?_;have r0:z.cell? (aD r 0)=some (iI 0):=(h.ah 4 rfl).cell 0;have r1:z.cell? (aD r 1)=some (iU 0):=(h.ah 4 rfl).cell 1;have fz:=(h.ah 4 rfl).frozen;have V:=((h.fi 4).bx 0 (iI ((S.be.renew q.c q.r q.t).2.2)) (aN ((S.be.renew q.c q.r q.t).2.2) 0) rfl).bx 1 (iU ((S.be.renew q.c q.r q.t).2.1)) (aN ((S.be.renew q.c q.r q.t).2.2) ((S.be.renew q.c q.r q.t).2.1)) rfl;have o:=aa V;clear h V;clear N
 go_wp2_with fail
 have y0:World.cell? _ ⟨r,0,none⟩=some (iI ((S.be.renew q.c q.r q.t).2.2)):=(o.ah 0 rfl).cell 0;have y1:World.cell? _ ⟨r,1,none⟩=some (iU ((S.be.renew q.c q.r q.t).2.1)):=(o.ah 0 rfl).cell 1;rw[b.out];refine bodyPost_ret (v:= .agg (aN ((S.be.renew q.c q.r q.t).2.2) ((S.be.renew q.c q.r q.t).2.1))) (aL (fn:=Tryz.f61) (t:=4) (ty:=158) rfl _ rfl ?_) rfl ⟨rfl,(o.pk 5 [1,2,3]).RW (S:=⟨(bR S.a9 q.c q.seq),((S.be.renew q.c q.r q.t).1)⟩)⟩;go_simp
theorem tu{I:aK}{L:List az}(g:Nat)(S:gD)(q:dH)(A:OA)(n c:Nat)(w:World)(d:q.ok)(B:bD S.be)(D:0<=q.c/\q.c<16)(F:S.a9.length<=1000)(W:q.op=3\/q.op=4\/q.op=5->kj S q)(X:(q.op=3\/q.op=4\/q.op=5)/\aP S.a9 q.c=none)(h:St I w (ai .u8 (.slice A n c) (mL q)::ez g S::L)):
 Rt I w 61 #[pO g,.slice A n c] (.agg (aN (S.apply q).e (S.apply q).v)) (ez g (S.apply q).s::L):=by
 obtain⟨gs,gl,J⟩:=h.swap.UF;have K:=(J.fi 3).alloc 158 (aN 0 0);obtain⟨r,O⟩:=nM (w.heap.size);rw[<-O]at K;refine ye O d B D F W λC E u U p e=>?_;obtain⟨A0,i⟩:∃x,x=S.a9:=⟨_,rfl⟩;have H:=aa (K.pk 5 [1,2,3,4,0]);obtain⟨X,a⟩:=X;have b:=aa (show S.apply q=⟨⟨S.a9,S.be⟩,81,0⟩by
  unfold gD.apply;rw[iN oM,iN oM,iN oM,iN (by rw[a];simp)])
 have y:=aa a;clear a;clear h K J O B D F W d i
 go_enter func61,ntmps61
 go_wp2_with fail
 rw[<-C.out];refine qK (ow q A n c _ E H) λz Z=>?_;have G:=Z.alloc 156 (dV q);obtain⟨gc,k⟩:=nM (z.heap.size);rw[<-k]at G;refine bq k (G.pk 0 []) λR N=>?_;obtain⟨l,j,T,Y,M,P,Q⟩:=(G.ah 0 rfl).seven;have b7:(q.op==7)=false:=jM oM;have b1:(q.op==1)=false:=jM oM;have b2:(q.op==2)=false:=jM oM;rw[k]at l j T Y M P Q;have N:=aa (N.pk 4 [1,2,3,0]);clear Z G H X k
 go_wp2_with fail
 refine qK (Uu g gs gl S.a9 S.be q _ y N) λz h=>?_;have r0:z.cell? (aD r 0)=some (iI 0):=(h.ah 4 rfl).cell 0;have r1:z.cell? (aD r 1)=some (iU 0):=(h.ah 4 rfl).cell 1;have fz:=(h.ah 4 rfl).frozen;have V:=((h.fi 4).bx 0 (iI (81)) (aN (81) 0) rfl).bx 1 (iU (0)) (aN (81) (0)) rfl;have o:=aa V;clear h V;clear N
 go_wp2_with fail
 have y0:World.cell? _ ⟨r,0,none⟩=some (iI (81)):=(o.ah 0 rfl).cell 0;have y1:World.cell? _ ⟨r,1,none⟩=some (iU (0)):=(o.ah 0 rfl).cell 1;rw[b.out];refine bodyPost_ret (v:= .agg (aN (81) (0))) (aL (fn:=Tryz.f61) (t:=4) (ty:=158) rfl _ rfl ?_) rfl ⟨rfl,(o.pk 5 [1,2,3]).RW (S:=⟨S.a9,S.be⟩)⟩;go_simp
theorem EH{I:aK}{L:List az}(g:Nat)(S:gD)(q:dH)(A:OA)(n c:Nat)(w:World)(d:q.ok)(B:bD S.be)(D:0<=q.c/\q.c<16)(F:S.a9.length<=1000)(W:q.op=3\/q.op=4\/q.op=5->kj S q)(X:q.op=1\/q.op=2\/q.op=3\/q.op=4\/q.op=5\/q.op=7)(h:St I w (ai .u8 (.slice A n c) (mL q)::ez g S::L)):
 Rt I w 61 #[pO g,.slice A n c] (.agg (aN (S.apply q).e (S.apply q).v)) (ez g (S.apply q).s::L):=by
 cases a:aP S.a9 q.c with
 |none=>
  rcases X with E|E|E|E|E|E
  ·exact Ca g S q A n c w d B D F W E h
  ·exact JO g S q A n c w d B D F W ⟨E,by rw[a];rfl⟩ h
  ·exact tu g S q A n c w d B D F W ⟨.inl E,a⟩ h
  ·exact tu g S q A n c w d B D F W ⟨.inr (.inl E),a⟩ h
  ·exact tu g S q A n c w d B D F W ⟨.inr (.inr E),a⟩ h
  ·exact vF g S q A n c w d B D F W E h
 |some x=>
  have a:(aP S.a9 q.c).isSome=true:=by rw[a];rfl
  rcases X with E|E|E|E|E|E
  ·exact Ca g S q A n c w d B D F W E h
  ·exact JG g S q A n c w d B D F W ⟨E,a⟩ h
  ·exact NQ g S q A n c w d B D F W ⟨E,a⟩ h
  ·exact MN g S q A n c w d B D F W ⟨E,a⟩ h
  ·exact NB g S q A n c w d B D F W ⟨E,a⟩ h
  ·exact vF g S q A n c w d B D F W E h
end Go.Proofs.YtblpaldggenbaaaGreatDoor
