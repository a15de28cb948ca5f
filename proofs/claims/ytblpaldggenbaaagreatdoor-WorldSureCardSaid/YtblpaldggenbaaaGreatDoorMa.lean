/- A part. -/
import Derived.WalkKit
import Derived.WalkSpells
import Derived.WalkLawsBesides
import Derived.BigQuiet
import Derived.Deep.QuietTactic
import Derived.BigRegion
import Derived.Deep.MidRow
import Derived.Maps.AppendAt
import Derived.StillTailTactics
import Derived.Deep.RegionLaw
import Derived.Great.BuildSlice
import Derived.OrdersHeld
import Derived.Lib.AppendZerosOnto
import Derived.ArgAppend
import Derived.RangeFuncNested
import Derived.RangeFuncBound
import Derived.RangeFuncCalls
import Derived.RangeFuncLeaves
import Derived.Shelf.Abstract
import Derived.Shelf.RegionOpen
import Derived.OwnWalkIn
import Derived.TacticsInMore
import Derived.LoopNIn
import Derived.LoopIn
import Derived.Deep.LoopGhost
import Derived.IntWalk
import Derived.Laws.BitsAllLaws
import Derived.Laws.MakeOwn
import Derived.Laws.Tables
import Derived.Deep.WholeRow
import Derived.Deep.DeepCutAuto
import Derived.Laws.OwnMore
namespace Go.Proofs.YtblpaldggenbaaaGreatDoor
open Go.RowKit
set_option maxRecDepth 100000
set_option maxHeartbeats 64000000
section
variable{p:Prop}
theorem ab0(h:p:=by(unfold aE;rw[iN (λh=>h i.out),iN (UZ.2 Z),iN (show¬(t<=2/\(4:Int)<=index)by omega),iP (.inl R)])):p:=h
theorem ab1(h:p:=by(show(0:Int)<=_;decide)):p:=h
theorem ab2(h:p:=by(rw[km];omega)):p:=h
theorem ab3(h:p:=by(unfold kM;omega)):p:=h
theorem ab4(h:p:=by(rw[show(256:Int)^1=256 by decide];omega)):p:=h
theorem ab5(h:p:=by(rw[fV];omega)):p:=h
theorem ab6(h:p:=by(have:=Q.out;omega)):p:=h
theorem ab7(h:p:=by(unfold maxLen;omega)):p:=h
theorem ab8(h:p:=by(rw[<-V.out];exact hs)):p:=h
theorem ab9(h:p:=by(rw[<-b.out];omega)):p:=h
theorem abM(h:p:=by(have:=q.out;omega)):p:=h
theorem abN(h:p:=by simp):p:=h
theorem abO(h:p:=by(rw[<-b.out];exact t)):p:=h
theorem abP(h:p:=by(unfold eJ;exact sU)):p:=h
theorem abQ(h:p:=by simpa using z):p:=h
theorem abR(h:p:=by(unfold Func.isWrapper;first|(rw[iP (by decide+kernel)];kernel_rfl)|(rw[iN (by decide+kernel)];exact⟨rfl,rfl⟩))):p:=h
theorem abS(h:p:=by(simp;omega)):p:=h
theorem abT(h:p:=by(unfold aE;rw[iN (λh=>h i.out),iN (UZ.2 Z),iN (show¬(t<=2/\(4:Int)<=index)by omega),iN (λh=>h.elim R (λh=>t0 h.1)),iN (by rw[y];exact iu)])):p:=h
theorem abU(h:p:=by(unfold aE;rw[iN (λh=>h i.out),iN (UZ.2 Z),iN (show¬(t<=2/\(4:Int)<=index)by omega),iN (λh=>h.elim R (λh=>t0 h.1)),iP y];rfl)):p:=h
theorem abV(h:p:=by(have:=PX q (show(0:Int)<(x:Int)by omega);have:=OC q (show(x:Int)≠0 by omega);omega)):p:=h
theorem abX(h:p:=by(have:=d.2.2.2;omega)):p:=h
theorem abY(h:p:=by(unfold execOp;simp only[M,resolve,invoke,builtin,Sem.run_bind,Sem.run_pure,Result.andThen_ok,CB,nG,zF,V,J,T])):p:=h
theorem abZ(h:p:=by(rw[<-b.out];exact io _)):p:=h
theorem acG(h:p:=by simp[go_sem]):p:=h
theorem ac1(h:p:=by
  obtain⟨_,R,_,_,_,_,_⟩:=tL (g.ah 1 rfl);have K:=(g.ah 2 rfl).cell 0;have C:=(g.ah 7 rfl).cell 0;have p:=(g.ah 7 rfl).frozen;obtain⟨Q,i,H,t,A,z⟩:=(g.ah 6 rfl).ng
  go_wp2_with fail
  refine(wX r A1 n1 c1 _ HR g).mono ?_;rintro e w4⟨v,rfl,h⟩;obtain⟨A2,c2,rfl,_,_,_⟩:=h.get 0 rfl;clear R K C p Q i H t A z
  try clear d0 E0 O0 hc
  generalize N0:aZ r=b at*;have A0:=aa N0;clear N0;obtain⟨nb,D0⟩:=nM (b.length);rw[<-D0]at h⊢;have S0:=aa (show nb<=43 by rw[D0];exact HL.out);clear D0;have q:=aa h;clear h g;obtain⟨_,R,_,_,_,_,_⟩:=tL (q.ah 1 rfl);have K:=(q.ah 2 rfl).cell 0;have C:=(q.ah 7 rfl).cell 0;have p:=(q.ah 7 rfl).frozen;obtain⟨Q,i,H,t,A,z⟩:=(q.ah 6 rfl).ng
  go_wp2_with fail
  refine qK (KW hT W j _ y k A2 nb c2 b _ K0 oM Q0 R0 HB S0 (q.pk 8 [0,3,5,1,2,7,6,4])) λw5 h=>?_;have M0:=aa (Hv (J:=k) K0 HB);obtain⟨F,E⟩:∃x,x=k.wO y b:=⟨_,rfl⟩;obtain⟨T,O⟩:∃x,x=k.CM y b:=⟨_,rfl⟩;obtain⟨aj,c⟩:∃x,x=k.oN b:=⟨_,rfl⟩;rw[<-O,<-c]at h;rw[<-O]at M0;rw[<-E];clear R K C p Q i H t A z;have V:=aa h;clear h q;by_cases o:F=0
  case neg=>
   have d0:(F !=0)=true:=by simpa using o
   have B:¬k.wO y b=0:=by rw[<-E];exact o
   have l:Hid (si y k b=T):=(iN B).trans O.symm;have ET:=aa (show CS y k b=if T.down=true then 43 else F by unfold CS;rw[l.out,<-E]);refine bq (J0.trans (by rw[l.out])) (F0.trans l) λZ l=>?_;have N:=G0;have S:=aa (I0.trans c.symm);clear o B E O c;obtain⟨_,R,_,_,_,_,_⟩:=tL (V.ah 2 rfl);have K:=(V.ah 3 rfl).cell 0;have C:=(V.ah 4 rfl).cell 0;have p:=(V.ah 4 rfl).frozen;obtain⟨Q,i,H,t,A,z⟩:=(V.ah 5 rfl).ng;have u:=(V.fi 4).bx 0 (iI F) #[iI F];have HC:=aa (λC0=>yj P j W Y ge n a ring T F C0 _ (u.pk 6 [3,0,4,2,1]));clear u
   go_wp2_with fail
   refine leaves_cons (f:=219) (args:= #[pO n,pO ge]) abN acG ?_;refine(HC _).mono ?_;rintro e u' w9⟨rfl,rfl,h⟩;have y0:=(h.ah 1 rfl).cell 0;refine⟨iI (if(T).down=true then 43 else F),aL rfl _ rfl ?_,by rw[A0.out,N.out,ET.out];try rfl,?_⟩
   ·go_simp
   ·rw[A0.out,Z.out,S.out,l.out]
    exact h.sub
  case pos=>
   have B:k.wO y b=0:=by rw[<-E];exact o
   have l:Hid (si y k b=T.sync):=(iP B).trans (by rw[<-O]);have ET:=aa (show CS y k b=if T.sync.down=true then 43 else 0 by unfold CS;rw[l.out,B]);refine bq (J0.trans (by rw[l.out])) (F0.trans l) λZ l=>?_;have N:=G0;have S:=aa (I0.trans c.symm);subst o;clear B E O c;obtain⟨_,R,_,_,_,_,_⟩:=tL (V.ah 2 rfl);have K:=(V.ah 3 rfl).cell 0;have C:=(V.ah 4 rfl).cell 0;have p:=(V.ah 4 rfl).frozen;obtain⟨Q,i,H,t,A,z⟩:=(V.ah 5 rfl).ng
   go_wp2_with fail
   refine qK (GB W j _ T aj _ M0.1 oM (V.pk 0 [])) λw6 h=>?_;clear R K C p Q i H t A z;have d:=aa h;clear h V;obtain⟨_,R,_,_,_,_,_⟩:=tL (d.ah 2 rfl);have K:=(d.ah 3 rfl).cell 0;have C:=(d.ah 4 rfl).cell 0;have p:=(d.ah 4 rfl).frozen;obtain⟨Q,i,H,t,A,z⟩:=(d.ah 5 rfl).ng;have u:=(d.fi 4).bx 0 (iI 0) #[iI 0];have HC:=aa (λC0=>yj P j W Y ge n a ring T.sync 0 C0 _ (u.pk 6 [3,0,4,2,1]));clear u
   go_wp2_with fail
   refine leaves_cons (f:=219) (args:= #[pO n,pO ge]) abN acG ?_;refine(HC _).mono ?_;rintro e u' w9⟨rfl,rfl,h⟩;have y0:=(h.ah 1 rfl).cell 0;refine⟨iI (if(T.sync).down=true then 43 else 0),aL rfl _ rfl ?_,by rw[A0.out,N.out,ET.out];try rfl,?_⟩
   ·go_simp
   ·rw[A0.out,Z.out,S.out,l.out]
    exact h.sub):p:=h
theorem ac2(h:p:=by
  have V:Hid (St I w5 (ab g6 213 #[iI region,iI i,(.slice r (n-1) P)]::ai .u8 (.slice r (n-1) P) d::ab w.heap.size 213 #[iI 0,iI 0,sN]::ai .u8 (.slice (some T) n c) (i::d)::L)):=K;clear K;have z0:w5.cell? (aD g6 0)=some (iI region):=(V.ah 0 rfl).cell 0;have z1:w5.cell? (aD g6 1)=some (iI i):=(V.ah 0 rfl).cell 1;have z2:w5.cell? (aD g6 2)=some (.slice r (n-1) P):=(V.ah 0 rfl).cell 2
  go_wp2_with fail
  refine(DE ⟨region,i,d⟩ r (n-1) P _ (V.copy 1 rfl)).mono ?_;rintro e p⟨v6,rfl,h⟩;have u:=h.tail;rw[LC region i d i0];have z0:p.cell? (aD g6 0)=some (iI region):=(u.ah 0 rfl).cell 0;have z1:p.cell? (aD g6 1)=some (iI i):=(u.ah 0 rfl).cell 1;have z2:p.cell? (aD g6 2)=some (.slice r (n-1) P):=(u.ah 0 rfl).cell 2;have U:=(u.ah 2 rfl).cell 0;have C:=(u.ah 2 rfl).cell 1;have G:=(u.ah 2 rfl).cell 2;have f:=(u.ah 2 rfl).frozen;have l:=u.pk 4 [2,1];refine bq (((l.bE 0 (iI 0)).bE 1 (iI 0)).bE 2 sN) (((l.bE 0 (iI region)).bE 1 (iI i)).bE 2 (.slice r (n-1) P)) λA Q=>?_;clear h u l V;by_cases Y:ik (i::d)=0
  ·have g:=aa (x Y)
   have E:=aa Y;clear x o;rw[Y]
   go_wp2_with fail
   generalize World.setCell _ _ _=w7 at Q⊢;have D:w7.cell? (aD w.heap.size 0)=some (iI region):=(Q.ah 0 rfl).cell 0;have F:w7.cell? (aD w.heap.size 1)=some (iI i):=(Q.ah 0 rfl).cell 1;have q2:w7.cell? (aD w.heap.size 2)=some (.slice r (n-1) P):=(Q.ah 0 rfl).cell 2;refine bodyPost_ret (v:= .tuple #[.agg #[iI region,iI i,(.slice r (n-1) P)],iI 0]) (jy (fn:=Tryz.f201) (t:=4) (k:=5) (ty:=213) rfl _ rfl ?_) rfl ⟨(.slice r (n-1) P),?_,?_⟩
   ·go_simp
   ·rw[g.out,E.out];try rfl
   ·rw[g.out];exact Q.pick 2 [1]
  ·have g:=aa (o Y)
   have C0:(ik (i::d) !=0)=true:=by simp[Y]
   clear x o Y;have HE:=aa (show ik (i::d)=ik (i::d)from rfl);generalize a:ik (i::d)=ee at*
   go_wp2_with fail
   generalize World.setCell _ _ _=w7 at A⊢;have D:w7.cell? (aD w.heap.size 0)=some (iI 0):=(A.ah 0 rfl).cell 0;have F:w7.cell? (aD w.heap.size 1)=some (iI 0):=(A.ah 0 rfl).cell 1;have q2:w7.cell? (aD w.heap.size 2)=some sN:=(A.ah 0 rfl).cell 2;refine bodyPost_ret (v:= .tuple #[.agg #[iI 0,iI 0,sN],iI ee]) (jy (fn:=Tryz.f201) (t:=4) (k:=5) (ty:=213) rfl _ rfl ?_) rfl ⟨sN,?_,?_⟩
   ·go_simp
   ·rw[g.out,a];try rfl
   ·rw[g.out];exact A.tail.tail.bH (λO _=>ay.none_ O _)):p:=h
theorem ac3(h:p:=by
  go_enter func4,ntmps4
  go_wp2_with fail
  refine qH (ei A _ H) λT F=>?_;clear H
  go_wp2_with fail
  refine(gC A _ F).mono ?_;rintro e S⟨B,rfl,h⟩;have N:=aa h;clear h F
  go_wp2_with fail
  go_ret
  exact⟨rfl,N.tail.tail.tail.tail.tail⟩):p:=h
theorem ac4(h:p:=by
  have B:=G.ah 0 rfl;obtain⟨A6,c6,A0,_,_⟩:=Rows.slice ⟨_,((G.get 1 rfl) k d).log⟩;have y0:=dK B (k:=k) (j:=0) d oM rfl;have y1:=dK B (k:=k) (j:=1) d oM rfl;have Q:=dK B (k:=k) (j:=6) d oM rfl;rw[A0]at Q;refine bq (GC g (k*7) ⟨t,k,index,token,seq,data⟩ (.slice A n c) (m k).ax (m k).seq A6 (m k).log.length c6 X ⟨HR.s0,HR.s1⟩ ⟨e.s0,e.s1⟩ B.lt y0 y1 Q) G λC0 N=>?_;obtain⟨f0,f1,f2,f3,f4,f5⟩:=(G.ah 2 rfl).ng;clear a G A0 B y0 y1 Q
  go_wp2_with fail
  refine qK C0 λw3 a=>?_;have K:=aa (N.grow a);clear a
  go_wp2_with fail
  go_ret2
  refine⟨by rw[E.out];rfl,?_⟩;exact St.kS K.Oj):p:=h
theorem ac5(h:p:=by
  go_wp2_with fail
  go_roundg (4-(k+1))
  case measure=>have:=HG.out;omega
  case rel=>exact⟨k+1,_,rfl,oM,by go_num,C0,by rw[HZ.out];exact K.out⟩):p:=h
theorem ac6(h:p:=by
  go_wp2
  go_ret
  exact⟨by rw[E.out];rfl,(Fr.refl _ _).alloc _⟩):p:=h
theorem ac7(h:p:=by exact⟨rfl,rfl⟩):p:=h
theorem ac8(h:p:=by
  go_wp2_with fail
  go_ret
  exact⟨rfl,N⟩):p:=h
theorem ac9(h:p:=by
  have Y:=sn o (21-(i+1));rw[show i+1+(21-(i+1))=21 by omega]at Y;have U:=aa (n (T.trans Y));clear Y;have j:=aa ((V.pk 3 []).bH (R:=λw=>ay w .u8 sN []) (λO _=>ay.none_ O .u8))
  go_wp2_with fail
  go_ret2
  rw[U.out.1,U.out.2];exact⟨none,0,rfl,j⟩):p:=h
theorem acD(h:p:=by simp[MapKept.IsKey]):p:=h
theorem acE(h:p:=by(have:=d.2.2.1;omega)):p:=h
theorem acN(h:p:=by(show¬(1:Int)<=0;decide)):p:=h
theorem acO(h:p:=by(rw[H];exact c)):p:=h
theorem acP(h:p:=by(simp at h⊢;omega)):p:=h
theorem aca(h:p:=by(rw[<-R.out];exact t)):p:=h
theorem acb(h:p:=by(show some (Value.bool x.c.a9)=_;rw[G0])):p:=h
theorem acd(h:p:=by(have:=HN.out;omega)):p:=h
theorem ace(h:p:=by simpa using h):p:=h
theorem acf(h:p:=by(have:=d.out;omega)):p:=h
theorem acg(h:p:=by simp[Value.oneCell']):p:=h
theorem acj(h:p:=by(show C.la=(X.c c.toNat).la;rw[F])):p:=h
theorem acm(h:p:=by(show C.a9=(X.c c.toNat).a9;rw[F])):p:=h
theorem acn(h:p:=by(show C.wr=(X.c c.toNat).wr;rw[F])):p:=h
theorem aco(h:p:=by(show C.bl=(X.c c.toNat).bl;rw[F])):p:=h
theorem acq(h:p:=by(rw[U.out];exact iu)):p:=h
theorem acr(h:p:=by(show C.h=(X.c c.toNat).h;rw[F])):p:=h
theorem acs(h:p:=by(show C.r=(X.c c.toNat).r;rw[F])):p:=h
theorem acu(h:p:=by(have:=V.2.1;have:=Y.2.2.2.1;have:=b.out;omega)):p:=h
theorem acv(h:p:=by simp[Region.wanted,C]):p:=h
theorem acw(h:p:=by(rw[i.out];exact r.out)):p:=h
theorem acx(h:p:=by(rw[P];exact iu)):p:=h
theorem acy(h:p:=by(intro i Y t;simp[Value.ownBlock]at Y;omega)):p:=h
theorem acz(h:p:=by(rw[c.out];exact A.out)):p:=h
theorem ad0(h:p:=by(rcases Od z with rfl|rfl|rfl|rfl<;>rfl)):p:=h
theorem ad1(h:p:=by
  go_enter func43,ntmps43
  go_wp2_with fail
  go_wp2_with (go_quiet (fail))
  go_ret2
  exact⟨rfl,(St.rK H.tail).drewN nq⟩):p:=h
theorem ad3(h:p:=by
  go_wp2_with fail
  refine qK (Hx H) λz h=>?_;rw[b.out];have F:=aa h;clear h H
  go_wp2_with fail
  go_ret
  exact⟨rfl,F⟩):p:=h
theorem ad4(h:p:=by(obtain⟨M,F,J,T⟩:=h.fact i z;exact J.2)):p:=h
theorem ad5(h:p:=by
  by_cases U:0<=o.r/\o.r<4
  ·exact U
  ·rw[oy U]at R;omega):p:=h
theorem ad6(h:p:=by
  have E:=aa (O.trans (iP P))
  go_wp2_with fail
  go_ret
  exact⟨by rw[E.out];try rfl,by rw[E.out];exact N.out⟩):p:=h
theorem ad7(h:p:=by(rw[iP O]at P;exact none R oM oM P (.inl ⟨rfl,rfl,O⟩))):p:=h
theorem ad8(h:p:=by(exact⟨by rw[E.out];try rfl,by rw[E.out];exact F.out⟩)):p:=h
theorem ad9(h:p:=by exact jq.refl _ _):p:=h
theorem adA(h:p:=by
  unfold rU wpOp;have F:l.toArray[i]? =some o:=by simpa using q
  simp only[F];rw[iP acv];refine .inl ?_;unfold Oper.wp;rw[d,Oper.upon_enter];refine h.mono λe O ⟨v,Y,N,h⟩=> ?_;subst Y;exact⟨N,h⟩):p:=h
theorem adB(h:p:=by
  obtain rfl:k=n:=oM
  have E:=aa (z.trans (show jA p s k (l.drop k)=(-1,s)by rw[UK abZ];rfl));have H:=aa h;clear h z
  go_wp2_with fail
  go_ret
  exact⟨by rw[E.out];try rfl,by rw[E.out];exact H.out⟩):p:=h
theorem adC(h:p:=by
  go_enter func175,ntmps175
  go_wp2
  go_ret
  refine⟨_,rfl,?_⟩;have h:=(((H.tO).bE 1 (.bool true)).bE 0 sN).bH (R:=λO=>ay O .u8 sN []) (λO _=>ay.none_ O _);exact(St.Lp ((h.copy 0 rfl).tW)).swap):p:=h
theorem adD(h:p:=by
  clear U
  go_enter func45,ntmps45
  go_wp2_with fail
  rw[E.out];refine bodyPost_ret (v:= .agg #[iI 0,iU 0,iU 0]) (aL (fn:=Tryz.f45) (t:=4) (ty:=62) rfl _ rfl ?_) rfl ⟨rfl,N.tail⟩;go_simp):p:=h
theorem adE(h:p:=by(rename_i h;rw[h])):p:=h
theorem adF(h:p:=by
  cases d1<;>cases d2
  all_goals(go_wp2_with fail;go_ret;exact⟨by rw[V.out];try rfl,H⟩)):p:=h
theorem adG(h:p:=by(refine wpList_plain A λK N=> ?_;unfold Oper.wp execOp;simp only[q,J,E,resolve,invoke,builtin,Sem.run_bind,Sem.run_pure,Result.andThen_ok,CB,nG,zF,d];exact N _ _ h)):p:=h
theorem adH(h:p:=by exact .inl rfl):p:=h
theorem adI(h:p:=by(have:=a.out;omega)):p:=h
theorem adJ(h:p:=by
  go_wp2_with fail
  go_ret2
  exact⟨rfl,N⟩):p:=h
theorem adK(h:p:=by
  have q:=aa (St.zX (hl:=[]) rfl S);clear h M S N b
  go_wp2_with fail
  refine qH (C _ q) λw3 V=>?_;clear q C f X
  go_wp2_with fail
  go_ret
  exact⟨rfl,V⟩):p:=h
theorem adL(h:p:=by
  unfold aE at K
  split at K;· rename_i h;exact absurd K h
  split at K;· cases K
  split at K;· cases K
  split at K;· cases K
  rename_i S;rw[c]at S;omega):p:=h
theorem adM(h:p:=by
  intro b B
  rcases hF b B with G|G
  ·exact V.off 0 b abN G
  ·cases e:M.heap b with
   |none=>rfl
   |some o=>have:=(CE.1 (T.heap b o e)).1;omega):p:=h
theorem adN(h:p:=by
  have e1:(a.e !=0)=true:=by simp[Y]
  have z:=aa (i.trans (iP Y));clear Y i
  go_wp2_with fail
  go_ret
  rw[z.out];refine⟨rfl,v,?_⟩;exact K.sub):p:=h
theorem adO(h:p:=by exact plain P (G oM) oM acO (pG.refl _ _) oM):p:=h
theorem adP(h:p:=by
  gi_wp2_with fail
  go_roundw
  case rel=>exact⟨j+1,k+1,by have:=d.out;omega,oM,by go_num,K⟩
  case measure=>have:=d.out;simp[intOf];omega):p:=h
theorem adQ(h:p:=by simp[Builtin.delete_,run_underlying R,MapKept.run_getObj_map p,u,MapKept.run_findKey Q H,MapKept.run_setObj_map _ p,Result.andThen]):p:=h
theorem adR(h:p:=by(refine wpList_plain A λK N=> ?_;unfold Oper.wp execOp;simp only[q,J,E,Sem.run_bind,Sem.run_pure,Result.andThen_ok,d];exact N _ _ h)):p:=h
theorem adS(h:p:=by
  congr 1
  omega):p:=h
theorem adT(h:p:=by(refine wpList_plain A λK N=> ?_;unfold Oper.wp execOp;simp only[q,Sem.run_bind,Sem.run_pure,Result.andThen_ok,V,J,U];exact N _ _ k)):p:=h
theorem adU(h:p:=by
  simp only[qQ,qo,or_false]at q;rcases q with rfl|rfl|rfl
  ·exact⟨fC 3 0 1 0 dC dC,dC⟩
  ·exact⟨LP,dC⟩
  ·exact⟨fC 7 0 1 0 dC dC,dC⟩):p:=h
theorem adV(h:p:=by
  have N:=aa Z.tail.tail;clear h Z W H G S C0 D0 U hn B0 hl
  go_enter func69,ntmps69
  go_wp2_with fail
  go_ret2
  exact⟨_,rfl,N.tA⟩):p:=h
theorem adW(h:p:=by
  rcases RX n with K|K
  ·exact K
  ·obtain⟨T,h,_⟩:=V.2 K
   cases h):p:=h
theorem adX(h:p:=by
  simp only[Act.put];refine cD ?_;clear C f
  go_wp2_with fail
  go_ret
  exact⟨by rw[EE.out];try rfl,by rw[EB.out];exact K0.gV⟩):p:=h
theorem adY(h:p:=by(simp[intOf];omega)):p:=h
theorem adZ(h:p:=by
  by_cases X:c=j
  ·exact⟨_,iP X,λh=>oM⟩
  ·exact⟨_,iN X,λ_=>rfl⟩):p:=h
theorem ada(h:p:=by
  by_cases u:a=r
  ·by_cases Y:k=i
   ·subst u
    subst Y
    go_wp2
    go_ret
    exact⟨by rw[show cF a k ⟨a,k,d⟩=true by simp[cF]];try rfl,(Fr.refl _ _).alloc _⟩
   ·subst u
    have Q:cF a i ⟨a,k,d⟩=false:=by simp[cF,Y]
    have J:(k==i)=false:=jM Y
    go_wp2
    go_ret
    exact⟨by rw[Q];try rfl,(Fr.refl _ _).alloc _⟩
  ·have Q:cF r i ⟨a,k,d⟩=false:=by simp[cF,u]
   go_wp2
   go_ret
   exact⟨by rw[Q];try rfl,(Fr.refl _ _).alloc _⟩):p:=h
theorem adb(h:p:=by
  go_wp2_with fail
  go_ret
  exact⟨rfl,H⟩):p:=h
theorem ade(h:p:=by
  have u:=Md F
  rw[u]at b;have o:=aa (b.trans (iP rfl));clear F;have Z:=aa (V.get 1 rfl).sl.2.2.2
  go_wp2_with (at_builtin;refine St.fj qt V rfl _ _ rfl rfl A2 W P rfl (bv H) Z (jJ _) oM oM ?_;intro A' c' w6 J;have j:=aa J;clear J V)
  go_roundg (22-(i+1))
  case measure=>have:=HG.out;omega
  case rel=>exact⟨i+1,q+W,_,_,out++H,rfl,oM,by go_num,rfl,by rw[dB,<-M.out,<-H0.out],oM,o,by rw[wV];exact j.sub⟩):p:=h
theorem adf(h:p:=by
  go_wp2_with fail
  go_ret2
  exact⟨by rw[E.out];try rfl,by rw[E.out];exact l.out⟩):p:=h
theorem adg(h:p:=by(rw[P];exact⟨_,rfl,((S.bH (R:=λw=>ay w .u8 sN []) (λO _=>ay.none_ O _))).sub⟩)):p:=h
theorem adh(h:p:=by
  refine h.oN (O:=w) ?_ (Fr.refl _ _) (.inl (by cases A<;>rfl));have B:m*size<=n*size:=vz _ p;obtain⟨F,G⟩:=h.row 0 rfl;refine⟨by rw[fV];omega,?_⟩;rcases G with⟨u,Y⟩|⟨g,cap,E,u,C,l,W,D,V,R⟩
  ·injection u with H j d
   exact .inl ⟨by rw[H,d,show m=0 by omega],oM⟩
  ·injection u with H j d
   exact .inr ⟨g,cap,E,by rw[H,d],C,l,oM,D,V,by rw[<-R,Oz,Hc B]⟩):p:=h
theorem adi(h:p:=by(have:=HG.out;omega)):p:=h
theorem adj(h:p:=by
  have H4:=aa V;clear R V K
  go_wp2_with fail
  go_roundg p.length
  case measure=>have h5:gk=p.length+1:=HG.out;omega
  case rel=>exact⟨p,a.x,E/4,.slice (some (⟨r.block,r.off+6,none⟩:Addr)) p.length (c-1),N2,O+1,rfl,D0,H0,by have h5:O+(p.length+1)<=700000:=z.2.1;omega,λq' F0=>z.2.2 q' (Bd _ F0),H4.sub⟩):p:=h
theorem adk(h:p:=by
  go_enter func112,ntmps112
  go_wp2_with fail
  go_ret2
  exact⟨sN,by rw[E.out];try rfl,by rw[V.out,E.out];exact H.tail.tail.bH (λO _=>ay.none_ O _)⟩):p:=h
theorem adl(h:p:=by
  go_wp2
  go_ret
  exact⟨rfl,(Fr.refl _ _).alloc _⟩):p:=h
theorem adm(h:p:=by
  have q:b[t]?.getD undef= .pointer (some a):=by simpa using T
  simp[results,h,q,asAddr,F]):p:=h
theorem adn(h:p:=by
  go_enter func144,ntmps144
  go_wp2_with fail
  refine qK (o _ q) λw1 a=>?_;have F:=aa ((H.alloc 175 #[iI t,iI k,iI index,iU token,iW seq,.slice A n c]).grow a);obtain⟨S,u,Y,P,p,b⟩:=(F.ah 0 rfl).ng;clear H a
  go_wp2_with fail
  go_ret2
  exact⟨by rw[E.out];rfl,F.tail⟩):p:=h
theorem ado(h:p:=by
  simp only[aW];refine Ed ?_;refine aA ?_;intro e w1 h;have h:=h.fn;obtain⟨Z,i⟩:∃Z,(e 5).v=Z:=⟨_,rfl⟩;rw[i]at h;have X:=aa h;clear h
  go_wp2_with fail
  rw[i];clear i
  go_wp2_with fail
  go_ret2
  refine⟨Z,by rw[c.out];try rfl,?_⟩;rw[n.out,y.out];exact X.sub abP):p:=h
theorem adp(h:p:=by
  have Z:=h.alloc 30 (dW o W J);obtain⟨q,c⟩:=nM (w.heap.size);obtain⟨l,P,T,O,C,R,V⟩:=(Z.ah 0 rfl).seven;rw[<-c]at Z;refine bq c Z λN0 C0=>?_;clear h Z c N1 F0
  go_enter func36,ntmps36
  go_wp2_with fail
  go_ret2
  exact⟨rfl,x.p,λi=> .inl ⟨rfl,rfl⟩,C0.tail⟩):p:=h
theorem adq(h:p:=by exact(Fr.refl _ _).alloc _):p:=h
theorem adr(h:p:=by
  have H4:=aa V;clear R V K
  go_wp2_with fail
  go_roundg 0
  case measure=>have h5:gk=1:=HG.out;omega
  case rel=>exact⟨[],a.x,E/4,.slice (some r) 0 0,N2,O+1,rfl,D0,H0,by have h5:O+1<=700000:=z.2.1;exact h5,λq' F0=>(by cases F0),H4.sub⟩):p:=h
theorem ads(h:p:=by
  go_wp2_with fail
  go_roundg (n-(k+1))
  case measure=>have:=d.1;omega
  case rel=>exact⟨k+1,p.step o,v2,G0,Q,T1+1,t,b,u,C,rfl,oM,by go_num,rfl,P.1,by have:=d.2.2.1;omega,P.2,K0,d.2.2.2.2.2.1,by have:=d.2.2.2.2.2.2;omega,S.pk 2 []⟩):p:=h
theorem adt(h:p:=by
  go_enter func5,ntmps5
  go_wp2_with fail
  refine qH (ei A _ H) λw1 F=>?_;clear H
  go_wp2_with fail
  refine(gC A _ F).mono ?_;rintro e w2⟨B,rfl,h⟩;have C:=aa h;clear h F
  go_wp2_with fail
  go_ret
  exact⟨rfl,C.tail.tail.tail⟩):p:=h
theorem adu(h:p:=by
  go_wp2_with fail
  go_ret
  exact⟨by rw[E.out];try rfl,N⟩):p:=h
theorem adv(h:p:=by
  go_wp2_with fail
  go_ret
  exact⟨by rw[E.out];try rfl,H⟩):p:=h
theorem adw(h:p:=by
  have dy:decide (Y.e=0)=false:=dQ N
  have E0:(Y.e==0)=false:=by simp[N]
  go_wp2_with fail
  go_meet
  refine⟨a,M,x,?_⟩;rw[r.out.2.1 (λl=>N l.2),show(X.bw o).b=Y.b from r.out.2.2.2.1 (λl=>N l.2),r.out.2.2.1];exact S.sub):p:=h
theorem adx(h:p:=by(have W:=St.rK (l.pk 5 [1,3,4,0,2]);exact⟨_,rfl,((W.bH (R:=λw=>ay w .u8 sN []) (λO _=>ay.none_ O _))).sub⟩)):p:=h
theorem ady(h:p:=by
  rw[y,iN iu]at E;rw[y]at M;clear y;obtain⟨f0,f1,f2,f3,f4,f5⟩:=(N.ah 2 rfl).ng
  go_wp2_with fail
  refine qK (M _) λw3 a=>?_;have K:=aa (N.grow a);clear a
  go_wp2_with fail
  go_ret2
  exact⟨by rw[E.out];rfl,St.kS K.Oj⟩):p:=h
theorem adz(h:p:=by
  go_wp2_with fail
  refine qH O λR H=>?_;clear O
  go_wp2_with fail
  go_ret
  exact⟨by rw[<-Q.out];try rfl,H⟩):p:=h
theorem ae0(h:p:=by exact⟨0,rfl,oM,rfl,j.out,H⟩):p:=h
theorem ae1(h:p:=by(exact⟨a,b,by rw[c];omega,d⟩)):p:=h
theorem ae2(h:p:=by
  clear H h C
  go_wp2_with fail
  go_ret
  exact⟨rfl,N.gV⟩):p:=h
theorem ae3(h:p:=by(exact⟨_,_,rfl,D,a,(Sl.qm J).mono (λ_ _ _=>trivial)⟩)):p:=h
theorem ae4(h:p:=by
  go_ret
  refine⟨_,rfl,?_⟩;rw[xS,zm]at Z;exact Z.lW b):p:=h
theorem ae5(h:p:=by(rintro e O⟨rfl,rfl⟩;exact⟨rfl,Fr.refl _ _,B.plus⟩)):p:=h
theorem ae6(h:p:=by
  go_wp2_with fail
  go_ret2
  rw[HR.out];exact⟨rfl,H6⟩):p:=h
theorem ae7(h:p:=by
  go_wp2_with fail
  go_ret2
  rw[R];exact⟨_,rfl,K.tA⟩):p:=h
theorem ae8(h:p:=by
  clear key
  go_enter func143,ntmps143
  exact ac6):p:=h
theorem ae9(h:p:=by
  go_ret
  exact ac7):p:=h
theorem aeA(h:p:=by
  have N:=aa G;clear a G
  go_wp2_with fail
  go_ret2
  exact⟨by rw[E.out];rfl,N⟩):p:=h
theorem aeB(h:p:=by
  go_wp2_with fail
  go_quiet (fail)
  go_wp2_with fail
  go_ret
  exact⟨rfl,_,rfl⟩):p:=h
theorem aeC(h:p:=by exact⟨rfl,rfl,rfl⟩):p:=h
theorem aeD(h:p:=by exact⟨B.nr,B.rf,B.p0,B.fp,B.sq,B.s2⟩):p:=h
theorem aeE(h:p:=by
  have J:x∈(j.be.r r.toNat).h:=J
  rw[P]at J;exact absurd p ((G _ oM).1 x J)):p:=h
theorem aeF(h:p:=by(exact⟨_,rfl,((u.bH (R:=λw=>ay w .u8 sN []) (λO _=>ay.none_ O _))).sub⟩)):p:=h
theorem aeG(h:p:=by(exact⟨_,rfl,((l.bH (R:=λw=>ay w .u8 sN []) (λO _=>ay.none_ O _))).sub⟩)):p:=h
theorem aeH(h:p:=by exact⟨own,cN.refl oM h⟩):p:=h
theorem aeI(h:p:=by exact⟨rfl,H.tail⟩):p:=h
theorem aeJ(h:p:=by exact⟨h.He rfl rfl oM,zt.refl _ _⟩):p:=h
theorem aeK(h:p:=by(unfold cQ ua cB;rw[iN abS,iN abS])):p:=h
theorem aeL(h:p:=by(have d:=t.out;rw[Zz,iP oM];omega)):p:=h
theorem aeM(h:p:=by(obtain⟨o,G⟩:=Z.i.ff (i:=r.toNat) oM;exact⟨o,(Z.trans G).mono oM⟩)):p:=h
theorem aeN(h:p:=by exact⟨0,rfl,oM,rfl,H⟩):p:=h
theorem aeO(h:p:=by exact⟨k+1,rfl,oM,by go_num,E,N⟩):p:=h
theorem aeP(h:p:=by
  go_wp2_with fail
  go_ret
  exact⟨rfl,K.tail.tail.tail.tail.tail⟩):p:=h
theorem aeQ(h:p:=by(exact(Z.swap.tW.swap.oY (λO M S=>CV M (J O (M k Q) S))).swap)):p:=h
theorem aeR(h:p:=by
  go_enter func137,ntmps137
  go_wp2
  go_ret
  exact⟨by simp,0,rfl⟩):p:=h
theorem aeS(h:p:=by
  rcases E with h|h
  ·exact .inl h
  ·exact .inr (by rw[h];simp)):p:=h
theorem aeT(h:p:=by
  rw[J.out,iN acw]
  exact u.tail.tail.bH (λO _=>ay.none_ O _)):p:=h
theorem aeU(h:p:=by(show y.r.seq+(pq.length:Int)-(pq.length:Nat)=y.r.seq;omega)):p:=h
theorem aeV(h:p:=by(refine sF (c:=c) (λJ=>D ?_);unfold aH.gy;rw[iP J];exact J)):p:=h
theorem aeW(h:p:=by
  intro n;unfold Rg.cT
  split;· decide
  split;· decide
  decide):p:=h
theorem aeX(h:p:=by
  simp[execOp,q,n,j,U,Z,Result.andThen]
  exact d _ _ (N O G)):p:=h
theorem aeY(h:p:=by
  go_enter func137,ntmps137
  go_wp2
  go_ret
  exact⟨by simp,H⟩):p:=h
theorem aeZ(h:p:=by(exact⟨iD _,λb B=>by cases B⟩)):p:=h
theorem aea(h:p:=by
  intro i b z B Z
  rcases hF b Z with G|G
  ·exact V.apart (i+1) 0 b oM abQ abN B G
  ·have:=t i b z B;omega):p:=h
theorem aeb(h:p:=by
  exfalso;have Y:i∈Region.ready .any ops listed:=by rw[U];exact Eg
  have:=(kG (mem_ready.1 Y).1).2;omega):p:=h
theorem aec(h:p:=by
  split at h
  ·cases h
  ·split at h
   ·cases h
   ·omega):p:=h
theorem aed(h:p:=by
  rcases C with h|h
  ·exact⟨v,_,rfl,b,h,io _,(b.lt _ h).2,hF⟩
  ·exact⟨v,_,rfl,b,h,oM,(b.lt _ h).2,hF⟩):p:=h
theorem aee(h:p:=by(exact λp P=> .inl P)):p:=h
theorem aef(h:p:=by(exact⟨own,(cN.refl oM h).tV c,λF=>by cases F⟩)):p:=h
theorem aeg(h:p:=by
  split
  ·split;· decide
   exact G _
  split;· decide
  split;· decide
  split;· decide
  exact G _):p:=h
theorem aeh(h:p:=by(obtain⟨X,r,e,Z,G,M⟩:=h;injection e with u Y P;subst u;subst Y;subst P;exact⟨rfl,Z,G,M⟩)):p:=h
theorem aei(h:p:=by
  rw[AW]at y
  split at y
  ·rwa[zU]at y
  ·cases y):p:=h
theorem aej(h:p:=by
  rw[y,iP rfl]at E;clear y M
  go_wp2_with fail
  go_ret2
  exact⟨by rw[E.out];rfl,St.kS N.Oj⟩):p:=h
theorem aek(h:p:=by
  rw[show(N t).x.dh=false from J]at U
  cases U):p:=h
theorem ael(h:p:=by
  go_wp2_with fail
  go_ret
  exact⟨rfl,V.tail.tail.tail.tail.tail.tail.tail.tail.tail.tail⟩):p:=h
theorem aem(h:p:=by exact g rfl rfl P):p:=h
theorem aen(h:p:=by
  go_enter func96,ntmps96
  go_wp2_with fail
  go_ret
  rw[E.out,J.out];exact⟨rfl,St.Dm H C⟩):p:=h
theorem aeo(h:p:=by
  go_enter func154,ntmps154
  go_wp2_with fail
  go_ret3
  rw[E.out];exact⟨rfl,St.Dm H rfl⟩):p:=h
theorem aep(h:p:=by
  go_wp2_with fail
  go_ret
  exact⟨_,_,rfl,by have h:=H.swap;rwa[World.size_alloc]at h⟩):p:=h
theorem aeq(h:p:=by(rintro e d l⟨rfl,M⟩;have a:=M.obj 0 rfl;exact⟨_,_,run_endRound none a,rfl,M.uo _⟩)):p:=h
theorem aer(h:p:=by
  rename_i Z
  exact absurd h Z):p:=h
theorem aes(h:p:=by
  clear G F A0
  go_wp2_with fail
  go_end0
  refine⟨rfl,?_⟩;rw[E.out];exact H2.JP X S J):p:=h
theorem aet(h:p:=by
  go_wp2_with fail
  go_ret2
  exact⟨by rw[E.out];try rfl,by rw[E.out];exact M0.out⟩):p:=h
theorem aeu(h:p:=by
  go_wp2_with fail
  go_ret
  exact⟨rfl,z.tail.tail.tail.tail.tail.tail.tail.tail⟩):p:=h
theorem aev(h:p:=by
  unfold aH.gy at Y
  split at Y
  ·exact absurd (Ze.1 Y) (by assumption)
  ·omega):p:=h
theorem aew(h:p:=by
  split at h
  ·rename_i Z
   rw[iP Z,iP Z];exact K h
  ·rename_i Z
   rw[iN Z,iN Z]):p:=h
theorem aex(h:p:=by
  clear h
  go_wp2_with fail
  go_end0
  refine⟨rfl,?_⟩;rw[E.out];exact F.JP X S J):p:=h
theorem aey(h:p:=by
  go_wp2_with fail
  go_end0
  exact⟨rfl,H⟩):p:=h
theorem aez(h:p:=by
  go_wp2_with fail
  go_ret2
  exact⟨rfl,C⟩):p:=h
theorem afa(h:p:=by
  split
  ·exact ac7
  ·exact ac7):p:=h
theorem afb(h:p:=by
  obtain rfl:k=n:=oM
  have E:=aa (z.trans (show jj p k (l.drop k)= -1 by rw[UK abZ];rfl));have H:=aa h;clear h z
  exact adv):p:=h
theorem afc(h:p:=by
  have E:=aa (O.trans (iN acx))
  go_wp2_with fail
  go_roundg (n-(k+1))
  case measure=>exact adI
  case rel=>exact aeO):p:=h
theorem afd(h:p:=by
  simp only[aW];refine Cn ?_;refine aA ?_;intro e z h;have h:=h.fn;have N:=aa (h.pk 1 []);clear h K
  exact ac8):p:=h
theorem afe(h:p:=by
  go_enter func102,ntmps102
  exact adb):p:=h
theorem aff(h:p:=by
  show iq (((iB x s (56+m)).drop 56).take 4)=_;rw[zE oM oM oM,pM]
  congr 2
  rw[fV,fV,km]
  exact adS):p:=h
theorem afg(h:p:=by
  clear key
  go_enter func179,ntmps179
  exact ac6):p:=h
theorem afh(h:p:=by
  clear Z
  go_enter func160,ntmps160
  go_wp2_with fail
  go_ret
  rw[E.out];exact ac7):p:=h
theorem afi(h:p:=by
  clear F hF h;generalize gu p 0 l=z at*
  go_enter func113,ntmps113
  exact adz):p:=h
theorem afj(h:p:=by
  go_wp2_with fail
  all_goals
   go_meet
   refine⟨?_,rfl⟩;have:=q.out
   exact adS):p:=h
theorem afk(h:p:=by
  have E:=aa (O.trans (iP P))
  exact adu):p:=h
theorem afl(h:p:=by
  go_enter func146,ntmps146
  exact adl):p:=h
theorem afm(h:p:=by
  have u:=Oc F
  rw[u]at b;have o:=aa (b.trans (iN abN));clear F;exact ac9):p:=h
theorem afn(h:p:=by
  have H:=aa Z.tail;clear h Z u C
  go_enter func165,ntmps165
  exact adb):p:=h
theorem afp(h:p:=by
  split at h
  ·rename_i Z
   rw[iP Z];exact K h
  ·exact aer):p:=h
theorem afq(h:p:=by
  rw[C];clear u C
  go_enter func100,ntmps100
  exact adb):p:=h
theorem afr(h:p:=by
  go_enter func206,ntmps206
  go_wp2_with (go_at_call 173;refine H.mono ?_;rintro e O⟨rfl,rfl⟩)
  exact ae9):p:=h
theorem afs(h:p:=by
  go_wp2_with fail
  exact ae9):p:=h
end
variable{α:Type}{k:IntKind}{a b:Int}{f:FuncId}
theorem oM{p:Prop}(h:p:=by first|omega|(dsimp only;omega)):p:=h
theorem kR{p:Prop}(h:p:=by kernel_rfl):p:=h
theorem dC{p:Prop}(h:p:=by decide):p:=h
theorem gS{p:Prop}(h:p:=by(go_simp;try rfl)):p:=h
theorem nM{α:Type _}(e:α):∃x,x=e:=⟨e,rfl⟩
abbrev iN:=@if_neg
abbrev iP:=@if_pos
abbrev dQ:=@decide_eq_false
abbrev dZ:=@decide_eq_true
theorem nD{p q:Prop}(h:¬p:=by decide):p->q:=λx=>(h x).elim
abbrev sN:Value:=.slice none 0 0
abbrev aO(b:Nat):Option Addr:=some ⟨b,0,none⟩
abbrev pO(b:Nat):Value:=.pointer (some ⟨b,0,none⟩)
abbrev aD(b i:Nat):Addr:=⟨b,i,none⟩
abbrev iI(x:Int):Value:=.int .i64 x
abbrev iU(x:Int):Value:=.int .u64 x
abbrev iW(x:Int):Value:=.int .u32 x
abbrev LI:=List Int
abbrev OA:=Option Addr
abbrev LV:=List Value
abbrev Vq:=Array Value
abbrev rG:=List.range
theorem sU{p:Prop}(h:p:=by(repeat(first|with_reducible exact Sub.refl _|(with_reducible apply Sub.take;focus(repeat(first|with_reducible exact At.here|with_reducible apply At.there)))|with_reducible apply Sub.drop))):p:=h
theorem aU{p:Prop}(h:p:=by(repeat(first|with_reducible exact At.here|with_reducible apply At.there))):p:=h
abbrev dB:=@List.length_append
abbrev g7:=@List.getElem?_eq_getElem
abbrev cO:=@Int.le_refl
abbrev fV:=@List.length_take
abbrev iu:=@Bool.false_ne_true
abbrev nQ:=@List.getElem?_eq_some_iff
abbrev oJ:=@List.take_of_length_le
abbrev km:=@List.length_drop
abbrev mf:=@Bool.and_eq_true
abbrev nN:=@List.mem_singleton
abbrev io:=@Nat.le_refl
abbrev iD:=@Nat.zero_le
abbrev qP:=@List.mem_of_getElem?
abbrev pI:=@List.append_assoc
abbrev oc:=@List.mem_append
abbrev qo:=@List.not_mem_nil
abbrev nG:=@List.map_cons
abbrev rE:=@Int.toNat_natCast
abbrev BJ:=@List.eq_nil_of_length_eq_zero
abbrev qR:=@List.length_cons
abbrev qI:=@List.length_map
abbrev vz:=@Nat.mul_le_mul_right
abbrev CE:=@Array.getElem?_eq_some_iff
abbrev qQ:=@List.mem_cons
abbrev BE:=@Int.eq_ofNat_of_zero_le
abbrev qJ:=@Nat.le_trans
abbrev Bd:=@List.mem_cons_of_mem
abbrev zU:=@List.getElem?_drop
abbrev zA:=@List.getElem?_map
abbrev xd:=@List.append_nil
abbrev Iy:=@List.getD_eq_getElem?_getD
abbrev AW:=@List.getElem?_take
abbrev IQ:=@List.drop_eq_getElem_cons
abbrev yu:=@List.map_append
abbrev tU:=@Int.le_trans
abbrev AR:=@List.all_eq_true
abbrev um:=@List.mem_map
abbrev zm:=@List.nil_append
abbrev BA:=@List.flatMap_cons
abbrev Eg:=@List.mem_cons_self
abbrev CB:=@List.map_toArray
abbrev OB:=@List.getElem?_append_right
abbrev xS:=@Nat.zero_add
abbrev KV:=@List.getElem?_eq_none
abbrev Bg:=@List.drop_zero
abbrev Le:=@List.take_append_drop
abbrev yd:=@Nat.add_zero
abbrev Ef:=@List.filter_cons
abbrev xh:=@Nat.add_mul
abbrev IE:=@List.take_succ_cons
abbrev Ea:=@List.mem_filter
abbrev zF:=@List.map_nil
abbrev Qk:=@Array.getElem?_eq_getElem
abbrev JU:=@List.take_add_one
abbrev NC:=@List.drop_succ_cons
abbrev Hc:=@Nat.min_eq_left
abbrev FI:=@List.drop_drop
abbrev KQ:=@List.Sublist.refl
abbrev Vg:=@List.take_append_of_le_length
abbrev TE:=@List.getElem?_append_left
abbrev VQ:=@List.take_succ_eq_append_getElem
abbrev Hd:=@List.take_zero
abbrev Sb:=@Array.getElem?_eq_none
abbrev Wp:=@List.eraseIdx_eq_take_drop_succ
abbrev Ox:=@Nat.lt_of_lt_of_le
abbrev Oe:=@List.cons_append
abbrev MT:=@List.take_length
abbrev Xa:=@List.drop_append_of_le_length
abbrev Eh:=@Nat.one_mul
abbrev PX:=@Int.emod_lt_of_pos
abbrev MJ:=@List.length_nil
abbrev ME:=@Option.some.inj
abbrev Oq:=@List.getElem_mem
abbrev UL:=@List.eraseP_cons_of_pos
abbrev RX:=@Nat.eq_zero_or_pos
abbrev TH:=@List.mem_of_mem_take
abbrev TW:=@List.mem_of_mem_drop
abbrev Oy:=@List.cons.injEq
abbrev OC:=@Int.emod_nonneg
abbrev UK:=@List.drop_of_length_le
abbrev UY:=@List.drop_eq_nil_of_le
abbrev RT:=@List.size_toArray
abbrev Oz:=@List.take_take
abbrev Ow:=@List.mem_range
abbrev Wo:=@List.mem_of_mem_eraseIdx
abbrev OR:=@Bool.or_eq_true
abbrev WH:=@List.eraseP_cons_of_neg
abbrev UR:=@Array.length_toList
abbrev WQ:=@List.length_replicate
abbrev Xd:=@List.length_filter_le
abbrev SR:=@Option.getD_some
abbrev Re:=@Bool.true_and
abbrev Xz:=@List.length_eq_zero_iff
abbrev Uq:=@List.find?_cons
abbrev VK:=@List.getElem?_range
abbrev Xn:=@List.filter_append
abbrev XE:=@List.mem_append_left
abbrev Xv:=@Array.replicate_succ
abbrev XD:=@Array.replicate_zero
abbrev XK:=@Bool.or_eq_false_iff
abbrev Wj:=@Option.some.injEq
abbrev Xp:=@List.map_congr_left
abbrev Xx:=@List.append_toArray
abbrev Wm:=@Nat.le_of_not_lt
abbrev Sm:=@Nat.sub_self
abbrev XF:=@Int.lt_of_lt_of_le
abbrev YL:=@Array.getElem?_modify
abbrev UO:=@List.map_take
abbrev Vk:=@Bool.or_false
abbrev XB:=@List.nodup_append
abbrev XC:=@List.ext_getElem?
abbrev Xu:=@List.push_toArray
abbrev XI:=@List.foldl_append
abbrev Zh:=@List.pairwise_iff_getElem
abbrev Zj:=@List.mem_or_eq_of_mem_set
abbrev Uz:=@Nat.mul_one
abbrev zb2:=@List.set_eq_take_append_cons_drop
abbrev Xe:=@List.take_left
abbrev Vn:=@List.map_map
abbrev XM:=@List.perm_middle
abbrev WN:=@List.map_drop
abbrev XH:=@List.range_succ
abbrev XA:=@List.take_left'
abbrev XG:=@List.all_append
abbrev Ze:=@Decidable.not_not
abbrev Xq:=@List.drop_take
abbrev Xo:=@List.drop_left
abbrev VW:=@Int.add_zero
abbrev Yy:=@Array.toList_map
abbrev UZ:=@Int.not_le
abbrev Ye:=@Nat.mod_eq_of_lt
abbrev Zz:=@List.length_eraseIdx
abbrev Yo:=@Nat.le_add_right
abbrev ZX:=@Array.toList_setIfInBounds
abbrev Zo:=@List.take_set_of_le
abbrev Zf:=@List.flatMap_append
abbrev Zi:=@Int.toNat_of_nonneg
abbrev Yj:=@List.length_set
abbrev XQ:=@List.nodup_cons
abbrev XJ:=@Nat.zero_mul
abbrev ZK:=@List.eq_of_mem_replicate
abbrev Xw:=@Bool.or_true
abbrev zcs:=@Nat.add_sub_cancel_left
abbrev Zg:=@List.Pairwise.map
abbrev Zn:=@Bool.not_eq_true'
abbrev Zk:=@List.find?_append
abbrev zcw:=@List.Perm.append_right
abbrev XP:=@List.any_cons
abbrev Zm:=@List.drop_length
abbrev ZF:=@List.mem_append_right
abbrev zcA:=@List.length_eraseP_le
abbrev zcB:=@Array.mem_of_getElem?
abbrev YQ:=@Nat.lt_or_ge
abbrev YX:=@Nat.le_of_eq
abbrev YW:=@Nat.add_comm
abbrev Zp:=@Option.map_some
abbrev zcG:=@List.getElem?_of_mem
abbrev Zb:=@Int.le_of_eq
abbrev ZI:=@List.drop_set_of_lt
abbrev ZA:=@List.drop_replicate
abbrev zcK:=@List.filter_sublist
abbrev ZS:=@List.eraseP_sublist
abbrev Vh:=@Ne.symm
abbrev Ve:=@Iff.rfl
abbrev UQ:=@Eq.symm
abbrev Zx:=@Bool.false_and
abbrev Zu:=@Bool.and_assoc
abbrev Zr:=@Bool.not_false
abbrev ZY:=@Array.any_eq_true'
abbrev zcT:=@Array.toList_range
abbrev zcU:=@List.map_replicate
abbrev zcV:=@Int.lt_of_le_of_lt
abbrev zcW:=@List.find?_eq_none
abbrev Zt:=@Nat.add_assoc
abbrev zcY:=@List.any_eq_false
abbrev zcZ:=@Nat.le_succ_of_le
abbrev zc0:=@List.length_range
abbrev zc1:=@List.take_append
abbrev ZL:=@Array.toList_inj
abbrev Zq:=@Int.pow_succ
abbrev zc4:=@List.nodup_range
abbrev zc5:=@List.drop_append
abbrev Zs:=@Bool.true_or
abbrev zc7:=@Option.bind_some
abbrev zc8:=@Array.size_setIfInBounds
abbrev zc9:=@Int.natCast_zero
abbrev zda:=@List.any_eq_true
abbrev zdb:=@Nat.succ_le_succ
abbrev zdc:=@List.length_eraseIdx_le
abbrev zdd:=@List.filter_cons_of_pos
abbrev zde:=@List.filter_cons_of_neg
abbrev zdf:=@List.getElem?_cons_zero
abbrev zdg:=@List.Perm.of_eq
abbrev zdh:=@List.getElem?_set_self
abbrev zdi:=@List.set_append_right
abbrev ZV:=@Bool.and_false
abbrev zdk:=@List.eq_replicate_iff
abbrev zdl:=@Array.getElem?_toList
abbrev ZH:=@Bool.not_true
abbrev ZP:=@Bool.and_true
abbrev zdo:=@List.take_nil
abbrev ZU:=@List.all_cons
abbrev zdq:=@Int.mul_comm
abbrev ZO:=@Nat.mul_comm
abbrev ZC:=@Nat.le_total
abbrev zdt:=@List.map_set
section
theorem aa{p:Prop}(h:p):Hid p:=h
theorem bq{a B r:Prop}(K:a)(Z:B)(k:Hid a->Hid B->r):r:=k (aa K) (aa Z)
theorem iG{a B u r:Prop}(K:a)(Z:B)(G:u)(k:Hid a->Hid B->Hid u->r):r:=k (aa K) (aa Z) (aa G)
theorem nK{a B u D r:Prop}(K:a)(Z:B)(G:u)(M:D)(k:Hid a->Hid B->Hid u->Hid D->r):r:=k (aa K) (aa Z) (aa G) (aa M)
theorem AS{a B u D o r:Prop}(K:a)(Z:B)(G:u)(M:D)(S:o)(k:Hid a->Hid B->Hid u->Hid D->Hid o->r):r:=k (aa K) (aa Z) (aa G) (aa M) (aa S)
theorem ye{a B u D o c r:Prop}(K:a)(Z:B)(G:u)(M:D)(S:o)(U:c)(k:Hid a->Hid B->Hid u->Hid D->Hid o->Hid c->r):r:=k (aa K) (aa Z) (aa G) (aa M) (aa S) (aa U)
theorem qK{p:Program}{a:Array Value}{w:World}{v:Value}{R:World->Prop}{Q:Ending->World->Prop}(c:Calls p f a w λe O=>e= .returned v/\R O)(k:∀O,R O->Q (.returned v) O):Calls p f a w Q:=c.mono λ_ O h=>h.1▸k O h.2
theorem qH{p:Program}{a:Array Value}{w:World}{v:Value}{R:World->Prop}{Q:Ending->World->Prop}(c:Calls p f a w λe O=>e= .returned v/\R O)(k:∀O,Hid (R O)->Q (.returned v) O):Calls p f a w Q:=c.mono λ_ O h=>h.1▸k O (aa h.2)
theorem aW:(∀(a:Act) (d:Tmp) (v:Value),a.put (some d) v={a with tmps:=a.tmps.setIfInBounds d v})/\(∀(a:Act) (v:Value),a.put none v=a)/\(∀(l:LV) (i:Nat) (x:Value),l.toArray.setIfInBounds i x=(l.set i x).toArray)/\
 (∀(a:Value) (l:LV) (n:Nat) (b:Value),(a::l).set (n+1) b=a::l.set n b)/\(∀(a:Value) (l:LV) (b:Value),(a::l).set 0 b=b::l):=
 ⟨λ_ _ _=>rfl,λ_ _=>rfl,λ_ _ _=>List.setIfInBounds_toArray ..,λ_ _ _ _=>rfl,λ_ _ _=>rfl⟩
theorem jM(h:a≠b):(a==b)=false:=by simpa using h
theorem Oc(h:a≠b):(a !=b)=true:=bne_iff_ne.2 h
theorem Md(h:a=b):(a !=b)=false:=by simp[h]
theorem Bl(h:a=b):(a==b)=true:=by simpa using h
structure Fr(S:Nat->Prop)(w O:World):Prop where
 os:O.os=w.os
 tape:O.tape=w.tape
 output:O.output=w.output
 size:w.heap.size<=O.heap.size
 block:∀k,k<w.heap.size->¬S k->O.heap[k]? =w.heap[k]?
def jo:Nat->Prop:=λ_=>False
theorem Fr.refl(S:Nat->Prop)(w:World):Fr S w w:=⟨rfl,rfl,rfl,io _,λ_ _ _=>rfl⟩
theorem Fr.trans{S:Nat->Prop}{a b c:World}(h:Fr S a b)(k:Fr S b c):Fr S a c:=
 ⟨k.os.trans h.os,k.tape.trans h.tape,k.output.trans h.output,qJ h.size k.size,λi z V=>(k.block i (Ox z h.size) V).trans (h.block i z V)⟩
theorem Fr.step{S T:Nat->Prop}{a b c:World}(h:Fr S a b)(k:Fr T b c)(A:∀i,T i->i<a.heap.size->S i):Fr S a c:=
 ⟨k.os.trans h.os,k.tape.trans h.tape,k.output.trans h.output,qJ h.size k.size,λi z V=>(k.block i (Ox z h.size) (λR=>V (A i R z))).trans (h.block i z V)⟩
theorem Fr.mono{S T:Nat->Prop}{a b:World}(h:Fr S a b)(A:∀i,i<a.heap.size->S i->T i):Fr T a b:=
 ⟨h.os,h.tape,h.output,h.size,λi z V=>h.block i z (λE=>V (A i z E))⟩
theorem Fr.drew{S:Nat->Prop}{a w:World}(h:Fr S a w):Fr S a w.drew:=⟨h.os,h.tape,h.output,h.size,h.block⟩
theorem Fr.drewN{S:Nat->Prop}{a w:World}(h:Fr S a w)(n:Nat):Fr S a (w.drewN n):=⟨h.os,h.tape,h.output,h.size,h.block⟩
theorem Fr.alloc{S:Nat->Prop}{a w:World}(h:Fr S a w)(o:Obj):Fr S a (w.alloc o):=
 ⟨h.os,h.tape,h.output,qJ h.size abN,λk Q V=>(Below.heap_alloc _ _ _ (Ox Q h.size)).trans (h.block k Q V)⟩
theorem Fr.setCell{S:Nat->Prop}{a w:World}(h:Fr S a w){p:Addr}(P:p.block<a.heap.size->S p.block)(u:Value):Fr S a (w.setCell p u):=
 ⟨h.os,h.tape,h.output,by simpa[World.setCell]using h.size,λk Q V=>(Below.heap_setCell _ _ _ _ (by rintro rfl;exact V (P Q))).trans (h.block k Q V)⟩
theorem Fr.grown{S:Nat->Prop}{a w O:World}{row:Option Nat}(h:Fr S a w)(C:w.grownBy O row)(U:∀k,row=some k->k<a.heap.size->S k):Fr S a O:=
 ⟨C.os.trans h.os,C.tape.trans h.tape,C.output.trans h.output,qJ h.size C.size,λk Q V=>(C.block k (Ox Q h.size) (λe=>V (U k e.symm Q))).trans (h.block k Q V)⟩
theorem Fr.below{a w:World}(h:Fr jo a w):Below a.heap.size a w:=⟨h.os,h.tape,h.output,h.size,λk Q=>h.block k Q (λx=>x)⟩
theorem Fr.cell{S:Nat->Prop}{w O:World}(h:Fr S w O){p:Addr}(P:p.block<w.heap.size)(V:¬S p.block):O.cell? p=w.cell? p:=World.cell?_of_block (w:=w) (h.block p.block P V)
def eK(w:World)(g:Nat)(t:TypeId)(cs:Vq):Prop:=w.heap[g]? =some (.cells cs t (0,0))
section
variable {w O:World} {g:Nat} {t:TypeId} {cs:Vq}
theorem eK.lt(h:eK w g t cs):g<w.heap.size:=by
 rcases YQ g w.heap.size with r|R
 ·exact r
 ·unfold eK at h;rw[Sb R]at h;cases h
theorem eK.cell(h:eK w g t cs)(i:Nat):w.cell? ⟨g,i,none⟩=cs[i]? :=cell_of_row w g i cs t (0,0) h
theorem eK.frozen(h:eK w g t cs)(i:Nat):w.frozen? ⟨g,i,none⟩=false:=by
 unfold eK at h;simp[World.frozen?,h]
theorem eK.new(w:World)(t:TypeId)(cs:Vq):eK (w.alloc (.cells cs t)) w.heap.size t cs:=heap_alloc_new w _
theorem eK.drew(h:eK w g t cs):eK w.drew g t cs:=h
theorem eK.drewN(h:eK w g t cs)(n:Nat):eK (w.drewN n) g t cs:=h
theorem eK.alloc(h:eK w g t cs)(o:Obj):eK (w.alloc o) g t cs:=(Below.heap_alloc w o g h.lt).trans h
theorem eK.bE(h:eK w g t cs)(i:Nat)(u:Value):eK (w.setCell ⟨g,i,none⟩ u) g t (cs.setIfInBounds i u):=by
 unfold eK at h⊢;simp[World.setCell,YL,h]
theorem eK.fr{S:Nat->Prop}(h:eK w g t cs)(B:Fr S w O)(C:¬S g):eK O g t cs:=(B.block g h.lt C).trans h
theorem eK.ne_{d:Nat}{a:TypeId}{r:Vq}(h:eK w g t cs)(E:eK w d a r)(X:t≠a):g≠d:=by
 rintro rfl;unfold eK at h E;rw[h]at E;injection E with E;injection E with _ R;exact X R
end
end
section
theorem fh(a:Addr)(n:Nat):(a.add n).block=a.block:=by unfold Addr.add;split<;>rfl
theorem eF(a:Addr)(i j:Nat):(a.add i).add j=a.add (i+j):=by
 unfold Addr.add;by_cases z:i=0<;>by_cases H:j=0<;>simp[z,H,Zt]
def Sl(w:World)(Q:Nat->Prop)(size:Nat)(A:OA)(n:Nat)(xs:LV):Prop:=
 xs.length=n*size/\(0<n->∃T,A=some T/\Q T.block/\T.block<w.heap.size/\∀j u,xs[j]? =some u->w.cell? (T.add j)=some u)
section
variable {w O:World} {Q i:Nat->Prop} {size n:Nat} {A:OA} {xs:LV}
theorem Sl.PO(w:World)(Q:Nat->Prop)(size:Nat)(A:OA):Sl w Q size A 0 []:=⟨by simp,λh=>absurd h oM⟩
theorem Sl.at_{k:Nat}(h:Sl w Q 1 A n xs)(W:k<n):∃T u,A=some T/\Q T.block/\T.block<w.heap.size/\xs[k]? =some u/\w.cell? (T.add k)=some u:=by
 obtain⟨T,e,d,B,D⟩:=h.2 oM;have F:k<xs.length:=by have:=h.1;omega
 exact⟨T,xs[k],e,d,B,g7 F,D k _ (g7 F)⟩
theorem Sl.fr{S:Nat->Prop}(h:Sl w Q size A n xs)(a:Fr S w O)(d:∀b,Q b->b<w.heap.size->¬S b):Sl O Q size A n xs:=
 ⟨h.1,λW=>by
  obtain⟨T,e,C,B,D⟩:=h.2 W;exact⟨T,e,C,Ox B a.size,λj u y=>(a.cell (p:=T.add j) (by rw[fh];exact B) (by rw[fh];exact d _ C B)).trans (D j u y)⟩⟩
theorem Sl.RY(h:Sl w Q size A n xs)(a:Fr jo w O):Sl O Q size A n xs:=h.fr a (λ_ _ _ x=>x)
theorem Sl.mono(h:Sl w Q size A n xs)(d:∀b,Q b->b<w.heap.size->i b):Sl w i size A n xs:=
 ⟨h.1,λW=>by
  obtain⟨T,e,C,B,D⟩:=h.2 W;exact⟨T,e,d _ C B,B,D⟩⟩
theorem Sl.qm{base:Nat}{e:TypeId}{c:Nat}(h:w.ownsRow base e size (.slice A n c) n xs):Sl w (λb=>base<=b) size A n xs:=by
 refine⟨h.1,λW=> ?_⟩;rcases h.2 with⟨_,K⟩|⟨g,cap,E,B,C,l,_⟩
 ·omega
 ·have o:A=some ⟨g,0,none⟩:=by injection B
  subst o;exact⟨_,rfl,C,eK.lt l,h.cells (g:=g) rfl⟩
end
theorem Ec{xs R:LI}{k:Nat}(J:k<xs.length)(E:k<R.length)(h:xs.take k=R.take k)(Y:xs[k]=R[k]):xs.take (k+1)=R.take (k+1):=by
 rw[VQ J,VQ E,h,Y]
theorem Nn{w:World}{base:Nat}{e:TypeId}{size:Nat}{v:Value}{n m:Nat}{xs R:LV}(h:w.ownsRow base e size v n xs)(W:n=m)(J:xs=R):w.ownsRow base e size v m R:=by subst W;subst J;exact h
theorem oI{S:Nat->Prop}{w O:World}{base:Nat}{e:TypeId}{size:Nat}{v:Value}{n:Nat}{xs:LV}(h:w.ownsRow base e size v n xs)(a:Fr S w O)(V:∀g,v.ownBlock=some g->¬S g):O.ownsRow base e size v n xs:=by
 refine⟨h.1,?_⟩;rcases h.2 with G|⟨g,cap,E,rfl,C,l,r⟩
 ·exact .inl G
 ·exact .inr ⟨g,cap,E,rfl,C,(a.block g (eK.lt l) (V g rfl)).trans l,r⟩
theorem sC{w O:World}{base:Nat}{e:TypeId}{size:Nat}{v:Value}{n:Nat}{xs:LV}(h:w.ownsRow base e size v n xs)(a:Fr jo w O):O.ownsRow base e size v n xs:=oI h a (λ_ _ x=>x)
end
section
def bm{α:Type}(xs:List α)(o:Nat)(V:List α):List α:=xs.take o++V++xs.drop (o+V.length)
theorem ig(xs:List α)(o:Nat)(V:List α)(h:o+V.length<=xs.length):(bm xs o V).length=xs.length:=by
 unfold bm;exact abS
theorem xB(xs:List α)(o m:Nat)(V:List α)(h:o+V.length<=m)(_hm:m<=xs.length):(bm xs o V).take m=bm (xs.take m) o V:=by
 unfold bm;rw[zc1,zc1,Xq];simp only[dB,fV,Oz]
 congr 1
 ·congr 1
  ·congr 1;omega
  ·rw[oJ oM]
 ·congr 1;omega
theorem JV{α a:Type}(f:α->a)(xs:List α)(o:Nat)(V:List α):(bm xs o V).map f=bm (xs.map f) o (V.map f):=by
 unfold bm;exact abN
theorem xq(xs:List α)(o:Nat)(v:α)(V:List α)(h:o+(V.length+1)<=xs.length):bm (xs.set o v) (o+1) V=bm xs o (v::V):=by
 unfold bm;rw[ZI oM,qR,show o+1+V.length=o+(V.length+1)by omega];have:(xs.set o v).take (o+1)=xs.take o++[v]:=by
  rw[VQ abS];simp[Zo]
 rw[this];exact abN
theorem uT(b:Nat)(e:TypeId):∀(V:LV) (o:Nat) (E:Vq) (w:World),eK w b e E->o+V.length<=E.size->eK (w.setCells b o V) b e (bm E.toList o V).toArray
 |[],o,E,w,h,_=>by simpa[World.setCells,bm]using h
 |v::V,o,E,w,h,F=>by
  rw[World.setCells];have Z:=uT b e V (o+1) _ _ (h.bE o v) (by simp at F⊢;omega);have G:(E.setIfInBounds o v).toList=E.toList.set o v:=by simp
  rw[G,xq _ _ _ _ (by simpa using F)]at Z;exact Z
theorem jS{S:Nat->Prop}{a:World}(b:Nat):∀(V:LV) (o:Nat) (w:World),Fr S a w->(b<a.heap.size->S b)->Fr S a (w.setCells b o V)
 |[],_,_,h,_=>by simpa[World.setCells]using h
 |v::V,o,w,h,B=>by
  rw[World.setCells];exact jS b V (o+1) _ (h.setCell B v) B
section
variable {w O:World} {base:Nat} {e:TypeId} {size n b cap:Nat} {xs V:LV}
theorem mF(h:w.ownsRow base e size (.slice (aO b) n cap) n xs):∃E,eK w b e E/\E.toList.take (n*size)=xs/\E.size=cap*size/\n<=cap/\cap<=maxLen/\base<=b:=by
 rcases h.2 with⟨K,_⟩|⟨g,c,E,o,C,l,W,p,V,R⟩
 ·cases K
 ·simp only[Value.slice.injEq,Wj,Addr.mk.injEq,and_true,true_and]at o
  obtain⟨rfl,rfl⟩:=o;exact⟨E,l,R,V,W,p,C⟩
theorem tq{E:Vq}(h:eK w b e E)(R:E.toList.take (n*size)=xs)(V:E.size=cap*size)(W:n<=cap)(p:cap<=maxLen)(B:base<=b):
 w.ownsRow base e size (.slice (aO b) n cap) n xs:=
 ⟨by rw[<-R,fV,UR,V];exact Hc (vz _ W),.inr ⟨b,cap,E,rfl,B,h,W,p,V,R⟩⟩
theorem kB(h:w.ownsRow base e size (.slice (aO b) n cap) n xs)(o:Nat)(q:o+V.length<=n*size):
 (w.setCells b o V).ownsRow base e size (.slice (aO b) n cap) n (bm xs o V):=by
 obtain⟨E,B,R,K,W,p,C⟩:=mF h;have J:n*size<=E.size:=by rw[K];exact vz _ W
 refine tq (uT b e V o E w B oM) ?_ ?_ W p C
 ·simp only
  rw[xB _ _ _ _ q (by simpa using J),R]
 ·rw[RT,ig _ _ _ abS,UR,K]
theorem Bu(h:w.ownsRow base e size (.slice (aO b) n cap) n xs)(o k:Nat):w.rangeAt b o ((xs.drop o).take k):=by
 obtain⟨E,K,R,_⟩:=mF h;intro j v B;rw[K.cell];rw[AW]at B
 split at B
 ·rw[zU,<-R,AW]at B
  split at B
  ·simpa using B
  ·cases B
 ·cases B
theorem iX(h:w.ownsRow base e size (.slice (aO b) n cap) n xs)(o k:Nat)(q:o+k<=n*size):w.there b o k:=by
 obtain⟨E,B,R,V,W,_⟩:=mF h;have J:n*size<=E.size:=by rw[V];exact vz _ W
 intro j H;exact⟨by rw[B.cell,Qk (show o+j<E.size by omega)];rfl,B.frozen _⟩
theorem dX{S:Nat->Prop}(h:w.ownsRow base e size (.slice (aO b) n cap) n xs)(a:Fr S w O)(V:¬S b):O.ownsRow base e size (.slice (aO b) n cap) n xs:=
 oI h a (λg C=>by
  obtain rfl:b=g:=by simpa[Value.ownBlock]using C
  exact V)
theorem iE{A:OA}{c:Nat}(h:w.ownsRow base e size (.slice A n c) n xs)(W:0<n):∃g,A=some ⟨g,0,none⟩:=by
 rcases h.2 with⟨_,K⟩|⟨g,cap,E,o,_⟩
 ·omega
 ·exact⟨g,by injection o⟩
end
theorem eK.range{w:World}{b:Nat}{e:TypeId}{E:Vq}(h:eK w b e E)(o k:Nat):w.rangeAt b o ((E.toList.drop o).take k):=by
 intro j v B;rw[h.cell];rw[AW]at B
 split at B
 ·rw[zU]at B
  simpa using B
 ·cases B
theorem eK.there{w:World}{b:Nat}{e:TypeId}{E:Vq}(h:eK w b e E)(o k:Nat)(q:o+k<=E.size):w.there b o k:=by
 intro j H;exact⟨by rw[h.cell,Qk (show o+j<E.size by omega)];rfl,h.frozen _⟩
theorem oE{P:Program}{w:World}(t l:TypeId)(base:Nat)(e:TypeId)(z:Value)(size bytes:Nat)(R:P.underlying t=some (.slice e))
 (p:(P.info? e).map (λi=>(i.zero,i.size,i.bytes))=some (some z,size,bytes)) (T:z.cells.size=size) (E:0<size)
 (v:Value) (n:Nat) (xs:LV) (r:w.ownsRow base e size v n xs)
 (a:Addr) (m c:Nat) (y:LV) (F:y.length=m*size) (D:∀j u,y[j]? =some u->w.cell? (a.add j)=some u) (Z:∀u∈y,u.oneCell'=true)
 (I:(n+m)*bytes<=140737488355328) (W:n+m<=140737488355328) (H:base<=w.heap.size):
 ∃g O,(Builtin.append_ #[t,t] l #[v,.slice (some a) m c]).run P w= .ok g O/\O.ownsRow base e size g (n+m) (xs++y)/\Fr (λb=>v.ownBlock=some b) w O/\
  (g.ownBlock=v.ownBlock\/g.ownBlock=some w.heap.size):=by
 obtain⟨q,X,x,S,B⟩:=info_parts p;obtain⟨g,O,Z,G,M,_,U⟩:=run_append_own_at (P:=P) w base t l e q z size bytes R X x S B T E v n xs r a m c y F D Z ab7 I H;exact⟨g,O,Z,G,(Fr.refl _ _).grown M (λk Q _=>Q),U⟩
theorem BF{P:Program}{ops:Array Oper}{rest:List Oper}{o:Oper}{ac:Act}{Q:Exit->Act->World->Prop}{w:World}(A:o.guard=none)(s x:Operand)(t:TypeId)
 (q:o.op= .call {callee:= .builtin .append,args:= #[s,x],argTypes:= #[t,t]})
 (base:Nat) (e:TypeId) (z:Value) (size bytes:Nat) (R:P.underlying t=some (.slice e))
 (p:(P.info? e).map (λi=>(i.zero,i.size,i.bytes))=some (some z,size,bytes)) (T:z.cells.size=size) (E:0<size)
 (v:Value) (n:Nat) (xs:LV) (V:ac.eval s=v) (r:w.ownsRow base e size v n xs)
 (a:Addr) (m c:Nat) (J:ac.eval x= .slice (some a) m c) (y:LV) (F:y.length=m*size) (D:∀j u,y[j]? =some u->w.cell? (a.add j)=some u) (Z:∀u∈y,u.oneCell'=true)
 (I:(n+m)*bytes<=140737488355328) (W:n+m<=140737488355328) (H:base<=w.heap.size)
 (h:∀g O,O.ownsRow base e size g (n+m) (xs++y)->Fr (λb=>v.ownBlock=some b) w O->(g.ownBlock=v.ownBlock\/g.ownBlock=some w.heap.size)->wpList P ops Q rest (ac.put o.dst g) O):
 wpList P ops Q (o::rest) ac w:=by
 obtain⟨g,O,d,G,M,S⟩:=oE (P:=P) (w:=w) t o.type base e z size bytes R p T E v n xs r a m c y F D Z I W H;refine wpList_plain A λK N=> ?_;unfold Oper.wp execOp;simp only[q,resolve,invoke,builtin,Sem.run_bind,Sem.run_pure,Result.andThen_ok,CB,nG,zF,V,J,d];exact N _ _ (h g O G M S)
theorem CT(k:IntKind)(l:LI):∀u∈l.map (Value.int k),u.oneCell'=true:=by
 intro u y;obtain⟨x,_,rfl⟩:=um.1 y
 rfl
theorem fP{P:Program}{id:Nat}{Q:Exit->Act->World->Prop}{a:Act}{w:World}{l:List Oper}(n:Nat)(p:P.follows .mixedOrders=true)(A:Region.lexTailB .any l.toArray n=true)
 (h:∀W:World,W=w.drew->wpStill P l.toArray W (λt=>wpList P l.toArray Q (l.drop n) t W) (l.take n) a):(Code.region id l.toArray true).wp P Q a w:=
 wp_region_still_tail n p A (h _ rfl)
theorem Cb(w:World)(p:Addr):w.drew.cell? p=w.cell? p:=rfl
theorem Ex(w:World)(p:Addr):w.drew.frozen? p=w.frozen? p:=rfl
theorem rS(e:TypeId):∀(V:LV) (o:Nat) (w:World) (cs:Vq),o+V.length<=cs.size->(w.alloc (.cells cs e)).setCells w.heap.size o V=w.alloc (.cells (bm cs.toList o V).toArray e)
 |[],o,w,cs,_=>by simp[World.setCells,bm]
 |v::V,o,w,cs,h=>by
  rw[World.setCells,World.setCell_alloc_at _ _ _ _ _ rfl,rS e V (o+1) w _ acP]
  congr 2
  rw[ZX,xq _ _ _ _ ace]
theorem foldl_set(cs:LV):∀(k:Nat) (b:Vq),k+cs.length=b.size->
 ((cs.zipIdx k).foldl (λ(a:Vq) (x:Value×Nat)=>a.setIfInBounds (0+x.2) x.1) b).toList=b.toList.take k++cs:=by
 induction cs with
 |nil=>intro k b h;simp only[List.zipIdx_nil,List.foldl_nil,xd];rw[oJ acP]
 |cons c cs K=>
  intro k b h;simp only[List.zipIdx_cons,List.foldl_cons,xS];have:=K (k+1) (b.setIfInBounds k c) acP;simp only[xS]at this;rw[this,ZX,VQ acP];simp[Zo]
theorem tK{P:Program}(w:World)(t e:TypeId)(cs:Vq)(z:Value)(bytes:Nat)(y:P.underlying t=some (.slice e))
 (p:(P.info? e).map (λi=>(i.zero,i.size,i.bytes))=some (some z,cs.size,bytes)) (K:0<cs.size) (a:cs.size<=1000):
 (Instr.buildSlice t 1 #[(0,.agg cs)]).run P w= .ok (.slice (aO w.heap.size) 1 1) (w.alloc (.cells cs e)):=by
 obtain⟨q,X,x,S,B⟩:=info_parts p;refine run_buildSlice w t e 1 _ cs q z y X x (by rw[S];omega) (by rw[S];omega) ?_;simp only[Instr.fill,Value.cells,S,XJ,Eh];rw[iN abN]
 congr 1
 apply ZL.1;have:=foldl_set cs.toList 0 ((Array.range cs.size).map (z.cells[·%z.cells.size]!)) abN;simp only[Hd,zm]at this;rw[<-this,<-Array.foldl_toList];simp
 rfl
section
variable {P:Program} {ops:Array Oper} {rest:List Oper} {o:Oper} {a:Act} {Q:Exit->Act->World->Prop} {w O:World} {v:Value}
theorem Mh(A:o.guard=none)(t:TypeId)(k:Nat)(x:Operand)(u:Value)(q:o.op= .build t #[(k,x)])(J:a.eval x=u)
 (d:(Instr.build t #[(k,u)]).run P w= .ok v O) (h:wpList P ops Q rest (a.put o.dst v) O):wpList P ops Q (o::rest) a w:=by
 refine wpList_plain A λK N=> ?_;unfold Oper.wp execOp;simp only[q,J,CB,nG,zF,Sem.run_bind,Sem.run_pure,Result.andThen_ok,d];exact N _ _ h
theorem zR(A:o.guard=none)(t:TypeId)(q:o.op= .alloc t)
 (d:(Instr.alloc t true (.tuple #[])).run P w= .ok v O) (h:wpList P ops Q rest (a.put o.dst v) O):wpList P ops Q (o::rest) a w:=by
 refine wpList_plain A λK N=> ?_;unfold Oper.wp execOp;simp only[q,Sem.run_bind,Sem.run_pure,Result.andThen_ok,d];exact N _ _ h
theorem rF(A:o.guard=none)(t:TypeId)(x y:Operand)(p u:Value)(q:o.op= .store t x y)(J:a.eval x=p)(E:a.eval y=u)
 (d:(Instr.storeAt t p u).run P w= .ok () O) (h:wpList P ops Q rest (a.put o.dst undef) O):wpList P ops Q (o::rest) a w:=by
 exact adR
theorem Db(A:o.guard=none)(t:TypeId)(x:Operand)(p:Value)(q:o.op= .load t x)(J:a.eval x=p)
 (d:(Instr.loadAt t p).run P w= .ok v O) (h:wpList P ops Q rest (a.put o.dst v) O):wpList P ops Q (o::rest) a w:=by
 refine wpList_plain A λK N=> ?_;unfold Oper.wp execOp;simp only[q,J,Sem.run_bind,Sem.run_pure,Result.andThen_ok,d];exact N _ _ h
theorem KD(A:o.guard=none)(x y:Operand)(tx l:TypeId)(p u:Value)(q:o.op= .call {callee:= .builtin .copy,args:= #[x,y],argTypes:= #[tx,l]})(J:a.eval x=p)(E:a.eval y=u)
 (d:(Builtin.copy_ #[tx,l] o.type #[p,u]).run P w= .ok v O) (h:wpList P ops Q rest (a.put o.dst v) O):wpList P ops Q (o::rest) a w:=by
 exact adG
end
theorem As{P:Program}{ops:Array Oper}{rest:List Oper}{o:Oper}{ac:Act}{Q:Act->Prop}{w:World}{v:Value}(A:o.guard=none)(t:TypeId)(x:Operand)(p:Value)(q:o.op= .load t x)(J:ac.eval x=p)
 (d:(Instr.loadAt t p).run P w= .ok v w) (h:wpStill P ops w Q rest (ac.put o.dst v)):wpStill P ops w Q (o::rest) ac:=by
 unfold wpStill;rw[iP (by simp[Region.wanted,A])];unfold Oper.still execOp;simp only[q,J,Sem.run_bind,Sem.run_pure,Result.andThen_ok,d];exact⟨rfl,h⟩
theorem FO{P:Program}{w:World}(d i l e:TypeId)(b o a g:Nat)(A:OA)(n c:Nat)(cs:LV)(Q:Nat->Prop)
 (y:P.underlying d=some (.slice e)) (V:(P.info? e).map (·.size)=some 1) (U:Sl w Q 1 A n cs) (W:n<=a) (R:w.there b o n) (Z:∀v∈cs,v.oneCell'=true):
 (Builtin.copy_ #[d,i] l #[.slice (some ⟨b,o,none⟩) a g,.slice A n c]).run P w= .ok (goInt n) (w.setCells b o cs):=by
 have F:cs.length=n:=by simpa using U.1
 rcases RX n with K|K
 ·subst K
  obtain rfl:=BJ F;rw[run_copy_none w d i l e _ _ a g 0 c y V abN]
  rfl
 ·obtain⟨T,rfl,_,_,D⟩:=U.2 K
  have k:Nat.min n a=n:=Hc W;have:=run_copy_cells (P:=P) w d i l e b o a g T n c cs y V (by rw[k,F]) D (λj H=>(R j oM).1) (λj H=>(R j oM).2) Z;rw[this,F]
end
def bv(l:LI):LV:=l.map (Value.int .u8)
@[simp] theorem Nr(l:LI):(bv l).length=l.length:=by simp[bv]
theorem jJ(l:LI):∀u∈bv l,u.oneCell'=true:=CT .u8 l
theorem wE(l V:LI)(o:Nat):bv (bm l o V)=bm (bv l) o (bv V):=JV _ _ _ _
theorem wV(a b:LI):bv (a++b)=bv a++bv b:=by simp[bv]
theorem Un(a:LI)(x:Int):bv (a++[x])=bv a++[.int .u8 x]:=by simp[bv]
def aV(n:Int)(k:Nat):LI:=(List.range k).map λi=>n/256^i%256
theorem Cm(n:Int):aV n 0=[]:=rfl
theorem Nl(n:Int)(k:Nat):aV n (k+1)=aV n k++[n/256^k%256]:=by simp[aV,XH]
theorem au(n:Int)(k:Nat):(aV n k).length=k:=by simp[aV]
def bM(n size:Int):LI:=if size<1\/8<size then []else aV n size.toNat
theorem dU(n size:Int):(bM n size).length<=8:=by
 unfold bM
 split
 ·exact abN
 ·rw[au];omega
def bG(b:LI):LI:=aV (b.take 1000).length 2++b.take 1000
theorem iJ(b:LI):(bG b).length<=1002:=by
 unfold bG;rw[dB,au,fV];omega
structure Rd where
 xs:LI
 s:Bool
def Rd.take(r:Rd)(n:Nat):LI×Rd:=if r.s=true\/r.xs.length<n then([],⟨[],true⟩)else(r.xs.take n,⟨r.xs.drop n,false⟩)
def iq:LI->Int
 |[]=>0
 |x::r=>x+256*iq r
def Rd.size(r:Rd)(size:Int):Nat:=if size<1\/8<size then r.xs.length+1 else size.toNat
def Rd.num(r:Rd)(size:Int):Int×Rd:=(iq (r.take (r.size size)).1,(r.take (r.size size)).2)
def Rd.count(n:Int)(r:Rd):Nat:=if 1000<n then r.xs.length+1 else n.toNat
def Rd.gI(r:Rd):LI×Rd:=(r.num 2).2.take (Rd.count (r.num 2).1 (r.num 2).2)
def Rd.kw(r:Rd):Int:=if r.s=true then 10 else if 0<r.xs.length then 11 else 0
def isByte(x:Int):Prop:=0<=x/\x<=255
def Bytes(xs:LI):Prop:=∀x∈xs,isByte x
theorem Bytes.take{xs:LI}(h:Bytes xs)(n:Nat):Bytes (xs.take n):=λx J=>h x (TH J)
theorem Bytes.drop{xs:LI}(h:Bytes xs)(n:Nat):Bytes (xs.drop n):=λx J=>h x (TW J)
theorem Bytes.append{xs R:LI}(h:Bytes xs)(k:Bytes R):Bytes (xs++R):=λx J=>(oc.1 J).elim (h x) (k x)
theorem Bytes.nil:Bytes []:=λ_ h=>absurd h (qo)
theorem cd(n:Int)(k:Nat):Bytes (aV n k):=by
 intro x J;obtain⟨i,_,rfl⟩:=um.1 J;unfold isByte;omega
theorem iK(n size:Int):Bytes (bM n size):=by
 unfold bM
 split
 ·exact Bytes.nil
 ·exact cd _ _
theorem Rd.sj(r:Rd)(n:Nat)(h:Bytes r.xs):Bytes (r.take n).1/\Bytes (r.take n).2.xs:=by
 unfold Rd.take
 split
 ·exact⟨Bytes.nil,Bytes.nil⟩
 ·exact⟨h.take n,h.drop n⟩
theorem Rd.take_len(r:Rd)(n:Nat):(r.take n).1.length<=n/\(r.take n).1.length<=r.xs.length/\(r.take n).2.xs.length<=r.xs.length:=by
 unfold Rd.take
 split
 ·exact abN
 ·exact abS
theorem RA(xs:LI)(x:Int):iq (xs++[x])=iq xs+x*256^xs.length:=by
 induction xs with
 |nil=>simp[iq]
 |cons y r K=>
  simp only[Oe,iq,K,qR,Zq,Int.mul_add];rw[show 256*(x*256^r.length)=x*(256^r.length*256)by rw[Int.mul_left_comm,zdq 256 (256^r.length)]];omega
theorem iS{xs:LI}(h:Bytes xs):0<=iq xs/\iq xs<256^xs.length:=by
 induction xs with
 |nil=>simp[iq]
 |cons y r K=>
  have Z:=K (λx J=>h x (Bd _ J));have G:isByte y:=h y (Eg);unfold isByte at G;simp only[iq,qR,Zq];omega
theorem Rx{k:Nat}(h:k<=8):(256:Int)^k<=18446744073709551616:=by
 have:∀k,k<=8->(256:Int)^k<=18446744073709551616:=dC
 exact this k h
section
section
variable {P:Program} {ops:Array Oper} {Q:Exit->Act->World->Prop} {S:World->Prop} {L:Nat}
def AT(P:Program)(ops:Array Oper)(Q:Exit->Act->World->Prop)(S:World->Prop)(L:Nat):Nat->Array Bool->Act->World->Prop
 |0,listed,a,w=>Region.ready .any ops listed=[]/\Q .normal a w
 |k+1,listed,a,w=>(Region.ready .any ops listed=[]->Q .normal a w)/\
  ∀i∈Region.ready .any ops listed,wpOp P ops Q i (λt O=>(i<L->S O)/\AT P ops Q S L k (listed.setIfInBounds i true) t O) a w
theorem mD:∀(k:Nat) (listed:Array Bool) (a:Act) (w:World),AT P ops Q S L k listed a w->wpAny P .any ops Q k listed a w
 |0,_,_,_,h=>h
 |k+1,_,_,_,h=>⟨h.1,λi z=>wpOp_mono (λt O E=>mD k _ t O E.2) (h.2 i z)⟩
def rM(ops:Array Oper)(L:Nat):Bool:=
 (List.range ops.size).all λj=>decide (j<L)||match ops[j]? with
  |none=>true
  |some o=>(List.range L).all λi=>o.after.any λe=>Region.binds .any e&&e.on==i
theorem IL(h:rM ops L=true){listed:Array Bool}{j:Nat}(H:j∈Region.ready .any ops listed)(g:L<=j){i:Nat}(z:i<L):listed.getD i false=true:=by
 obtain⟨_,o,q,G⟩:=mem_ready.1 H;unfold rM at h;have K:=AR.1 h j (Ow.2 (CE.1 q).1);rw[q]at K;simp only[OR,decide_eq_true_eq]at K;have Z:=AR.1 (K.resolve_left oM) i (Ow.2 z);simp only[ZY]at Z;obtain⟨e,Y,B⟩:=Z;rw[mf,beq_iff_eq]at B;rw[<-B.2];exact G e Y B.1
theorem o6{listed:Array Bool}{i:Nat}(h:i∈Region.ready .any ops listed):listed.getD i false=true->False:=by
 intro Z;have K:=(mem_ready.1 h).1;rcases YQ i listed.size with E|E
 ·simp[E]at K Z;rw[K]at Z;cases Z
 ·simp[Sb E]at Z
theorem wP{i:Nat}{d:Oper}{v:Value}(z:ops[i]? =some d)(x:∀(j:Nat) (o:Oper) cs b,ops[j]? =some o->o.op≠ .select cs b)(u:rM ops L=true)(g:i<L)
 (C:∀c a w,Q (.panic c) (a.put d.dst v) w->Q (.panic c) a w):
 ∀(k:Nat) (listed:Array Bool) (a:Act) (w:World),
  (∀j J,ops[j]? =some J->j≠i->listed.getD j true=false->(∀e∈J.after,Region.binds .any e=true->e.on≠i)->d.apart ops J=true)->
  i∈Region.ready .any ops listed->YieldsIf P ops S d v a->S w->
  AT P ops Q S L k (listed.setIfInBounds i true) (a.put d.dst v) w->AT P ops Q S L (k+1) listed a w:=by
 have A0:i<ops.size:=(CE.1 z).1;intro k
 induction k with
 |zero=>
  intro listed a w _ U E N H;refine⟨λh=>(by rw[h]at U;cases U),λj q=> ?_⟩;by_cases l:j=i
  ·subst l;exact E.wpOp z N ⟨λ_=>N,H⟩
  ·have:=ready_mono q l
   rw[H.1]at this
   cases this
 |succ k W=>
  intro listed a w y U E N H;refine⟨λh=>(by rw[h]at U;cases U),λj q=> ?_⟩;by_cases l:j=i
  ·subst l;exact E.wpOp z N ⟨λ_=>N,H⟩
  ·have A:j<L:=by
    refine Nat.lt_of_not_le λe=>o6 U (IL u q e g)
   have Z:=H.2 j (ready_mono q l);obtain⟨F,J,r,T⟩:=mem_ready.1 q;have V:∀e∈J.after,Region.binds .any e=true->e.on≠i:=λe Y B heq=>o6 U (by rw[<-heq];exact T e Y B);have G:=wpOp_putIf r (y j J r l F V) (λcs b=>x i d cs b z) (λcs b=>x j J cs b r) C E Z;have R:∀m n,ops[m]? =some n->m≠i->(listed.setIfInBounds j true).getD m true=false->
    (∀e∈n.after,Region.binds .any e=true->e.on≠i)->d.apart ops n=true:=λm n p K I X=>by
    refine y m n p K ?_ X;by_cases D:j=m
    ·subst D;exact F
    ·rw[getD_set_ne true D]at I;exact I
   refine wpOp_mono (λt O M=>⟨λ_=>M.2.1 A,W (listed.setIfInBounds j true) t O R (ready_mono U (Vh l)) M.1 (M.2.1 A) ?_⟩) G;rw[Array.setIfInBounds_comm _ _ l];exact M.2.2
def jm(P:Program)(ops:Array Oper)(S:World->Prop)(K:Act->Prop):List Nat->Act->Prop
 |[],a=>K a
 |i::r,a=>∃o v,ops[i]? =some o/\YieldsIf P ops S o v a/\jm P ops S K r (a.put o.dst v)
def dJ(P:Program)(ops:Array Oper)(Q:Exit->Act->World->Prop)(S:World->Prop)(L:Nat):List Nat->Act->World->Prop
 |[],a,w=>Q .normal a w
 |i::r,a,w=>∃o,ops[i]? =some o/\(if Region.wanted o (yielded ops a.tmps)=true then o.wp P a w (λt O=>(i<L->S O)/\dJ P ops Q S L r t O) Q else(i<L->S w)/\dJ P ops Q S L r (a.put o.dst undef) w)
def nz(ops:Array Oper)(L:Nat):List Nat->Array Bool->Option (Array Bool)
 |[],listed=>some listed
 |i::r,listed=>if Region.free .any ops listed i&&(Region.ready .any ops listed).contains i&&decide (i<L)then nz ops L r (listed.setIfInBounds i true)else none
def seqB(ops:Array Oper):List Nat->Array Bool->Bool
 |[],listed=>Region.ready .any ops listed==[]
 |i::r,listed=>Region.ready .any ops listed==[i]&&seqB ops r (listed.setIfInBounds i true)
def Yc(ops:Array Oper)(L:Nat)(y T:List Nat):Bool:=
 Region.noSelect ops&&rM ops L&&(y.length+T.length==ops.size)&&
  match nz ops L y (Array.replicate ops.size false)with
  |some l=>seqB ops T l
  |none=>false
theorem ly:∀(T:List Nat) (listed:Array Bool) (a:Act) (w:World),seqB ops T listed=true->dJ P ops Q S L T a w->AT P ops Q S L T.length listed a w
 |[],listed,a,w,h,V=>⟨by simpa[seqB]using h,V⟩
 |i::r,listed,a,w,h,V=>by
  simp only[seqB,mf,beq_iff_eq]at h;obtain⟨o,q,V⟩:=V;refine⟨λK=>(by rw[h.1]at K;cases K),λj H=> ?_⟩;rw[h.1]at H;obtain rfl:=nN.1 H;unfold wpOp;simp only[q]
  split
  ·rename_i M
   rw[iP M]at V;exact .inl (Oper.wp_mono (λt O E=>⟨E.1,ly r _ t O h.2 E.2⟩) V)
  ·rename_i M
   rw[iN M]at V;exact⟨V.1,ly r _ _ w h.2 V.2⟩
def So(ops:Array Oper)(listed:Array Bool)(n:Nat):List (List Nat)->Bool
 |e=>Region.ready .any ops listed==e.filterMap List.head? &&e.all (λT=>T.length==n+1&&match T with
  |i::r=>seqB ops r (listed.setIfInBounds i true)
  |[]=>false)
theorem SY{n:Nat}{e:List (List Nat)}{listed:Array Bool}{a:Act}{w:World}(h:So ops listed n e=true)(X:Region.ready .any ops listed≠[])
 (V:∀T∈e,dJ P ops Q S L T a w):AT P ops Q S L (n+1) listed a w:=by
 simp only[So,mf,beq_iff_eq]at h;refine⟨λK=>absurd K X,λj H=> ?_⟩;rw[h.1]at H;obtain⟨T,R,Y⟩:=List.mem_filterMap.1 H;have G:=AR.1 h.2 T R;simp only[mf,beq_iff_eq]at G
 match T,Y,G,V T R with
 |i::r,Y,G,b=>
  obtain rfl:i=j:=by simpa using Y
  have g:r.length=n:=by simpa using G.1
  obtain⟨o,q,b⟩:=b;unfold wpOp;simp only[q];rw[<-g]
  split
  ·rename_i M
   rw[iP M]at b;exact .inl (Oper.wp_mono (λt O E=>⟨E.1,ly r _ t O G.2 E.2⟩) b)
  ·rename_i M
   rw[iN M]at b;exact⟨b.1,ly r _ _ w G.2 b.2⟩
theorem Cd(x:∀(j:Nat) (o:Oper) cs b,ops[j]? =some o->o.op≠ .select cs b)(I:rM ops L=true)(C:∀d v c a w,Q (.panic c) (a.put d v) w->Q (.panic c) a w)
 (n:Nat) (e:List (List Nat)) {w:World} (N:S w):∀(y:List Nat) (listed l:Array Bool) (a:Act),nz ops L y listed=some l->So ops l n e=true->Region.ready .any ops l≠[]->
  jm P ops S (λt=>∀T∈e,dJ P ops Q S L T t w) y a->AT P ops Q S L (y.length+(n+1)) listed a w
 |[],listed,l,a,h,V,X,R=>by
  simp only[nz,Wj]at h;subst h;rw[MJ,xS];exact SY V X R
 |i::r,listed,l,a,h,V,X,R=>by
  unfold nz at h
  split at h
  ·rename_i D
   simp only[mf,decide_eq_true_eq]at D;obtain⟨⟨W,U⟩,g⟩:=D;obtain⟨o,v,q,E,R⟩:=R;have:=Cd x I C n e N r _ l _ h V X R;rw[qR,show r.length+1+(n+1)=(r.length+(n+1))+1 by omega];exact wP q x I g (C _ _) _ listed a w (Region.free_spec q W) (by simpa using U) E N this
  ·cases h
def UT(ops:Array Oper)(L n:Nat)(y:List Nat)(e:List (List Nat)):Bool:=
 Region.noSelect ops&&rM ops L&&(y.length+(n+1)==ops.size)&&
  match nz ops L y (Array.replicate ops.size false)with
  |some l=>So ops l n e&&Region.ready .any ops l !=[]
  |none=>false
theorem FH(x:∀(j:Nat) (o:Oper) cs b,ops[j]? =some o->o.op≠ .select cs b)(I:rM ops L=true)(C:∀d v c a w,Q (.panic c) (a.put d v) w->Q (.panic c) a w)
 (T:List Nat) {w:World} (N:S w):∀(y:List Nat) (listed l:Array Bool) (a:Act),nz ops L y listed=some l->seqB ops T l=true->
  jm P ops S (λt=>dJ P ops Q S L T t w) y a->AT P ops Q S L (y.length+T.length) listed a w
 |[],listed,l,a,h,V,R=>by
  simp only[nz,Wj]at h;subst h;simpa using ly T _ _ _ V R
 |i::r,listed,l,a,h,V,R=>by
  unfold nz at h
  split at h
  ·rename_i D
   simp only[mf,decide_eq_true_eq]at D;obtain⟨⟨W,U⟩,g⟩:=D;obtain⟨o,v,q,E,R⟩:=R;have:=FH x I C T N r _ l _ h V R;rw[qR,show r.length+1+T.length=(r.length+T.length)+1 by omega];exact wP q x I g (C _ _) _ listed a w (Region.free_spec q W) (by simpa using U) E N this
  ·cases h
theorem bT{id:Nat}{a:Act}{w:World}{l:List Oper}(S:World->Prop)(L:Nat)(y T:List Nat)(p:P.follows .mixedOrders=true)(A:Yc l.toArray L y T=true)
 (C:∀d v c a w,Q (.panic c) (a.put d v) w->Q (.panic c) a w)
 (h:∀W:World,W=w.drew->S W/\jm P l.toArray S (λt=>dJ P l.toArray Q S L T t W) y a):(Code.region id l.toArray true).wp P Q a w:=by
 obtain⟨N,R⟩:=h _ rfl;simp only[Yc,mf,beq_iff_eq]at A;obtain⟨⟨⟨x,I⟩,g⟩,A⟩:=A
 split at A
 ·rename_i b z
  refine wp_region_any p (mD (S:=S) (L:=L) _ _ _ _ ?_);rw[<-g];exact FH (Region.noSelect_spec x) I C T N y _ b a (by rw[g];exact z) A R
 ·cases A
end
section
variable {P:Program} {l:List Oper} {Q:Exit->Act->World->Prop} {S:World->Prop} {L:Nat}
theorem wZ{id:Nat}{a:Act}{w:World}{l:List Oper}(S:World->Prop)(L n:Nat)(y:List Nat)(e:List (List Nat))(p:P.follows .mixedOrders=true)(A:UT l.toArray L n y e=true)
 (C:∀d v c a w,Q (.panic c) (a.put d v) w->Q (.panic c) a w)
 (h:∀W:World,W=w.drew->S W/\jm P l.toArray S (λt=>∀T∈e,dJ P l.toArray Q S L T t W) y a):(Code.region id l.toArray true).wp P Q a w:=by
 obtain⟨N,R⟩:=h _ rfl;simp only[UT,mf,beq_iff_eq]at A;obtain⟨⟨⟨x,I⟩,g⟩,A⟩:=A
 split at A
 ·rename_i b z
  simp only[mf,bne_iff_ne]at A;refine wp_region_any p (mD (S:=S) (L:=L) _ _ _ _ ?_);rw[<-g];exact Cd (Region.noSelect_spec x) I C n e N y _ b a (by rw[g];exact z) A.1 A.2 R
 ·cases A
theorem take_nil{K:Act->Prop}{a:Act}(h:K a):jm P l.toArray S K [] a:=h
theorem bJ{K:Act->Prop}{i:Nat}{r:List Nat}{a:Act}{o:Oper}{v:Value}(q:l[i]? =some o)(C:o.guard=none)
 (d:∀W,S W->(execOp a.eval o).run P W= .ok (.value v) W) (h:jm P l.toArray S K r (a.put o.dst v)):jm P l.toArray S K (i::r) a:=
 ⟨o,v,by simpa using q,.inl ⟨by simp[Region.wanted,C],d⟩,h⟩
theorem MU{K:Act->Prop}{i:Nat}{r:List Nat}{a:Act}{o:Oper}{v:Value}(q:l[i]? =some o)(C:o.guard=none)(t:TypeId)(x:Operand)(p:Value)(X:o.op= .load t x)(B:a.eval x=p)
 (d:∀W,S W->(Instr.loadAt t p).run P W= .ok v W) (h:jm P l.toArray S K r (a.put o.dst v)):jm P l.toArray S K (i::r) a:=
 bJ q C (λW J=>by unfold execOp;simp only[X,B,Sem.run_bind,Sem.run_pure,Result.andThen_ok,d W J]) h
theorem cD{a:Act}{w:World}(h:Q .normal a w):dJ P l.toArray Q S L [] a w:=h
theorem Iu{i:Nat}{r:List Nat}{a:Act}{w:World}{o:Oper}(q:l[i]? =some o)(C:o.guard=none)
 (h:o.wp P a w (λt O=>(i<L->S O)/\dJ P l.toArray Q S L r t O) Q):dJ P l.toArray Q S L (i::r) a w:=
 ⟨o,by simpa using q,by rw[iP acv];exact h⟩
theorem lC{i:Nat}{r:List Nat}{a:Act}{w O:World}{o:Oper}{v:Value}(q:l[i]? =some o)(C:o.guard=none)
 (d:(execOp a.eval o).run P w= .ok (.value v) O) (N:i<L->S O) (h:dJ P l.toArray Q S L r (a.put o.dst v) O):dJ P l.toArray Q S L (i::r) a w:=
 Iu q C (by unfold Oper.wp;rw[d];exact⟨N,h⟩)
theorem bF{i:Nat}{r:List Nat}{a:Act}{w:World}{o:Oper}{v:Value}(q:l[i]? =some o)(C:o.guard=none)
 (d:(execOp a.eval o).run P w= .ok (.value v) w) (N:i<L->S w) (h:dJ P l.toArray Q S L r (a.put o.dst v) w):dJ P l.toArray Q S L (i::r) a w:=
 lC q C d N h
theorem Cj{i:Nat}{r:List Nat}{a:Act}{w O:World}{o:Oper}{v:Value}(q:l[i]? =some o)(C:o.guard=none)(t:TypeId)(E:List (Nat×Operand))(I:List (Nat×Value))(X:o.op= .build t E.toArray)(J:E.map (λp=>(p.1,a.eval p.2))=I)
 (d:(Instr.build t I.toArray).run P w= .ok v O) (N:i<L->S O) (h:dJ P l.toArray Q S L r (a.put o.dst v) O):dJ P l.toArray Q S L (i::r) a w:=
 lC q C (by unfold execOp;simp only[X,CB,J,Sem.run_bind,Sem.run_pure,Result.andThen_ok,d]) N h
theorem LH{i:Nat}{r:List Nat}{a:Act}{w O:World}{o:Oper}{v:Value}(q:l[i]? =some o)(C:o.guard=none)(t:TypeId)(x:Operand)(u:Value)(X:o.op= .box t x)(J:a.eval x=u)
 (d:(Instr.box t u).run P w= .ok v O) (N:i<L->S O) (h:dJ P l.toArray Q S L r (a.put o.dst v) O):dJ P l.toArray Q S L (i::r) a w:=
 lC q C (by unfold execOp;simp only[X,J,Sem.run_bind,Sem.run_pure,Result.andThen_ok,d]) N h
theorem cE{i:Nat}{r:List Nat}{a:Act}{w O:World}{o:Oper}(q:l[i]? =some o)(C:o.guard=none)(t:TypeId)(x y:Operand)(p u:Value)(X:o.op= .store t x y)(J:a.eval x=p)(E:a.eval y=u)
 (d:(Instr.storeAt t p u).run P w= .ok () O) (N:i<L->S O) (h:dJ P l.toArray Q S L r (a.put o.dst undef) O):dJ P l.toArray Q S L (i::r) a w:=
 Iu q C (by unfold Oper.wp execOp;simp only[X,J,E,Sem.run_bind,Sem.run_pure,Result.andThen_ok,d];exact⟨N,h⟩)
theorem bY{i:Nat}{r:List Nat}{a:Act}{w O:World}{o:Oper}{v:Value}(q:l[i]? =some o)(C:o.guard=none)(t:TypeId)(len k:Nat)(x:Operand)(u:Value)(X:o.op= .buildSlice t len #[(k,x)])(J:a.eval x=u)
 (d:(Instr.buildSlice t len #[(k,u)]).run P w= .ok v O) (N:i<L->S O) (h:dJ P l.toArray Q S L r (a.put o.dst v) O):dJ P l.toArray Q S L (i::r) a w:=
 lC q C (by unfold execOp;simp only[X,J,CB,nG,zF,Sem.run_bind,Sem.run_pure,Result.andThen_ok,d]) N h
theorem AG{i:Nat}{r:List Nat}{ac:Act}{w:World}{o:Oper}(q:l[i]? =some o)(C:o.guard=none)(s x:Operand)(t:TypeId)
 (X:o.op= .call {callee:= .builtin .append,args:= #[s,x],argTypes:= #[t,t]})
 (base:Nat) (e:TypeId) (z:Value) (size bytes:Nat) (A:P.underlying t=some (.slice e))
 (p:(P.info? e).map (λi=>(i.zero,i.size,i.bytes))=some (some z,size,bytes)) (T:z.cells.size=size) (B:0<size)
 (v:Value) (n:Nat) (xs:LV) (V:ac.eval s=v) (U:w.ownsRow base e size v n xs)
 (a:Addr) (m c:Nat) (J:ac.eval x= .slice (some a) m c) (y:LV) (F:y.length=m*size) (D:∀j u,y[j]? =some u->w.cell? (a.add j)=some u) (Z:∀u∈y,u.oneCell'=true)
 (I:(n+m)*bytes<=140737488355328) (W:n+m<=140737488355328) (H:base<=w.heap.size)
 (h:∀g O,O.ownsRow base e size g (n+m) (xs++y)->Fr (λb=>v.ownBlock=some b) w O->(g.ownBlock=v.ownBlock\/g.ownBlock=some w.heap.size)->(i<L->S O)/\dJ P l.toArray Q S L r (ac.put o.dst g) O):
 dJ P l.toArray Q S L (i::r) ac w:=by
 obtain⟨g,O,R,G,M,E⟩:=oE (P:=P) (w:=w) t o.type base e z size bytes A p T B v n xs U a m c y F D Z I W H;have d:=h g O G M E;exact lC q C (by unfold execOp;simp only[X,resolve,invoke,builtin,Sem.run_bind,Sem.run_pure,Result.andThen_ok,CB,nG,zF,V,J,R]) d.1 d.2
theorem fm{i:Nat}{r:List Nat}{a:Act}{w:World}{o:Oper}{args:Vq}(q:l[i]? =some o)(C:o.guard=none)
 (d:(execOp a.eval o).run P w= .ok (.enter f args) w)
 (h:Calls P f args w λe O=>∃v,e= .returned v/\(i<L->S O)/\dJ P l.toArray Q S L r (a.put o.dst v) O):dJ P l.toArray Q S L (i::r) a w:=
 Iu q C (by
  unfold Oper.wp;rw[d,Oper.upon_enter];refine h.mono λe O ⟨v,Y,N,h⟩=> ?_;subst Y;exact⟨N,h⟩)
end
end
section
structure aK where
 os:Os
 tape:Nat->Question->Nat
 output:Array (Nat×ByteArray)
 heap:Nat->Option Obj
def aK.of(w:World):aK:=⟨w.os,w.tape,w.output,λb=>w.heap[b]?⟩
structure fQ(w:World)(M:aK):Prop where
 os:w.os=M.os
 tape:w.tape=M.tape
 output:w.output=M.output
 heap:∀b o,M.heap b=some o->w.heap[b]? =some o
structure aK.le(M M':aK):Prop where
 os:M'.os=M.os
 tape:M'.tape=M.tape
 output:M'.output=M.output
 heap:∀b o,M.heap b=some o->M'.heap b=some o
theorem aK.le.refl(M:aK):M.le M:=⟨rfl,rfl,rfl,λ_ _ h=>h⟩
theorem aK.le.trans{A q C:aK}(h:A.le q)(k:q.le C):A.le C:=⟨k.os.trans h.os,k.tape.trans h.tape,k.output.trans h.output,λb o x=>k.heap b o (h.heap b o x)⟩
theorem fQ.le{w:World}{M u:aK}(h:fQ w u)(k:M.le u):fQ w M:=⟨h.os.trans k.os,h.tape.trans k.tape,h.output.trans k.output,λb o x=>h.heap b o (k.heap b o x)⟩
theorem fQ.aag(w:World):fQ w (aK.of w):=⟨rfl,rfl,rfl,λ_ _ h=>h⟩
theorem fQ.fr{w O:World}{M:aK}{S:Nat->Prop}(h:fQ w M)(a:Fr S w O)(V:∀b,S b->M.heap b=none):fQ O M:=
 ⟨a.os.trans h.os,a.tape.trans h.tape,a.output.trans h.output,λb o B=>by
  have Z:=h.heap b o B;have t:b<w.heap.size:=(CE.1 Z).1;exact(a.block b t (λY=>by rw[V b Y]at B;cases B)).trans Z⟩
theorem fQ.RY{w O:World}(h:fQ O (aK.of w)):Fr jo w O:=by
 have B:∀b,b<w.heap.size->O.heap[b]? =w.heap[b]? :=λb B=>(h.heap b _ (Qk B)).trans (Qk B).symm;refine⟨h.os,h.tape,h.output,?_,λb t _=>B b t⟩;rcases RX w.heap.size with K|K
 ·omega
 ·have Z:=B (w.heap.size-1) oM
  rw[Qk (show w.heap.size-1<w.heap.size by omega)]at Z;have:=(CE.1 Z).1;omega
structure az where
 holds:aK->World->(Nat->Prop)->Prop
 lt:∀{M w F b},holds M w F->F b->b<w.heap.size
 loc:∀{M M' w O F},holds M w F->fQ O M'->M.le M'->(∀b,F b->O.heap[b]? =w.heap[b]?)->holds M' O F
structure uc(M:aK)(w:World)(L:List az)(Fs:Nat->Nat->Prop):Prop where
 at_:∀(i:Nat) (X:az),L[i]? =some X->X.holds M w (Fs i)
 apart:∀i j b,i≠j->i<L.length->j<L.length->Fs i b->¬Fs j b
 off:∀i b,i<L.length->Fs i b->M.heap b=none
def St(I:aK)(w:World)(L:List az):Prop:=∃M d,I.le M/\fQ w M/\uc M w L d
def shift(F:Nat->Prop)(d:Nat->Nat->Prop):Nat->Nat->Prop
 |0=>F
 |i+1=>d i
theorem uc.AU{M u:aK}{w O:World}{L:List az}{d:Nat->Nat->Prop}(h:uc M w L d)(T:fQ O u)(p:M.le u)(B:∀i b,i<L.length->d i b->O.heap[b]? =w.heap[b]?)(W:∀i b,i<L.length->d i b->u.heap b=none):uc u O L d:=
 ⟨λi X z=>X.loc (h.at_ i X z) T p (B i · (nQ.1 z).1),h.apart,W⟩
theorem uc.cons{M:aK}{w:World}{L:List az}{d:Nat->Nat->Prop}{X:az}{F:Nat->Prop}(h:uc M w L d)(J:X.holds M w F)(y:∀i b,i<L.length->d i b->¬F b)(p:∀b,F b->M.heap b=none):uc M w (X::L) (shift F d):=by
 refine⟨?_,?_,?_⟩
 ·intro i Y z
  cases i with
  |zero=>
   obtain rfl:X=Y:=by simpa using z
   exact J
  |succ i=>exact h.at_ i Y abQ
 ·intro i j b R z H Z G
  cases i with
  |zero=>
   cases j with
   |zero=>exact R rfl
   |succ j=>exact y j b (by simpa using H) G Z
  |succ i=>
   cases j with
   |zero=>exact y i b abQ Z G
   |succ j=>exact h.apart i j b oM abQ (by simpa using H) Z G
 ·intro i b z Z
  cases i with
  |zero=>exact p b Z
  |succ i=>exact h.off i b abQ Z
theorem uc.tail{M:aK}{w:World}{L:List az}{d:Nat->Nat->Prop}{X:az}(h:uc M w (X::L) d):uc M w L (λi=>d (i+1)):=
 ⟨λi Y z=>h.at_ (i+1) Y abQ,λi j b R z H=>h.apart (i+1) (j+1) b oM abQ (by simpa using H),λi b z=>h.off (i+1) b abQ⟩
section
variable {I:aK} {w O:World} {L:List az} {X Y Z:az}
theorem St.init(w:World):St (aK.of w) w []:=⟨aK.of w,λ_ _=>False,aK.le.refl _,fQ.aag w,λi X h=>by simp at h,λ_ _ _ _ h=>by simp at h,λ_ _ h=>by simp at h⟩
theorem St.done{X:World}(h:St (aK.of X) w L):Fr jo X w:=by
 obtain⟨M,d,K,T,_⟩:=h;exact(T.le K).RY
theorem St.grow(h:St I w L)(a:Fr jo w O):St I O L:=by
 obtain⟨M,d,K,T,V⟩:=h;refine⟨M,d,K,T.fr a (λ_ x=>x.elim),V.AU (T.fr a (λ_ x=>x.elim)) (aK.le.refl _) ?_ V.off⟩;intro i b z B;exact a.block b ((L[i]).lt (V.at_ i _ (g7 z)) B) (λx=>x)
theorem St.drew(h:St I w L):St I w.drew L:=h.grow (Fr.refl _ _).drew
theorem St.drewN(h:St I w L)(n:Nat):St I (w.drewN n) L:=h.grow ((Fr.refl _ _).drewN n)
theorem St.oH(h:St I w L)(o:Obj):St I (w.alloc o) L:=h.grow ((Fr.refl _ _).alloc o)
theorem St.DC(h:St I w L)(c:List Nat){N:List az}(y:c.Nodup)(F:c.map (L[·]?)=N.map some):St I w N:=by
 obtain⟨M,d,K,T,V⟩:=h;have O:c.length=N.length:=by simpa using congrArg List.length F
 have g:∀(k:Nat) (Q:k<c.length),L[c[k]]? =some (N[k]' oM):=by
  intro k Q;have:=congrArg (·[k]?) F;simpa[g7 Q,g7 (show k<N.length by omega)]using this
 have u:∀(k:Nat) (Q:k<c.length),c[k]<L.length:=λk Q=>(nQ.1 (g k Q)).1;refine⟨M,λk=>d (c.getD k 0),K,T,?_,?_,?_⟩
 ·intro k X Q
  have t:=(nQ.1 Q).1;obtain rfl:N[k]=X:=by simpa[g7 t]using Q
  simp only[Iy,g7 (show k<c.length by omega),SR];exact V.at_ _ _ (g k oM)
 ·intro i j b R z H
  simp only[Iy,g7 (show i<c.length by omega),g7 (show j<c.length by omega),SR];exact V.apart _ _ b (λe=>(Nat.lt_or_gt_of_ne R).elim (λZ=>Zh.1 y i j oM oM Z e) (λZ=>Zh.1 y j i oM oM Z e.symm)) (u i oM) (u j oM)
 ·intro i b z
  simp only[Iy,g7 (show i<c.length by omega),SR];exact V.off _ b (u i oM)
theorem St.pick(h:St I w L)(n:Nat)(C:List Nat){L':List az}(y:(C.all (·<n)&&decide C.Nodup)=true:=by rfl)(F:C.map (L[·]?)++(L.drop n).map some=L'.map some:=by rfl):St I w L':=by
 simp only[mf,AR,decide_eq_true_eq]at y;refine h.DC (C++(List.range (L.length-n)).map (n+·)) ?_ ?_
 ·rw[XB]
  refine⟨y.2,?_,?_⟩
  ·exact Zg _ (λa b q e=>q oM) zc4
  ·intro a T b B e
   obtain⟨c,_,rfl⟩:=um.1 B;have:=y.1 a T;omega
 ·rw[yu,<-F]
  congr 1
  apply XC;intro i;by_cases z:i<L.length-n
  ·simp[VK z,g7 (show n+i<L.length by omega)]
  ·rw[KV abS,KV abS]
theorem St.tail(h:St I w (X::L)):St I w L:=by
 obtain⟨M,d,K,T,V⟩:=h;exact⟨M,_,K,T,V.tail⟩
theorem St.swap(h:St I w (X::Y::L)):St I w (Y::X::L):=by
 obtain⟨M,d,K,T,V⟩:=h;have Z:=V.tail;refine⟨M,_,K,T,(Z.tail.cons (V.at_ 0 X rfl) ?_ (λb=>V.off 0 b abN)).cons (V.at_ 1 Y rfl) ?_ (λb=>V.off 1 b abN)⟩
 ·intro i b z B
  exact V.apart (i+2) 0 b oM abQ abN B
 ·intro i b z B
  cases i with
  |zero=>exact V.apart 0 1 b oM abN abN B
  |succ i=>exact V.apart (i+2) 1 b oM abQ abN B
theorem St.head(h:St I w (X::L)):∃M F,I.le M/\fQ w M/\X.holds M w F/\(∀b,F b->M.heap b=none)/\
 ∀(O:World) (Y:az) (l:Nat->Prop),Fr F w O->(fQ O M->Y.holds M O l)->(∀b,l b->F b\/w.heap.size<=b)->St I O (Y::L):=by
 obtain⟨M,d,K,T,V⟩:=h;refine⟨M,d 0,K,T,V.at_ 0 X rfl,λb=>V.off 0 b abN,λO Y l a E hF=> ?_⟩;have q:fQ O M:=T.fr a (λb B=>V.off 0 b abN B);have t:∀i b,i<L.length->d (i+1) b->b<w.heap.size:=λi b z B=>(L[i]).lt (V.at_ (i+1) _ (by simp[g7 z])) B;have R:uc M O L (λi=>d (i+1)):=V.tail.AU q (aK.le.refl _) (λi b z B=>a.block b (t i b z B) (V.apart (i+1) 0 b oM abQ abN B)) (λi b z=>V.off (i+1) b abQ);refine⟨M,_,K,q,R.cons (E q) ?_ ?_⟩
 ·exact aea
 ·exact adM
theorem St.add(h:St I w L){F':Nat->Prop}(a:Fr jo w O)(E:∀M,fQ O M->Y.holds M O F')(hF:∀b,F' b->w.heap.size<=b):St I O (Y::L):=by
 obtain⟨M,d,K,T,V⟩:=h;have q:fQ O M:=T.fr a (λb B=>B.elim);have t:∀i b,i<L.length->d i b->b<w.heap.size:=λi b z B=>(L[i]).lt (V.at_ i _ (g7 z)) B;refine⟨M,_,K,q,(V.AU q (aK.le.refl _) (λi b z B=>a.block b (t i b z B) (λx=>x)) V.off).cons (E M q) ?_ ?_⟩
 ·intro i b z B Z
  have:=t i b z B;have:=hF b Z;omega
 ·intro b B
  cases e:M.heap b with
  |none=>rfl
  |some o=>have:=(CE.1 (T.heap b o e)).1;have:=hF b B;omega
def bj(R:World->Prop):az where
 holds M _ F:=(∀b,¬F b)/\∀O,fQ O M->R O
 lt h hb:=(h.1 _ hb).elim
 loc h _ hm _:=⟨h.1,λg T=>h.2 g (T.le hm)⟩
def kd(p:Prop):az where
 holds _ _ F:=(∀b,¬F b)/\p
 lt h hb:=(h.1 _ hb).elim
 loc h _ _ _:=h
def ab(g:Nat)(t:TypeId)(cs:Vq):az where
 holds _ w F:=(∀b,F b↔b=g)/\eK w g t cs
 lt h hb:=by rw[(h.1 _).1 hb];exact h.2.lt
 loc h _ _ hb:=⟨h.1,(hb _ ((h.1 _).2 rfl)).trans h.2⟩
def ct(e:TypeId)(size:Nat)(v:Value)(n:Nat)(xs:LV):az where
 holds _ w F:=(∀b,F b↔v.ownBlock=some b)/\w.ownsRow 0 e size v n xs
 lt h hb:=(h.2.lt _ ((h.1 _).1 hb)).2
 loc h _ _ hb:=by
  refine⟨h.1,h.2.1,?_⟩;rcases h.2.2 with G|⟨g,cap,E,rfl,C,l,r⟩
  ·exact .inl G
  ·exact .inr ⟨g,cap,E,rfl,C,(hb g ((h.1 g).2 rfl)).trans l,r⟩
def aX(X Y:az):az where
 holds M w F:=∃A q:Nat->Prop,X.holds M w A/\Y.holds M w q/\(∀b,A b->¬q b)/\∀b,F b↔A b\/q b
 lt h hb:=by
  obtain⟨A,q,J,E,_,hF⟩:=h;rcases(hF _).1 hb with Z|Z
  ·exact X.lt J Z
  ·exact Y.lt E Z
 loc h ha hm hb:=by
  obtain⟨A,q,J,E,y,hF⟩:=h;exact⟨A,q,X.loc J ha hm (λb Z=>hb b ((hF b).2 (.inl Z))),Y.loc E ha hm (λb Z=>hb b ((hF b).2 (.inr Z))),y,hF⟩
def Bc{α:Type}(f:α->az):az where
 holds M w F:=∃a,(f a).holds M w F
 lt h hb:=by obtain⟨a,h⟩:=h;exact(f a).lt h hb
 loc h ha hm hb:=by obtain⟨a,h⟩:=h;exact⟨a,(f a).loc h ha hm hb⟩
theorem St.fact(h:St I w L)(i:Nat)(z:L[i]? =some X):∃M F,X.holds M w F/\fQ w M:=by
 obtain⟨M,d,K,T,V⟩:=h;exact⟨M,_,V.at_ i X z,T⟩
theorem St.get{R:World->Prop}(h:St I w L)(i:Nat)(z:L[i]? =some (bj R)):R w:=by
 obtain⟨M,F,J,T⟩:=h.fact i z;exact J.2 w T
theorem St.ah{g:Nat}{t:TypeId}{cs:Vq}(h:St I w L)(i:Nat)(z:L[i]? =some (ab g t cs)):eK w g t cs:=by
 exact ad4
theorem St.row{e:TypeId}{size:Nat}{v:Value}{n:Nat}{xs:LV}(h:St I w L)(i:Nat)(z:L[i]? =some (ct e size v n xs)):w.ownsRow 0 e size v n xs:=by
 exact ad4
theorem St.xl{p:Prop}(h:St I w (kd p::L)):p/\St I w L:=by
 obtain⟨M,F,J,T⟩:=h.fact 0 rfl;exact⟨J.2,h.tail⟩
theorem St.ul{p:Prop}(h:St I w L)(P:p):St I w (kd p::L):=
 h.add (F':=λ_=>False) (Fr.refl _ _) (λ_ _=>⟨λ_ x=>x,P⟩) (λ_ x=>x.elim)
theorem St.ex{f:α->az}(h:St I w (Bc f::L)):∃a,St I w (f a::L):=by
 obtain⟨M,d,K,T,V⟩:=h;obtain⟨a,J⟩:=V.at_ 0 _ rfl;refine⟨a,M,d,K,T,?_,V.apart,V.off⟩;intro i Y z
 cases i with
 |zero=>
  obtain rfl:f a=Y:=by simpa using z
  exact J
 |succ i=>exact V.at_ (i+1) Y abQ
theorem St.eu{f:α->az}(a:α)(h:St I w (f a::L)):St I w (Bc f::L):=by
 obtain⟨M,d,K,T,V⟩:=h;refine⟨M,d,K,T,?_,V.apart,V.off⟩;intro i Y z
 cases i with
 |zero=>
  obtain rfl:Bc f=Y:=by simpa using z
  exact⟨a,V.at_ 0 _ rfl⟩
 |succ i=>exact V.at_ (i+1) Y abQ
theorem St.star(h:St I w (aX X Y::L)):St I w (X::Y::L):=by
 obtain⟨M,d,K,T,V⟩:=h;obtain⟨A,q,J,E,y,hF⟩:=V.at_ 0 _ rfl;refine⟨M,_,K,T,(V.tail.cons E ?_ (λb B=>V.off 0 b abN ((hF b).2 (.inr B)))).cons J ?_ (λb B=>V.off 0 b abN ((hF b).2 (.inl B)))⟩
 ·intro i b z B Z
  exact V.apart (i+1) 0 b oM abQ abN B ((hF b).2 (.inr Z))
 ·intro i b z B Z
  cases i with
  |zero=>exact y b Z B
  |succ i=>exact V.apart (i+1) 0 b oM abQ abN B ((hF b).2 (.inl Z))
theorem St.aM(h:St I w (X::Y::L)):St I w (aX X Y::L):=by
 obtain⟨M,d,K,T,V⟩:=h;refine⟨M,_,K,T,V.tail.tail.cons (F:=λb=>d 0 b\/d 1 b) ⟨d 0,d 1,V.at_ 0 X rfl,V.at_ 1 Y rfl,λb=>V.apart 0 1 b oM abN abN,λb=>Ve⟩ ?_ ?_⟩
 ·rintro i b z B(Z|Z)
  ·exact V.apart (i+2) 0 b oM abQ abN B Z
  ·exact V.apart (i+2) 1 b oM abQ abN B Z
 ·rintro b(Z|Z)
  ·exact V.off 0 b abN Z
  ·exact V.off 1 b abN Z
theorem St.bH{R:World->Prop}(h:St I w L)(c:∀O,fQ O I->R O):St I w (bj R::L):=by
 obtain⟨M,d,K,T,V⟩:=h;exact⟨M,_,K,T,V.cons (F:=λ_=>False) ⟨λ_ x=>x,λO q=>c O (q.le K)⟩ (λ_ _ _ _ x=>x) (λ_ x=>x.elim)⟩
theorem St.GV{X:World}{R:World->Prop}(h:St (aK.of X) w L)(c:∀O,Fr jo X O->R O):St (aK.of X) w (bj R::L):=h.bH (λO T=>c O T.RY)
theorem St.bC{R R':World->Prop}(h:St I w (bj R::L))(c:∀O,R O->R' O):St I w (bj R'::L):=by
 obtain⟨M,d,K,T,V⟩:=h;have J:=V.at_ 0 _ rfl;refine⟨M,d,K,T,?_,V.apart,V.off⟩;intro i Y z
 cases i with
 |zero=>
  obtain rfl:bj R'=Y:=by simpa using z
  exact⟨J.1,λO q=>c O (J.2 O q)⟩
 |succ i=>exact V.at_ (i+1) Y abQ
theorem St.copy{R:World->Prop}(h:St I w L)(i:Nat)(z:L[i]? =some (bj R)):St I w (bj R::L):=by
 obtain⟨M,d,K,T,V⟩:=h;exact⟨M,_,K,T,V.cons (F:=λ_=>False) ⟨λ_ x=>x,(V.at_ i _ z).2⟩ (λ_ _ _ _ x=>x) (λ_ x=>x.elim)⟩
theorem St.oY{R a Q:World->Prop}(h:St I w (bj R::bj a::L))(c:∀O,R O->a O->Q O):St I w (bj Q::L):=by
 obtain⟨M,d,K,T,V⟩:=h;have J:=V.at_ 0 _ rfl;have E:=V.at_ 1 _ rfl;exact⟨M,_,K,T,V.tail.tail.cons (F:=λ_=>False) ⟨λ_ x=>x,λO q=>c O (J.2 O q) (E.2 O q)⟩ (λ_ _ _ _ x=>x) (λ_ x=>x.elim)⟩
theorem St.freeze{R:World->Prop}(h:St I w (X::L))(c:∀M O F,X.holds M O F->fQ O M->R O):St I w (bj R::L):=by
 obtain⟨M,d,K,T,V⟩:=h;have J:=V.at_ 0 _ rfl;have t:∀b,d 0 b->b<w.heap.size:=λb B=>X.lt J B
 letI:∀b,Decidable (d 0 b):=λb=>Classical.propDecidable _
 let u:aK:=⟨M.os,M.tape,M.output,λb=>if d 0 b then w.heap[b]? else M.heap b⟩
 have p:M.le u:=⟨rfl,rfl,rfl,λb o B=>by
  show(if d 0 b then w.heap[b]? else M.heap b)=some o
  split
  ·rename_i Z
   rw[V.off 0 b abN Z]at B
   cases B
  ·exact B⟩
 have q:fQ w u:=⟨T.os,T.tape,T.output,λb o B=>by
  have B:(if d 0 b then w.heap[b]? else M.heap b)=some o:=B
  split at B
  ·exact B
  ·exact T.heap b o B⟩
 have e:∀i b,i<L.length->d (i+1) b->u.heap b=none:=λi b z B=>by
  show(if d 0 b then w.heap[b]? else M.heap b)=none;rw[iN (V.apart (i+1) 0 b oM abQ abN B)];exact V.off (i+1) b abQ B
 refine⟨u,_,K.trans p,q,(V.tail.AU q p (λ_ _ _ _=>rfl) e).cons (F:=λ_=>False) ⟨λ_ x=>x,λO a=> ?_⟩ (λ_ _ _ _ x=>x) (λ_ x=>x.elim)⟩;refine c u O (d 0) (X.loc J a p (λb B=> ?_)) a;have Z:u.heap b=w.heap[b]? :=by
  show(if d 0 b then w.heap[b]? else M.heap b)=_;rw[iP B]
 rw[Qk (t b B)]at Z⊢;exact a.heap b _ Z
theorem St.xZ{e:TypeId}{size:Nat}{v:Value}{n:Nat}{xs:LV}(h:St I w (ct e size v n xs::L)):St I w (bj (λO=>O.ownsRow 0 e size v n xs)::L):=h.freeze (λ_ _ _ J _=>J.2)
theorem St.alloc(h:St I w L)(t:TypeId)(cs:Vq):St I (w.alloc (.cells cs t)) (ab w.heap.size t cs::L):=
 h.add (F':=(·=w.heap.size)) ((Fr.refl _ _).alloc _) (λ_ _=>⟨λ_=>Ve,eK.new _ _ _⟩) (λ_ B=>YX B.symm)
theorem St.bE{g:Nat}{t:TypeId}{cs:Vq}(h:St I w (ab g t cs::L))(i:Nat)(u:Value):St I (w.setCell ⟨g,i,none⟩ u) (ab g t (cs.setIfInBounds i u)::L):=by
 obtain⟨M,F,_,_,J,_,Q⟩:=h.head;exact Q _ _ F ((Fr.refl _ _).setCell (λ_=>(J.1 _).2 rfl) u) (λ_=>⟨J.1,J.2.bE i u⟩) (λ_ B=> .inl B)
theorem St.mq(h:St I w L)(e:TypeId)(size:Nat):St I w (ct e size sN 0 []::L):=
 h.add (F':=λ_=>False) (Fr.refl _ _) (λ_ _=>⟨λb=>⟨λx=>x.elim,λx=>by simp[Value.ownBlock]at x⟩,World.ownsRow_nil _ _ _ _⟩) (λ_ x=>x.elim)
theorem St.newRow{e:TypeId}{size:Nat}{v:Value}{n:Nat}{xs:LV}(h:St I w L)(a:Fr jo w O)(q:O.ownsRow 0 e size v n xs)(o:∀b,v.ownBlock=some b->w.heap.size<=b):St I O (ct e size v n xs::L):=
 h.add (F':=λb=>v.ownBlock=some b) a (λ_ _=>⟨λ_=>Ve,q⟩) o
theorem St.oN{e:TypeId}{size:Nat}{v v':Value}{n n':Nat}{xs xs':LV}(h:St I w (ct e size v n xs::L))(q:O.ownsRow 0 e size v' n' xs')(a:Fr (λb=>v.ownBlock=some b) w O)
 (B:v'.ownBlock=v.ownBlock\/v'.ownBlock=some w.heap.size):St I O (ct e size v' n' xs'::L):=by
 obtain⟨M,F,_,_,J,_,Q⟩:=h.head;refine Q _ _ (λb=>v'.ownBlock=some b) (a.mono (λb _ Z=>(J.1 b).2 Z)) (λ_=>⟨λ_=>Ve,q⟩) (λb Z=> ?_);rcases B with G|G
 ·exact .inl ((J.1 b).2 (G▸Z))
 ·rw[Z]at G
  injection G with G;exact .inr (YX G.symm)
abbrev Any:Nat->Prop:=λ_=>True
def ay(w:World)(k:IntKind)(v:Value)(xs:LI):Prop:=
 ∃A c,v= .slice A xs.length c/\xs.length<=c/\c<=maxLen/\Sl w Any 1 A xs.length (xs.map (Value.int k))
theorem ay.none_(w:World)(k:IntKind):ay w k sN []:=⟨none,0,rfl,by simp,by unfold maxLen;omega,Sl.PO _ _ _ _⟩
theorem ay.qm{e:TypeId}{v:Value}{n:Nat}{xs:LI}(h:w.ownsRow 0 e 1 v n (xs.map (Value.int k))):ay w k v xs:=by
 have W:n=xs.length:=by have:=h.1;simp at this;exact this.symm
 subst W;rcases h.2 with⟨rfl,K⟩|⟨g,cap,E,rfl,C,l,D,p,_⟩
 ·have:xs=[]:=BJ K
  subst this;exact ay.none_ w k
 ·exact⟨_,_,rfl,D,p,(Sl.qm h).mono (λ_ _ _=>trivial)⟩
theorem ay.sl{A:OA}{n c:Nat}{xs:LI}(h:ay w k (.slice A n c) xs):n=xs.length/\n<=c/\c<=9223372036854775807/\Sl w Any 1 A n (xs.map (Value.int k)):=by
 exact aeh
theorem ay.cut{A:OA}{n c m:Nat}{xs:LI}(h:ay w k (.slice A n c) xs)(p:m<=n):ay w k (.slice A m c) (xs.take m):=by
 obtain⟨K,Z,G,M⟩:=h.sl;have F:(xs.take m).length=m:=by rw[fV];omega
 refine⟨A,c,by rw[F],by rw[F];omega,G,by rw[qI];omega,λP=> ?_⟩;rw[F]at P;obtain⟨T,e,d,B,D⟩:=M.2 oM;refine⟨T,e,trivial,B,λj u y=>D j u ?_⟩;rw[UO,AW]at y
 split at y
 ·exact y
 ·cases y
theorem St.ints{e:TypeId}{v:Value}{n:Nat}{xs:LI}(h:St I w (ct e 1 v n (xs.map (Value.int k))::L)):St I w (bj (λO=>ay O k v xs)::L):=
 h.xZ.bC (λ_ q=>ay.qm q)
end
section
variable {I:aK} {w:World} {L:List az} {a b c d e g i j A8 A9:az}
theorem St.tW(h:St I w (a::b::c::L)):St I w (c::a::b::L):=h.pick 3 [2,0,1]
theorem St.sX(h:St I w (a::b::c::L)):St I w (b::c::a::L):=h.pick 3 [1,2,0]
theorem St.up3(h:St I w (a::b::c::d::L)):St I w (d::a::b::c::L):=h.pick 4 [3,0,1,2]
theorem St.ZN(h:St I w (a::b::c::d::e::L)):St I w (e::a::b::c::d::L):=h.pick 5 [4,0,1,2,3]
theorem St.dn5(h:St I w (a::b::c::d::e::g::L)):St I w (b::c::d::e::g::a::L):=h.pick 6 [1,2,3,4,5,0]
theorem St.up6(h:St I w (a::b::c::d::e::g::i::L)):St I w (i::a::b::c::d::e::g::L):=h.pick 7 [6,0,1,2,3,4,5]
theorem St.dn6(h:St I w (a::b::c::d::e::g::i::L)):St I w (b::c::d::e::g::i::a::L):=h.pick 7 [1,2,3,4,5,6,0]
theorem St.up7(h:St I w (a::b::c::d::e::g::i::j::L)):St I w (j::a::b::c::d::e::g::i::L):=h.pick 8 [7,0,1,2,3,4,5,6]
theorem St.tO(h:St I w (a::b::L)):St I w (a::L):=h.pick 2 [0]
theorem St.Oj(h:St I w (a::b::c::L)):St I w (a::b::L):=h.pick 3 [0,1]
end
end
section
structure fY(P:Program)(t e:TypeId)(z:Value)(size bytes:Nat):Prop where
 ht:P.underlying t=some (.slice e)
 kF:(P.info? e).map (λi=>(i.zero,i.size,i.bytes))=some (some z,size,bytes)
 IU:z.cells.size=size
 kN:0<size
theorem run_append_nil{P:Program}(w:World)(base:Nat)(t l e:TypeId)(i:TypeInfo)(size:Nat)(R:P.underlying t=some (.slice e))(z:P.info? e=some i)
 (v:Value) (n:Nat) (xs:LV) (r:w.ownsRow base e size v n xs) (c:Nat):(Builtin.append_ #[t,t] l #[v,.slice none 0 c]).run P w= .ok v w:=by
 rcases r.2 with⟨rfl,rfl⟩|⟨g,cap,E,rfl,_,_,L,_⟩
 ·simp[Builtin.append_,run_underlying R,sizeOf,typeInfo,z,Builtin.lenOf,Builtin.firstCells]
 ·simp[Builtin.append_,run_underlying R,sizeOf,typeInfo,z,Builtin.lenOf,Builtin.firstCells,L,storeCells]
section
variable {P:Program} {I:aK} {w O:World} {L:List az} {t e:TypeId} {z:Value} {size bytes:Nat} {v:Value} {n:Nat} {xs:LV}
theorem St.uW(N:fY P t e z size bytes)(h:St I w (ct e size v n xs::L))(l:TypeId)(A:OA)(m c:Nat)(R:LV)(E:Sl w Any size A m R)(Z:∀u∈R,u.oneCell'=true)
 (B:(n+m)*bytes<=140737488355328) (W:n+m<=140737488355328):
 ∃g O,(Builtin.append_ #[t,t] l #[v,.slice A m c]).run P w= .ok g O/\St I O (ct e size g (n+m) (xs++R)::L):=by
 have r:=h.row 0 rfl;rcases A with _|T
 ·have p:m=0:=by
   rcases RX m with K|K
   ·exact K
   ·obtain⟨T,h,_⟩:=E.2 K
    cases h
  subst p;have W:R=[]:=BJ (by simpa using E.1);subst W;obtain⟨q,X,_⟩:=info_parts N.kF;exact⟨v,w,run_append_nil w 0 t l e q size N.ht X v n xs r c,by simpa using h⟩
 ·have a:∀j u,R[j]? =some u->w.cell? (T.add j)=some u:=by
   intro j u y;rcases RX m with K|K
   ·subst K
    have W:R=[]:=BJ (by simpa using E.1);subst W;simp at y
   ·obtain⟨U,h,_,_,D⟩:=E.2 K
    injection h with h;subst h;exact D j u y
  obtain⟨g,O,d,G,M,S⟩:=oE (P:=P) (w:=w) t l 0 e z size bytes N.ht N.kF N.IU N.kN v n xs r T m c R E.1 a Z B W (iD _);exact⟨g,O,d,h.oN G M S⟩
theorem St.slice(h:St I w (ct e size v n xs::L)):∃A c,v= .slice A n c:=by
 rcases(h.row 0 rfl).2 with⟨rfl,K⟩|⟨g,cap,E,rfl,_⟩
 ·exact⟨_,_,by rw[K]⟩
 ·exact⟨_,_,rfl⟩
theorem St.fj{ops:Array Oper}{rest:List Oper}{o:Oper}{ac:Act}{Q:Exit->Act->World->Prop}(N:fY P t e z size bytes)(h:St I w (ct e size v n xs::L))(H:o.guard=none)(s x:Operand)
 (q:o.op= .call {callee:= .builtin .append,args:= #[s,x],argTypes:= #[t,t]}) (V:ac.eval s=v)
 (A:OA) (m c:Nat) (J:ac.eval x= .slice A m c) (R:LV) (E:Sl w Any size A m R) (Z:∀u∈R,u.oneCell'=true)
 (B:(n+m)*bytes<=140737488355328) (W:n+m<=140737488355328)
 (k:∀X r O,St I O (ct e size (.slice X (n+m) r) (n+m) (xs++R)::L)->wpList P ops Q rest (ac.put o.dst (.slice X (n+m) r)) O):wpList P ops Q (o::rest) ac w:=by
 obtain⟨l,O,d,G⟩:=St.uW N h o.type A m c R E Z B W;obtain⟨X,r,rfl⟩:=G.slice;refine wpList_plain H λK g=> ?_;unfold Oper.wp execOp;simp only[q,resolve,invoke,builtin,Sem.run_bind,Sem.run_pure,Result.andThen_ok,CB,nG,zF,V,J,d];exact g _ _ (k X r O G)
theorem qb{Q:Exit->Act->World->Prop}{S:World->Prop}{b:Nat}{l:List Oper}{i:Nat}{r:List Nat}{ac:Act}{o:Oper}(N:fY P t e z size bytes)(h:St I w (ct e size v n xs::L))(q:l[i]? =some o)(C:o.guard=none)(s x:Operand)
 (M:o.op= .call {callee:= .builtin .append,args:= #[s,x],argTypes:= #[t,t]}) (V:ac.eval s=v)
 (A:OA) (m c:Nat) (J:ac.eval x= .slice A m c) (R:LV) (E:Sl w Any size A m R) (Z:∀u∈R,u.oneCell'=true)
 (B:(n+m)*bytes<=140737488355328) (W:n+m<=140737488355328)
 (k:∀X j O,St I O (ct e size (.slice X (n+m) j) (n+m) (xs++R)::L)->(i<b->S O)/\dJ P l.toArray Q S b r (ac.put o.dst (.slice X (n+m) j)) O):dJ P l.toArray Q S b (i::r) ac w:=by
 obtain⟨g,O,T,G⟩:=St.uW N h o.type A m c R E Z B W;obtain⟨X,j,rfl⟩:=G.slice;have d:=k X j O G;exact lC q C abY d.1 d.2
theorem ux(w:World)(e:TypeId)(u:Value):Sl (w.alloc (.cells #[u] e)) Any 1 (aO w.heap.size) 1 [u]:=
 ⟨rfl,λ_=>⟨_,rfl,trivial,by simp,λj y E=>by
  match j,E with
  |0,E=>exact((eK.new w e #[u]).cell 0).trans E
  |j+1,E=>simp at E⟩⟩
theorem St.Wg{g:Nat}{a:LV}(h:St I w (ct e size v n xs::L))(W:n=g)(J:xs=a):St I w (ct e size v g a::L):=by subst W;subst J;exact h
theorem St.sl{A:OA}{c:Nat}(h:St I w (ct e size (.slice A n c) n xs::L)):Sl w Any size A n xs:=(Sl.qm (h.row 0 rfl)).mono (λ_ _ _=>trivial)
end
end
end Go.Proofs.YtblpaldggenbaaaGreatDoor
