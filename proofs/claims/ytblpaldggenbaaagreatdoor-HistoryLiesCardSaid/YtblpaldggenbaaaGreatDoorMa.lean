/- A part. -/
import Derived.WalkKit
import Derived.WalkSpells
import Derived.WalkLawsBesides
import Derived.BigQuiet
import Derived.Deep.QuietTactic
import Derived.BigRegion
import Derived.Deep.MidRow
import Derived.Maps.AppendAt
import Derived.StillTailTactics
import Derived.Deep.RegionLaw
import Derived.Great.BuildSlice
import Derived.OrdersHeld
import Derived.Lib.AppendZerosOnto
import Derived.ArgAppend
import Derived.RangeFuncNested
import Derived.RangeFuncBound
import Derived.RangeFuncCalls
import Derived.RangeFuncLeaves
import Derived.Shelf.Abstract
import Derived.Shelf.RegionOpen
import Derived.OwnWalkIn
import Derived.TacticsInMore
import Derived.LoopNIn
import Derived.LoopIn
import Derived.Deep.LoopGhost
import Derived.IntWalk
import Derived.Laws.BitsAllLaws
import Derived.Laws.MakeOwn
import Derived.Laws.Tables
import Derived.Deep.WholeRow
import Derived.Deep.DeepCutAuto
import Derived.Laws.OwnMore
namespace Go.Proofs.YtblpaldggenbaaaGreatDoor
open Go.RowKit
set_option maxRecDepth 100000
set_option maxHeartbeats 64000000
section
variable{p:Prop}
theorem ac0(h:p:=by(show C.wr=(X.c c.toNat).wr;rw[D])):p:=h
theorem ac1(h:p:=by(show C.bl=(X.c c.toNat).bl;rw[D])):p:=h
theorem ac2(h:p:=by(rw[<-b.out];exact hs)):p:=h
theorem ac3(h:p:=by(show C.h=(X.c c.toNat).h;rw[D])):p:=h
theorem ac4(h:p:=by(show C.r=(X.c c.toNat).r;rw[D])):p:=h
theorem ac5(h:p:=by(have:=K.out;have:=HN.out;have:=A.out;simp only[oO]at*;omega)):p:=h
theorem ac6(h:p:=by(rw[<-R.out];exact B)):p:=h
theorem ac7(h:p:=by(rw[<-b.out];omega)):p:=h
theorem ac8(h:p:=by simp[Value.oneCell']):p:=h
theorem acA(h:p:=by simpa using z):p:=h
theorem acB(h:p:=by(unfold eV;exact sU)):p:=h
theorem acC(h:p:=by(simp;omega)):p:=h
theorem acD(h:p:=by(unfold aC;rw[iN (λh=>h F.out),iN (Wf.2 i),iN (show¬(o<=2/\(4:Int)<=index)by omega),iN (λh=>h.elim R (λh=>t0 h.1)),iN (by rw[y];exact gV)])):p:=h
theorem acE(h:p:=by(rw[<-b.out];exact g9 _)):p:=h
theorem acH(h:p:=by(unfold aC;rw[iN (λh=>h F.out),iN (Wf.2 i),iN (show¬(o<=2/\(4:Int)<=index)by omega),iN (λh=>h.elim R (λh=>t0 h.1)),iP y];rfl)):p:=h
theorem acI(h:p:=by(have:=Uz q (show(0:Int)<(x:Int)by omega);have:=Sz q (show(x:Int)≠0 by omega);omega)):p:=h
theorem acJ(h:p:=by(unfold Func.isWrapper;first|(rw[iP (by decide+kernel)];kernel_rfl)|(rw[iN (by decide+kernel)];exact⟨rfl,rfl⟩))):p:=h
theorem acK(h:p:=by(unfold execOp;simp only[X,resolve,invoke,builtin,Sem.run_bind,Sem.run_pure,Result.andThen_ok,FV,li,BQ,U,J,C])):p:=h
theorem acL(h:p:=by(intro p o;simp only[nO,nK,or_false]at o;rcases o with rfl|rfl<;>rfl)):p:=h
theorem acM(h:p:=by(unfold aC;rw[iN (λh=>h F.out),iN (Wf.2 i),iN (show¬(o<=2/\(4:Int)<=index)by omega),iP (.inl R)])):p:=h
theorem acN(h:p:=by(show(0:Int)<=_;decide)):p:=h
theorem acO(h:p:=by(rw[km];omega)):p:=h
theorem acP(h:p:=by(unfold kP;omega)):p:=h
theorem acQ(h:p:=by(rw[show(256:Int)^1=256 by decide];omega)):p:=h
theorem acR(h:p:=by(have:=J.out;omega)):p:=h
theorem acS(h:p:=by(rw[<-b.out];exact M)):p:=h
theorem acT(h:p:=by(rw[fJ];omega)):p:=h
theorem acU(h:p:=by(rw[o];exact gV)):p:=h
theorem acV(h:p:=by(unfold maxLen;omega)):p:=h
theorem acW(h:p:=by(have:=V.2.2.2;omega)):p:=h
theorem acX(h:p:=by simpa using h):p:=h
theorem acY(h:p:=by(show C.la=(X.c c.toNat).la;rw[D])):p:=h
theorem acZ(h:p:=by(show C.bi=(X.c c.toNat).bi;rw[D])):p:=h
theorem acy(h:p:=by simp):p:=h
theorem acz(h:p:=by(rw[<-b.out];exact B)):p:=h
theorem ad0(h:p:=by
  have E:=aa (C.trans (iN acU))
  go_wp2_with fail
  go_roundg (n-(k+1))
  case measure=>have:=R.out;omega
  case rel=>exact⟨k+1,rfl,oM,by go_num,E,T⟩):p:=h
theorem ad1(h:p:=by
  by_cases S:a=r
  ·by_cases P:k=i
   ·subst S
    subst P
    go_wp2
    go_ret
    exact⟨by rw[show cC a k ⟨a,k,d⟩=true by simp[cC]];try rfl,(Fr.refl _ _).alloc _⟩
   ·subst S
    have F:cC a i ⟨a,k,d⟩=false:=by simp[cC,P]
    have J:(k==i)=false:=kO P
    go_wp2
    go_ret
    exact⟨by rw[F];try rfl,(Fr.refl _ _).alloc _⟩
  ·have F:cC r i ⟨a,k,d⟩=false:=by simp[cC,S]
   go_wp2
   go_ret
   exact⟨by rw[F];try rfl,(Fr.refl _ _).alloc _⟩):p:=h
theorem ad3(h:p:=by
  have E:=aa (C.trans (iP o))
  go_wp2_with fail
  go_ret
  exact⟨by rw[E.out];try rfl,T⟩):p:=h
theorem ad4(h:p:=by
  go_wp2_with fail
  refine qH C λX H=>?_;clear C
  go_wp2_with fail
  go_ret
  exact⟨by rw[<-J.out];try rfl,H⟩):p:=h
theorem ad5(h:p:=by(have:=HG.out;omega)):p:=h
theorem ad6(h:p:=by
  go_wp2_with fail
  go_ret2
  exact⟨by rw[E.out];try rfl,by rw[E.out];exact K.out⟩):p:=h
theorem ad7(h:p:=by(rw[t];exact⟨_,rfl,((Q.bG (R:=λw=>aA w .u8 sN []) (λO _=>aA.none_ O _))).sub⟩)):p:=h
theorem ad8(h:p:=by
  go_wp2_with fail
  go_ret
  exact⟨by rw[E.out];try rfl,T⟩):p:=h
theorem ad9(h:p:=by
  go_wp2_with fail
  go_ret
  exact⟨by rw[E.out];try rfl,H⟩):p:=h
theorem adl(h:p:=by simp[go_sem]):p:=h
theorem adQ(h:p:=by
  obtain⟨_,E,_,_,_,_,_⟩:=tN (g.ah 1 rfl);have i:=(g.ah 2 rfl).cell 0;have C:=(g.ah 7 rfl).cell 0;have y:=(g.ah 7 rfl).frozen;obtain⟨F,N,z,t,W,H⟩:=(g.ah 6 rfl).ni
  go_wp2_with fail
  refine(wK r A1 n1 c1 _ HR g).mono ?_;rintro e w4⟨v,rfl,h⟩;obtain⟨A2,c2,rfl,_,_,_⟩:=h.get 0 rfl;clear E i C y F N z t W H
  try clear d0 E0 O0 hc
  generalize N0:aY r=b at*;have A0:=aa N0;clear N0;obtain⟨nb,D0⟩:=nM (b.length);rw[<-D0]at h⊢;have S0:=aa (show nb<=43 by rw[D0];exact HL.out);clear D0;have d:=aa h;clear h g;obtain⟨_,E,_,_,_,_,_⟩:=tN (d.ah 1 rfl);have i:=(d.ah 2 rfl).cell 0;have C:=(d.ah 7 rfl).cell 0;have y:=(d.ah 7 rfl).frozen;obtain⟨F,N,z,t,W,H⟩:=(d.ah 6 rfl).ni
  go_wp2_with fail
  refine qK (Lj hT S j _ q k A2 nb c2 b _ K0 oM Q0 R0 HB S0 (d.pk 8 [0,3,5,1,2,7,6,4])) λw5 h=>?_;have M0:=aa (Im (J:=k) K0 HB);obtain⟨A,U⟩:∃x,x=k.wE q b:=⟨_,rfl⟩;obtain⟨Y,O⟩:∃x,x=k.CH q b:=⟨_,rfl⟩;obtain⟨aj,X⟩:∃x,x=k.oU b:=⟨_,rfl⟩;rw[<-O,<-X]at h;rw[<-O]at M0;rw[<-U];clear E i C y F N z t W H;have K:=aa h;clear h d;by_cases G:A=0
  case neg=>
   have d0:(A !=0)=true:=by simpa using G
   have p:¬k.wE q b=0:=by rw[<-U];exact G
   have l:Hid (rY q k b=Y):=(iN p).trans O.symm;have ET:=aa (show CQ q k b=if Y.down=true then 43 else A by unfold CQ;rw[l.out,<-U]);refine bm (J0.trans (by rw[l.out])) (F0.trans l) λT l=>?_;have V:=G0;have u:=aa (I0.trans X.symm);clear G p U O X;obtain⟨_,E,_,_,_,_,_⟩:=tN (K.ah 2 rfl);have i:=(K.ah 3 rfl).cell 0;have C:=(K.ah 4 rfl).cell 0;have y:=(K.ah 4 rfl).frozen;obtain⟨F,N,z,t,W,H⟩:=(K.ah 5 rfl).ni;have P:=(K.fi 4).br 0 (iI A) #[iI A];have HC:=aa (λC0=>xX R j S c ge n a ring Y A C0 _ (P.pk 6 [3,0,4,2,1]));clear P
   go_wp2_with fail
   refine leaves_cons (f:=219) (args:= #[pO n,pO ge]) acy adl ?_;refine(HC _).mono ?_;rintro e u' w9⟨rfl,rfl,h⟩;have y0:=(h.ah 1 rfl).cell 0;refine⟨iI (if(Y).down=true then 43 else A),aL rfl _ rfl ?_,by rw[A0.out,V.out,ET.out];try rfl,?_⟩
   ·go_simp
   ·rw[A0.out,T.out,u.out,l.out]
    exact h.sub
  case pos=>
   have p:k.wE q b=0:=by rw[<-U];exact G
   have l:Hid (rY q k b=Y.sync):=(iP p).trans (by rw[<-O]);have ET:=aa (show CQ q k b=if Y.sync.down=true then 43 else 0 by unfold CQ;rw[l.out,p]);refine bm (J0.trans (by rw[l.out])) (F0.trans l) λT l=>?_;have V:=G0;have u:=aa (I0.trans X.symm);subst G;clear p U O X;obtain⟨_,E,_,_,_,_,_⟩:=tN (K.ah 2 rfl);have i:=(K.ah 3 rfl).cell 0;have C:=(K.ah 4 rfl).cell 0;have y:=(K.ah 4 rfl).frozen;obtain⟨F,N,z,t,W,H⟩:=(K.ah 5 rfl).ni
   go_wp2_with fail
   refine qK (GM S j _ Y aj _ M0.1 oM (K.pk 0 [])) λw6 h=>?_;clear E i C y F N z t W H;have o:=aa h;clear h K;obtain⟨_,E,_,_,_,_,_⟩:=tN (o.ah 2 rfl);have i:=(o.ah 3 rfl).cell 0;have C:=(o.ah 4 rfl).cell 0;have y:=(o.ah 4 rfl).frozen;obtain⟨F,N,z,t,W,H⟩:=(o.ah 5 rfl).ni;have P:=(o.fi 4).br 0 (iI 0) #[iI 0];have HC:=aa (λC0=>xX R j S c ge n a ring Y.sync 0 C0 _ (P.pk 6 [3,0,4,2,1]));clear P
   go_wp2_with fail
   refine leaves_cons (f:=219) (args:= #[pO n,pO ge]) acy adl ?_;refine(HC _).mono ?_;rintro e u' w9⟨rfl,rfl,h⟩;have y0:=(h.ah 1 rfl).cell 0;refine⟨iI (if(Y.sync).down=true then 43 else 0),aL rfl _ rfl ?_,by rw[A0.out,V.out,ET.out];try rfl,?_⟩
   ·go_simp
   ·rw[A0.out,T.out,u.out,l.out]
    exact h.sub):p:=h
theorem adR(h:p:=by
  obtain rfl:k=n:=oM
  have E:=aa (z.trans (show dz p k (l.drop k)= -1 by rw[Qz acE];rfl));have H:=aa h;clear h z
  go_wp2_with fail
  go_ret
  exact⟨by rw[E.out];try rfl,H⟩):p:=h
theorem adS(h:p:=by
  obtain⟨U,W,C,Z⟩:=h.bK;have B:=(lQ.1 F).1;have X:(k+1)*size<=n*size:=vl _ oM;rw[vq,Co]at X;have P:=Z.sl;have G:=Z.get 1 rfl k x F;obtain⟨Y,r,_,_,D⟩:=P.2 oM;refine⟨Y,(U.drop (k*size)).take size,r,by rw[fJ,km];omega,λj u E=> ?_,G,W,?_⟩
  ·rw[dk]
   refine D (k*size+j) u ?_;rw[AH]at E
   split at E
   ·rwa[xV]at E
   ·cases E
  ·have V:=(Z.copy 1 rfl).bu (R':=λO=>R O ((U.drop (k*size)).take size) x) (λO G=>G k x F)
   have M:=V.sh;subst W;exact(St.cZ (f:=λU=>aX (bY e size (.slice A T.length c) T.length U) (aS (λw=>∀(i:Nat) x,T[i]? =some x->R w ((U.drop (i*size)).take size) x))) U M.aM).swap):p:=h
theorem adT(h:p:=by
  have B:=V.ah 0 rfl;obtain⟨A6,c6,A0,_,_⟩:=Rows.slice ⟨_,((V.get 1 rfl) k O).log⟩;have y0:=dG B (k:=k) (j:=0) O oM rfl;have y1:=dG B (k:=k) (j:=1) O oM rfl;have D:=dG B (k:=k) (j:=6) O oM rfl;rw[A0]at D;refine bm (GN g (k*7) ⟨o,k,index,token,seq,data⟩ (.slice A n c) (m k).aE (m k).seq A6 (m k).log.length c6 X ⟨HR.s0,HR.s1⟩ ⟨e.s0,e.s1⟩ B.lt y0 y1 D) V λC0 T=>?_;obtain⟨f0,f1,f2,f3,f4,f5⟩:=(V.ah 2 rfl).ni;clear a V A0 B y0 y1 D
  go_wp2_with fail
  refine qK C0 λw3 a=>?_;have N:=aa (T.grow a);clear a
  go_wp2_with fail
  go_ret2
  refine⟨by rw[E.out];rfl,?_⟩;exact St.kU N.OJ):p:=h
theorem adU(h:p:=by
  go_wp2_with fail
  go_roundg (4-(k+1))
  case measure=>have:=HG.out;omega
  case rel=>exact⟨k+1,_,rfl,oM,by go_num,C0,by rw[HZ.out];exact K.out⟩):p:=h
theorem adV(h:p:=by
  go_wp2
  go_ret
  exact⟨by rw[E.out];rfl,(Fr.refl _ _).alloc _⟩):p:=h
theorem adW(h:p:=by
  go_wp2_with fail
  go_ret
  exact⟨rfl,T⟩):p:=h
theorem adX(h:p:=by
  have S:=r8 G (21-(i+1));rw[show i+1+(21-(i+1))=21 by omega]at S;have n:=aa (x (U.trans S));clear S;have o:=aa ((K.pk 3 []).bG (R:=λw=>aA w .u8 sN []) (λO _=>aA.none_ O .u8))
  go_wp2_with fail
  go_ret2
  rw[n.out.1,n.out.2];exact⟨none,0,rfl,o⟩):p:=h
theorem adY(h:p:=by
  go_wp2_with fail
  go_ret
  exact⟨rfl,H⟩):p:=h
theorem adZ(h:p:=by exact⟨rfl,rfl⟩):p:=h
theorem adb(h:p:=by(rw[o.out];exact gV)):p:=h
theorem ade(h:p:=by(have:=z.out;omega)):p:=h
theorem adf(h:p:=by(intro i S B;simp[Value.ownBlock]at S;omega)):p:=h
theorem adg(h:p:=by(rw[i.out];exact j.out)):p:=h
theorem adh(h:p:=by(rw[c.out];exact g.out)):p:=h
theorem adi(h:p:=by simp[MapKept.IsKey]):p:=h
theorem adj(h:p:=by(have:=u.2.2.1;omega)):p:=h
theorem adm(h:p:=by(rw[u.out.2.2.2.1];omega)):p:=h
theorem adu(h:p:=by(show¬(1:Int)<=0;decide)):p:=h
theorem adw(h:p:=by(rw[H];exact O)):p:=h
theorem adx(h:p:=by(simp at h⊢;omega)):p:=h
theorem ae0(h:p:=by
  split
  ·split;· decide
   exact V _
  split;· decide
  split;· decide
  split;· decide
  exact V _):p:=h
theorem ae1(h:p:=by
  rw[y,iP rfl]at E;clear y d
  go_wp2_with fail
  go_ret2
  exact⟨by rw[E.out];rfl,St.kU T.OJ⟩):p:=h
theorem ae2(h:p:=by
  rw[show(I t).x.eY=false from J]at G
  cases G):p:=h
theorem ae3(h:p:=by exact n rfl rfl t):p:=h
theorem ae4(h:p:=by exact⟨0,rfl,oM,rfl,H⟩):p:=h
theorem ae5(h:p:=by
  go_enter func96,ntmps96
  go_wp2_with fail
  go_ret
  rw[E.out,l.out];exact⟨rfl,St.Dk H C⟩):p:=h
theorem ae6(h:p:=by(simp[Instr.storeAt,Instr.sureAddr,storeVar,sizeOf,typeInfo,H,T,Value.cells];exact V)):p:=h
theorem ae7(h:p:=by
  go_enter func154,ntmps154
  go_wp2_with fail
  go_ret3
  rw[E.out];exact⟨rfl,St.Dk H rfl⟩):p:=h
theorem ae8(h:p:=by
  go_wp2_with fail
  go_ret
  exact⟨_,_,rfl,by have h:=H.swap;rwa[World.size_alloc]at h⟩):p:=h
theorem ae9(h:p:=by(rintro e Q r⟨rfl,M⟩;have o:=M.obj 0 rfl;exact⟨_,_,run_endRound none o,rfl,M.ul _⟩)):p:=h
theorem aeA(h:p:=by simp[Builtin.delete_,run_underlying R,MapKept.run_getObj_map y,l,MapKept.run_findKey W d,MapKept.run_setObj_map _ y,Result.andThen]):p:=h
theorem aeB(h:p:=by(refine wpList_plain r λK l=> ?_;unfold Oper.wp execOp;simp only[H,J,E,Sem.run_bind,Sem.run_pure,Result.andThen_ok,C];exact l _ _ h)):p:=h
theorem aeC(h:p:=by
  congr 1
  omega):p:=h
theorem aeD(h:p:=by(refine wpList_plain r λK l=> ?_;unfold Oper.wp execOp;simp only[H,Sem.run_bind,Sem.run_pure,Result.andThen_ok,U,J,G];exact l _ _ k)):p:=h
theorem aeE(h:p:=by
  have N:=aa Z.tail.tail;clear h Z W J C D C0 D0 F hn B0 hl
  go_enter func69,ntmps69
  go_wp2_with fail
  go_ret2
  exact⟨_,rfl,N.tC⟩):p:=h
theorem aeF(h:p:=by(have j:=St.cF P;have i:=St.rD (j.pk 5 [1,3,4,0,2]);exact⟨_,rfl,((i.bG (R:=λw=>aA w .u8 sN []) (λO _=>aA.none_ O _))).sub⟩)):p:=h
theorem aeG(h:p:=by
  rcases Ox n with K|K
  ·exact K
  ·obtain⟨Y,h,_⟩:=U.2 K
   cases h):p:=h
theorem aeH(h:p:=by
  clear o
  go_enter func125,ntmps125
  go_wp2_with fail
  go_ret
  exact⟨_,rfl,by rw[E.out];exact H.tail.bG (λO _=>aA.none_ O _)⟩):p:=h
theorem aeI(h:p:=by(simp[intOf];omega)):p:=h
theorem aeJ(h:p:=by
  by_cases C:c=j
  ·exact⟨_,iP C,λh=>oM⟩
  ·exact⟨_,iN C,λ_=>rfl⟩):p:=h
theorem aeK(h:p:=by
  simp only[Act.put];refine cN ?_;clear l f
  go_wp2_with fail
  go_ret
  exact⟨by rw[B.out];try rfl,by rw[E.out];exact I0.gT⟩):p:=h
theorem aeL(h:p:=by(rcases OD z with rfl|rfl|rfl|rfl<;>rfl)):p:=h
theorem aeM(h:p:=by
  go_enter func43,ntmps43
  go_wp2_with fail
  go_wp2_with (go_quiet (fail))
  go_ret2
  exact⟨rfl,(St.rD H.tail).drewN nq⟩):p:=h
theorem aeN(h:p:=by
  go_wp2_with fail
  refine qK (Ip H) λl h=>?_;rw[b.out];have r:=aa h;clear h H
  go_wp2_with fail
  go_ret
  exact⟨rfl,r⟩):p:=h
theorem aeO(h:p:=by
  go_wp2_with fail
  go_ret
  exact⟨rfl,P.tail.tail.tail.tail⟩):p:=h
theorem aeP(h:p:=by(obtain⟨M,F,J,Q⟩:=h.fact i z;exact J.2)):p:=h
theorem aeQ(h:p:=by
  obtain⟨rfl,_,h⟩:=hrel;have r:=aa h;clear h H
  go_wp2_with fail
  go_end0
  exact⟨rfl,[],List.Perm.nil,cI.nil,r⟩):p:=h
theorem aeR(h:p:=by
  by_cases G:0<=o.r/\o.r<4
  ·exact G
  ·rw[lF G]at R;omega):p:=h
theorem aeS(h:p:=by
  have E:=aa (C.trans (iP o))
  go_wp2_with fail
  go_ret
  exact⟨by rw[E.out];try rfl,by rw[E.out];exact N.out⟩):p:=h
theorem aeT(h:p:=by(rw[iP A]at t;exact none R oM oM t (.inl ⟨rfl,rfl,A⟩))):p:=h
theorem aeU(h:p:=by
  intro i b z B Z
  rcases hF b Z with V|V
  ·exact U.apart (i+1) 0 b oM acA acy B V
  ·have:=N i b z B;omega):p:=h
theorem aeV(h:p:=by(exact⟨i+1,q+u,_,_,out++C,rfl,oM,by go_num,rfl,by rw[eG,<-r.out,<-H0.out],oM,G,by rw[wJ];exact o.sub⟩)):p:=h
theorem aeW(h:p:=by
  split at h
  ·cases h
  ·split at h
   ·cases h
   ·omega):p:=h
theorem aeX(h:p:=by
  rcases G with h|h
  ·exact⟨v,_,rfl,b,h,g9 _,(b.lt _ h).2,hF⟩
  ·exact⟨v,_,rfl,b,h,oM,(b.lt _ h).2,hF⟩):p:=h
theorem aeY(h:p:=by(exact⟨own,(cK.refl oM h).Sv c,λY=>by cases Y⟩)):p:=h
theorem aeZ(h:p:=by
  cases d1<;>cases d2
  all_goals(go_wp2_with fail;go_ret;exact⟨by rw[C.out];try rfl,H.tail⟩)):p:=h
theorem aea(h:p:=by(exact⟨by rw[E.out];try rfl,by rw[E.out];exact K.out⟩)):p:=h
theorem aeb(h:p:=by
  refine h.oU (O:=w) ?_ (Fr.refl _ _) (.inl (by cases A<;>rfl));have X:m*size<=n*size:=vl _ y;obtain⟨C,V⟩:=h.row 0 rfl;refine⟨by rw[fJ];omega,?_⟩;rcases V with⟨S,Y⟩|⟨g,cap,l,S,u,P,W,D,U,R⟩
  ·injection S with d H Q
   exact .inl ⟨by rw[d,Q,show m=0 by omega],oM⟩
  ·injection S with d H Q
   exact .inr ⟨g,cap,l,by rw[d,Q],u,P,oM,D,U,by rw[<-R,OR,Ho X]⟩):p:=h
theorem aec(h:p:=by(have:=R.out;omega)):p:=h
theorem aed(h:p:=by
  go_enter func112,ntmps112
  go_wp2_with fail
  go_ret2
  exact⟨sN,by rw[E.out];try rfl,by rw[C.out,E.out];exact H.tail.tail.bG (λO _=>aA.none_ O _)⟩):p:=h
theorem aee(h:p:=by
  go_wp2
  go_ret
  exact⟨rfl,(Fr.refl _ _).alloc _⟩):p:=h
theorem aef(h:p:=by
  have l:b[t]?.getD undef= .pointer (some a):=by simpa using Q
  simp[results,h,l,asAddr,C]):p:=h
theorem aeg(h:p:=by
  go_enter func144,ntmps144
  go_wp2_with fail
  refine qK (l _ b) λw1 a=>?_;have Y:=aa ((H.alloc 175 #[iI o,iI k,iI index,iU token,iW seq,.slice A n c]).grow a);obtain⟨M,S,P,t,p,u⟩:=(Y.ah 0 rfl).ni;clear H a
  go_wp2_with fail
  go_ret2
  exact⟨by rw[E.out];rfl,Y.tail⟩):p:=h
theorem aeh(h:p:=by exact⟨rfl,T⟩):p:=h
theorem aei(h:p:=by
  simp only[aR];refine AG ?_;refine ax ?_;intro e w1 h;have h:=h.fn;obtain⟨E,d⟩:∃E,(e 5).v=E:=⟨_,rfl⟩;rw[d]at h;have C:=aa h;clear h
  go_wp2_with fail
  rw[d];clear d
  go_wp2_with fail
  go_ret2
  refine⟨E,by rw[c.out];try rfl,?_⟩;rw[b.out,y.out];exact C.sub acB):p:=h
theorem aej(h:p:=by
  have dy:decide (Y.e=0)=false:=dQ T
  have F0:(Y.e==0)=false:=by simp[T]
  go_wp2_with fail
  go_meet
  refine⟨g,l,K,?_⟩;rw[j.out.2.1 (λH=>T H.2),show(X.eA o).b=Y.b from j.out.2.2.2.1 (λH=>T H.2),j.out.2.2.1];exact S.sub):p:=h
theorem aek(h:p:=by
  rw[y,iN gV]at E;rw[y]at d;clear y;obtain⟨f0,f1,f2,f3,f4,f5⟩:=(T.ah 2 rfl).ni
  go_wp2_with fail
  refine qK (d _) λw3 a=>?_;have N:=aa (T.grow a);clear a
  go_wp2_with fail
  go_ret2
  exact⟨by rw[E.out];rfl,St.kU N.OJ⟩):p:=h
theorem ael(h:p:=by(obtain⟨G,p,rfl⟩:=V.slice;refine wpList_plain r λK l=> ?_;unfold Oper.wp execOp;simp only[H,resolve,invoke,builtin,Sem.run_bind,Sem.run_pure,Result.andThen_ok,FV,li,BQ,U,J,C];exact l _ _ (k G p O V))):p:=h
theorem aem(h:p:=by
  obtain rfl:k=n:=oM
  have E:=aa (z.trans (show ju p s k (l.drop k)=(-1,s)by rw[Qz acE];rfl));have H:=aa h;clear h z
  go_wp2_with fail
  go_ret
  exact⟨by rw[E.out];try rfl,by rw[E.out];exact H.out⟩):p:=h
theorem aen(h:p:=by
  go_enter func175,ntmps175
  go_wp2
  go_ret
  refine⟨_,rfl,?_⟩;have h:=(((H.tS).bI 1 (.bool true)).bI 0 sN).bG (R:=λO=>aA O .u8 sN []) (λO _=>aA.none_ O _);exact(St.LK ((h.copy 0 rfl).tX)).swap):p:=h
theorem aeo(h:p:=by
  clear G
  go_enter func45,ntmps45
  go_wp2_with fail
  rw[E.out];refine bodyPost_ret (v:= .agg #[iI 0,iU 0,iU 0]) (aL (fn:=Tryz.f45) (t:=4) (ty:=62) rfl _ rfl ?_) rfl ⟨rfl,T.tail⟩;go_simp):p:=h
theorem aep(h:p:=by(rename_i h;rw[h])):p:=h
theorem aeq(h:p:=by
  cases d1<;>cases d2
  all_goals(go_wp2_with fail;go_ret;exact⟨by rw[C.out];try rfl,H⟩)):p:=h
theorem aer(h:p:=by(refine wpList_plain r λK l=> ?_;unfold Oper.wp execOp;simp only[H,J,E,resolve,invoke,builtin,Sem.run_bind,Sem.run_pure,Result.andThen_ok,FV,li,BQ,C];exact l _ _ h)):p:=h
theorem aes(h:p:=by exact .inl rfl):p:=h
theorem aet(h:p:=by
  have d:=aa (St.zQ (hl:=[]) rfl Q);clear h M Q T r
  go_wp2_with fail
  refine qH (C _ d) λw3 R=>?_;clear d C f t
  go_wp2_with fail
  go_ret
  exact⟨rfl,R⟩):p:=h
theorem aeu(h:p:=by
  unfold aC at K
  split at K;· rename_i h;exact absurd K h
  split at K;· cases K
  split at K;· cases K
  split at K;· cases K
  rename_i Q;rw[c]at Q;omega):p:=h
theorem aev(h:p:=by(exact⟨j+1,o,some ⟨J,0,none⟩,Y,X.set k z',rfl,oM,rfl,by go_num,by rw[Vx];exact O0,B0 z' (by rw[D.out]) (by rw[D.out,W.out];exact D0.out),H7⟩)):p:=h
theorem aew(h:p:=by
  intro b B
  rcases hF b B with V|V
  ·exact U.off 0 b acy V
  ·cases H:M.heap b with
   |none=>rfl
   |some o=>have:=(DZ.1 (Q.heap b o H)).1;omega):p:=h
theorem aex(h:p:=by exact⟨0,rfl,oM,rfl,j.out,H⟩):p:=h
theorem aey(h:p:=by exact plain t (U oM) oM adw (pH.refl _ _) oM):p:=h
theorem aez(h:p:=by
  gi_wp2_with fail
  go_roundw
  case rel=>exact⟨j+1,k+1,by have:=u.out;omega,oM,by go_num,P⟩
  case measure=>have:=u.out;simp[intOf];omega):p:=h
theorem af0(h:p:=by
  split
  ·exact adZ
  ·exact adZ):p:=h
theorem af1(h:p:=by
  simp only[aR];refine yk ?_;refine ax ?_;intro e l h;have h:=h.fn;have T:=aa (h.pk 1 []);clear h K
  exact adW):p:=h
theorem af2(h:p:=by
  go_enter func102,ntmps102
  exact adY):p:=h
theorem af3(h:p:=by
  show ik (((ir x s (56+m)).drop 56).take 4)=_;rw[zz oM oM oM,pP]
  congr 2
  rw[fJ,fJ,km]
  exact aeC):p:=h
theorem af4(h:p:=by
  clear key
  go_enter func179,ntmps179
  exact adV):p:=h
theorem afD(h:p:=by(exact⟨k+1,u,rfl,oM,by go_num,by rw[t.out,C.out];exact d.out⟩)):p:=h
theorem af5(h:p:=by
  go_wp2_with fail
  go_roundg (m-(k+1))
  case measure=>exact aec
  case rel=>exact afD):p:=h
theorem af6(h:p:=by
  clear Z
  go_enter func160,ntmps160
  go_wp2_with fail
  go_ret
  rw[E.out];exact adZ):p:=h
theorem af7(h:p:=by
  go_wp2_with fail
  all_goals
   go_meet
   refine⟨?_,rfl⟩;have:=H.out
   exact aeC):p:=h
theorem af8(h:p:=by
  clear D hF h;generalize fW p 0 l=z at*
  go_enter func113,ntmps113
  exact ad4):p:=h
theorem af9(h:p:=by
  clear S
  go_roundg (n-(j+1))
  case measure=>exact ad5
  case rel=>exact aev):p:=h
theorem afA(h:p:=by(rcases E with rfl|rfl|rfl<;>rfl)):p:=h
theorem afB(h:p:=by(exact(Z.swap.tX.swap.ku (λO M Q=>CT M (J O (M k F) Q))).swap)):p:=h
theorem afC(h:p:=by
  go_enter func137,ntmps137
  go_wp2
  go_ret
  exact⟨by simp,0,rfl⟩):p:=h
theorem afE(h:p:=by
  rcases K with h|h
  ·exact .inl h
  ·exact .inr (by rw[h];simp)):p:=h
theorem afF(h:p:=by
  rw[l.out,iN adg]
  exact P.tail.tail.bG (λO _=>aA.none_ O _)):p:=h
theorem afG(h:p:=by(show y.r.seq+(pq.length:Int)-(pq.length:Nat)=y.r.seq;omega)):p:=h
theorem afH(h:p:=by
  intro n;unfold Rg.j5
  split;· decide
  split;· decide
  decide):p:=h
theorem afI(h:p:=by(refine sw (c:=c) (λJ=>D ?_);unfold aI.fY;rw[iP J];exact J)):p:=h
theorem afJ(h:p:=by
  simp[execOp,H,n,j,p,Z,Result.andThen]
  exact g _ _ (l O V)):p:=h
theorem afK(h:p:=by
  go_enter func137,ntmps137
  go_wp2
  go_ret
  exact⟨by simp,H⟩):p:=h
theorem afL(h:p:=by(rintro e O⟨Y,rfl⟩;exact⟨Y,h⟩)):p:=h
theorem afM(h:p:=by(exact⟨jG _,λb B=>by cases B⟩)):p:=h
theorem afN(h:p:=by(exact⟨a,b,by rw[c];omega,d⟩)):p:=h
theorem afO(h:p:=by exact⟨0,Wh,_,_,_,1,rfl,oM,rfl,yC.new,oM,rfl,sP.new,T⟩):p:=h
theorem afP(h:p:=by
  clear H h G
  go_wp2_with fail
  go_ret
  exact⟨rfl,T.gT⟩):p:=h
theorem afQ(h:p:=by(exact⟨_,_,rfl,D,a,(Sl.qo J).mono (λ_ _ _=>trivial)⟩)):p:=h
theorem afR(h:p:=by
  go_ret
  refine⟨_,rfl,?_⟩;rw[s7,xL]at Z;exact Z.l4 b):p:=h
theorem afS(h:p:=by(rintro e O⟨rfl,rfl⟩;exact⟨rfl,Fr.refl _ _,B.plus⟩)):p:=h
theorem afT(h:p:=by
  go_wp2_with fail
  go_ret2
  rw[HR.out];exact⟨rfl,H6⟩):p:=h
theorem afU(h:p:=by
  go_wp2_with fail
  go_ret2
  rw[a];exact⟨_,rfl,z.tC⟩):p:=h
theorem afV(h:p:=by
  have j:=El Y
  rw[j]at b;have G:=aa (b.trans (iP rfl));clear Y;have Z:=aa (K.get 1 rfl).sl.2.2.2
  go_wp2_with (at_builtin;refine St.dW qt K rfl _ _ rfl rfl A2 u t rfl (bv C) Z (jF _) oM oM ?_;intro A' c' w6 P;have o:=aa P;clear P K)
  go_roundg (22-(i+1))
  case measure=>exact ad5
  case rel=>exact aeV):p:=h
theorem afW(h:p:=by
  clear key
  go_enter func143,ntmps143
  exact adV):p:=h
theorem afX(h:p:=by
  go_wp2_with fail
  go_ret2
  exact aeh):p:=h
theorem afY(h:p:=by
  go_ret
  exact adZ):p:=h
theorem afZ(h:p:=by
  have E:=aa (C.trans (iN acU))
  go_wp2_with fail
  go_roundg (n-(k+1))
  case measure=>exact aec
  case rel=>exact⟨k+1,(p s x).2,rfl,oM,by go_num,E,N⟩):p:=h
theorem afa(h:p:=by
  rename_i Z
  exact absurd h Z):p:=h
theorem afb(h:p:=by
  clear V Y A0
  go_wp2_with fail
  go_end0
  refine⟨rfl,?_⟩;rw[E.out];exact H2.Kn B Q J):p:=h
theorem afc(h:p:=by
  go_wp2_with fail
  go_ret2
  exact⟨by rw[E.out];try rfl,by rw[E.out];exact M0.out⟩):p:=h
theorem afd(h:p:=by
  unfold aI.fY at Y
  split at Y
  ·exact absurd (ZW.1 Y) (by assumption)
  ·omega):p:=h
theorem afe(h:p:=by
  split at h
  ·rename_i Z
   rw[iP Z,iP Z];exact K h
  ·rename_i Z
   rw[iN Z,iN Z]):p:=h
theorem aff(h:p:=by
  go_wp2_with fail
  go_end0
  exact⟨rfl,H⟩):p:=h
theorem afg(h:p:=by
  show l.wr.filter (ao j)=(X.c c.toNat).wr.filter (ao j)
  rw[f4,D];exact wW d):p:=h
theorem afh(h:p:=by
  clear h
  go_wp2_with fail
  go_end0
  refine⟨rfl,?_⟩;rw[E.out];exact Y.Kn B Q J):p:=h
theorem afi(h:p:=by
  go_wp2_with fail
  go_ret2
  exact⟨rfl,N⟩):p:=h
theorem afj(h:p:=by
  have T:=aa V;clear a V
  go_wp2_with fail
  go_ret2
  exact⟨by rw[E.out];rfl,T⟩):p:=h
theorem afk(h:p:=by
  go_wp2_with fail
  go_quiet (fail)
  go_wp2_with fail
  go_ret
  exact⟨rfl,_,rfl⟩):p:=h
theorem afl(h:p:=by
  have J:x∈(b.bB.r r.toNat).h:=J
  rw[t]at J;exact absurd B ((V _ oM).1 x J)):p:=h
theorem afm(h:p:=by
  unfold kT
  split
  ·unfold aJ
   split
   ·exact C p acy
   ·exact h j
  ·exact h j):p:=h
theorem afn(h:p:=by(rcases E with rfl|rfl|rfl|rfl<;>rfl)):p:=h
theorem afo(h:p:=by(exact⟨_,rfl,((P.bG (R:=λw=>aA w .u8 sN []) (λO _=>aA.none_ O _))).sub⟩)):p:=h
theorem afp(h:p:=by(exact⟨_,rfl,((j.bG (R:=λw=>aA w .u8 sN []) (λO _=>aA.none_ O _))).sub⟩)):p:=h
theorem afq(h:p:=by exact⟨own,cK.refl oM h⟩):p:=h
theorem afr(h:p:=by(split<;>exact .same rfl)):p:=h
theorem afs(h:p:=by exact⟨rfl,H.tail⟩):p:=h
theorem aft(h:p:=by exact⟨h.Iu rfl rfl oM,zp.refl _ _⟩):p:=h
theorem afu(h:p:=by(obtain⟨G,p,rfl⟩:=V.slice;have F:=k G p O V;exact oD E H acK F.1 F.2)):p:=h
theorem afv(h:p:=by(intro u E;simp only[nO,nK,or_false]at E;rcases E with rfl|rfl<;>rfl)):p:=h
theorem afw(h:p:=by(have d:=k.out;rw[zcq,iP oM];omega)):p:=h
theorem afx(h:p:=by(unfold cO ub cD;rw[iN acC,iN acC])):p:=h
theorem afy(h:p:=by(obtain⟨o,V⟩:=Z.i.fh (i:=r.toNat) oM;exact⟨o,(Z.trans V).mono oM⟩)):p:=h
theorem afz(h:p:=by(injection e with S P t;subst S;subst P;subst t;exact⟨rfl,Z,V,M⟩)):p:=h
theorem aga(h:p:=by
  go_enter func146,ntmps146
  exact aee):p:=h
theorem agb(h:p:=by
  have j:=OC Y
  rw[j]at b;have G:=aa (b.trans (iN acy));clear Y;exact adX):p:=h
theorem agc(h:p:=by
  have H:=aa Z.tail;clear h Z S l
  go_enter func165,ntmps165
  exact adY):p:=h
theorem age(h:p:=by
  split at h
  ·rename_i Z
   rw[iP Z];exact K h
  ·exact afa):p:=h
theorem agf(h:p:=by
  rw[l];clear S l
  go_enter func100,ntmps100
  exact adY):p:=h
theorem agh(h:p:=by
  go_enter func206,ntmps206
  go_wp2_with (go_at_call 173;refine H.mono ?_;rintro e O⟨rfl,rfl⟩)
  exact afY):p:=h
end
variable{k:IntKind}{α:Type}{a b:Int}{f:FuncId}
theorem oM{p:Prop}(h:p:=by first|omega|(dsimp only;omega)):p:=h
theorem kR{p:Prop}(h:p:=by kernel_rfl):p:=h
theorem dC{p:Prop}(h:p:=by decide):p:=h
theorem gS{p:Prop}(h:p:=by(go_simp;try rfl)):p:=h
theorem nM{α:Type _}(e:α):∃x,x=e:=⟨e,rfl⟩
abbrev iN:=@if_neg
abbrev iP:=@if_pos
abbrev dQ:=@decide_eq_false
abbrev dZ:=@decide_eq_true
theorem nD{p q:Prop}(h:¬p:=by decide):p->q:=λx=>(h x).elim
abbrev sN:Value:=.slice none 0 0
abbrev aO(b:Nat):Option Addr:=some ⟨b,0,none⟩
abbrev pO(b:Nat):Value:=.pointer (some ⟨b,0,none⟩)
abbrev aD(b i:Nat):Addr:=⟨b,i,none⟩
abbrev iI(x:Int):Value:=.int .i64 x
abbrev iU(x:Int):Value:=.int .u64 x
abbrev iW(x:Int):Value:=.int .u32 x
abbrev LI:=List Int
abbrev OA:=Option Addr
abbrev LV:=List Value
abbrev Vq:=Array Value
abbrev rG:=List.range
theorem sU{p:Prop}(h:p:=by(repeat(first|with_reducible exact Sub.refl _|(with_reducible apply Sub.take;focus(repeat(first|with_reducible exact At.here|with_reducible apply At.there)))|with_reducible apply Sub.drop))):p:=h
theorem aU{p:Prop}(h:p:=by(repeat(first|with_reducible exact At.here|with_reducible apply At.there))):p:=h
abbrev gP:=@List.getElem?_eq_getElem
abbrev eG:=@List.length_append
abbrev fJ:=@List.length_take
abbrev gV:=@Bool.false_ne_true
abbrev lQ:=@List.getElem?_eq_some_iff
abbrev ef:=@Int.le_refl
abbrev nS:=@List.take_of_length_le
abbrev lA:=@List.mem_singleton
abbrev km:=@List.length_drop
abbrev g9:=@Nat.le_refl
abbrev mq:=@Bool.and_eq_true
abbrev pJ:=@List.mem_of_getElem?
abbrev lU:=@List.mem_append
abbrev nX:=@List.append_assoc
abbrev nK:=@List.not_mem_nil
abbrev li:=@List.map_cons
abbrev jG:=@Nat.zero_le
abbrev nL:=@List.length_map
abbrev oO:=@List.length_cons
abbrev AJ:=@List.eq_nil_of_length_eq_zero
abbrev qG:=@Int.toNat_natCast
abbrev nO:=@List.mem_cons
abbrev vl:=@Nat.mul_le_mul_right
abbrev zY:=@Int.eq_ofNat_of_zero_le
abbrev oK:=@List.mem_map
abbrev rX:=@List.append_nil
abbrev DZ:=@Array.getElem?_eq_some_iff
abbrev Eb:=@List.drop_eq_getElem_cons
abbrev qJ:=@Nat.le_trans
abbrev wO:=@List.getElem?_map
abbrev xV:=@List.getElem?_drop
abbrev AH:=@List.getElem?_take
abbrev xd:=@List.map_append
abbrev s7:=@Nat.zero_add
abbrev Dl:=@List.mem_cons_of_mem
abbrev xL:=@List.nil_append
abbrev yT:=@List.all_eq_true
abbrev zk:=@List.mem_filter
abbrev Bo:=@List.flatMap_cons
abbrev NP:=@List.getD_eq_getElem?_getD
abbrev vt:=@Nat.add_zero
abbrev Hn:=@List.mem_of_mem_take
abbrev IY:=@List.take_append_drop
abbrev OU:=@List.getElem?_append_right
abbrev vq:=@Nat.add_mul
abbrev xK:=@Int.le_trans
abbrev KP:=@List.getElem?_eq_none
abbrev AW:=@List.drop_zero
abbrev Et:=@List.take_add_one
abbrev Ea:=@List.filter_cons
abbrev Kx:=@List.take_succ_cons
abbrev FV:=@List.map_toArray
abbrev Je:=@List.mem_cons_self
abbrev Hc:=@List.cons.injEq
abbrev Sw:=@Array.getElem?_eq_getElem
abbrev VD:=@List.eraseIdx_eq_take_drop_succ
abbrev Nl:=@List.drop_succ_cons
abbrev Qz:=@List.drop_of_length_le
abbrev Ho:=@Nat.min_eq_left
abbrev BQ:=@List.map_nil
abbrev Fj:=@List.drop_drop
abbrev KL:=@List.Sublist.refl
abbrev Ox:=@Nat.eq_zero_or_pos
abbrev VQ:=@List.take_append_of_le_length
abbrev Uu:=@List.getElem?_append_left
abbrev Ye:=@List.take_succ_eq_append_getElem
abbrev Hm:=@List.take_zero
abbrev Co:=@Nat.one_mul
abbrev OY:=@Nat.lt_of_lt_of_le
abbrev Sr:=@List.length_replicate
abbrev MV:=@List.cons_append
abbrev MS:=@List.take_length
abbrev Wi:=@List.drop_append_of_le_length
abbrev Mo:=@Bool.or_eq_true
abbrev VV:=@List.eraseP_cons_of_pos
abbrev Ud:=@List.mem_of_mem_drop
abbrev OV:=@List.length_nil
abbrev VT:=@Array.getElem?_eq_none
abbrev VY:=@List.drop_eq_nil_of_le
abbrev So:=@List.size_toArray
abbrev MM:=@Bool.true_and
abbrev OR:=@List.take_take
abbrev OW:=@List.mem_range
abbrev Xj:=@List.mem_of_mem_eraseIdx
abbrev VP:=@List.length_filter_le
abbrev Ps:=@Option.some.inj
abbrev Uz:=@Int.emod_lt_of_pos
abbrev WE:=@List.eraseP_cons_of_neg
abbrev Sy:=@Option.getD_some
abbrev Wd:=@List.mem_append_left
abbrev Sp:=@List.getElem_mem
abbrev VX:=@Array.length_toList
abbrev Yy:=@List.mem_or_eq_of_mem_set
abbrev Sz:=@Int.emod_nonneg
abbrev Yl:=@List.length_eq_zero_iff
abbrev Vx:=@List.length_set
abbrev UJ:=@List.find?_cons
abbrev Xy:=@List.getElem?_range
abbrev Sx:=@List.map_take
abbrev Wg:=@Nat.mod_eq_of_lt
abbrev Yt:=@Array.replicate_succ
abbrev Yj:=@Array.replicate_zero
abbrev Yw:=@Bool.or_eq_false_iff
abbrev Xr:=@Option.some.injEq
abbrev Wo:=@List.nodup_append
abbrev XU:=@List.foldl_append
abbrev XQ:=@List.any_eq_false
abbrev Yk:=@List.map_congr_left
abbrev YC:=@List.append_toArray
abbrev XM:=@List.perm_middle
abbrev UC:=@Nat.sub_self
abbrev Yv:=@Int.lt_of_lt_of_le
abbrev UW:=@List.map_map
abbrev Yo:=@List.filter_append
abbrev Ze:=@Array.getElem?_modify
abbrev XZ:=@List.nodup_cons
abbrev VU:=@Bool.or_false
abbrev YB:=@List.ext_getElem?
abbrev YE:=@List.push_toArray
abbrev zb5:=@List.pairwise_iff_getElem
abbrev UF:=@Nat.mul_one
abbrev zb7:=@List.set_eq_take_append_cons_drop
abbrev XL:=@List.take_left
abbrev zb9:=@Option.isSome_iff_exists
abbrev zca:=@List.filter_cons_of_neg
abbrev WT:=@List.map_drop
abbrev Yi:=@List.range_succ
abbrev Yn:=@List.take_left'
abbrev Zr:=@List.find?_eq_none
abbrev zcf:=@List.Perm.append_right
abbrev zcg:=@Option.map_eq_some_iff
abbrev ZW:=@Decidable.not_not
abbrev Yp:=@List.drop_take
abbrev Ym:=@List.drop_left
abbrev Xn:=@Nat.mul_comm
abbrev Wj:=@List.map_set
abbrev WY:=@Int.add_zero
abbrev Zc:=@Array.toList_map
abbrev YK:=@Nat.le_of_not_lt
abbrev Wf:=@Int.not_le
abbrev zcq:=@List.length_eraseIdx
abbrev ZB:=@Nat.le_add_right
abbrev zcs:=@Array.toList_setIfInBounds
abbrev Yh:=@List.any_cons
abbrev Qt:=@Eq.symm
abbrev zcv:=@List.take_set_of_le
abbrev zcw:=@List.flatMap_append
abbrev YJ:=@List.all_append
abbrev Yq:=@Nat.zero_mul
abbrev zcz:=@List.eq_of_mem_replicate
abbrev Ys:=@Bool.or_true
abbrev zcB:=@List.pairwise_cons
abbrev zcC:=@Nat.lt_succ_iff_lt_or_eq
abbrev ZR:=@Bool.false_and
abbrev zcE:=@Nat.add_sub_cancel_left
abbrev zcF:=@List.filter_cons_of_pos
abbrev zcG:=@List.Pairwise.map
abbrev zcH:=@Bool.not_eq_true'
abbrev zcI:=@List.find?_append
abbrev zcJ:=@List.getElem?_set_self
abbrev zcK:=@Option.map_eq_none_iff
abbrev zcL:=@List.filter_eq_nil_iff
abbrev zcM:=@List.drop_length
abbrev zcN:=@List.mem_append_right
abbrev zcO:=@List.length_eraseP_le
abbrev ZQ:=@Nat.lt_or_ge
abbrev ZG:=@Nat.le_of_eq
abbrev ZF:=@Nat.add_comm
abbrev zcS:=@Option.map_some
abbrev zcT:=@List.drop_set_of_lt
abbrev zcU:=@Int.toNat_of_nonneg
abbrev zcV:=@List.drop_replicate
abbrev zcW:=@List.filter_sublist
abbrev zcX:=@List.eraseP_sublist
abbrev VS:=@Ne.symm
abbrev Wb:=@Iff.rfl
abbrev zc0:=@List.Perm.refl
abbrev zc1:=@Bool.and_assoc
abbrev zc2:=@Array.any_eq_true'
abbrev zc3:=@Array.toList_range
abbrev zc4:=@List.map_replicate
abbrev zc5:=@Int.lt_of_le_of_lt
abbrev zc6:=@Nat.add_assoc
abbrev zc7:=@List.perm_append_singleton
abbrev zc8:=@List.all_cons
abbrev zc9:=@Nat.le_succ_of_le
abbrev zda:=@List.length_range
abbrev Zf:=@Nat.mod_lt
abbrev zdc:=@List.take_append
abbrev zdd:=@Array.toList_inj
abbrev zde:=@Int.pow_succ
abbrev zdf:=@List.nodup_range
abbrev zdg:=@List.drop_append
abbrev zdh:=@Option.bind_some
abbrev zdi:=@List.Pairwise.imp_of_mem
abbrev zdj:=@Bool.true_or
abbrev zdk:=@Nat.le_total
abbrev zdl:=@Int.natCast_zero
abbrev zdm:=@List.any_eq_true
abbrev zdn:=@Nat.succ_le_succ
abbrev zdo:=@List.length_eraseIdx_le
abbrev zdp:=@List.getElem?_cons_zero
abbrev zdq:=@List.Perm.of_eq
abbrev zdr:=@Bool.not_false
abbrev zds:=@Bool.and_false
abbrev zdt:=@List.eq_replicate_iff
abbrev zdu:=@List.mem_iff_getElem?
abbrev zdv:=@List.set_append_right
abbrev zdw:=@Array.getElem?_toList
abbrev zdx:=@Array.mem_of_getElem?
abbrev zdy:=@Bool.and_true
abbrev zdz:=@Nat.lt_irrefl
abbrev zdA:=@Int.mul_comm
section
theorem aa{p:Prop}(h:p):Hid p:=h
theorem bm{a S r:Prop}(K:a)(Z:S)(k:Hid a->Hid S->r):r:=k (aa K) (aa Z)
theorem ib{a S P r:Prop}(K:a)(Z:S)(V:P)(k:Hid a->Hid S->Hid P->r):r:=k (aa K) (aa Z) (aa V)
theorem mr{a S P l r:Prop}(K:a)(Z:S)(V:P)(M:l)(k:Hid a->Hid S->Hid P->Hid l->r):r:=k (aa K) (aa Z) (aa V) (aa M)
theorem Cz{a S P l i r:Prop}(K:a)(Z:S)(V:P)(M:l)(Q:i)(k:Hid a->Hid S->Hid P->Hid l->Hid i->r):r:=k (aa K) (aa Z) (aa V) (aa M) (aa Q)
theorem xH{a S P l i e r:Prop}(K:a)(Z:S)(V:P)(M:l)(Q:i)(F:e)(k:Hid a->Hid S->Hid P->Hid l->Hid i->Hid e->r):r:=k (aa K) (aa Z) (aa V) (aa M) (aa Q) (aa F)
theorem qK{p:Program}{a:Array Value}{w:World}{v:Value}{R:World->Prop}{Q:Ending->World->Prop}(c:Calls p f a w λe O=>e= .returned v/\R O)(k:∀O,R O->Q (.returned v) O):Calls p f a w Q:=c.mono λ_ O h=>h.1▸k O h.2
theorem qH{p:Program}{a:Array Value}{w:World}{v:Value}{R:World->Prop}{Q:Ending->World->Prop}(c:Calls p f a w λe O=>e= .returned v/\R O)(k:∀O,Hid (R O)->Q (.returned v) O):Calls p f a w Q:=c.mono λ_ O h=>h.1▸k O (aa h.2)
theorem aR:(∀(a:Act) (d:Tmp) (v:Value),a.put (some d) v={a with tmps:=a.tmps.setIfInBounds d v})/\(∀(a:Act) (v:Value),a.put none v=a)/\(∀(l:LV) (i:Nat) (x:Value),l.toArray.setIfInBounds i x=(l.set i x).toArray)/\
 (∀(a:Value) (l:LV) (n:Nat) (b:Value),(a::l).set (n+1) b=a::l.set n b)/\(∀(a:Value) (l:LV) (b:Value),(a::l).set 0 b=b::l):=
 ⟨λ_ _ _=>rfl,λ_ _=>rfl,λ_ _ _=>List.setIfInBounds_toArray ..,λ_ _ _ _=>rfl,λ_ _ _=>rfl⟩
theorem kO(h:a≠b):(a==b)=false:=by simpa using h
theorem OC(h:a≠b):(a !=b)=true:=bne_iff_ne.2 h
theorem El(h:a=b):(a !=b)=false:=by simp[h]
theorem Ec(h:a=b):(a==b)=true:=by simpa using h
structure Fr(S:Nat->Prop)(w O:World):Prop where
 os:O.os=w.os
 tape:O.tape=w.tape
 output:O.output=w.output
 size:w.heap.size<=O.heap.size
 block:∀k,k<w.heap.size->¬S k->O.heap[k]? =w.heap[k]?
def iY:Nat->Prop:=λ_=>False
theorem Fr.refl(S:Nat->Prop)(w:World):Fr S w w:=⟨rfl,rfl,rfl,g9 _,λ_ _ _=>rfl⟩
theorem Fr.trans{S:Nat->Prop}{a b c:World}(h:Fr S a b)(k:Fr S b c):Fr S a c:=
 ⟨k.os.trans h.os,k.tape.trans h.tape,k.output.trans h.output,qJ h.size k.size,λi z U=>(k.block i (OY z h.size) U).trans (h.block i z U)⟩
theorem Fr.step{S T:Nat->Prop}{a b c:World}(h:Fr S a b)(k:Fr T b c)(A:∀i,T i->i<a.heap.size->S i):Fr S a c:=
 ⟨k.os.trans h.os,k.tape.trans h.tape,k.output.trans h.output,qJ h.size k.size,λi z U=>(k.block i (OY z h.size) (λR=>U (A i R z))).trans (h.block i z U)⟩
theorem Fr.mono{S T:Nat->Prop}{a b:World}(h:Fr S a b)(A:∀i,i<a.heap.size->S i->T i):Fr T a b:=
 ⟨h.os,h.tape,h.output,h.size,λi z U=>h.block i z (λE=>U (A i z E))⟩
theorem Fr.drew{S:Nat->Prop}{a w:World}(h:Fr S a w):Fr S a w.drew:=⟨h.os,h.tape,h.output,h.size,h.block⟩
theorem Fr.drewN{S:Nat->Prop}{a w:World}(h:Fr S a w)(n:Nat):Fr S a (w.drewN n):=⟨h.os,h.tape,h.output,h.size,h.block⟩
theorem Fr.alloc{S:Nat->Prop}{a w:World}(h:Fr S a w)(o:Obj):Fr S a (w.alloc o):=
 ⟨h.os,h.tape,h.output,qJ h.size acy,λk F U=>(Below.heap_alloc _ _ _ (OY F h.size)).trans (h.block k F U)⟩
theorem Fr.setCell{S:Nat->Prop}{a w:World}(h:Fr S a w){p:Addr}(o:p.block<a.heap.size->S p.block)(u:Value):Fr S a (w.setCell p u):=
 ⟨h.os,h.tape,h.output,by simpa[World.setCell]using h.size,λk F U=>(Below.heap_setCell _ _ _ _ (by rintro rfl;exact U (o F))).trans (h.block k F U)⟩
theorem Fr.grown{S:Nat->Prop}{a w O:World}{row:Option Nat}(h:Fr S a w)(u:w.grownBy O row)(G:∀k,row=some k->k<a.heap.size->S k):Fr S a O:=
 ⟨u.os.trans h.os,u.tape.trans h.tape,u.output.trans h.output,qJ h.size u.size,λk F U=>(u.block k (OY F h.size) (λe=>U (G k e.symm F))).trans (h.block k F U)⟩
theorem Fr.below{a w:World}(h:Fr iY a w):Below a.heap.size a w:=⟨h.os,h.tape,h.output,h.size,λk F=>h.block k F (λx=>x)⟩
theorem Fr.cell{S:Nat->Prop}{w O:World}(h:Fr S w O){p:Addr}(o:p.block<w.heap.size)(U:¬S p.block):O.cell? p=w.cell? p:=World.cell?_of_block (w:=w) (h.block p.block o U)
def eF(w:World)(g:Nat)(t:TypeId)(cs:Vq):Prop:=w.heap[g]? =some (.cells cs t (0,0))
section
variable {w O:World} {g:Nat} {t:TypeId} {cs:Vq}
theorem eF.lt(h:eF w g t cs):g<w.heap.size:=by
 rcases ZQ g w.heap.size with B|S
 ·exact B
 ·unfold eF at h;rw[VT S]at h;cases h
theorem eF.cell(h:eF w g t cs)(i:Nat):w.cell? ⟨g,i,none⟩=cs[i]? :=cell_of_row w g i cs t (0,0) h
theorem eF.frozen(h:eF w g t cs)(i:Nat):w.frozen? ⟨g,i,none⟩=false:=by
 unfold eF at h;simp[World.frozen?,h]
theorem eF.new(w:World)(t:TypeId)(cs:Vq):eF (w.alloc (.cells cs t)) w.heap.size t cs:=heap_alloc_new w _
theorem eF.drew(h:eF w g t cs):eF w.drew g t cs:=h
theorem eF.drewN(h:eF w g t cs)(n:Nat):eF (w.drewN n) g t cs:=h
theorem eF.alloc(h:eF w g t cs)(o:Obj):eF (w.alloc o) g t cs:=(Below.heap_alloc w o g h.lt).trans h
theorem eF.bI(h:eF w g t cs)(i:Nat)(u:Value):eF (w.setCell ⟨g,i,none⟩ u) g t (cs.setIfInBounds i u):=by
 unfold eF at h⊢;simp[World.setCell,Ze,h]
theorem eF.fr{S:Nat->Prop}(h:eF w g t cs)(B:Fr S w O)(u:¬S g):eF O g t cs:=(B.block g h.lt u).trans h
theorem eF.ne_{a:Nat}{b:TypeId}{l:Vq}(h:eF w g t cs)(E:eF w a b l)(I:t≠b):g≠a:=by
 rintro rfl;unfold eF at h E;rw[h]at E;injection E with E;injection E with _ R;exact I R
end
end
section
theorem fl(a:Addr)(n:Nat):(a.add n).block=a.block:=by unfold Addr.add;split<;>rfl
theorem dk(a:Addr)(i j:Nat):(a.add i).add j=a.add (i+j):=by
 unfold Addr.add;by_cases z:i=0<;>by_cases N:j=0<;>simp[z,N,zc6]
def Sl(w:World)(Q:Nat->Prop)(size:Nat)(A:OA)(n:Nat)(xs:LV):Prop:=
 xs.length=n*size/\(0<n->∃Y,A=some Y/\Q Y.block/\Y.block<w.heap.size/\∀j u,xs[j]? =some u->w.cell? (Y.add j)=some u)
section
variable {w O:World} {Q i:Nat->Prop} {size n:Nat} {A:OA} {xs:LV}
theorem Sl.Qp(w:World)(Q:Nat->Prop)(size:Nat)(A:OA):Sl w Q size A 0 []:=⟨by simp,λh=>absurd h oM⟩
theorem Sl.at_{k:Nat}(h:Sl w Q 1 A n xs)(F:k<n):∃Y u,A=some Y/\Q Y.block/\Y.block<w.heap.size/\xs[k]? =some u/\w.cell? (Y.add k)=some u:=by
 obtain⟨Y,e,d,B,D⟩:=h.2 oM;have C:k<xs.length:=by have:=h.1;omega
 exact⟨Y,xs[k],e,d,B,gP C,D k _ (gP C)⟩
theorem Sl.fr{S:Nat->Prop}(h:Sl w Q size A n xs)(a:Fr S w O)(d:∀b,Q b->b<w.heap.size->¬S b):Sl O Q size A n xs:=
 ⟨h.1,λW=>by
  obtain⟨Y,e,T,B,D⟩:=h.2 W;exact⟨Y,e,T,OY B a.size,λj u E=>(a.cell (p:=Y.add j) (by rw[fl];exact B) (by rw[fl];exact d _ T B)).trans (D j u E)⟩⟩
theorem Sl.LG(h:Sl w Q size A n xs)(a:Fr iY w O):Sl O Q size A n xs:=h.fr a (λ_ _ _ x=>x)
theorem Sl.mono(h:Sl w Q size A n xs)(d:∀b,Q b->b<w.heap.size->i b):Sl w i size A n xs:=
 ⟨h.1,λW=>by
  obtain⟨Y,e,T,B,D⟩:=h.2 W;exact⟨Y,e,d _ T B,B,D⟩⟩
theorem Sl.qo{base:Nat}{e:TypeId}{c:Nat}(h:w.ownsRow base e size (.slice A n c) n xs):Sl w (λb=>base<=b) size A n xs:=by
 refine⟨h.1,λd=> ?_⟩;rcases h.2 with⟨_,W⟩|⟨g,cap,l,K,u,H,_⟩
 ·omega
 ·have r:A=some ⟨g,0,none⟩:=by injection K
  subst r;exact⟨_,rfl,u,eF.lt H,h.cells (g:=g) rfl⟩
end
def ZY(w:World)(Q:Nat->Prop)(k:IntKind)(v:Value)(xs:LI):Prop:=
 ∃A c,v= .slice A xs.length c/\xs.length<=140737488355328/\Sl w Q 1 A xs.length (xs.map (Value.int k))
theorem DW{xs R:LI}{k:Nat}(J:k<xs.length)(E:k<R.length)(h:xs.take k=R.take k)(Y:xs[k]=R[k]):xs.take (k+1)=R.take (k+1):=by
 rw[Ye J,Ye E,h,Y]
theorem NJ{w:World}{base:Nat}{e:TypeId}{size:Nat}{v:Value}{n m:Nat}{xs R:LV}(h:w.ownsRow base e size v n xs)(W:n=m)(J:xs=R):w.ownsRow base e size v m R:=by subst W;subst J;exact h
theorem oQ{S:Nat->Prop}{w O:World}{base:Nat}{e:TypeId}{size:Nat}{v:Value}{n:Nat}{xs:LV}(h:w.ownsRow base e size v n xs)(a:Fr S w O)(U:∀g,v.ownBlock=some g->¬S g):O.ownsRow base e size v n xs:=by
 refine⟨h.1,?_⟩;rcases h.2 with V|⟨g,cap,l,rfl,u,H,r⟩
 ·exact .inl V
 ·exact .inr ⟨g,cap,l,rfl,u,(a.block g (eF.lt H) (U g rfl)).trans H,r⟩
theorem si{w O:World}{base:Nat}{e:TypeId}{size:Nat}{v:Value}{n:Nat}{xs:LV}(h:w.ownsRow base e size v n xs)(a:Fr iY w O):O.ownsRow base e size v n xs:=oQ h a (λ_ _ x=>x)
end
section
def bh{α:Type}(xs:List α)(o:Nat)(U:List α):List α:=xs.take o++U++xs.drop (o+U.length)
theorem ia(xs:List α)(o:Nat)(U:List α)(h:o+U.length<=xs.length):(bh xs o U).length=xs.length:=by
 unfold bh;exact acC
theorem xp(xs:List α)(o m:Nat)(U:List α)(h:o+U.length<=m)(_hm:m<=xs.length):(bh xs o U).take m=bh (xs.take m) o U:=by
 unfold bh;rw[zdc,zdc,Yp];simp only[eG,fJ,OR]
 congr 1
 ·congr 1
  ·congr 1;omega
  ·rw[nS oM]
 ·congr 1;omega
theorem Kr{α c:Type}(f:α->c)(xs:List α)(o:Nat)(U:List α):(bh xs o U).map f=bh (xs.map f) o (U.map f):=by
 unfold bh;exact acy
theorem wX(xs:List α)(o:Nat)(v:α)(U:List α)(h:o+(U.length+1)<=xs.length):bh (xs.set o v) (o+1) U=bh xs o (v::U):=by
 unfold bh;rw[zcT oM,oO,show o+1+U.length=o+(U.length+1)by omega];have:(xs.set o v).take (o+1)=xs.take o++[v]:=by
  rw[Ye acC];simp[zcv]
 rw[this];exact acy
theorem uQ(b:Nat)(e:TypeId):∀(U:LV) (o:Nat) (l:Vq) (w:World),eF w b e l->o+U.length<=l.size->eF (w.setCells b o U) b e (bh l.toList o U).toArray
 |[],o,l,w,h,_=>by simpa[World.setCells,bh]using h
 |v::U,o,l,w,h,C=>by
  rw[World.setCells];have Z:=uQ b e U (o+1) _ _ (h.bI o v) (by simp at C⊢;omega);have V:(l.setIfInBounds o v).toList=l.toList.set o v:=by simp
  rw[V,wX _ _ _ _ (by simpa using C)]at Z;exact Z
theorem jN{S:Nat->Prop}{a:World}(b:Nat):∀(U:LV) (o:Nat) (w:World),Fr S a w->(b<a.heap.size->S b)->Fr S a (w.setCells b o U)
 |[],_,_,h,_=>by simpa[World.setCells]using h
 |v::U,o,w,h,B=>by
  rw[World.setCells];exact jN b U (o+1) _ (h.setCell B v) B
section
variable {w O:World} {base:Nat} {e:TypeId} {size n b cap:Nat} {xs U:LV}
theorem mL(h:w.ownsRow base e size (.slice (aO b) n cap) n xs):∃l,eF w b e l/\l.toList.take (n*size)=xs/\l.size=cap*size/\n<=cap/\cap<=maxLen/\base<=b:=by
 rcases h.2 with⟨W,_⟩|⟨g,c,l,K,u,H,d,y,U,R⟩
 ·cases W
 ·simp only[Value.slice.injEq,Xr,Addr.mk.injEq,and_true,true_and]at K
  obtain⟨rfl,rfl⟩:=K;exact⟨l,H,R,U,d,y,u⟩
theorem tr{l:Vq}(h:eF w b e l)(R:l.toList.take (n*size)=xs)(U:l.size=cap*size)(W:n<=cap)(y:cap<=maxLen)(B:base<=b):
 w.ownsRow base e size (.slice (aO b) n cap) n xs:=
 ⟨by rw[<-R,fJ,VX,U];exact Ho (vl _ W),.inr ⟨b,cap,l,rfl,B,h,W,y,U,R⟩⟩
theorem kE(h:w.ownsRow base e size (.slice (aO b) n cap) n xs)(o:Nat)(H:o+U.length<=n*size):
 (w.setCells b o U).ownsRow base e size (.slice (aO b) n cap) n (bh xs o U):=by
 obtain⟨l,B,R,K,W,y,u⟩:=mL h;have X:n*size<=l.size:=by rw[K];exact vl _ W
 refine tr (uQ b e U o l w B oM) ?_ ?_ W y u
 ·simp only
  rw[xp _ _ _ _ H (by simpa using X),R]
 ·rw[So,ia _ _ _ acC,VX,K]
theorem Bj(h:w.ownsRow base e size (.slice (aO b) n cap) n xs)(o k:Nat):w.rangeAt b o ((xs.drop o).take k):=by
 obtain⟨l,B,R,_⟩:=mL h;intro j v K;rw[B.cell];rw[AH]at K
 split at K
 ·rw[xV,<-R,AH]at K
  split at K
  ·simpa using K
  ·cases K
 ·cases K
theorem iL(h:w.ownsRow base e size (.slice (aO b) n cap) n xs)(o k:Nat)(H:o+k<=n*size):w.there b o k:=by
 obtain⟨l,B,R,U,W,_⟩:=mL h;have X:n*size<=l.size:=by rw[U];exact vl _ W
 intro j N;exact⟨by rw[B.cell,Sw (show o+j<l.size by omega)];rfl,B.frozen _⟩
theorem dR{S:Nat->Prop}(h:w.ownsRow base e size (.slice (aO b) n cap) n xs)(a:Fr S w O)(U:¬S b):O.ownsRow base e size (.slice (aO b) n cap) n xs:=
 oQ h a (λg u=>by
  obtain rfl:b=g:=by simpa[Value.ownBlock]using u
  exact U)
theorem fQ{A:OA}{c:Nat}(h:w.ownsRow base e size (.slice A n c) n xs)(d:0<n):∃g,A=some ⟨g,0,none⟩:=by
 rcases h.2 with⟨_,W⟩|⟨g,cap,l,K,_⟩
 ·omega
 ·exact⟨g,by injection K⟩
end
theorem eF.range{w:World}{b:Nat}{e:TypeId}{l:Vq}(h:eF w b e l)(o k:Nat):w.rangeAt b o ((l.toList.drop o).take k):=by
 intro j v K;rw[h.cell];rw[AH]at K
 split at K
 ·rw[xV]at K
  simpa using K
 ·cases K
theorem eF.there{w:World}{b:Nat}{e:TypeId}{l:Vq}(h:eF w b e l)(o k:Nat)(H:o+k<=l.size):w.there b o k:=by
 intro j N;exact⟨by rw[h.cell,Sw (show o+j<l.size by omega)];rfl,h.frozen _⟩
theorem oJ{P:Program}{w:World}(t X:TypeId)(base:Nat)(e:TypeId)(z:Value)(size bytes:Nat)(R:P.underlying t=some (.slice e))
 (A:(P.info? e).map (λi=>(i.zero,i.size,i.bytes))=some (some z,size,bytes)) (y:z.cells.size=size) (T:0<size)
 (v:Value) (n:Nat) (xs:LV) (Y:w.ownsRow base e size v n xs)
 (a:Addr) (m c:Nat) (d:LV) (C:d.length=m*size) (D:∀j u,d[j]? =some u->w.cell? (a.add j)=some u) (Z:∀u∈d,u.oneCell'=true)
 (E:(n+m)*bytes<=140737488355328) (W:n+m<=140737488355328) (B:base<=w.heap.size):
 ∃g O,(Builtin.append_ #[t,t] X #[v,.slice (some a) m c]).run P w= .ok g O/\O.ownsRow base e size g (n+m) (xs++d)/\Fr (λb=>v.ownBlock=some b) w O/\
  (g.ownBlock=v.ownBlock\/g.ownBlock=some w.heap.size):=by
 obtain⟨q,H,r,o,p⟩:=info_parts A;obtain⟨g,O,Z,V,M,_,F⟩:=run_append_own_at (P:=P) w base t X e q z size bytes R H r o p y T v n xs Y a m c d C D Z acV E B;exact⟨g,O,Z,V,(Fr.refl _ _).grown M (λk Q _=>Q),F⟩
theorem Bw{P:Program}{ops:Array Oper}{rest:List Oper}{o:Oper}{ac:Act}{Q:Exit->Act->World->Prop}{w:World}(r:o.guard=none)(s x:Operand)(t:TypeId)
 (H:o.op= .call {callee:= .builtin .append,args:= #[s,x],argTypes:= #[t,t]})
 (base:Nat) (e:TypeId) (z:Value) (size bytes:Nat) (R:P.underlying t=some (.slice e))
 (A:(P.info? e).map (λi=>(i.zero,i.size,i.bytes))=some (some z,size,bytes)) (y:z.cells.size=size) (N:0<size)
 (v:Value) (n:Nat) (xs:LV) (U:ac.eval s=v) (Y:w.ownsRow base e size v n xs)
 (a:Addr) (m c:Nat) (J:ac.eval x= .slice (some a) m c) (d:LV) (C:d.length=m*size) (D:∀j u,d[j]? =some u->w.cell? (a.add j)=some u) (Z:∀u∈d,u.oneCell'=true)
 (E:(n+m)*bytes<=140737488355328) (W:n+m<=140737488355328) (B:base<=w.heap.size)
 (h:∀g O,O.ownsRow base e size g (n+m) (xs++d)->Fr (λb=>v.ownBlock=some b) w O->(g.ownBlock=v.ownBlock\/g.ownBlock=some w.heap.size)->wpList P ops Q rest (ac.put o.dst g) O):
 wpList P ops Q (o::rest) ac w:=by
 obtain⟨g,O,T,V,M,S⟩:=oJ (P:=P) (w:=w) t o.type base e z size bytes R A y N v n xs Y a m c d C D Z E W B;refine wpList_plain r λK l=> ?_;unfold Oper.wp execOp;simp only[H,resolve,invoke,builtin,Sem.run_bind,Sem.run_pure,Result.andThen_ok,FV,li,BQ,U,J,T];exact l _ _ (h g O V M S)
theorem CS(k:IntKind)(l:LI):∀u∈l.map (Value.int k),u.oneCell'=true:=by
 intro u E;obtain⟨x,_,rfl⟩:=oK.1 E
 rfl
theorem fO{P:Program}{id:Nat}{Q:Exit->Act->World->Prop}{a:Act}{w:World}{l:List Oper}(n:Nat)(y:P.follows .mixedOrders=true)(M:Region.lexTailB .any l.toArray n=true)
 (h:∀W:World,W=w.drew->wpStill P l.toArray W (λg=>wpList P l.toArray Q (l.drop n) g W) (l.take n) a):(Code.region id l.toArray true).wp P Q a w:=
 wp_region_still_tail n y M (h _ rfl)
theorem BU(w:World)(p:Addr):w.drew.cell? p=w.cell? p:=rfl
theorem Ev(w:World)(p:Addr):w.drew.frozen? p=w.frozen? p:=rfl
theorem rK(e:TypeId):∀(U:LV) (o:Nat) (w:World) (cs:Vq),o+U.length<=cs.size->(w.alloc (.cells cs e)).setCells w.heap.size o U=w.alloc (.cells (bh cs.toList o U).toArray e)
 |[],o,w,cs,_=>by simp[World.setCells,bh]
 |v::U,o,w,cs,h=>by
  rw[World.setCells,World.setCell_alloc_at _ _ _ _ _ rfl,rK e U (o+1) w _ adx]
  congr 2
  rw[zcs,wX _ _ _ _ acX]
theorem foldl_set(cs:LV):∀(k:Nat) (b:Vq),k+cs.length=b.size->
 ((cs.zipIdx k).foldl (λ(a:Vq) (x:Value×Nat)=>a.setIfInBounds (0+x.2) x.1) b).toList=b.toList.take k++cs:=by
 induction cs with
 |nil=>intro k b h;simp only[List.zipIdx_nil,List.foldl_nil,rX];rw[nS adx]
 |cons c cs K=>
  intro k b h;simp only[List.zipIdx_cons,List.foldl_cons,s7];have:=K (k+1) (b.setIfInBounds k c) adx;simp only[s7]at this;rw[this,zcs,Ye adx];simp[zcv]
theorem tM{P:Program}(w:World)(t e:TypeId)(cs:Vq)(z:Value)(bytes:Nat)(E:P.underlying t=some (.slice e))
 (A:(P.info? e).map (λi=>(i.zero,i.size,i.bytes))=some (some z,cs.size,bytes)) (T:0<cs.size) (a:cs.size<=1000):
 (Instr.buildSlice t 1 #[(0,.agg cs)]).run P w= .ok (.slice (aO w.heap.size) 1 1) (w.alloc (.cells cs e)):=by
 obtain⟨q,H,r,o,p⟩:=info_parts A;refine run_buildSlice w t e 1 _ cs q z E H r (by rw[o];omega) (by rw[o];omega) ?_;simp only[Instr.fill,Value.cells,o,Yq,Co];rw[iN acy]
 congr 1
 apply zdd.1;have:=foldl_set cs.toList 0 ((Array.range cs.size).map (z.cells[·%z.cells.size]!)) acy;simp only[Hm,xL]at this;rw[<-this,<-Array.foldl_toList];simp
 rfl
section
variable {P:Program} {ops:Array Oper} {rest:List Oper} {o:Oper} {a:Act} {Q:Exit->Act->World->Prop} {w O:World} {v:Value}
theorem Ms(r:o.guard=none)(t:TypeId)(k:Nat)(x:Operand)(u:Value)(H:o.op= .build t #[(k,x)])(J:a.eval x=u)
 (C:(Instr.build t #[(k,u)]).run P w= .ok v O) (h:wpList P ops Q rest (a.put o.dst v) O):wpList P ops Q (o::rest) a w:=by
 refine wpList_plain r λK l=> ?_;unfold Oper.wp execOp;simp only[H,J,FV,li,BQ,Sem.run_bind,Sem.run_pure,Result.andThen_ok,C];exact l _ _ h
theorem zL(r:o.guard=none)(t:TypeId)(H:o.op= .alloc t)
 (C:(Instr.alloc t true (.tuple #[])).run P w= .ok v O) (h:wpList P ops Q rest (a.put o.dst v) O):wpList P ops Q (o::rest) a w:=by
 refine wpList_plain r λK l=> ?_;unfold Oper.wp execOp;simp only[H,Sem.run_bind,Sem.run_pure,Result.andThen_ok,C];exact l _ _ h
theorem rz(r:o.guard=none)(t:TypeId)(x y:Operand)(p u:Value)(H:o.op= .store t x y)(J:a.eval x=p)(E:a.eval y=u)
 (C:(Instr.storeAt t p u).run P w= .ok () O) (h:wpList P ops Q rest (a.put o.dst undef) O):wpList P ops Q (o::rest) a w:=by
 exact aeB
theorem CW(r:o.guard=none)(t:TypeId)(x:Operand)(p:Value)(H:o.op= .load t x)(J:a.eval x=p)
 (C:(Instr.loadAt t p).run P w= .ok v O) (h:wpList P ops Q rest (a.put o.dst v) O):wpList P ops Q (o::rest) a w:=by
 refine wpList_plain r λK l=> ?_;unfold Oper.wp execOp;simp only[H,J,Sem.run_bind,Sem.run_pure,Result.andThen_ok,C];exact l _ _ h
theorem KW(r:o.guard=none)(x y:Operand)(tx X:TypeId)(p u:Value)(H:o.op= .call {callee:= .builtin .copy,args:= #[x,y],argTypes:= #[tx,X]})(J:a.eval x=p)(E:a.eval y=u)
 (C:(Builtin.copy_ #[tx,X] o.type #[p,u]).run P w= .ok v O) (h:wpList P ops Q rest (a.put o.dst v) O):wpList P ops Q (o::rest) a w:=by
 exact aer
end
theorem Am{P:Program}{ops:Array Oper}{rest:List Oper}{o:Oper}{ac:Act}{Q:Act->Prop}{w:World}{v:Value}(r:o.guard=none)(t:TypeId)(x:Operand)(p:Value)(H:o.op= .load t x)(J:ac.eval x=p)
 (C:(Instr.loadAt t p).run P w= .ok v w) (h:wpStill P ops w Q rest (ac.put o.dst v)):wpStill P ops w Q (o::rest) ac:=by
 unfold wpStill;rw[iP (by simp[Region.wanted,r])];unfold Oper.still execOp;simp only[H,J,Sem.run_bind,Sem.run_pure,Result.andThen_ok,C];exact⟨rfl,h⟩
theorem FP{P:Program}{w:World}(a i X e:TypeId)(b o d g:Nat)(A:OA)(n c:Nat)(cs:LV)(Q:Nat->Prop)
 (E:P.underlying a=some (.slice e)) (U:(P.info? e).map (·.size)=some 1) (G:Sl w Q 1 A n cs) (W:n<=d) (R:w.there b o n) (Z:∀v∈cs,v.oneCell'=true):
 (Builtin.copy_ #[a,i] X #[.slice (some ⟨b,o,none⟩) d g,.slice A n c]).run P w= .ok (goInt n) (w.setCells b o cs):=by
 have C:cs.length=n:=by simpa using G.1
 rcases Ox n with K|K
 ·subst K
  obtain rfl:=AJ C;rw[run_copy_none w a i X e _ _ d g 0 c E U acy]
  rfl
 ·obtain⟨Y,rfl,_,_,D⟩:=G.2 K
  have k:Nat.min n d=n:=Ho W;have:=run_copy_cells (P:=P) w a i X e b o d g Y n c cs E U (by rw[k,C]) D (λj N=>(R j oM).1) (λj N=>(R j oM).2) Z;rw[this,C]
end
def bv(l:LI):LV:=l.map (Value.int .u8)
@[simp] theorem NN(l:LI):(bv l).length=l.length:=by simp[bv]
theorem jF(l:LI):∀u∈bv l,u.oneCell'=true:=CS .u8 l
theorem wi(l U:LI)(o:Nat):bv (bh l o U)=bh (bv l) o (bv U):=Kr _ _ _ _
theorem wJ(a b:LI):bv (a++b)=bv a++bv b:=by simp[bv]
theorem UO(a:LI)(x:Int):bv (a++[x])=bv a++[.int .u8 x]:=by simp[bv]
def aT(n:Int)(k:Nat):LI:=(List.range k).map λi=>n/256^i%256
theorem Ch(n:Int):aT n 0=[]:=rfl
theorem NH(n:Int)(k:Nat):aT n (k+1)=aT n k++[n/256^k%256]:=by simp[aT,Yi]
theorem aq(n:Int)(k:Nat):(aT n k).length=k:=by simp[aT]
def bL(n size:Int):LI:=if size<1\/8<size then []else aT n size.toNat
theorem dM(n size:Int):(bL n size).length<=8:=by
 unfold bL
 split
 ·exact acy
 ·rw[aq];omega
def bE(b:LI):LI:=aT (b.take 1000).length 2++b.take 1000
theorem iA(b:LI):(bE b).length<=1002:=by
 unfold bE;rw[eG,aq,fJ];omega
structure Rd where
 xs:LI
 s:Bool
def Rd.take(r:Rd)(n:Nat):LI×Rd:=if r.s=true\/r.xs.length<n then([],⟨[],true⟩)else(r.xs.take n,⟨r.xs.drop n,false⟩)
def ik:LI->Int
 |[]=>0
 |x::r=>x+256*ik r
def Rd.size(r:Rd)(size:Int):Nat:=if size<1\/8<size then r.xs.length+1 else size.toNat
def Rd.num(r:Rd)(size:Int):Int×Rd:=(ik (r.take (r.size size)).1,(r.take (r.size size)).2)
def Rd.count(n:Int)(r:Rd):Nat:=if 1000<n then r.xs.length+1 else n.toNat
def Rd.gE(r:Rd):LI×Rd:=(r.num 2).2.take (Rd.count (r.num 2).1 (r.num 2).2)
def Rd.kx(r:Rd):Int:=if r.s=true then 10 else if 0<r.xs.length then 11 else 0
def isByte(x:Int):Prop:=0<=x/\x<=255
def Bytes(xs:LI):Prop:=∀x∈xs,isByte x
theorem Bytes.take{xs:LI}(h:Bytes xs)(n:Nat):Bytes (xs.take n):=λx J=>h x (Hn J)
theorem Bytes.drop{xs:LI}(h:Bytes xs)(n:Nat):Bytes (xs.drop n):=λx J=>h x (Ud J)
theorem Bytes.append{xs R:LI}(h:Bytes xs)(k:Bytes R):Bytes (xs++R):=λx J=>(lU.1 J).elim (h x) (k x)
theorem Bytes.nil:Bytes []:=λ_ h=>absurd h (nK)
theorem cg(n:Int)(k:Nat):Bytes (aT n k):=by
 intro x J;obtain⟨i,_,rfl⟩:=oK.1 J;unfold isByte;omega
theorem iB(n size:Int):Bytes (bL n size):=by
 unfold bL
 split
 ·exact Bytes.nil
 ·exact cg _ _
theorem Rd.rZ(r:Rd)(n:Nat)(h:Bytes r.xs):Bytes (r.take n).1/\Bytes (r.take n).2.xs:=by
 unfold Rd.take
 split
 ·exact⟨Bytes.nil,Bytes.nil⟩
 ·exact⟨h.take n,h.drop n⟩
theorem Rd.take_len(r:Rd)(n:Nat):(r.take n).1.length<=n/\(r.take n).1.length<=r.xs.length/\(r.take n).2.xs.length<=r.xs.length:=by
 unfold Rd.take
 split
 ·exact acy
 ·exact acC
theorem RU(xs:LI)(x:Int):ik (xs++[x])=ik xs+x*256^xs.length:=by
 induction xs with
 |nil=>simp[ik]
 |cons y r K=>
  simp only[MV,ik,K,oO,zde,Int.mul_add];rw[show 256*(x*256^r.length)=x*(256^r.length*256)by rw[Int.mul_left_comm,zdA 256 (256^r.length)]];omega
theorem iH{xs:LI}(h:Bytes xs):0<=ik xs/\ik xs<256^xs.length:=by
 induction xs with
 |nil=>simp[ik]
 |cons y r K=>
  have Z:=K (λx J=>h x (Dl _ J));have V:isByte y:=h y (Je);unfold isByte at V;simp only[ik,oO,zde];omega
theorem RS{k:Nat}(h:k<=8):(256:Int)^k<=18446744073709551616:=by
 have:∀k,k<=8->(256:Int)^k<=18446744073709551616:=dC
 exact this k h
section
section
variable {P:Program} {ops:Array Oper} {Q:Exit->Act->World->Prop} {S:World->Prop} {L:Nat}
def Ek(P:Program)(ops:Array Oper)(Q:Exit->Act->World->Prop)(S:World->Prop)(L:Nat):Nat->Array Bool->Act->World->Prop
 |0,listed,a,w=>Region.ready .any ops listed=[]/\Q .normal a w
 |k+1,listed,a,w=>(Region.ready .any ops listed=[]->Q .normal a w)/\
  ∀i∈Region.ready .any ops listed,wpOp P ops Q i (λg O=>(i<L->S O)/\Ek P ops Q S L k (listed.setIfInBounds i true) g O) a w
theorem mJ:∀(k:Nat) (listed:Array Bool) (a:Act) (w:World),Ek P ops Q S L k listed a w->wpAny P .any ops Q k listed a w
 |0,_,_,_,h=>h
 |k+1,_,_,_,h=>⟨h.1,λi z=>wpOp_mono (λg O E=>mJ k _ g O E.2) (h.2 i z)⟩
def ta(ops:Array Oper)(L:Nat):Bool:=
 (List.range ops.size).all λj=>decide (j<L)||match ops[j]? with
  |none=>true
  |some o=>(List.range L).all λi=>o.after.any λe=>Region.binds .any e&&e.on==i
theorem IX(h:ta ops L=true){listed:Array Bool}{j:Nat}(N:j∈Region.ready .any ops listed)(g:L<=j){i:Nat}(z:i<L):listed.getD i false=true:=by
 obtain⟨_,o,H,p⟩:=mem_ready.1 N;unfold ta at h;have K:=yT.1 h j (OW.2 (DZ.1 H).1);rw[H]at K;simp only[Mo,decide_eq_true_eq]at K;have Z:=yT.1 (K.resolve_left oM) i (OW.2 z);simp only[zc2]at Z;obtain⟨e,Y,B⟩:=Z;rw[mq,beq_iff_eq]at B;rw[<-B.2];exact p e Y B.1
theorem oZ{listed:Array Bool}{i:Nat}(h:i∈Region.ready .any ops listed):listed.getD i false=true->False:=by
 intro Z;have K:=(mem_ready.1 h).1;rcases ZQ i listed.size with E|E
 ·simp[E]at K Z;rw[K]at Z;cases Z
 ·simp[VT E]at Z
theorem wF{i:Nat}{d:Oper}{v:Value}(Y:ops[i]? =some d)(x:∀(j:Nat) (o:Oper) cs b,ops[j]? =some o->o.op≠ .select cs b)(u:ta ops L=true)(C:i<L)
 (T:∀c a w,Q (.panic c) (a.put d.dst v) w->Q (.panic c) a w):
 ∀(k:Nat) (listed:Array Bool) (a:Act) (w:World),
  (∀j t,ops[j]? =some t->j≠i->listed.getD j true=false->(∀e∈t.after,Region.binds .any e=true->e.on≠i)->d.apart ops t=true)->
  i∈Region.ready .any ops listed->YieldsIf P ops S d v a->S w->
  Ek P ops Q S L k (listed.setIfInBounds i true) (a.put d.dst v) w->Ek P ops Q S L (k+1) listed a w:=by
 have A0:i<ops.size:=(DZ.1 Y).1;intro k
 induction k with
 |zero=>
  intro listed a w _ G E z H;refine⟨λh=>(by rw[h]at G;cases G),λj N=> ?_⟩;by_cases r:j=i
  ·subst r;exact E.wpOp Y z ⟨λ_=>z,H⟩
  ·have:=ready_mono N r
   rw[H.1]at this
   cases this
 |succ k K=>
  intro listed a w q G E z H;refine⟨λh=>(by rw[h]at G;cases G),λj N=> ?_⟩;by_cases r:j=i
  ·subst r;exact E.wpOp Y z ⟨λ_=>z,H⟩
  ·have F:j<L:=by
    refine Nat.lt_of_not_le λe=>oZ G (IX u N e C)
   have Z:=H.2 j (ready_mono N r);obtain⟨R,t,n,p⟩:=mem_ready.1 N;have I:∀e∈t.after,Region.binds .any e=true->e.on≠i:=λe W B heq=>oZ G (by rw[<-heq];exact p e W B);have V:=wpOp_putIf n (q j t n r R I) (λcs b=>x i d cs b Y) (λcs b=>x j t cs b n) T E Z;have X:∀m l,ops[m]? =some l->m≠i->(listed.setIfInBounds j true).getD m true=false->
    (∀e∈l.after,Region.binds .any e=true->e.on≠i)->d.apart ops l=true:=λm l y A U D=>by
    refine q m l y A ?_ D;by_cases J:j=m
    ·subst J;exact R
    ·rw[getD_set_ne true J]at U;exact U
   refine wpOp_mono (λg O M=>⟨λ_=>M.2.1 F,K (listed.setIfInBounds j true) g O X (ready_mono G (VS r)) M.1 (M.2.1 F) ?_⟩) V;rw[Array.setIfInBounds_comm _ _ r];exact M.2.2
def jD(P:Program)(ops:Array Oper)(S:World->Prop)(K:Act->Prop):List Nat->Act->Prop
 |[],a=>K a
 |i::r,a=>∃o v,ops[i]? =some o/\YieldsIf P ops S o v a/\jD P ops S K r (a.put o.dst v)
def dF(P:Program)(ops:Array Oper)(Q:Exit->Act->World->Prop)(S:World->Prop)(L:Nat):List Nat->Act->World->Prop
 |[],a,w=>Q .normal a w
 |i::r,a,w=>∃o,ops[i]? =some o/\(if Region.wanted o (yielded ops a.tmps)=true then o.wp P a w (λg O=>(i<L->S O)/\dF P ops Q S L r g O) Q else(i<L->S w)/\dF P ops Q S L r (a.put o.dst undef) w)
def ot(ops:Array Oper)(L:Nat):List Nat->Array Bool->Option (Array Bool)
 |[],listed=>some listed
 |i::r,listed=>if Region.free .any ops listed i&&(Region.ready .any ops listed).contains i&&decide (i<L)then ot ops L r (listed.setIfInBounds i true)else none
def seqB(ops:Array Oper):List Nat->Array Bool->Bool
 |[],listed=>Region.ready .any ops listed==[]
 |i::r,listed=>Region.ready .any ops listed==[i]&&seqB ops r (listed.setIfInBounds i true)
def YX(ops:Array Oper)(L:Nat)(q X:List Nat):Bool:=
 Region.noSelect ops&&ta ops L&&(q.length+X.length==ops.size)&&
  match ot ops L q (Array.replicate ops.size false)with
  |some l=>seqB ops X l
  |none=>false
theorem sj:∀(X:List Nat) (listed:Array Bool) (a:Act) (w:World),seqB ops X listed=true->dF P ops Q S L X a w->Ek P ops Q S L X.length listed a w
 |[],listed,a,w,h,U=>⟨by simpa[seqB]using h,U⟩
 |i::r,listed,a,w,h,U=>by
  simp only[seqB,mq,beq_iff_eq]at h;obtain⟨o,H,U⟩:=U;refine⟨λK=>(by rw[h.1]at K;cases K),λj N=> ?_⟩;rw[h.1]at N;obtain rfl:=lA.1 N;unfold wpOp;simp only[H]
  split
  ·rename_i M
   rw[iP M]at U;exact .inl (Oper.wp_mono (λg O E=>⟨E.1,sj r _ g O h.2 E.2⟩) U)
  ·rename_i M
   rw[iN M]at U;exact⟨U.1,sj r _ _ w h.2 U.2⟩
def SQ(ops:Array Oper)(listed:Array Bool)(n:Nat):List (List Nat)->Bool
 |e=>Region.ready .any ops listed==e.filterMap List.head? &&e.all (λX=>X.length==n+1&&match X with
  |i::r=>seqB ops r (listed.setIfInBounds i true)
  |[]=>false)
theorem Tx{n:Nat}{e:List (List Nat)}{listed:Array Bool}{a:Act}{w:World}(h:SQ ops listed n e=true)(I:Region.ready .any ops listed≠[])
 (W:∀X∈e,dF P ops Q S L X a w):Ek P ops Q S L (n+1) listed a w:=by
 simp only[SQ,mq,beq_iff_eq]at h;refine⟨λK=>absurd K I,λj N=> ?_⟩;rw[h.1]at N;obtain⟨X,R,Y⟩:=List.mem_filterMap.1 N;have V:=yT.1 h.2 X R;simp only[mq,beq_iff_eq]at V
 match X,Y,V,W X R with
 |i::r,Y,V,b=>
  obtain rfl:i=j:=by simpa using Y
  have F:r.length=n:=by simpa using V.1
  obtain⟨o,H,b⟩:=b;unfold wpOp;simp only[H];rw[<-F]
  split
  ·rename_i U
   rw[iP U]at b;exact .inl (Oper.wp_mono (λg O E=>⟨E.1,sj r _ g O V.2 E.2⟩) b)
  ·rename_i U
   rw[iN U]at b;exact⟨b.1,sj r _ _ w V.2 b.2⟩
theorem BV(x:∀(j:Nat) (o:Oper) cs b,ops[j]? =some o->o.op≠ .select cs b)(u:ta ops L=true)(T:∀d v c a w,Q (.panic c) (a.put d v) w->Q (.panic c) a w)
 (n:Nat) (e:List (List Nat)) {w:World} (z:S w):∀(q:List Nat) (listed l:Array Bool) (a:Act),ot ops L q listed=some l->SQ ops l n e=true->Region.ready .any ops l≠[]->
  jD P ops S (λg=>∀X∈e,dF P ops Q S L X g w) q a->Ek P ops Q S L (q.length+(n+1)) listed a w
 |[],listed,l,a,h,U,I,R=>by
  simp only[ot,Xr]at h;subst h;rw[OV,s7];exact Tx U I R
 |i::r,listed,l,a,h,U,I,R=>by
  unfold ot at h
  split at h
  ·rename_i D
   simp only[mq,decide_eq_true_eq]at D;obtain⟨⟨E,G⟩,C⟩:=D;obtain⟨o,v,H,A,R⟩:=R;have:=BV x u T n e z r _ l _ h U I R;rw[oO,show r.length+1+(n+1)=(r.length+(n+1))+1 by omega];exact wF H x u C (T _ _) _ listed a w (Region.free_spec H E) (by simpa using G) A z this
  ·cases h
def VH(ops:Array Oper)(L n:Nat)(q:List Nat)(e:List (List Nat)):Bool:=
 Region.noSelect ops&&ta ops L&&(q.length+(n+1)==ops.size)&&
  match ot ops L q (Array.replicate ops.size false)with
  |some l=>SQ ops l n e&&Region.ready .any ops l !=[]
  |none=>false
theorem FM(x:∀(j:Nat) (o:Oper) cs b,ops[j]? =some o->o.op≠ .select cs b)(u:ta ops L=true)(T:∀d v c a w,Q (.panic c) (a.put d v) w->Q (.panic c) a w)
 (X:List Nat) {w:World} (z:S w):∀(q:List Nat) (listed l:Array Bool) (a:Act),ot ops L q listed=some l->seqB ops X l=true->
  jD P ops S (λg=>dF P ops Q S L X g w) q a->Ek P ops Q S L (q.length+X.length) listed a w
 |[],listed,l,a,h,U,R=>by
  simp only[ot,Xr]at h;subst h;simpa using sj X _ _ _ U R
 |i::r,listed,l,a,h,U,R=>by
  unfold ot at h
  split at h
  ·rename_i D
   simp only[mq,decide_eq_true_eq]at D;obtain⟨⟨E,G⟩,C⟩:=D;obtain⟨o,v,H,A,R⟩:=R;have:=FM x u T X z r _ l _ h U R;rw[oO,show r.length+1+X.length=(r.length+X.length)+1 by omega];exact wF H x u C (T _ _) _ listed a w (Region.free_spec H E) (by simpa using G) A z this
  ·cases h
theorem bQ{id:Nat}{a:Act}{w:World}{l:List Oper}(S:World->Prop)(L:Nat)(q X:List Nat)(y:P.follows .mixedOrders=true)(M:YX l.toArray L q X=true)
 (T:∀d v c a w,Q (.panic c) (a.put d v) w->Q (.panic c) a w)
 (h:∀W:World,W=w.drew->S W/\jD P l.toArray S (λg=>dF P l.toArray Q S L X g W) q a):(Code.region id l.toArray true).wp P Q a w:=by
 obtain⟨z,R⟩:=h _ rfl;simp only[YX,mq,beq_iff_eq]at M;obtain⟨⟨⟨x,u⟩,F⟩,M⟩:=M
 split at M
 ·rename_i b H
  refine wp_region_any y (mJ (S:=S) (L:=L) _ _ _ _ ?_);rw[<-F];exact FM (Region.noSelect_spec x) u T X z q _ b a (by rw[F];exact H) M R
 ·cases M
end
section
variable {P:Program} {l:List Oper} {Q:Exit->Act->World->Prop} {S:World->Prop} {L:Nat}
theorem wM{id:Nat}{a:Act}{w:World}{l:List Oper}(S:World->Prop)(L n:Nat)(q:List Nat)(e:List (List Nat))(y:P.follows .mixedOrders=true)(M:VH l.toArray L n q e=true)
 (T:∀d v c a w,Q (.panic c) (a.put d v) w->Q (.panic c) a w)
 (h:∀W:World,W=w.drew->S W/\jD P l.toArray S (λg=>∀X∈e,dF P l.toArray Q S L X g W) q a):(Code.region id l.toArray true).wp P Q a w:=by
 obtain⟨z,R⟩:=h _ rfl;simp only[VH,mq,beq_iff_eq]at M;obtain⟨⟨⟨x,u⟩,F⟩,M⟩:=M
 split at M
 ·rename_i b H
  simp only[mq,bne_iff_ne]at M;refine wp_region_any y (mJ (S:=S) (L:=L) _ _ _ _ ?_);rw[<-F];exact BV (Region.noSelect_spec x) u T n e z q _ b a (by rw[F];exact H) M.1 M.2 R
 ·cases M
theorem take_nil{K:Act->Prop}{a:Act}(h:K a):jD P l.toArray S K [] a:=h
theorem bN{K:Act->Prop}{i:Nat}{r:List Nat}{a:Act}{o:Oper}{v:Value}(H:l[i]? =some o)(u:o.guard=none)
 (C:∀W,S W->(execOp a.eval o).run P W= .ok (.value v) W) (h:jD P l.toArray S K r (a.put o.dst v)):jD P l.toArray S K (i::r) a:=
 ⟨o,v,by simpa using H,.inl ⟨by simp[Region.wanted,u],C⟩,h⟩
theorem Nh{K:Act->Prop}{i:Nat}{r:List Nat}{a:Act}{o:Oper}{v:Value}(H:l[i]? =some o)(u:o.guard=none)(t:TypeId)(x:Operand)(p:Value)(X:o.op= .load t x)(B:a.eval x=p)
 (C:∀W,S W->(Instr.loadAt t p).run P W= .ok v W) (h:jD P l.toArray S K r (a.put o.dst v)):jD P l.toArray S K (i::r) a:=
 bN H u (λW J=>by unfold execOp;simp only[X,B,Sem.run_bind,Sem.run_pure,Result.andThen_ok,C W J]) h
theorem cN{a:Act}{w:World}(h:Q .normal a w):dF P l.toArray Q S L [] a w:=h
theorem II{i:Nat}{r:List Nat}{a:Act}{w:World}{o:Oper}(H:l[i]? =some o)(u:o.guard=none)
 (h:o.wp P a w (λg O=>(i<L->S O)/\dF P l.toArray Q S L r g O) Q):dF P l.toArray Q S L (i::r) a w:=
 ⟨o,by simpa using H,by rw[iP (by simp[Region.wanted,u])];exact h⟩
theorem oD{i:Nat}{r:List Nat}{a:Act}{w O:World}{o:Oper}{v:Value}(H:l[i]? =some o)(u:o.guard=none)
 (C:(execOp a.eval o).run P w= .ok (.value v) O) (z:i<L->S O) (h:dF P l.toArray Q S L r (a.put o.dst v) O):dF P l.toArray Q S L (i::r) a w:=
 II H u (by unfold Oper.wp;rw[C];exact⟨z,h⟩)
theorem bD{i:Nat}{r:List Nat}{a:Act}{w:World}{o:Oper}{v:Value}(H:l[i]? =some o)(u:o.guard=none)
 (C:(execOp a.eval o).run P w= .ok (.value v) w) (z:i<L->S w) (h:dF P l.toArray Q S L r (a.put o.dst v) w):dF P l.toArray Q S L (i::r) a w:=
 oD H u C z h
theorem Cd{i:Nat}{r:List Nat}{a:Act}{w O:World}{o:Oper}{v:Value}(H:l[i]? =some o)(u:o.guard=none)(t:TypeId)(g:List (Nat×Operand))(q:List (Nat×Value))(X:o.op= .build t g.toArray)(J:g.map (λp=>(p.1,a.eval p.2))=q)
 (C:(Instr.build t q.toArray).run P w= .ok v O) (z:i<L->S O) (h:dF P l.toArray Q S L r (a.put o.dst v) O):dF P l.toArray Q S L (i::r) a w:=
 oD H u (by unfold execOp;simp only[X,FV,J,Sem.run_bind,Sem.run_pure,Result.andThen_ok,C]) z h
theorem LW{i:Nat}{r:List Nat}{a:Act}{w O:World}{o:Oper}{v:Value}(H:l[i]? =some o)(G:o.guard=none)(t:TypeId)(x:Operand)(u:Value)(X:o.op= .box t x)(J:a.eval x=u)
 (C:(Instr.box t u).run P w= .ok v O) (z:i<L->S O) (h:dF P l.toArray Q S L r (a.put o.dst v) O):dF P l.toArray Q S L (i::r) a w:=
 oD H G (by unfold execOp;simp only[X,J,Sem.run_bind,Sem.run_pure,Result.andThen_ok,C]) z h
theorem dp{i:Nat}{r:List Nat}{a:Act}{w O:World}{o:Oper}(H:l[i]? =some o)(G:o.guard=none)(t:TypeId)(x y:Operand)(p u:Value)(X:o.op= .store t x y)(J:a.eval x=p)(E:a.eval y=u)
 (C:(Instr.storeAt t p u).run P w= .ok () O) (z:i<L->S O) (h:dF P l.toArray Q S L r (a.put o.dst undef) O):dF P l.toArray Q S L (i::r) a w:=
 II H G (by unfold Oper.wp execOp;simp only[X,J,E,Sem.run_bind,Sem.run_pure,Result.andThen_ok,C];exact⟨z,h⟩)
theorem bX{i:Nat}{r:List Nat}{a:Act}{w O:World}{o:Oper}{v:Value}(H:l[i]? =some o)(G:o.guard=none)(t:TypeId)(len k:Nat)(x:Operand)(u:Value)(X:o.op= .buildSlice t len #[(k,x)])(J:a.eval x=u)
 (C:(Instr.buildSlice t len #[(k,u)]).run P w= .ok v O) (z:i<L->S O) (h:dF P l.toArray Q S L r (a.put o.dst v) O):dF P l.toArray Q S L (i::r) a w:=
 oD H G (by unfold execOp;simp only[X,J,FV,li,BQ,Sem.run_bind,Sem.run_pure,Result.andThen_ok,C]) z h
theorem Az{i:Nat}{r:List Nat}{ac:Act}{w:World}{o:Oper}(Y:l[i]? =some o)(H:o.guard=none)(s x:Operand)(t:TypeId)
 (X:o.op= .call {callee:= .builtin .append,args:= #[s,x],argTypes:= #[t,t]})
 (base:Nat) (e:TypeId) (z:Value) (size bytes:Nat) (R:P.underlying t=some (.slice e))
 (A:(P.info? e).map (λi=>(i.zero,i.size,i.bytes))=some (some z,size,bytes)) (y:z.cells.size=size) (N:0<size)
 (v:Value) (n:Nat) (xs:LV) (U:ac.eval s=v) (p:w.ownsRow base e size v n xs)
 (a:Addr) (m c:Nat) (J:ac.eval x= .slice (some a) m c) (d:LV) (C:d.length=m*size) (D:∀j u,d[j]? =some u->w.cell? (a.add j)=some u) (Z:∀u∈d,u.oneCell'=true)
 (E:(n+m)*bytes<=140737488355328) (W:n+m<=140737488355328) (B:base<=w.heap.size)
 (h:∀g O,O.ownsRow base e size g (n+m) (xs++d)->Fr (λb=>v.ownBlock=some b) w O->(g.ownBlock=v.ownBlock\/g.ownBlock=some w.heap.size)->(i<L->S O)/\dF P l.toArray Q S L r (ac.put o.dst g) O):
 dF P l.toArray Q S L (i::r) ac w:=by
 obtain⟨g,O,T,V,M,G⟩:=oJ (P:=P) (w:=w) t o.type base e z size bytes R A y N v n xs p a m c d C D Z E W B;have F:=h g O V M G;exact oD Y H (by unfold execOp;simp only[X,resolve,invoke,builtin,Sem.run_bind,Sem.run_pure,Result.andThen_ok,FV,li,BQ,U,J,T]) F.1 F.2
theorem eP{i:Nat}{r:List Nat}{a:Act}{w:World}{o:Oper}{args:Vq}(H:l[i]? =some o)(u:o.guard=none)
 (C:(execOp a.eval o).run P w= .ok (.enter f args) w)
 (h:Calls P f args w λe O=>∃v,e= .returned v/\(i<L->S O)/\dF P l.toArray Q S L r (a.put o.dst v) O):dF P l.toArray Q S L (i::r) a w:=
 II H u (by
  unfold Oper.wp;rw[C,Oper.upon_enter];refine h.mono λe O ⟨v,Y,z,h⟩=> ?_;subst Y;exact⟨z,h⟩)
end
end
section
structure aH where
 os:Os
 tape:Nat->Question->Nat
 output:Array (Nat×ByteArray)
 heap:Nat->Option Obj
def aH.of(w:World):aH:=⟨w.os,w.tape,w.output,λb=>w.heap[b]?⟩
structure fP(w:World)(M:aH):Prop where
 os:w.os=M.os
 tape:w.tape=M.tape
 output:w.output=M.output
 heap:∀b o,M.heap b=some o->w.heap[b]? =some o
structure aH.le(M M':aH):Prop where
 os:M'.os=M.os
 tape:M'.tape=M.tape
 output:M'.output=M.output
 heap:∀b o,M.heap b=some o->M'.heap b=some o
theorem aH.le.refl(M:aH):M.le M:=⟨rfl,rfl,rfl,λ_ _ h=>h⟩
theorem aH.le.trans{A S C:aH}(h:A.le S)(k:S.le C):A.le C:=⟨k.os.trans h.os,k.tape.trans h.tape,k.output.trans h.output,λb o x=>k.heap b o (h.heap b o x)⟩
theorem fP.le{w:World}{M a:aH}(h:fP w a)(k:M.le a):fP w M:=⟨h.os.trans k.os,h.tape.trans k.tape,h.output.trans k.output,λb o x=>h.heap b o (k.heap b o x)⟩
theorem fP.aa0(w:World):fP w (aH.of w):=⟨rfl,rfl,rfl,λ_ _ h=>h⟩
theorem fP.fr{w O:World}{M:aH}{S:Nat->Prop}(h:fP w M)(a:Fr S w O)(U:∀b,S b->M.heap b=none):fP O M:=
 ⟨a.os.trans h.os,a.tape.trans h.tape,a.output.trans h.output,λb o B=>by
  have Z:=h.heap b o B;have N:b<w.heap.size:=(DZ.1 Z).1;exact(a.block b N (λk=>by rw[U b k]at B;cases B)).trans Z⟩
theorem fP.LG{w O:World}(h:fP O (aH.of w)):Fr iY w O:=by
 have B:∀b,b<w.heap.size->O.heap[b]? =w.heap[b]? :=λb B=>(h.heap b _ (Sw B)).trans (Sw B).symm;refine⟨h.os,h.tape,h.output,?_,λb M _=>B b M⟩;rcases Ox w.heap.size with K|K
 ·omega
 ·have Z:=B (w.heap.size-1) oM
  rw[Sw (show w.heap.size-1<w.heap.size by omega)]at Z;have:=(DZ.1 Z).1;omega
structure aw where
 holds:aH->World->(Nat->Prop)->Prop
 lt:∀{M w F b},holds M w F->F b->b<w.heap.size
 loc:∀{M M' w O F},holds M w F->fP O M'->M.le M'->(∀b,F b->O.heap[b]? =w.heap[b]?)->holds M' O F
structure uc(M:aH)(w:World)(L:List aw)(Fs:Nat->Nat->Prop):Prop where
 at_:∀(i:Nat) (X:aw),L[i]? =some X->X.holds M w (Fs i)
 apart:∀i j b,i≠j->i<L.length->j<L.length->Fs i b->¬Fs j b
 off:∀i b,i<L.length->Fs i b->M.heap b=none
def St(I:aH)(w:World)(L:List aw):Prop:=∃M d,I.le M/\fP w M/\uc M w L d
def shift(F:Nat->Prop)(d:Nat->Nat->Prop):Nat->Nat->Prop
 |0=>F
 |i+1=>d i
theorem uc.Pw{M a:aH}{w O:World}{L:List aw}{d:Nat->Nat->Prop}(h:uc M w L d)(Q:fP O a)(y:M.le a)(B:∀i b,i<L.length->d i b->O.heap[b]? =w.heap[b]?)(W:∀i b,i<L.length->d i b->a.heap b=none):uc a O L d:=
 ⟨λi X z=>X.loc (h.at_ i X z) Q y (B i · (lQ.1 z).1),h.apart,W⟩
theorem uc.cons{M:aH}{w:World}{L:List aw}{d:Nat->Nat->Prop}{X:aw}{F:Nat->Prop}(h:uc M w L d)(J:X.holds M w F)(q:∀i b,i<L.length->d i b->¬F b)(y:∀b,F b->M.heap b=none):uc M w (X::L) (shift F d):=by
 refine⟨?_,?_,?_⟩
 ·intro i Y z
  cases i with
  |zero=>
   obtain rfl:X=Y:=by simpa using z
   exact J
  |succ i=>exact h.at_ i Y acA
 ·intro i j b S z N Z V
  cases i with
  |zero=>
   cases j with
   |zero=>exact S rfl
   |succ j=>exact q j b (by simpa using N) V Z
  |succ i=>
   cases j with
   |zero=>exact q i b acA Z V
   |succ j=>exact h.apart i j b oM acA (by simpa using N) Z V
 ·intro i b z Z
  cases i with
  |zero=>exact y b Z
  |succ i=>exact h.off i b acA Z
theorem uc.tail{M:aH}{w:World}{L:List aw}{d:Nat->Nat->Prop}{X:aw}(h:uc M w (X::L) d):uc M w L (λi=>d (i+1)):=
 ⟨λi Y z=>h.at_ (i+1) Y acA,λi j b S z N=>h.apart (i+1) (j+1) b oM acA (by simpa using N),λi b z=>h.off (i+1) b acA⟩
section
variable {I:aH} {w O:World} {L:List aw} {X Y Z:aw}
theorem St.init(w:World):St (aH.of w) w []:=⟨aH.of w,λ_ _=>False,aH.le.refl _,fP.aa0 w,λi X h=>by simp at h,λ_ _ _ _ h=>by simp at h,λ_ _ h=>by simp at h⟩
theorem St.done{p:World}(h:St (aH.of p) w L):Fr iY p w:=by
 obtain⟨M,d,K,Q,_⟩:=h;exact(Q.le K).LG
theorem St.grow(h:St I w L)(a:Fr iY w O):St I O L:=by
 obtain⟨M,d,K,Q,U⟩:=h;refine⟨M,d,K,Q.fr a (λ_ x=>x.elim),U.Pw (Q.fr a (λ_ x=>x.elim)) (aH.le.refl _) ?_ U.off⟩;intro i b z B;exact a.block b ((L[i]).lt (U.at_ i _ (gP z)) B) (λx=>x)
theorem St.drew(h:St I w L):St I w.drew L:=h.grow (Fr.refl _ _).drew
theorem St.drewN(h:St I w L)(n:Nat):St I (w.drewN n) L:=h.grow ((Fr.refl _ _).drewN n)
theorem St.nP(h:St I w L)(o:Obj):St I (w.alloc o) L:=h.grow ((Fr.refl _ _).alloc o)
theorem St.DC(h:St I w L)(p:List Nat){t:List aw}(q:p.Nodup)(C:p.map (L[·]?)=t.map some):St I w t:=by
 obtain⟨M,d,K,Q,U⟩:=h;have D:p.length=t.length:=by simpa using congrArg List.length C
 have o:∀(k:Nat) (F:k<p.length),L[p[k]]? =some (t[k]' oM):=by
  intro k F;have:=congrArg (·[k]?) C;simpa[gP F,gP (show k<t.length by omega)]using this
 have u:∀(k:Nat) (F:k<p.length),p[k]<L.length:=λk F=>(lQ.1 (o k F)).1;refine⟨M,λk=>d (p.getD k 0),K,Q,?_,?_,?_⟩
 ·intro k X F
  have B:=(lQ.1 F).1;obtain rfl:t[k]=X:=by simpa[gP B]using F
  simp only[NP,gP (show k<p.length by omega),Sy];exact U.at_ _ _ (o k oM)
 ·intro i j b S z N
  simp only[NP,gP (show i<p.length by omega),gP (show j<p.length by omega),Sy];exact U.apart _ _ b (λe=>(Nat.lt_or_gt_of_ne S).elim (λZ=>zb5.1 q i j oM oM Z e) (λZ=>zb5.1 q j i oM oM Z e.symm)) (u i oM) (u j oM)
 ·intro i b z
  simp only[NP,gP (show i<p.length by omega),Sy];exact U.off _ b (u i oM)
theorem St.pick(h:St I w L)(n:Nat)(p:List Nat){L':List aw}(q:(p.all (·<n)&&decide p.Nodup)=true:=by rfl)(C:p.map (L[·]?)++(L.drop n).map some=L'.map some:=by rfl):St I w L':=by
 simp only[mq,yT,decide_eq_true_eq]at q;refine h.DC (p++(List.range (L.length-n)).map (n+·)) ?_ ?_
 ·rw[Wo]
  refine⟨q.2,?_,?_⟩
  ·exact zcG _ (λa b d e=>d oM) zdf
  ·intro a Q b B e
   obtain⟨c,_,rfl⟩:=oK.1 B;have:=q.1 a Q;omega
 ·rw[xd,<-C]
  congr 1
  apply YB;intro i;by_cases z:i<L.length-n
  ·simp[Xy z,gP (show n+i<L.length by omega)]
  ·rw[KP acC,KP acC]
theorem St.tail(h:St I w (X::L)):St I w L:=by
 obtain⟨M,d,K,Q,U⟩:=h;exact⟨M,_,K,Q,U.tail⟩
theorem St.swap(h:St I w (X::Y::L)):St I w (Y::X::L):=by
 obtain⟨M,d,K,Q,U⟩:=h;have Z:=U.tail;refine⟨M,_,K,Q,(Z.tail.cons (U.at_ 0 X rfl) ?_ (λb=>U.off 0 b acy)).cons (U.at_ 1 Y rfl) ?_ (λb=>U.off 1 b acy)⟩
 ·intro i b z B
  exact U.apart (i+2) 0 b oM acA acy B
 ·intro i b z B
  cases i with
  |zero=>exact U.apart 0 1 b oM acy acy B
  |succ i=>exact U.apart (i+2) 1 b oM acA acy B
theorem St.head(h:St I w (X::L)):∃M F,I.le M/\fP w M/\X.holds M w F/\(∀b,F b->M.heap b=none)/\
 ∀(O:World) (Y:aw) (e:Nat->Prop),Fr F w O->(fP O M->Y.holds M O e)->(∀b,e b->F b\/w.heap.size<=b)->St I O (Y::L):=by
 obtain⟨M,d,K,Q,U⟩:=h;refine⟨M,d 0,K,Q,U.at_ 0 X rfl,λb=>U.off 0 b acy,λO Y e a E hF=> ?_⟩;have l:fP O M:=Q.fr a (λb B=>U.off 0 b acy B);have N:∀i b,i<L.length->d (i+1) b->b<w.heap.size:=λi b z B=>(L[i]).lt (U.at_ (i+1) _ (by simp[gP z])) B;have R:uc M O L (λi=>d (i+1)):=U.tail.Pw l (aH.le.refl _) (λi b z B=>a.block b (N i b z B) (U.apart (i+1) 0 b oM acA acy B)) (λi b z=>U.off (i+1) b acA);refine⟨M,_,K,l,R.cons (E l) ?_ ?_⟩
 ·exact aeU
 ·exact aew
theorem St.add(h:St I w L){F':Nat->Prop}(a:Fr iY w O)(E:∀M,fP O M->Y.holds M O F')(hF:∀b,F' b->w.heap.size<=b):St I O (Y::L):=by
 obtain⟨M,d,K,Q,U⟩:=h;have l:fP O M:=Q.fr a (λb B=>B.elim);have N:∀i b,i<L.length->d i b->b<w.heap.size:=λi b z B=>(L[i]).lt (U.at_ i _ (gP z)) B;refine⟨M,_,K,l,(U.Pw l (aH.le.refl _) (λi b z B=>a.block b (N i b z B) (λx=>x)) U.off).cons (E M l) ?_ ?_⟩
 ·intro i b z B Z
  have:=N i b z B;have:=hF b Z;omega
 ·intro b B
  cases H:M.heap b with
  |none=>rfl
  |some o=>have:=(DZ.1 (Q.heap b o H)).1;have:=hF b B;omega
def aS(R:World->Prop):aw where
 holds M _ F:=(∀b,¬F b)/\∀O,fP O M->R O
 lt h hb:=(h.1 _ hb).elim
 loc h _ hm _:=⟨h.1,λg Q=>h.2 g (Q.le hm)⟩
def ko(p:Prop):aw where
 holds _ _ F:=(∀b,¬F b)/\p
 lt h hb:=(h.1 _ hb).elim
 loc h _ _ _:=h
def ab(g:Nat)(t:TypeId)(cs:Vq):aw where
 holds _ w F:=(∀b,F b↔b=g)/\eF w g t cs
 lt h hb:=by rw[(h.1 _).1 hb];exact h.2.lt
 loc h _ _ hb:=⟨h.1,(hb _ ((h.1 _).2 rfl)).trans h.2⟩
def bY(e:TypeId)(size:Nat)(v:Value)(n:Nat)(xs:LV):aw where
 holds _ w F:=(∀b,F b↔v.ownBlock=some b)/\w.ownsRow 0 e size v n xs
 lt h hb:=(h.2.lt _ ((h.1 _).1 hb)).2
 loc h _ _ hb:=by
  refine⟨h.1,h.2.1,?_⟩;rcases h.2.2 with V|⟨g,cap,l,rfl,u,H,r⟩
  ·exact .inl V
  ·exact .inr ⟨g,cap,l,rfl,u,(hb g ((h.1 g).2 rfl)).trans H,r⟩
def aX(X Y:aw):aw where
 holds M w F:=∃A S:Nat->Prop,X.holds M w A/\Y.holds M w S/\(∀b,A b->¬S b)/\∀b,F b↔A b\/S b
 lt h hb:=by
  obtain⟨A,S,J,E,_,hF⟩:=h;rcases(hF _).1 hb with Z|Z
  ·exact X.lt J Z
  ·exact Y.lt E Z
 loc h ha hm hb:=by
  obtain⟨A,S,J,E,q,hF⟩:=h;exact⟨A,S,X.loc J ha hm (λb Z=>hb b ((hF b).2 (.inl Z))),Y.loc E ha hm (λb Z=>hb b ((hF b).2 (.inr Z))),q,hF⟩
def AU{α:Type}(f:α->aw):aw where
 holds M w F:=∃a,(f a).holds M w F
 lt h hb:=by obtain⟨a,h⟩:=h;exact(f a).lt h hb
 loc h ha hm hb:=by obtain⟨a,h⟩:=h;exact⟨a,(f a).loc h ha hm hb⟩
theorem St.fact(h:St I w L)(i:Nat)(z:L[i]? =some X):∃M F,X.holds M w F/\fP w M:=by
 obtain⟨M,d,K,Q,U⟩:=h;exact⟨M,_,U.at_ i X z,Q⟩
theorem St.get{R:World->Prop}(h:St I w L)(i:Nat)(z:L[i]? =some (aS R)):R w:=by
 obtain⟨M,F,J,Q⟩:=h.fact i z;exact J.2 w Q
theorem St.ah{g:Nat}{t:TypeId}{cs:Vq}(h:St I w L)(i:Nat)(z:L[i]? =some (ab g t cs)):eF w g t cs:=by
 exact aeP
theorem St.row{e:TypeId}{size:Nat}{v:Value}{n:Nat}{xs:LV}(h:St I w L)(i:Nat)(z:L[i]? =some (bY e size v n xs)):w.ownsRow 0 e size v n xs:=by
 exact aeP
theorem St.wT{p:Prop}(h:St I w (ko p::L)):p/\St I w L:=by
 obtain⟨M,F,J,Q⟩:=h.fact 0 rfl;exact⟨J.2,h.tail⟩
theorem St.uk{p:Prop}(h:St I w L)(o:p):St I w (ko p::L):=
 h.add (F':=λ_=>False) (Fr.refl _ _) (λ_ _=>⟨λ_ x=>x,o⟩) (λ_ x=>x.elim)
theorem St.ex{f:α->aw}(h:St I w (AU f::L)):∃a,St I w (f a::L):=by
 obtain⟨M,d,K,Q,U⟩:=h;obtain⟨a,J⟩:=U.at_ 0 _ rfl;refine⟨a,M,d,K,Q,?_,U.apart,U.off⟩;intro i Y z
 cases i with
 |zero=>
  obtain rfl:f a=Y:=by simpa using z
  exact J
 |succ i=>exact U.at_ (i+1) Y acA
theorem St.cZ{f:α->aw}(a:α)(h:St I w (f a::L)):St I w (AU f::L):=by
 obtain⟨M,d,K,Q,U⟩:=h;refine⟨M,d,K,Q,?_,U.apart,U.off⟩;intro i Y z
 cases i with
 |zero=>
  obtain rfl:AU f=Y:=by simpa using z
  exact⟨a,U.at_ 0 _ rfl⟩
 |succ i=>exact U.at_ (i+1) Y acA
theorem St.star(h:St I w (aX X Y::L)):St I w (X::Y::L):=by
 obtain⟨M,d,K,Q,U⟩:=h;obtain⟨A,S,J,E,q,hF⟩:=U.at_ 0 _ rfl;refine⟨M,_,K,Q,(U.tail.cons E ?_ (λb B=>U.off 0 b acy ((hF b).2 (.inr B)))).cons J ?_ (λb B=>U.off 0 b acy ((hF b).2 (.inl B)))⟩
 ·intro i b z B Z
  exact U.apart (i+1) 0 b oM acA acy B ((hF b).2 (.inr Z))
 ·intro i b z B Z
  cases i with
  |zero=>exact q b Z B
  |succ i=>exact U.apart (i+1) 0 b oM acA acy B ((hF b).2 (.inl Z))
theorem St.aM(h:St I w (X::Y::L)):St I w (aX X Y::L):=by
 obtain⟨M,d,K,Q,U⟩:=h;refine⟨M,_,K,Q,U.tail.tail.cons (F:=λb=>d 0 b\/d 1 b) ⟨d 0,d 1,U.at_ 0 X rfl,U.at_ 1 Y rfl,λb=>U.apart 0 1 b oM acy acy,λb=>Wb⟩ ?_ ?_⟩
 ·rintro i b z B(Z|Z)
  ·exact U.apart (i+2) 0 b oM acA acy B Z
  ·exact U.apart (i+2) 1 b oM acA acy B Z
 ·rintro b(Z|Z)
  ·exact U.off 0 b acy Z
  ·exact U.off 1 b acy Z
theorem St.bG{R:World->Prop}(h:St I w L)(c:∀O,fP O I->R O):St I w (aS R::L):=by
 obtain⟨M,d,K,Q,U⟩:=h;exact⟨M,_,K,Q,U.cons (F:=λ_=>False) ⟨λ_ x=>x,λO l=>c O (l.le K)⟩ (λ_ _ _ _ x=>x) (λ_ x=>x.elim)⟩
theorem St.ZX{p:World}{R:World->Prop}(h:St (aH.of p) w L)(c:∀O,Fr iY p O->R O):St (aH.of p) w (aS R::L):=h.bG (λO Q=>c O Q.LG)
theorem St.bu{R R':World->Prop}(h:St I w (aS R::L))(c:∀O,R O->R' O):St I w (aS R'::L):=by
 obtain⟨M,d,K,Q,U⟩:=h;have J:=U.at_ 0 _ rfl;refine⟨M,d,K,Q,?_,U.apart,U.off⟩;intro i Y z
 cases i with
 |zero=>
  obtain rfl:aS R'=Y:=by simpa using z
  exact⟨J.1,λO l=>c O (J.2 O l)⟩
 |succ i=>exact U.at_ (i+1) Y acA
theorem St.copy{R:World->Prop}(h:St I w L)(i:Nat)(z:L[i]? =some (aS R)):St I w (aS R::L):=by
 obtain⟨M,d,K,Q,U⟩:=h;exact⟨M,_,K,Q,U.cons (F:=λ_=>False) ⟨λ_ x=>x,(U.at_ i _ z).2⟩ (λ_ _ _ _ x=>x) (λ_ x=>x.elim)⟩
theorem St.ku{R a Q:World->Prop}(h:St I w (aS R::aS a::L))(c:∀O,R O->a O->Q O):St I w (aS Q::L):=by
 obtain⟨M,d,K,H,U⟩:=h;have J:=U.at_ 0 _ rfl;have E:=U.at_ 1 _ rfl;exact⟨M,_,K,H,U.tail.tail.cons (F:=λ_=>False) ⟨λ_ x=>x,λO l=>c O (J.2 O l) (E.2 O l)⟩ (λ_ _ _ _ x=>x) (λ_ x=>x.elim)⟩
theorem St.freeze{R:World->Prop}(h:St I w (X::L))(c:∀M O F,X.holds M O F->fP O M->R O):St I w (aS R::L):=by
 obtain⟨M,d,K,Q,U⟩:=h;have J:=U.at_ 0 _ rfl;have N:∀b,d 0 b->b<w.heap.size:=λb B=>X.lt J B
 letI:∀b,Decidable (d 0 b):=λb=>Classical.propDecidable _
 let a:aH:=⟨M.os,M.tape,M.output,λb=>if d 0 b then w.heap[b]? else M.heap b⟩
 have y:M.le a:=⟨rfl,rfl,rfl,λb o B=>by
  show(if d 0 b then w.heap[b]? else M.heap b)=some o
  split
  ·rename_i Z
   rw[U.off 0 b acy Z]at B
   cases B
  ·exact B⟩
 have l:fP w a:=⟨Q.os,Q.tape,Q.output,λb o B=>by
  have B:(if d 0 b then w.heap[b]? else M.heap b)=some o:=B
  split at B
  ·exact B
  ·exact Q.heap b o B⟩
 have g:∀i b,i<L.length->d (i+1) b->a.heap b=none:=λi b z B=>by
  show(if d 0 b then w.heap[b]? else M.heap b)=none;rw[iN (U.apart (i+1) 0 b oM acA acy B)];exact U.off (i+1) b acA B
 refine⟨a,_,K.trans y,l,(U.tail.Pw l y (λ_ _ _ _=>rfl) g).cons (F:=λ_=>False) ⟨λ_ x=>x,λO e=> ?_⟩ (λ_ _ _ _ x=>x) (λ_ x=>x.elim)⟩;refine c a O (d 0) (X.loc J e y (λb B=> ?_)) e;have Z:a.heap b=w.heap[b]? :=by
  show(if d 0 b then w.heap[b]? else M.heap b)=_;rw[iP B]
 rw[Sw (N b B)]at Z⊢;exact e.heap b _ Z
theorem St.xQ{e:TypeId}{size:Nat}{v:Value}{n:Nat}{xs:LV}(h:St I w (bY e size v n xs::L)):St I w (aS (λO=>O.ownsRow 0 e size v n xs)::L):=h.freeze (λ_ _ _ J _=>J.2)
theorem St.alloc(h:St I w L)(t:TypeId)(cs:Vq):St I (w.alloc (.cells cs t)) (ab w.heap.size t cs::L):=
 h.add (F':=(·=w.heap.size)) ((Fr.refl _ _).alloc _) (λ_ _=>⟨λ_=>Wb,eF.new _ _ _⟩) (λ_ B=>ZG B.symm)
theorem St.bI{g:Nat}{t:TypeId}{cs:Vq}(h:St I w (ab g t cs::L))(i:Nat)(u:Value):St I (w.setCell ⟨g,i,none⟩ u) (ab g t (cs.setIfInBounds i u)::L):=by
 obtain⟨M,F,_,_,J,_,Q⟩:=h.head;exact Q _ _ F ((Fr.refl _ _).setCell (λ_=>(J.1 _).2 rfl) u) (λ_=>⟨J.1,J.2.bI i u⟩) (λ_ B=> .inl B)
theorem St.my(h:St I w L)(e:TypeId)(size:Nat):St I w (bY e size sN 0 []::L):=
 h.add (F':=λ_=>False) (Fr.refl _ _) (λ_ _=>⟨λb=>⟨λx=>x.elim,λx=>by simp[Value.ownBlock]at x⟩,World.ownsRow_nil _ _ _ _⟩) (λ_ x=>x.elim)
theorem St.newRow{e:TypeId}{size:Nat}{v:Value}{n:Nat}{xs:LV}(h:St I w L)(a:Fr iY w O)(H:O.ownsRow 0 e size v n xs)(K:∀b,v.ownBlock=some b->w.heap.size<=b):St I O (bY e size v n xs::L):=
 h.add (F':=λb=>v.ownBlock=some b) a (λ_ _=>⟨λ_=>Wb,H⟩) K
theorem St.oU{e:TypeId}{size:Nat}{v v':Value}{n n':Nat}{xs xs':LV}(h:St I w (bY e size v n xs::L))(H:O.ownsRow 0 e size v' n' xs')(a:Fr (λb=>v.ownBlock=some b) w O)
 (B:v'.ownBlock=v.ownBlock\/v'.ownBlock=some w.heap.size):St I O (bY e size v' n' xs'::L):=by
 obtain⟨M,F,_,_,J,_,Q⟩:=h.head;refine Q _ _ (λb=>v'.ownBlock=some b) (a.mono (λb _ Z=>(J.1 b).2 Z)) (λ_=>⟨λ_=>Wb,H⟩) (λb Z=> ?_);rcases B with V|V
 ·exact .inl ((J.1 b).2 (V▸Z))
 ·rw[Z]at V
  injection V with V;exact .inr (ZG V.symm)
abbrev Any:Nat->Prop:=λ_=>True
def aA(w:World)(k:IntKind)(v:Value)(xs:LI):Prop:=
 ∃A c,v= .slice A xs.length c/\xs.length<=c/\c<=maxLen/\Sl w Any 1 A xs.length (xs.map (Value.int k))
theorem aA.none_(w:World)(k:IntKind):aA w k sN []:=⟨none,0,rfl,by simp,by unfold maxLen;omega,Sl.Qp _ _ _ _⟩
theorem aA.LG{v:Value}{xs:LI}(h:aA w k v xs)(a:Fr iY w O):aA O k v xs:=by
 obtain⟨A,c,e,Z,V,M⟩:=h;exact⟨A,c,e,Z,V,M.LG a⟩
theorem aA.qo{e:TypeId}{v:Value}{n:Nat}{xs:LI}(h:w.ownsRow 0 e 1 v n (xs.map (Value.int k))):aA w k v xs:=by
 have W:n=xs.length:=by have:=h.1;simp at this;exact this.symm
 subst W;rcases h.2 with⟨rfl,K⟩|⟨g,cap,l,rfl,u,H,D,y,_⟩
 ·have:xs=[]:=AJ K
  subst this;exact aA.none_ w k
 ·exact⟨_,_,rfl,D,y,(Sl.qo h).mono (λ_ _ _=>trivial)⟩
theorem aA.sl{A:OA}{n c:Nat}{xs:LI}(h:aA w k (.slice A n c) xs):n=xs.length/\n<=c/\c<=9223372036854775807/\Sl w Any 1 A n (xs.map (Value.int k)):=by
 obtain⟨G,p,e,Z,V,M⟩:=h;exact afz
theorem aA.cut{A:OA}{n c m:Nat}{xs:LI}(h:aA w k (.slice A n c) xs)(y:m<=n):aA w k (.slice A m c) (xs.take m):=by
 obtain⟨K,Z,V,M⟩:=h.sl;have C:(xs.take m).length=m:=by rw[fJ];omega
 refine⟨A,c,by rw[C],by rw[C];omega,V,by rw[nL];omega,λo=> ?_⟩;rw[C]at o;obtain⟨Y,e,d,B,D⟩:=M.2 oM;refine⟨Y,e,trivial,B,λj u E=>D j u ?_⟩;rw[Sx,AH]at E
 split at E
 ·exact E
 ·cases E
theorem St.ints{e:TypeId}{v:Value}{n:Nat}{xs:LI}(h:St I w (bY e 1 v n (xs.map (Value.int k))::L)):St I w (aS (λO=>aA O k v xs)::L):=
 h.xQ.bu (λ_ H=>aA.qo H)
end
section
variable {I:aH} {w:World} {L:List aw} {a b c d e g i j A8 A9:aw}
theorem St.tX(h:St I w (a::b::c::L)):St I w (c::a::b::L):=h.pick 3 [2,0,1]
theorem St.sh(h:St I w (a::b::c::L)):St I w (b::c::a::L):=h.pick 3 [1,2,0]
theorem St.up3(h:St I w (a::b::c::d::L)):St I w (d::a::b::c::L):=h.pick 4 [3,0,1,2]
theorem St.up4(h:St I w (a::b::c::d::e::L)):St I w (e::a::b::c::d::L):=h.pick 5 [4,0,1,2,3]
theorem St.dn5(h:St I w (a::b::c::d::e::g::L)):St I w (b::c::d::e::g::a::L):=h.pick 6 [1,2,3,4,5,0]
theorem St.up6(h:St I w (a::b::c::d::e::g::i::L)):St I w (i::a::b::c::d::e::g::L):=h.pick 7 [6,0,1,2,3,4,5]
theorem St.dn6(h:St I w (a::b::c::d::e::g::i::L)):St I w (b::c::d::e::g::i::a::L):=h.pick 7 [1,2,3,4,5,6,0]
theorem St.up7(h:St I w (a::b::c::d::e::g::i::j::L)):St I w (j::a::b::c::d::e::g::i::L):=h.pick 8 [7,0,1,2,3,4,5,6]
theorem St.tS(h:St I w (a::b::L)):St I w (a::L):=h.pick 2 [0]
theorem St.OJ(h:St I w (a::b::c::L)):St I w (a::b::L):=h.pick 3 [0,1]
end
end
section
structure eB(P:Program)(t e:TypeId)(z:Value)(size bytes:Nat):Prop where
 ht:P.underlying t=some (.slice e)
 jW:(P.info? e).map (λi=>(i.zero,i.size,i.bytes))=some (some z,size,bytes)
 Jg:z.cells.size=size
 mT:0<size
theorem run_append_nil{P:Program}(w:World)(base:Nat)(t X e:TypeId)(i:TypeInfo)(size:Nat)(R:P.underlying t=some (.slice e))(z:P.info? e=some i)
 (v:Value) (n:Nat) (xs:LV) (Y:w.ownsRow base e size v n xs) (c:Nat):(Builtin.append_ #[t,t] X #[v,.slice none 0 c]).run P w= .ok v w:=by
 rcases Y.2 with⟨rfl,rfl⟩|⟨g,cap,l,rfl,_,_,V,_⟩
 ·simp[Builtin.append_,run_underlying R,sizeOf,typeInfo,z,Builtin.lenOf,Builtin.firstCells]
 ·simp[Builtin.append_,run_underlying R,sizeOf,typeInfo,z,Builtin.lenOf,Builtin.firstCells,V,storeCells]
section
variable {P:Program} {I:aH} {w O:World} {L:List aw} {t e:TypeId} {z:Value} {size bytes:Nat} {v:Value} {n:Nat} {xs:LV}
theorem St.uU(q:eB P t e z size bytes)(h:St I w (bY e size v n xs::L))(X:TypeId)(A:OA)(m c:Nat)(R:LV)(E:Sl w Any size A m R)(Z:∀u∈R,u.oneCell'=true)
 (B:(n+m)*bytes<=140737488355328) (W:n+m<=140737488355328):
 ∃g O,(Builtin.append_ #[t,t] X #[v,.slice A m c]).run P w= .ok g O/\St I O (bY e size g (n+m) (xs++R)::L):=by
 have d:=h.row 0 rfl;rcases A with _|Y
 ·have y:m=0:=by
   rcases Ox m with K|K
   ·exact K
   ·obtain⟨Y,h,_⟩:=E.2 K
    cases h
  subst y;have W:R=[]:=AJ (by simpa using E.1);subst W;obtain⟨N,H,_⟩:=info_parts q.jW;exact⟨v,w,run_append_nil w 0 t X e N size q.ht H v n xs d c,by simpa using h⟩
 ·have a:∀j u,R[j]? =some u->w.cell? (Y.add j)=some u:=by
   intro j u r;rcases Ox m with K|K
   ·subst K
    have W:R=[]:=AJ (by simpa using E.1);subst W;simp at r
   ·obtain⟨x,h,_,_,D⟩:=E.2 K
    injection h with h;subst h;exact D j u r
  obtain⟨g,O,C,V,M,Q⟩:=oJ (P:=P) (w:=w) t X 0 e z size bytes q.ht q.jW q.Jg q.mT v n xs d Y m c R E.1 a Z B W (jG _);exact⟨g,O,C,h.oU V M Q⟩
theorem St.slice(h:St I w (bY e size v n xs::L)):∃A c,v= .slice A n c:=by
 rcases(h.row 0 rfl).2 with⟨rfl,K⟩|⟨g,cap,l,rfl,_⟩
 ·exact⟨_,_,by rw[K]⟩
 ·exact⟨_,_,rfl⟩
theorem St.dW{ops:Array Oper}{rest:List Oper}{o:Oper}{ac:Act}{Q:Exit->Act->World->Prop}(q:eB P t e z size bytes)(h:St I w (bY e size v n xs::L))(r:o.guard=none)(s x:Operand)
 (H:o.op= .call {callee:= .builtin .append,args:= #[s,x],argTypes:= #[t,t]}) (U:ac.eval s=v)
 (A:OA) (m c:Nat) (J:ac.eval x= .slice A m c) (R:LV) (E:Sl w Any size A m R) (Z:∀u∈R,u.oneCell'=true)
 (B:(n+m)*bytes<=140737488355328) (W:n+m<=140737488355328)
 (k:∀G p O,St I O (bY e size (.slice G (n+m) p) (n+m) (xs++R)::L)->wpList P ops Q rest (ac.put o.dst (.slice G (n+m) p)) O):wpList P ops Q (o::rest) ac w:=by
 obtain⟨g,O,C,V⟩:=St.uU q h o.type A m c R E Z B W;exact ael
theorem qe{Q:Exit->Act->World->Prop}{S:World->Prop}{b:Nat}{l:List Oper}{i:Nat}{r:List Nat}{ac:Act}{o:Oper}(q:eB P t e z size bytes)(h:St I w (bY e size v n xs::L))(E:l[i]? =some o)(H:o.guard=none)(s x:Operand)
 (X:o.op= .call {callee:= .builtin .append,args:= #[s,x],argTypes:= #[t,t]}) (U:ac.eval s=v)
 (A:OA) (m c:Nat) (J:ac.eval x= .slice A m c) (R:LV) (g:Sl w Any size A m R) (Z:∀u∈R,u.oneCell'=true)
 (B:(n+m)*bytes<=140737488355328) (W:n+m<=140737488355328)
 (k:∀G p O,St I O (bY e size (.slice G (n+m) p) (n+m) (xs++R)::L)->(i<b->S O)/\dF P l.toArray Q S b r (ac.put o.dst (.slice G (n+m) p)) O):dF P l.toArray Q S b (i::r) ac w:=by
 obtain⟨d,O,C,V⟩:=St.uU q h o.type A m c R g Z B W;exact afu
theorem uv(w:World)(e:TypeId)(u:Value):Sl (w.alloc (.cells #[u] e)) Any 1 (aO w.heap.size) 1 [u]:=
 ⟨rfl,λ_=>⟨_,rfl,trivial,by simp,λj y E=>by
  match j,E with
  |0,E=>exact((eF.new w e #[u]).cell 0).trans E
  |j+1,E=>simp at E⟩⟩
theorem St.Xl{a:Nat}{b:LV}(h:St I w (bY e size v n xs::L))(W:n=a)(J:xs=b):St I w (bY e size v a b::L):=by subst W;subst J;exact h
theorem St.sl{A:OA}{c:Nat}(h:St I w (bY e size (.slice A n c) n xs::L)):Sl w Any size A n xs:=(Sl.qo (h.row 0 rfl)).mono (λ_ _ _=>trivial)
end
theorem eF.three{w:World}{b:Nat}{t:TypeId}{i U p:Value}(h:eF w b t #[i,U,p]):w.cell? (aD b 0)=some i/\w.cell? (aD b 1)=some U/\w.cell? (aD b 2)=some p:=⟨h.cell 0,h.cell 1,h.cell 2⟩
theorem eF.four{w:World}{b:Nat}{t:TypeId}{i U p q:Value}(h:eF w b t #[i,U,p,q]):w.cell? (aD b 0)=some i/\w.cell? (aD b 1)=some U/\w.cell? (aD b 2)=some p/\w.cell? (aD b 3)=some q:=⟨h.cell 0,h.cell 1,h.cell 2,h.cell 3⟩
end
end Go.Proofs.YtblpaldggenbaaaGreatDoor
