/- A part. -/
import Derived.Test.YtblpaldggenbaaaGreatDoorMt
namespace Go.Proofs.YtblpaldggenbaaaGreatDoor
open Go.RowKit Go.Proofs.Tryz
set_option maxRecDepth 100000
set_option maxHeartbeats 64000000
variable{c k:Int}{S:gy}{C:bq}{T:Int}
section
def CX.hold(x:CX)(i:Nat)(y:qx):CX:=⟨x.id,{x.c with h:=aJ x.c.h i y},x.p⟩
def CX.last(x:CX)(i:Nat)(t:Int):CX:=⟨x.id,{x.c with la:=aJ x.c.la i t},x.p⟩
section
variable {I:aH} {w:World} {L:List aw} {g:Nat} {bl wr:List PU} {x:CX}
theorem Ya(x:CX)(y:qx)(m:Int):∀{i:Nat},i<4->∀v u,(cF (x.hold i y) v u).set! (4+i*3) (iI m)=cF (x.hold i ⟨m,y.t,y.u⟩) v u
 |0,_,_,_=>rfl
 |1,_,_,_=>rfl
 |2,_,_,_=>rfl
 |3,_,_,_=>rfl
 |n+4,h,_,_=>oM
theorem XY(x:CX)(y:qx)(m:Int):∀{i:Nat},i<4->∀v u,(cF (x.hold i y) v u).set! (4+i*3+1) (iU m)=cF (x.hold i ⟨y.m,m,y.u⟩) v u
 |0,_,_,_=>rfl
 |1,_,_,_=>rfl
 |2,_,_,_=>rfl
 |3,_,_,_=>rfl
 |n+4,h,_,_=>oM
theorem XN(x:CX)(y:qx)(m:Int):∀{i:Nat},i<4->∀v u,(cF (x.hold i y) v u).set! (4+i*3+2) (iU m)=cF (x.hold i ⟨y.m,y.t,m⟩) v u
 |0,_,_,_=>rfl
 |1,_,_,_=>rfl
 |2,_,_,_=>rfl
 |3,_,_,_=>rfl
 |n+4,h,_,_=>oM
theorem Xt(x:CX)(m:Int):∀{i:Nat},i<4->∀v u,(cF x v u).set! (4+12+i) (iU m)=cF (x.last i m) v u
 |0,_,_,_=>rfl
 |1,_,_,_=>rfl
 |2,_,_,_=>rfl
 |3,_,_,_=>rfl
 |n+4,h,_,_=>oM
theorem St.KF(h:St I w (an x g bl wr::L)){i:Nat}(z:i<4)(y:qx):
 St I (((w.setCell ⟨g,4+i*3,none⟩ (iI y.m)).setCell ⟨g,4+i*3+1,none⟩ (iU y.t)).setCell ⟨g,4+i*3+2,none⟩ (iU y.u)) (an (x.hold i y) g bl wr::L):=by
 have K:St I w (an (x.hold i (x.c.h i)) g bl wr::L):=by
  have:x.hold i (x.c.h i)=x:=by unfold CX.hold;rw[ud]
  rw[this];exact h
 have Z:=St.fm K (4+i*3) (iI y.m) (Ya x (x.c.h i) y.m z);have V:=St.fm Z (4+i*3+1) (iU y.t) (XY x ⟨y.m,(x.c.h i).t,(x.c.h i).u⟩ y.t z);exact St.fm V (4+i*3+2) (iU y.u) (XN x ⟨y.m,y.t,(x.c.h i).u⟩ y.u z)
theorem St.Vi(h:St I w (an x g bl wr::L)){i:Nat}(z:i<4)(t:Int):St I (w.setCell ⟨g,4+12+i,none⟩ (iU t)) (an (x.last i t) g bl wr::L):=St.fm h (4+12+i) (iU t) (Xt x t z)
end
theorem AC{r:Int}(h:cD r=false):r<0\/4<=r:=by
 unfold cD at h;by_cases K:r<0
 ·exact .inl K
 ·by_cases Q:4<=r
  ·exact .inr Q
  ·simp at h
   omega
theorem TJ{I:aH}{L:List aw}(g:Nat)(x:CX)(bl wr:List PU)(r t b:Int)(w:World)(h:St I w (an x g bl wr::L)):
 Rt I w 102 #[.pointer (some ⟨g,4,none⟩),iI r,iI 2,iU t,iU b] (iI (x.c.mF r t)) (an ⟨x.id,x.c.nT r t b,x.p⟩ g bl wr::L):=by
 cases R:cD r with
 |false=>
  have E:Hid (x.c.mF r t=93):=iP R;have l:Hid (x.c.nT r t b=x.c):=iN (by rw[E.out];decide);have H:=aa h;have G:=AC R;clear h R;rw[E.out,l.out];by_cases K:r<0
  ·have d1:decide (r<0)=true:=dZ K
   clear G
   exact af2
  ·have d1:decide (r<0)=false:=dQ K
   have d2:decide (r≥4)=true:=decide_eq_true (by omega);have d3:decide (4<=r)=true:=decide_eq_true (by omega);clear G
   exact af2
 |true=>
  obtain⟨i,rfl,B⟩:=o6 R;have d1:decide ((i:Int)<0)=false:=decide_eq_false (by omega);have d2:decide ((i:Int)≥4)=false:=decide_eq_false (by omega);have d3:decide (4<=(i:Int))=false:=decide_eq_false (by omega);have q:(0:Int)<=(i:Int):=oM
  have a:(i:Int)<4:=oM
  have W:(i:Int).toNat=i:=rfl;have k:x.c.mF (i:Int) t=if t=0\/t<x.c.la i then 92 else 0:=iN (by rw[R];decide);obtain⟨v,u,M⟩:=h.bT;have j:w.cell? ⟨g,4+12+i,none⟩=some (iU (x.c.la i)):=((M.ah 0 rfl).cell (4+12+i)).trans (RG x v u B);have c:=(M.ah 0 rfl).frozen;have H:=aa h;by_cases A:t=0
  ·subst A
   have E:=aa (show x.c.mF (i:Int) 0=92 by rw[k,iP (.inl rfl)]);have l:Hid (x.c.nT (i:Int) 0 b=x.c):=iN (by rw[E.out];decide);clear h R M k;rw[E.out,l.out]
   exact af2
  ·have t0:(t==0)=false:=kO A
   by_cases o:t<x.c.la i
   ·have d:decide (t<x.c.la i)=true:=dZ o
    have E:=aa (show x.c.mF (i:Int) t=92 by rw[k,iP (.inr o)]);have l:Hid (x.c.nT (i:Int) t b=x.c):=iN (by rw[E.out];decide);clear h R M k o;rw[E.out,l.out]
    exact af2
   ·have d:decide (t<x.c.la i)=false:=dQ o
    have E:=aa (show x.c.mF (i:Int) t=0 by rw[k,iN oM]);have l:=aa (show(⟨x.id,x.c.nT (i:Int) t b,x.p⟩:CX)=(x.hold i ⟨2,t,b⟩).last i t by unfold bq.nT;rw[iP E.out];rfl);have C:=aa B;clear h R M k o;rw[E.out,l.out]
    go_enter func102,ntmps102
    go_wp2_with fail
    refine ak (I:=I) (L0:=L) [⟨none,some 12,λe=>an x g bl wr⟩,⟨some 12,some 16,λe=>an (x.hold i ⟨2,t,b⟩) g bl wr⟩,⟨some 16,none,λe=>an ((x.hold i ⟨2,t,b⟩).last i t) g bl wr⟩] [[],[],[],[],[],[],[],[4,5,6],[],[0],[0,9],[0,1,4,5,6,7,9,10],[0,1,4,5,6,7,9,10,11],[2],[2,13],rG 15,rG 16] (rG 17) rfl kR kR kR (by rfl) (λ_=>rfl) H.fk ?_;refine Zb ?_;refine jA (λe=> .pointer (some ⟨g,4+i*3,none⟩)) (λe=> .agg #[iI 2,iU t,iU b]) rfl rfl (λe p O h=>by(
     have h:=h.fn;obtain⟨v,u,M⟩:=(h.fi 0).bT;have N:p.cell? ⟨g,4+i*3,none⟩=some (iI (x.c.h i).m):=((M.ah 0 rfl).cell (4+i*3)).trans (Kd x v u C);have P:p.cell? ⟨g,4+i*3+1,none⟩=some (iU (x.c.h i).t):=((M.ah 0 rfl).cell (4+i*3+1)).trans (JZ x v u C);have X:p.cell? ⟨g,4+i*3+2,none⟩=some (iU (x.c.h i).u):=((M.ah 0 rfl).cell (4+i*3+2)).trans (Ig x v u C);have n:=(M.ah 0 rfl).frozen;have U:=(h.fi 0).KF C ⟨2,t,b⟩;exact⟨_,gS,U.fk⟩)) ?_
    simp only[Act.put];refine yk ?_;refine jA (λe=> .pointer (some ⟨g,4+12+i,none⟩)) (λe=> iU t) rfl rfl (λe p O h=>by(
     have h:=h.fn;obtain⟨v,u,M⟩:=(h.fi 0).bT;have y:p.cell? ⟨g,4+12+i,none⟩=some (iU (x.c.la i)):=((M.ah 0 rfl).cell (4+12+i)).trans (RG (x.hold i ⟨2,t,b⟩) v u C);have n:=(M.ah 0 rfl).frozen;have U:=(h.fi 0).Vi C t;exact⟨_,gS,U.fk⟩)) ?_
    simp only[Act.put];refine ax ?_;intro e z h;have h:=h.fn;have J:=aa h;clear h H
    go_wp2_with fail
    go_ret
    exact⟨rfl,J⟩
theorem Te{I:aH}{L:List aw}(g:Nat)(x:CX)(bl wr:List PU)(r:Int)(w:World)(h:St I w (an x g bl wr::L)):
 Rt I w 74 #[.pointer (some ⟨g,4,none⟩),iI r] (.tuple #[]) (an ⟨x.id,x.c.gone r,x.p⟩ g bl wr::L):=by
 cases R:cD r with
 |false=>
  have l:Hid (x.c.gone r=x.c):=iN (by rw[R];decide);have H:=aa h;have G:=AC R;clear h R;rw[l.out];by_cases K:r<0
  ·have d1:decide (r<0)=true:=dZ K
   have d2:decide (r≥0)=false:=decide_eq_false (by omega);have d3:decide (0<=r)=false:=decide_eq_false (by omega);clear G
   go_enter func74,ntmps74
   exact aff
  ·have d2:decide (r≥0)=true:=decide_eq_true (by omega)
   have d3:decide (0<=r)=true:=decide_eq_true (by omega);have d4:decide (r<4)=false:=decide_eq_false (by omega);clear G
   go_enter func74,ntmps74
   exact aff
 |true=>
  obtain⟨i,rfl,B⟩:=o6 R;have d2:decide ((i:Int)≥0)=true:=decide_eq_true (by omega);have d3:decide (0<=(i:Int))=true:=decide_eq_true (by omega);have d4:decide ((i:Int)<4)=true:=decide_eq_true (by omega);have q:(0:Int)<=(i:Int):=oM
  have a:(i:Int)<4:=oM
  have l:=aa (show(⟨x.id,x.c.gone (i:Int),x.p⟩:CX)=x.hold i ⟨0,0,0⟩by unfold bq.gone;rw[iP R];rfl);obtain⟨v,u,M⟩:=h.bT;have J:w.cell? ⟨g,4+i*3,none⟩=some (iI (x.c.h i).m):=((M.ah 0 rfl).cell (4+i*3)).trans (Kd x v u B);have P:w.cell? ⟨g,4+i*3+1,none⟩=some (iU (x.c.h i).t):=((M.ah 0 rfl).cell (4+i*3+1)).trans (JZ x v u B);have o:w.cell? ⟨g,4+i*3+2,none⟩=some (iU (x.c.h i).u):=((M.ah 0 rfl).cell (4+i*3+2)).trans (Ig x v u B);have b:=(M.ah 0 rfl).frozen;have Y:=aa (h.KF B ⟨0,0,0⟩);clear h R M;rw[l.out]
  go_enter func74,ntmps74
  go_wp2_with fail
  go_end0
  exact⟨rfl,Y⟩
theorem YI(m t u:Int)(w:World):(binOp .neq 62 (.agg #[iI m,iU t,iU u]) (.agg #[iI 0,iU 0,iU 0])).run prog w= .ok (.bool (!(qx.mk m t u).none)) w:=by
 by_cases y:m=0
 ·subst y
  by_cases R:t=0
  ·subst R
   by_cases E:u=0
   ·subst E
    kernel_rfl
   ·have b:(u==0)=false:=kO E
    unfold qx.none;go_simp
  ·have b:(t==0)=false:=kO R
   unfold qx.none;go_simp
 ·have b:(m==0)=false:=kO y
  unfold qx.none;go_simp
theorem Xu(C:bq)(r:Int):C.GK r=(!(C.hd r).none&&((C.hd r).m==2)&&Fq C.jg 3 (C.hd r).u):=by
 unfold bq.GK bq.hd
 cases cD r with
 |true=>exact acy
 |false=>simp[qx.zero,qx.none]
theorem Vg{I:aH}{L:List aw}(g:Nat)(x:CX)(bl wr:List PU)(r:Int)(w:World)(h:St I w (an x g bl wr::L)):
 Rt I w 103 #[.pointer (some ⟨g,4,none⟩),iI r,iI 2,iU x.c.jg] (.bool (x.c.GK r)) (an x g bl wr::L):=by
 have E:=Xu x.c r;obtain⟨v,u,Z⟩:=h.bT;have H:=aa Z;obtain⟨⟨m,t,b⟩,d⟩:∃y,x.c.hd r=y:=⟨_,rfl⟩;rw[d]at E;have K:=aa d;clear h Z d;have F:(m=0/\t=0/\b=0)\/(qx.mk m t b).none=false:=by
  by_cases p:m=0
  ·by_cases R:t=0
   ·by_cases q:b=0
    ·exact .inl ⟨p,R,q⟩
    ·exact .inr (by simp[qx.none,q])
   ·exact .inr (by simp[qx.none,R])
  ·exact .inr (by simp[qx.none,p])
 rcases F with⟨rfl,rfl,rfl⟩|F
 ·rw[show x.c.GK r=false from E]
  clear E
  go_enter func103,ntmps103
  go_wp2_with fail
  refine qK (DK x v u g r _ H) λl h=>?_;rw[K.out];have V:=h.alloc 62 #[iI (0),iU (0),iU (0)];have z:World.cell? _ ⟨l.heap.size,0,none⟩=some (iI (0)):=(V.ah 0 rfl).cell 0;have Y:World.cell? _ ⟨l.heap.size,1,none⟩=some (iU (0)):=(V.ah 0 rfl).cell 1;have o:World.cell? _ ⟨l.heap.size,2,none⟩=some (iU (0)):=(V.ah 0 rfl).cell 2;have T:=aa (St.gT V.tail);clear h V H
  exact adW
 ·have A:=YI m t b
  rw[F]at A;rw[show x.c.GK r=((m==2)&&Fq x.c.jg 3 b)by rw[E,F];rfl];clear F E;by_cases p:m=2
  ·subst p
   go_enter func103,ntmps103
   go_wp2_with fail
   refine qK (DK x v u g r _ H) λl h=>?_;rw[K.out];have V:=h.alloc 62 #[iI (2),iU (t),iU (b)];have z:World.cell? _ ⟨l.heap.size,0,none⟩=some (iI (2)):=(V.ah 0 rfl).cell 0;have Y:World.cell? _ ⟨l.heap.size,1,none⟩=some (iU (t)):=(V.ah 0 rfl).cell 1;have o:World.cell? _ ⟨l.heap.size,2,none⟩=some (iU (b)):=(V.ah 0 rfl).cell 2;have T:=aa (St.gT V.tail);clear h V H
   go_wp2_with (go_at_call 160;refine(Pm x.c.jg 3 b _).mono ?_;rintro e X⟨rfl,rfl⟩)
   go_ret
   exact aeh
  ·have J:(m==2)=false:=kO p
   rw[J]
   go_enter func103,ntmps103
   go_wp2_with fail
   refine qK (DK x v u g r _ H) λl h=>?_;rw[K.out];have V:=h.alloc 62 #[iI (m),iU (t),iU (b)];have z:World.cell? _ ⟨l.heap.size,0,none⟩=some (iI (m)):=(V.ah 0 rfl).cell 0;have Y:World.cell? _ ⟨l.heap.size,1,none⟩=some (iU (t)):=(V.ah 0 rfl).cell 1;have o:World.cell? _ ⟨l.heap.size,2,none⟩=some (iU (b)):=(V.ah 0 rfl).cell 2;have T:=aa (St.gT V.tail);clear h V H
   exact adW
end
structure cW(S:gy)(C:bq)(c k:Int):Prop where
 bB:bC S.bB
 len:S.bi.length<=6
 Mk:0<=C.seq
 Oc:C.seq<=k
 num:C.bi=true->∀y,aQ S.bi c=some y->y.2=C.seq
theorem Hk:∀(l:List (Int×Int)) (c n:Int),(bR l c n).length=l.length
 |[],_,_=>rfl
 |x::l,c,n=>by
  show(if(x.1==c)=true then(x.1,n)::l else x::bR l c n).length=_
  split
  ·rfl
  ·simp[Hk l c n]
theorem FZ:∀(l:List (Int×Int)) (c n:Int),aQ (bR l c n) c=(aQ l c).map (λy=>(y.1,n))
 |[],_,_=>rfl
 |x::l,c,n=>by
  show aQ (if(x.1==c)=true then(x.1,n)::l else x::bR l c n) c=_;by_cases h:(x.1==c)=true
  ·rw[iP h,fL (y:=(x.1,n)) h,fL h];rfl
  ·have E:(x.1==c)=false:=by simpa using h
   rw[iN h,dK E,dK E,FZ l c n]
theorem xx:∀(l:List (Int×Int)) {c x:Int} (n:Int),x≠c->aQ (bR l c n) x=aQ l x
 |[],_,_,_,_=>rfl
 |y::l,c,x,n,J=>by
  show aQ (if(y.1==c)=true then(y.1,n)::l else y::bR l c n) x=_;by_cases h:(y.1==c)=true
  ·have e:y.1=c:=by simpa using h
   have Z:(y.1==x)=false:=by simp[e,VS J]
   rw[iP h,dK (y:=(y.1,n)) Z,dK Z]
  ·rw[iN h]
   by_cases V:(y.1==x)=true
   ·rw[fL V,fL V]
   ·have V:(y.1==x)=false:=by simpa using V
    rw[dK V,dK V,xx l n J]
theorem uH:∀(l:List (Int×Int)) {c x:Int},x≠c->aQ (kB l c) x=aQ l x
 |[],_,_,_=>rfl
 |y::l,c,x,J=>by
  unfold kB;by_cases h:(y.1==c)=true
  ·have e:y.1=c:=by simpa using h
   have Z:(y.1==x)=false:=by simp[e,VS J]
   rw[VV (p:=λx:Int×Int=>x.1==c) (a:=y) (l:=l) h,dK Z]
  ·rw[WE (p:=λx:Int×Int=>x.1==c) (a:=y) (l:=l) h]
   by_cases V:(y.1==x)=true
   ·rw[fL V,fL V]
   ·have V:(y.1==x)=false:=by simpa using V
    rw[dK V,dK V];exact uH l J
theorem GV(l:List (Int×Int)){c x:Int}(n:Int)(J:x≠c):aQ (l++[(c,n)]) x=aQ l x:=by
 unfold aQ;rw[zcI];have Z:((c,n).1==x)=false:=by simp[VS J]
 cases List.find? (λy=>y.1==x) l with
 |some y=>rfl
 |none=>simp only[UJ,Z,List.find?_nil];rfl
theorem JH(S:gy)(q:dD){x:Int}(J:x≠q.c):aQ (S.apply q).s.bi x=aQ S.bi x:=by
 unfold gy.apply
 split
 ·rfl
 ·split
  ·split
   ·rfl
   ·split
    ·rfl
    ·exact GV _ _ J
  ·split
   ·split
    ·exact uH _ J
    ·rfl
   ·split
    ·exact xx _ _ J
    ·rfl
theorem pF(S:gy)(q:dD)(h:S.bi.length<=6):(S.apply q).s.bi.length<=6:=by
 unfold gy.apply
 split
 ·exact h
 ·split
  ·split
   ·exact h
   ·split
    ·exact h
    ·show(S.bi++[(q.c,0)]).length<=6
     rw[eG];show S.bi.length+1<=6;omega
  ·split
   ·split
    ·exact qJ (zcO) h
    ·exact h
   ·split
    ·exact(Hk _ _ _).symm▸h
    ·exact h
theorem Nm{T:aI}(h:bC T)(c:Int):bC (pT T c):=vx c h 4
theorem pu(S:gy)(q:dD)(h:bC S.bB)(d:q.tm<=18446744073709551615):bC (S.apply q).s.bB:=by
 have H:bC (FJ S.bB q).1:=by
  unfold FJ
  split
  ·exact h.acquire _ _ _
  ·split
   ·exact h.release _ _ _
   ·split
    ·exact h.renew _ _ _
    ·exact h.cancel _ _
 unfold gy.apply
 split
 ·exact h.time d
 ·split
  ·split
   ·exact h
   ·split<;>exact h
  ·split
   ·split
    ·exact Nm h _
    ·exact h
   ·split
    ·exact H
    ·exact h
theorem cW.next(h:cW S C c k)(U:C.bi=true)(F:k<4294967295)(o r m t x:Int):kt S ⟨o,c,C.seq+1,r,m,t,x⟩:=λy E=>by
 have e:=h.num U y E;have:=h.Mk;have:=h.Oc;exact⟨by show C.seq+1=_;omega,oM,oM⟩
theorem cW.NX(h:cW S C c k){o:Int}(H:o=3\/o=4\/o=5)(r m t:Int):cW (S.apply ⟨o,c,C.seq+1,r,m,t,0⟩).s {C with seq:=C.seq+1} c (k+1):=by
 refine⟨pu _ _ h.bB acN,pF _ _ h.len,by have:=h.Mk;show 0<=C.seq+1;omega,by have:=h.Oc;show C.seq+1<=k+1;omega,λU y E=> ?_⟩;show y.2=C.seq+1;by_cases a:(aQ S.bi c).isSome=true
 ·rw[j7 H a]at E
  have E:aQ (bR S.bi c (C.seq+1)) c=some y:=E;rw[FZ]at E
  cases J:aQ S.bi c with
  |none=>rw[J]at a;cases a
  |some z=>rw[J]at E;injection E with E;rw[<-E]
 ·rw[sI H a]at E
  rw[show aQ S.bi c=none by simpa using a]at E
  cases E
theorem cW.other(h:cW S C c k)(q:dD)(d:c≠q.c)(p:q.tm<=18446744073709551615):cW (S.apply q).s C c k:=
 ⟨pu _ _ h.bB p,pF _ _ h.len,h.Mk,h.Oc,λU y E=>h.num U y (by rw[JH S q d]at E;exact E)⟩
theorem cW.shut(h:cW S C c k)(U:C.bi=false)(q:dD)(y:q.tm<=18446744073709551615):cW (S.apply q).s C c k:=
 ⟨pu _ _ h.bB y,pF _ _ h.len,h.Mk,h.Oc,λE=>by rw[U]at E;cases E⟩
theorem cW.open_(h:cW S C c k)(F:0<=k)(Y:(S.apply ⟨1,c,0,0,0,0,0⟩).e=0):cW (S.apply ⟨1,c,0,0,0,0,0⟩).s {C with bi:=true,seq:=0} c k:=by
 refine⟨pu _ _ h.bB acN,pF _ _ h.len,ef 0,F,λ_ y E=> ?_⟩;show y.2=0;have Z:S.apply ⟨1,c,0,0,0,0,0⟩=if(aQ S.bi c).isSome then⟨S,1,0⟩else if 6<=S.bi.length then⟨S,42,0⟩else⟨⟨S.bi++[(c,0)],S.bB⟩,0,0⟩:=rfl;rw[Z]at Y E;by_cases a:(aQ S.bi c).isSome=true
 ·rw[iP a]at Y;exact absurd Y (show¬(1:Int)=0 by decide)
 ·rw[iN a]at Y E
  by_cases P:6<=S.bi.length
  ·rw[iP P]at Y;exact absurd Y (show¬(42:Int)=0 by decide)
  ·rw[iN P]at E
   have W:aQ S.bi c=none:=by simpa using a
   have E:aQ (S.bi++[(c,0)]) c=some y:=E;unfold aQ at E W;rw[zcI,W]at E;simp at E;rw[<-E]
abbrev fw(o:jd)(A J:Value):Vq:= #[iI o.d,iI o.c,iI o.r,iI o.i,iI o.n,A,J]
theorem YL(x:CX)(r t:Int):dD.of ⟨5,0,0,r,0,t,0⟩ x=⟨5,x.id,x.c.seq+1,r,0,t,0⟩:=rfl
theorem abl(x:CX)(r t:Int):dD.of ⟨4,0,0,r,0,t,0⟩ x=⟨4,x.id,x.c.seq+1,r,0,t,0⟩:=rfl
theorem zJ{n:Int}(K:0<=n)(Z:n<4294967295):dX n=n+1:=Hj K Z
theorem cW.ok{x:CX}{k:Int}(h:cW S x.c x.id k)(K:0<=x.id)(M:x.id<3)(F:k<4294967295):QN S x:=⟨h.bB,by have:=h.len;omega,K,M,h.Mk,by have:=h.Oc;omega⟩
theorem sF{I:aH}{L:List aw}(B g:Nat)(x:CX)(bl wr:List PU)(o:jd)(A J:Value)(w:World)(h:St I w (an x g bl wr::L)):
 Rt I w 65 #[pO B,pO g,.agg (fw o A J)] (iI (x.c.iQ o.r o.i)) (an x g bl wr::L):=by
 have E:=aa (show x.c.iQ o.r o.i=if x.c.GK o.r=false then 110 else if o.i<0\/4<=o.i then 101 else 0 from rfl);obtain⟨d,q⟩:∃d,x.c.GK o.r=d:=⟨_,rfl⟩;have P:=aa q;rw[E.out,q];have z:(o.i<0/\decide (o.i<0)=true)\/(¬o.i<0/\4<=o.i/\decide (o.i<0)=false/\decide (o.i≥4)=true/\decide (4<=o.i)=true)\/(¬o.i<0/\¬4<=o.i/\decide (o.i<0)=false/\decide (o.i≥4)=false/\decide (4<=o.i)=false):=by
  by_cases K:o.i<0
  ·exact .inl ⟨K,dZ K⟩
  ·by_cases Q:4<=o.i
   ·exact .inr (.inl ⟨K,Q,dQ K,dZ Q,dZ Q⟩)
   ·exact .inr (.inr ⟨K,Q,dQ K,dQ Q,dQ Q⟩)
 obtain⟨U,a⟩:=nM ((if d=false then(110:Int)else if o.i<0\/4<=o.i then 101 else 0));rw[<-a];refine bm a z λi C=>?_;have Z:=h.alloc 30 (fw o A J);obtain⟨D,c⟩:=nM (w.heap.size);rw[<-c]at Z;refine bm c Z λt H=>?_;clear h Z c q a z
 go_enter func65,ntmps65
 go_wp2_with fail
 rw[<-t.out];refine ak (I:=I) (L0:=L) [⟨none,none,λe=>ab D 30 (fw o A J)⟩,⟨none,some 9,λe=>an x g bl wr⟩,⟨some 9,none,λe=>an x g bl wr⟩] [[],[0],[0,1],[],[3],[],[5],[5,6],[5,6,7],rG 9,rG 10,rG 11] (rG 12) rfl kR kR kR (by rfl) (λ_=>rfl) H.fk ?_;refine AG ?_;refine kj _ rfl (λe p O h=>by(have h:=h.fn;obtain⟨y,G,R,W,b,N,j⟩:=(h.ah 0 rfl).seven;obtain⟨v,u,M⟩:=(h.fi 1).bT;have V:p.cell? (aD g 1)=some (.bool x.c.bi):=(M.ah 0 rfl).cell 1;have k:p.cell? (aD g 3)=some (iU x.c.jg):=(M.ah 0 rfl).cell 3;go_simp;try rfl)) ?_;simp only[aR];refine yk ?_;refine kj _ rfl (λe p O h=>by(have h:=h.fn;obtain⟨y,G,R,W,b,N,j⟩:=(h.ah 0 rfl).seven;obtain⟨v,u,M⟩:=(h.fi 1).bT;have V:p.cell? (aD g 1)=some (.bool x.c.bi):=(M.ah 0 rfl).cell 1;have k:p.cell? (aD g 3)=some (iU x.c.jg):=(M.ah 0 rfl).cell 3;go_simp;try rfl)) ?_;simp only[aR];refine aZ 103 (λe=> #[.pointer (some ⟨g,4,none⟩),iI o.r,iI 2,iU x.c.jg]) (λe=> .bool d) rfl (λe p O h=>by(
  have h:=h.fn;refine(Vg g x bl wr o.r _ (h.fi 1)).mono ?_;rintro u X⟨rfl,Z⟩;exact⟨⟨none,0,default⟩,(by rw[P.out]),Z.fk⟩)) ?_
 simp only[aR];refine vM ?_;refine ax ?_;intro e l h;have h:=h.fn;have a:=i.out;obtain⟨y,G,R,W,b,N,j⟩:=(h.ah 0 rfl).seven;have r:=aa (h.fi 1).tail;have T:=aa (h.pk 1 []);clear h H r
 cases d with
 |false=>
  rw[iP rfl]at a;subst a;clear i
  exact adW
 |true=>
  rw[iN dC]at a;rcases C.out with⟨K,d0⟩|⟨K,Q,d0,d1,d2⟩|⟨K,Q,d0,d1,d2⟩
  ·rw[iP (.inl K)]at a
   subst a;clear i C K
   exact adW
  ·rw[iP (.inr Q)]at a
   subst a;clear i C K Q
   exact adW
  ·rw[iN oM]at a
   subst a;clear i C K Q
   exact adW
theorem Hu{x:CX}{k:Int}(U:cW S x.c x.id k)(K:0<=x.id)(M:x.id<3)(F:k<4294967295){o r m t:Int}(H:1<=o/\o<=7)(G:0<=r/\r<4)(y:0<=m/\m<=255)(R:0<=t/\t<18446744073709551616):dD.ok ⟨o,x.id,x.c.seq+1,r,m,t,0⟩:=by
 have:=U.Mk;have:=U.Oc;refine⟨H,⟨K,?_⟩,⟨G.1,?_⟩,y,⟨?_,?_⟩,R,⟨ef 0,(by decide:(0:Int)<18446744073709551616)⟩⟩
 ·show x.id<=255;omega
 ·show r<=255;omega
 ·show 0<=x.c.seq+1;omega
 ·show x.c.seq+1<4294967296;omega
theorem tj{I:aH}{L:List aw}(B g:Nat)(b:WX)(x:CX)(bl wr:List PU)(S:gy)(r t k:Int)(w:World)(U:cW S x.c x.id k)(K:0<=x.id)(M:x.id<3)(F:k<4294967295)(i:x.c.bi=true)(G:0<=r/\r<4)(R:0<=t/\t<18446744073709551616)
 (h:St I w (ab B 55 (wC b)::eK b.gv S::an x g bl wr::L)):
 Rt I w 64 #[pO B,pO g,iI r,iU t] (iI (gH S x.id x.c r t).e) (ab B 55 (wC b)::eK b.gv (gH S x.id x.c r t).s::an ⟨x.id,(gH S x.id x.c r t).c,x.p⟩ g bl wr::L):=by
 have P:=U.ok K M F;have Z:=Hu U K M F (o:=5) (r:=r) (m:=0) (t:=t) ⟨dC,dC⟩ G ⟨dC,dC⟩ R;have d:=U.next i F 5 r 0 t 0;have y:dX x.c.seq=x.c.seq+1:=zJ U.Mk (by have:=U.Oc;omega);obtain⟨a,Q⟩:=nM (S.apply ⟨5,x.id,x.c.seq+1,r,0,t,0⟩);have E:gH S x.id x.c r t=if a.e≠0 then⟨a.s,{x.c with seq:=x.c.seq+1},a.e⟩else⟨a.s,({x.c with seq:=x.c.seq+1}:bq).nT r t a.v,({x.c with seq:=x.c.seq+1}:bq).mF r t⟩:=by
  show(if(S.apply ⟨5,x.id,dX x.c.seq,r,0,t,0⟩).e≠0 then _ else _)=_;rw[y,<-Q]
  rfl
 rw[E];refine Cz P Z d Q h λc n X J H=>?_;clear h U P Z d Q E i K M F G R y;by_cases Y:a.e=0
 ·rw[iN (by simp[Y])]
  have A:=aa Y
  go_enter func64,ntmps64
  go_wp2_with fail
  refine qK (xT B g b x bl wr S ⟨5,0,0,r,0,t,0⟩ _ c n (.inr (.inr rfl)) X H) λl h=>?_;rw[YL,<-J.out]at h⊢;rw[A.out];have h:St I l (ab B 55 (wC b)::eK b.gv a.s::an ⟨x.id,{x.c with seq:=x.c.seq+1},x.p⟩ g bl wr::L):=h;have V:=h.alloc 158 (aN 0 a.v);obtain⟨p,j⟩:=nM (l.heap.size);have C:World.cell? _ ⟨l.heap.size,0,none⟩=some (iI 0):=(V.ah 0 rfl).cell 0;rw[<-j]at V;refine bm j V λz T=>?_;clear h V H j Y
  go_wp2_with fail
  rw[<-z.out];refine ak (I:=I) (L0:=ab B 55 (wC b)::eK b.gv a.s::L) [⟨none,none,λe=>ab p 158 (aN 0 a.v)⟩,⟨none,some 7,λe=>an ⟨x.id,{x.c with seq:=x.c.seq+1},x.p⟩ g bl wr⟩,⟨some 7,none,λe=>an ⟨x.id,({x.c with seq:=x.c.seq+1}:bq).nT r t a.v,x.p⟩ g bl wr⟩] [[],[0],[0,1],[],[],[],[5],rG 7,rG 8] (rG 9) rfl kR kR kR (by rfl) (λ_=>rfl) T.fk ?_;refine YD ?_;refine aZ 102 (λe=> #[.pointer (some ⟨g,4,none⟩),iI r,iI 2,iU t,iU a.v]) (λe=> iI (({x.c with seq:=x.c.seq+1}:bq).mF r t)) rfl (λe D O h=>by(
   have h:=h.fn;refine(TJ g ⟨x.id,{x.c with seq:=x.c.seq+1},x.p⟩ bl wr r t a.v _ (h.fi 1)).mono ?_;rintro u wy⟨rfl,W⟩;exact⟨⟨none,0,default⟩,rfl,W.fk⟩)) ?_
  simp only[aR];refine lY ?_;refine ax ?_;intro e l h;have h:=h.fn;have N:=aa (h.pk 4 [2,3,1]);clear h T
  go_wp2_with fail
  go_ret
  exact⟨rfl,N⟩
 ·rw[iP Y]
  have q:(a.e !=0)=true:=by simp[Y]
  go_enter func64,ntmps64
  go_wp2_with fail
  refine qK (xT B g b x bl wr S ⟨5,0,0,r,0,t,0⟩ _ c n (.inr (.inr rfl)) X H) λl h=>?_;rw[YL,<-J.out]at h⊢;have h:St I l (ab B 55 (wC b)::eK b.gv a.s::an ⟨x.id,{x.c with seq:=x.c.seq+1},x.p⟩ g bl wr::L):=h;have V:=h.alloc 158 (aN a.e a.v);have C:World.cell? _ ⟨l.heap.size,0,none⟩=some (iI a.e):=(V.ah 0 rfl).cell 0;have T:=aa V.tail;clear h V H
  exact adW
theorem mM{I:aH}{L:List aw}(g:Nat)(x:CX)(bl wr:List PU)(r:Int)(w:World)(h:St I w (an x g bl wr::L)):
 Rt I w 22 #[.pointer (some ⟨g,4,none⟩),iI r] (iU (x.c.tok r)) (an x g bl wr::L):=by
 obtain⟨v,u,Z⟩:=h.bT;refine qK (Td x v u g r _ Z) λO V=>?_;exact⟨rfl,V.gT⟩
theorem By{r:Int}(h:C.tok r≠0):0<=r/\r<4:=by
 unfold bq.tok at h
 split at h
 ·next R=>obtain⟨i,z,B⟩:=o6 R;omega
 ·exact absurd rfl h
theorem NZ{I:aH}{L:List aw}(B g:Nat)(b:WX)(x:CX)(bl wr:List PU)(S:gy)(o:jd)(A J:Value)(k:Int)(w:World)(U:cW S x.c x.id k)(W:0<=x.id)(M:x.id<3)(F:k<4294967295)(i:x.c.bi=false->x.c.tok o.r=0)(R:0<=x.c.tok o.r/\x.c.tok o.r<18446744073709551616)
 (h:St I w (ab B 55 (wC b)::eK b.gv S::an x g bl wr::L)):
 Rt I w 37 #[pO B,pO g,.agg (fw o A J)] (.tuple #[sN,iI (dI S x.id x.c o.r).e]) (ab B 55 (wC b)::eK b.gv (dI S x.id x.c o.r).s::an ⟨x.id,(dI S x.id x.c o.r).c,x.p⟩ g bl wr::L):=by
 have d:x.c.tok o.r≠0->(0<=o.r/\o.r<4)/\x.c.bi=true:=λl=>⟨By l,by
  cases Y:x.c.bi with
  |true=>rfl
  |false=>exact absurd (i Y) l⟩
 refine ib U (And.intro W (And.intro M (And.intro F R))) d λV n j=>?_;obtain⟨y,E⟩:=nM (dI S x.id x.c o.r);rw[<-E];have K:=aa E;clear d E U W M F i R;have Z:=h.alloc 30 (fw o A J);obtain⟨P,c⟩:=nM (w.heap.size);rw[<-c]at Z;refine bm c Z λt H=>?_;clear h Z c
 go_enter func37,ntmps37
 go_wp2_with fail
 rw[<-t.out];refine ak (I:=I) (L0:=ab B 55 (wC b)::eK b.gv S::L) [⟨none,none,λe=>ab P 30 (fw o A J)⟩,⟨none,some 5,λe=>an x g bl wr⟩,⟨some 5,none,λe=>an x g bl wr⟩] [[],[0],[0,1],[],[3],rG 5,rG 6] (rG 7) rfl kR kR kR (by rfl) (λ_=>rfl) H.fk ?_;refine sO ?_;refine aZ 22 (λe=> #[.pointer (some ⟨g,4,none⟩),iI o.r]) (λe=> iU (x.c.tok o.r)) rfl (λe wx O h=>by(
  have h:=h.fn;refine(mM g x bl wr o.r _ (h.fi 1)).mono ?_;rintro u wy⟨rfl,Z⟩;exact⟨⟨none,0,default⟩,rfl,Z.fk⟩)) ?_
 simp only[aR];refine lY ?_;refine ax ?_;intro e w1 h;have h:=h.fn;obtain⟨z,Q,q,r,C,X,p⟩:=(h.ah 0 rfl).seven;have T:=aa (h.pk 4 [2,3,1]);clear h H;by_cases G:x.c.tok o.r=0
 ·have a:=K.trans (iP G)
  rw[G];subst a;clear K
  exact afX
 ·have e1:(x.c.tok o.r==0)=false:=kO G
  have a:=K.trans (iN G);have D:=aa G;subst a;clear K G
  go_wp2_with fail
  refine qH (tj B g b x bl wr S o.r (x.c.tok o.r) k _ V n.1 n.2.1 n.2.2.1 (j D).2 (j D).1 n.2.2.2 T) λw2 N=>?_;clear T z Q q r C X p
  exact afi
theorem Ua{I:aH}{L:List aw}(B g:Nat)(x:CX)(bl wr:List PU)(o:jd)(A J:Value)(w:World)(E:o.n<=9223372036854775807)(h:St I w (an x g bl wr::L)):
 Rt I w 35 #[pO B,pO g,.agg (fw o A J)] (.tuple #[sN,iI (if o.n<0 then 1 else 0)]) (an ⟨x.id,if o.n<0 then x.c else{x.c with jg:=IntKind.u64.wrap (x.c.jg+o.n)},x.p⟩ g bl wr::L):=by
 by_cases W:o.n<0
 ·rw[iP W,iP W]
  have d1:decide (o.n<0)=true:=dZ W;have Z:=h.alloc 30 (fw o A J);obtain⟨N,c⟩:=nM (w.heap.size);obtain⟨y,z,q,G,Q,R,b⟩:=(Z.ah 0 rfl).seven;rw[<-c]at Z;refine bm c Z λt H=>?_;clear h Z c W E
  go_enter func35,ntmps35
  go_wp2_with fail
  go_ret2
  exact afs
 ·rw[iN W,iN W]
  have d1:decide (o.n<0)=false:=dQ W;have P:IntKind.u64.wrap o.n=o.n:=IntWalk.u64_in _ oM;have Z:=h.alloc 30 (fw o A J);obtain⟨N,c⟩:=nM (w.heap.size);obtain⟨y,z,q,G,Q,R,b⟩:=(Z.ah 0 rfl).seven;rw[<-c]at Z;refine bm c Z λt H=>?_;clear h Z c W E
  go_enter func35,ntmps35
  go_wp2_with fail
  rw[<-t.out];clear y z q G Q R b;refine ak (I:=I) (L0:=L) [⟨none,none,λe=>ab N 30 (fw o A J)⟩,⟨none,some 10,λe=>an x g bl wr⟩,⟨some 10,none,λe=>an ⟨x.id,{x.c with jg:=IntKind.u64.wrap (x.c.jg+o.n)},x.p⟩ g bl wr⟩] [[],[0],[0,1],rG 3,[],[4],[4,5],rG 7,rG 8,rG 9,rG 10] (rG 11) rfl kR kR kR (by rfl) (λ_=>rfl) H.fk ?_;refine yk ?_;refine kj _ rfl (λe p O h=>by(have h:=h.fn;obtain⟨y,z,q,G,Q,R,b⟩:=(h.ah 0 rfl).seven;obtain⟨v,u,M⟩:=(h.fi 1).bT;have V:p.cell? (aD g 1)=some (.bool x.c.bi):=(M.ah 0 rfl).cell 1;have j:p.cell? (aD g 3)=some (iU x.c.jg):=(M.ah 0 rfl).cell 3;go_simp;try rfl)) ?_;simp only[aR];refine lY ?_;refine kj _ rfl (λe p O h=>by(have h:=h.fn;obtain⟨y,z,q,G,Q,R,b⟩:=(h.ah 0 rfl).seven;obtain⟨v,u,M⟩:=(h.fi 1).bT;have V:p.cell? (aD g 1)=some (.bool x.c.bi):=(M.ah 0 rfl).cell 1;have j:p.cell? (aD g 3)=some (iU x.c.jg):=(M.ah 0 rfl).cell 3;go_simp;try rfl)) ?_;simp only[aR];refine AG ?_;refine jA (λe=> .pointer (some ⟨g,3,none⟩)) (λe=> iU (IntKind.u64.wrap (x.c.jg+o.n))) rfl rfl (λe p O h=>by(
   have h:=h.fn;obtain⟨v,u,M⟩:=(h.fi 1).bT;have V:p.cell? (aD g 1)=some (.bool x.c.bi):=(M.ah 0 rfl).cell 1;have j:p.cell? (aD g 3)=some (iU x.c.jg):=(M.ah 0 rfl).cell 3;have n:=(M.ah 0 rfl).frozen;have U:=St.fm (x':=⟨x.id,{x.c with jg:=IntKind.u64.wrap (x.c.jg+o.n)},x.p⟩) (h.front (X:=an x g bl wr)) 3 (iU (IntKind.u64.wrap (x.c.jg+o.n))) (λ_ _=>rfl);exact⟨_,gS,U.fk⟩)) ?_
  simp only[Act.put];refine ax ?_;intro e l h;have h:=h.fn;have T:=aa (h.pk 1 []);clear h H
  exact afX
theorem Fl{P:Program}{a:Act}{o:Oper}{w:World}{v A b:Value}{t:TypeId}{p V:Nat}{G c:Operand}(X:o.op= .build t #[(p,G),(V,c)])(K:a.eval G=A)(Z:a.eval c=b)
 (h:(Instr.build t #[(p,A),(V,b)]).run P w= .ok v w):(execOp a.eval o).run P w= .ok (.value v) w:=by
 unfold execOp;simp only[X,K,Z,FV,li,BQ,Sem.run_bind,Sem.run_pure,Result.andThen_ok,h]
theorem Ct(i k:Int)(w:World):(Instr.build 75 #[(0,iI i),(3,iU k)]).run prog w= .ok (.agg (cF ⟨i,bq.zero k,λ_=> sN⟩ sN sN)) w:=kR
theorem Pr:(prog.info? 75).map (·.size)=some 42:=kR
theorem UM(i k:Int):∀u∈(cF ⟨i,bq.zero k,λ_=> sN⟩ sN sN).toList,u.oneCell'=true:=by
 have h:(cF ⟨i,bq.zero k,λ_=> sN⟩ sN sN).toList.all (λu=>u.oneCell')=true:=rfl;exact yT.1 h
theorem Wq{I:aH}{L:List aw}(B g:Nat)(x:CX)(bl wr:List PU)(o:jd)(A J:Value)(w:World)(h:St I w (an x g bl wr::L)):
 Rt I w 42 #[pO B,pO g,.agg (fw o A J)] (.tuple #[sN,iI 0]) (an ⟨x.id,bq.zero x.c.jg,λ_=> sN⟩ g [] []::L):=by
 have V:=Ct;have Z:=h.alloc 30 (fw o A J);obtain⟨N,c⟩:=nM (w.heap.size);obtain⟨y,z,R,W,Q,i,b⟩:=(Z.ah 0 rfl).seven;rw[<-c]at Z;refine bm c Z λt H=>?_;clear h Z c
 go_enter func42,ntmps42
 go_wp2_with fail
 rw[<-t.out];clear y z R W Q i b;refine ak (I:=I) (L0:=L) [⟨none,some 11,λe=>an x g bl wr⟩,⟨some 11,none,λe=>an ⟨x.id,bq.zero x.c.jg,λ_=> sN⟩ g [] []⟩] [[],[],[1],[1,2],[1,2,3],[],[5],[5,6],[5,6,7],[1,2,3,4,5,6,7,8],rG 10,rG 11] (rG 12) rfl kR kR kR (by rfl) (λ_=>rfl) H.fk ?_;refine AG ?_;refine kj _ rfl (λe p O h=>by(have h:=h.fn;obtain⟨v,u,M⟩:=(h.fi 0).bT;have q:p.cell? (aD g 0)=some (iI x.id):=(M.ah 0 rfl).cell 0;have j:p.cell? (aD g 3)=some (iU x.c.jg):=(M.ah 0 rfl).cell 3;go_simp;try rfl)) ?_;simp only[aR];refine yk ?_;refine kj _ rfl (λe p O h=>by(have h:=h.fn;obtain⟨v,u,M⟩:=(h.fi 0).bT;have q:p.cell? (aD g 0)=some (iI x.id):=(M.ah 0 rfl).cell 0;have j:p.cell? (aD g 3)=some (iU x.c.jg):=(M.ah 0 rfl).cell 3;go_simp;try rfl)) ?_;simp only[aR];refine kj (λe=> .agg (cF ⟨x.id,bq.zero x.c.jg,λ_=> sN⟩ sN sN)) rfl (λe p O h=>by(exact Fl rfl rfl rfl (Ct x.id x.c.jg p))) ?_;simp only[aR];refine lY ?_;refine jA (λe=> pO g) (λe=> .agg (cF ⟨x.id,bq.zero x.c.jg,λ_=> sN⟩ sN sN)) rfl rfl (λe p O h=>by(
  have h:=h.fn;obtain⟨v,u,M⟩:=(h.fi 0).bT;have q:p.cell? (aD g 0)=some (iI x.id):=(M.ah 0 rfl).cell 0;have j:p.cell? (aD g 3)=some (iU x.c.jg):=(M.ah 0 rfl).cell 3;obtain⟨X,G,U⟩:=M.storeAll (P:=prog) (cF ⟨x.id,bq.zero x.c.jg,λ_=> sN⟩ sN sN) Pr rfl (UM x.id x.c.jg);have U:=St.gT (cx:=⟨x.id,bq.zero x.c.jg,λ_=> sN⟩) ((U.dU 213 3 bU).dU 213 3 bU|>.pk 3 [2,0,1]);exact⟨_,G,U.fk⟩)) ?_
 simp only[Act.put];refine ax ?_;intro e l h;have h:=h.fn;have T:=aa (h.pk 0 []);clear h H
 exact afX
theorem Qj{I:aH}{L:List aw}(B g:Nat)(x:CX)(o:jd)(r:OA)(a z:Nat)(J:Value)(w:World)(M:x.c.bl.length<=1000000)(C:x.c.wr.length<=1000000)(q:∀y∈x.c.wr,y.data.length<=1000000)(h:St I w (ai .u8 (.slice r a z) o.b::an x g x.c.bl x.c.wr::L)):
 Rt I w 38 #[pO B,pO g,.agg (fw o (.slice r a z) J)] (.tuple #[sN,iI (dO x.c o.r o.i o.b).2]) (an ⟨x.id,(dO x.c o.r o.i o.b).1,x.p⟩ g (dO x.c o.r o.i o.b).1.bl (dO x.c o.r o.i o.b).1.wr::L):=by
 obtain⟨A,d⟩:=nM (Value.slice r a z);by_cases Y:x.c.iQ o.r o.i=0
 ·have E:dO x.c o.r o.i o.b=({x.c with bl:=za x.c.bl x.c.wr ⟨o.r,o.i,o.b⟩,wr:=AL x.c.bl x.c.wr ⟨o.r,o.i,o.b⟩},Dy x.c.bl x.c.wr ⟨o.r,o.i,o.b⟩):=iN (by simp[Y])
  rw[E];refine bm Y (And.intro M (And.intro C q)) λV j=>?_;rw[<-d]at h⊢;have F:=aa d;clear E Y M C q d;have Z:=h.alloc 30 (fw o A J);obtain⟨D,c⟩:=nM (w.heap.size);obtain⟨G,W,R,i,Q,b,k⟩:=(Z.ah 0 rfl).seven;rw[<-c]at Z;refine bm c Z λt H=>?_;clear h Z c
  go_enter func38,ntmps38
  go_wp2_with fail
  rw[<-t.out];refine qK (sF B g x x.c.bl x.c.wr o A J _ (H.fi 2)) λl h=>?_;rw[V.out];have N:=aa h;clear h H G W R i Q b k
  go_wp2_with fail
  refine ak (I:=I) (L0:=L) [⟨none,none,λe=>ab D 30 (fw o A J)⟩,⟨none,some 10,λe=>ai .u8 A o.b⟩,⟨none,some 10,λe=>an x g x.c.bl x.c.wr⟩,⟨some 10,none,λe=>an x g (za x.c.bl x.c.wr ⟨o.r,o.i,o.b⟩) (AL x.c.bl x.c.wr ⟨o.r,o.i,o.b⟩)⟩] [[],[0],[0,1],[],[3],[],[5],[3,4,5,6],[],[8],rG 10,rG 11,rG 12] (rG 13) rfl kR kR kR (by rfl) (λ_=>rfl) N.fk ?_;refine Qq ?_;refine aZ 66 (λe=> #[.pointer (some ⟨g,20,none⟩),.agg #[iI o.r,iI o.i],A]) (λe=> iI (Dy x.c.bl x.c.wr ⟨o.r,o.i,o.b⟩)) rfl (λe p O h=>by(
   have h:=h.fn;refine((F.out▸Mg g x.c.bl x.c.wr o.r o.i r a z o.b p j.1 j.2.1 j.2.2 (F.out▸h.sub (L':=ai .u8 A o.b::an x g x.c.bl x.c.wr::ab D 30 (fw o A J)::O)))).mono ?_;rintro u X⟨rfl,Z⟩;exact⟨⟨none,0,default⟩,rfl,Z.fk⟩)) ?_
  simp only[aR];refine vM ?_;refine ax ?_;intro e l h;have h:=h.fn;have T:Hid (St I l (an ⟨x.id,{x.c with bl:=za x.c.bl x.c.wr ⟨o.r,o.i,o.b⟩,wr:=AL x.c.bl x.c.wr ⟨o.r,o.i,o.b⟩},x.p⟩ g (za x.c.bl x.c.wr ⟨o.r,o.i,o.b⟩) (AL x.c.bl x.c.wr ⟨o.r,o.i,o.b⟩)::L)):=h.pk 1 [];clear h N
  exact afX
 ·have E:dO x.c o.r o.i o.b=(x.c,x.c.iQ o.r o.i):=iP Y
  rw[E];obtain⟨K,U⟩:=nM (x.c.iQ o.r o.i);have S:(K !=0)=true:=by rw[U];simp[Y]
  rw[<-U];have n:=aa U;rw[<-d]at h⊢;clear E Y M C q d U;have Z:=h.alloc 30 (fw o A J);obtain⟨D,c⟩:=nM (w.heap.size);obtain⟨G,W,R,i,Q,b,k⟩:=(Z.ah 0 rfl).seven;rw[<-c]at Z;refine bm c Z λt H=>?_;clear h Z c
  go_enter func38,ntmps38
  go_wp2_with fail
  rw[<-t.out];refine qK (sF B g x x.c.bl x.c.wr o A J _ (H.fi 2)) λl h=>?_;rw[<-n.out];have N:=aa (h.pk 3 [0]);clear h H G W R i Q b k
  exact afi
theorem Lf(C:bq)(r:Int):(C.gone r).bl=C.bl/\(C.gone r).wr=C.wr:=by
 unfold bq.gone
 split<;>exact⟨rfl,rfl⟩
theorem Ou(i:Int)(p:Nat->Value)(g:Nat)(C:bq)(r:Int):an ⟨i,C.gone r,p⟩ g (C.bl.filter (λy=> !ao r y)) (C.wr.filter (λy=> !ao r y))=an ⟨i,(C.gone r).drop r,p⟩ g ((C.gone r).drop r).bl ((C.gone r).drop r).wr:=by
 show _=an ⟨i,C.gone r,p⟩ g ((C.gone r).bl.filter (λy=> !ao r y)) ((C.gone r).wr.filter (λy=> !ao r y));rw[(Lf C r).1,(Lf C r).2]
theorem Oj{I:aH}{L:List aw}(B g:Nat)(b:WX)(x:CX)(S:gy)(o:jd)(A J:Value)(k:Int)(w:World)(U:cW S x.c x.id k)(K:0<=x.id)(M:x.id<3)(F:k<4294967295)(X:x.c.bi=false->x.c.tok o.r=0)(ht:0<=x.c.tok o.r/\x.c.tok o.r<18446744073709551616)
 (D:x.c.wr.length<=1000000) (p:∀y∈x.c.wr,y.data.length<=1000000) (h:St I w (ab B 55 (wC b)::eK b.gv S::an x g x.c.bl x.c.wr::L)):
 Rt I w 41 #[pO B,pO g,.agg (fw o A J)] (.tuple #[sN,iI (jJ S x.id x.c o.r).e]) (ab B 55 (wC b)::eK b.gv (jJ S x.id x.c o.r).s::an ⟨x.id,(jJ S x.id x.c o.r).c,x.p⟩ g (jJ S x.id x.c o.r).c.bl (jJ S x.id x.c o.r).c.wr::L):=by
 by_cases G:x.c.tok o.r=0
 ·have E:jJ S x.id x.c o.r=⟨S,x.c,110⟩:=iP G
  rw[E];have HZ:=aa G;clear E G U K M F X ht D p;have Z:=h.alloc 30 (fw o A J);obtain⟨N,c⟩:=nM (w.heap.size);obtain⟨z,W,q,R,Q,i,j⟩:=(Z.ah 0 rfl).seven;rw[<-c]at Z;refine bm c Z λn H=>?_;clear h Z c
  go_enter func41,ntmps41
  go_wp2_with fail
  rw[<-n.out];clear z W q R Q i j;refine ak (I:=I) (L0:=ab B 55 (wC b)::eK b.gv S::L) [⟨none,none,λe=>ab N 30 (fw o A J)⟩,⟨none,some 5,λe=>an x g x.c.bl x.c.wr⟩,⟨some 5,none,λe=>an x g x.c.bl x.c.wr⟩] [[],[0],[0,1],[],[3],rG 5,rG 6] (rG 7) rfl kR kR kR (by rfl) (λ_=>rfl) H.fk ?_;refine sO ?_;refine aZ 22 (λe=> #[.pointer (some ⟨g,4,none⟩),iI o.r]) (λe=> iU (x.c.tok o.r)) rfl (λe wx O h=>by(
   have h:=h.fn;refine(mM g x x.c.bl x.c.wr o.r _ (h.fi 1)).mono ?_;rintro u wy⟨rfl,Z⟩;exact⟨⟨none,0,default⟩,rfl,Z.fk⟩)) ?_
  simp only[aR];refine lY ?_;refine ax ?_;intro e l h;have h:=h.fn;rw[HZ.out];have T:=aa (h.pk 4 [2,3,1]);clear h H
  exact afX
 ·have P:(0<=o.r/\o.r<4)/\x.c.bi=true:=⟨By G,by
   cases hh:x.c.bi with
   |true=>rfl
   |false=>exact absurd (X hh) G⟩
  have C0:=U.ok K M F;have A0:=Hu U K M F (o:=4) (r:=o.r) (m:=0) (t:=x.c.tok o.r) ⟨dC,dC⟩ P.1 ⟨dC,dC⟩ ht;have B0:=U.next P.2 F 4 o.r 0 (x.c.tok o.r) 0;have hq:dX x.c.seq=x.c.seq+1:=zJ U.Mk (by have:=U.Oc;omega);obtain⟨a,d⟩:=nM (S.apply ⟨4,x.id,x.c.seq+1,o.r,0,x.c.tok o.r,0⟩);have E:jJ S x.id x.c o.r=⟨a.s,(({x.c with seq:=x.c.seq+1}:bq).gone o.r).drop o.r,a.e⟩:=by
   refine(iN G).trans ?_;rw[d,<-hq]
  rw[E];refine Cz C0 A0 B0 d (And.intro D p) λG0 D0 F0 HA HL=>?_;have e1:(x.c.tok o.r==0)=false:=kO G;clear E G U K M F X ht D p P C0 A0 B0 hq d;have Z:=h.alloc 30 (fw o A J);obtain⟨N,c⟩:=nM (w.heap.size);obtain⟨z,W,q,R,Q,i,j⟩:=(Z.ah 0 rfl).seven;rw[<-c]at Z;refine bm c Z λn H=>?_;clear h Z c
  go_enter func41,ntmps41
  go_wp2_with fail
  rw[<-n.out];clear z W q R Q i j;refine ak (I:=I) (L0:=ab B 55 (wC b)::eK b.gv S::L) [⟨none,none,λe=>ab N 30 (fw o A J)⟩,⟨none,some 5,λe=>an x g x.c.bl x.c.wr⟩,⟨some 5,none,λe=>an x g x.c.bl x.c.wr⟩] [[],[0],[0,1],[],[3],rG 5,rG 6] (rG 7) rfl kR kR kR (by rfl) (λ_=>rfl) H.fk ?_;refine sO ?_;refine aZ 22 (λe=> #[.pointer (some ⟨g,4,none⟩),iI o.r]) (λe=> iU (x.c.tok o.r)) rfl (λe wx O h=>by(
   have h:=h.fn;refine(mM g x x.c.bl x.c.wr o.r _ (h.fi 1)).mono ?_;rintro u wy⟨rfl,Z⟩;exact⟨⟨none,0,default⟩,rfl,Z.fk⟩)) ?_
  simp only[aR];refine lY ?_;refine ax ?_;intro e l h;have h:=h.fn;obtain⟨z,W,q,R,Q,i,j⟩:=(h.ah 0 rfl).seven;have H1:=aa (h.pk 4 [2,3,1,0]);clear h H
  go_wp2_with fail
  refine qK (xT B g b x x.c.bl x.c.wr S ⟨4,0,0,o.r,0,x.c.tok o.r,0⟩ _ G0 D0 (.inr (.inl rfl)) F0 H1) λl h=>?_;rw[abl,<-HA.out]at h⊢;have h:St I l (ab B 55 (wC b)::eK b.gv a.s::an ⟨x.id,({x.c with seq:=x.c.seq+1}:bq),x.p⟩ g x.c.bl x.c.wr::ab N 30 (fw o A J)::L):=h;have V:=h.alloc 158 (aN a.e a.v);obtain⟨Y,C⟩:=nM (l.heap.size);rw[<-C]at V;refine bm C V λE0 T=>?_;clear h V H1 C z W q R Q i j
  go_wp2_with fail
  rw[<-E0.out];refine ak (I:=I) (L0:=ab Y 158 (aN a.e a.v)::ab B 55 (wC b)::eK b.gv a.s::L) [⟨none,none,λe=>ab N 30 (fw o A J)⟩,⟨none,some 5,λe=>an ⟨x.id,({x.c with seq:=x.c.seq+1}:bq),x.p⟩ g x.c.bl x.c.wr⟩,⟨some 5,none,λe=>an ⟨x.id,({x.c with seq:=x.c.seq+1}:bq).gone o.r,x.p⟩ g x.c.bl x.c.wr⟩] [[],[0],[0,1],[],[3],rG 5] (rG 6) rfl kR kR kR (by rfl) (λ_=>rfl) T.fk ?_;refine sO ?_;refine aZ 74 (λe=> #[.pointer (some ⟨g,4,none⟩),iI o.r]) (λe=> .tuple #[]) rfl (λe wx O h=>by(
   have h:=h.fn;refine(Te g ⟨x.id,({x.c with seq:=x.c.seq+1}:bq),x.p⟩ x.c.bl x.c.wr o.r _ (h.fi 1)).mono ?_;rintro u wy⟨rfl,Z⟩;exact⟨⟨none,0,default⟩,rfl,Z.fk⟩)) ?_
  simp only[aR];refine ax ?_;intro e l h;have h:=h.fn;have H3:=aa h;clear h T
  go_wp2_with fail
  refine ak (I:=I) (L0:=ab Y 158 (aN a.e a.v)::ab B 55 (wC b)::eK b.gv a.s::L) [⟨none,none,λe=>ab N 30 (fw o A J)⟩,⟨none,some 5,λe=>an ⟨x.id,({x.c with seq:=x.c.seq+1}:bq).gone o.r,x.p⟩ g x.c.bl x.c.wr⟩,⟨some 5,none,λe=>an ⟨x.id,({x.c with seq:=x.c.seq+1}:bq).gone o.r,x.p⟩ g (x.c.bl.filter (λy=> !ao o.r y)) (x.c.wr.filter (λy=> !ao o.r y))⟩] [[],[0],[0,1],[],[3],rG 5] (rG 6) rfl kR kR kR (by rfl) (λ_=>rfl) H3.fk ?_;refine sO ?_;refine aZ 63 (λe=> #[.pointer (some ⟨g,20,none⟩),iI o.r]) (λe=>(e 5).v) rfl (λe wx O h=>by(
   have h:=h.fn;refine(LH (cx:=⟨x.id,({x.c with seq:=x.c.seq+1}:bq).gone o.r,x.p⟩) g x.c.bl x.c.wr o.r _ HL.1 HL.2 (h.fi 1)).mono ?_;rintro u wy⟨v6,rfl,Z⟩;exact⟨⟨none,0,v6⟩,rfl,Z.fk⟩)) ?_
  simp only[aR];refine ax ?_;intro e l h;have h:=h.fn;have y0:l.cell? (aD Y 0)=some (iI a.e):=(h.ah 2 rfl).cell 0;have H4:=aa (h.pk 5 [3,4,1]);clear h H3
  go_wp2_with (go_quiet (fail))
  go_ret2
  refine⟨rfl,?_⟩;rw[<-Ou x.id x.p g ({x.c with seq:=x.c.seq+1}:bq) o.r];exact H4.drewN nq
theorem Ny(a b:Int)(w:World):(Instr.field 158 (.agg #[iI a,iU b]) 0).run prog w= .ok (iI a) w:=kR
theorem Qd(g _ j:Nat)(w:World)(h:w.cell? (aD g 1)=some (pO j)):Calls prog 59 #[pO g] w λe O=>e= .returned (pO j)/\O=w:=by
 go_enter func59,ntmps59
 go_wp2_with fail
 exact afY
def tmC(S:gy)(n:Int):dD:=⟨7,0,0,0,0,0,IntKind.u64.wrap (S.bB.now+n)⟩
theorem wrap_u64(n:Int):0<=IntKind.u64.wrap n/\IntKind.u64.wrap n<18446744073709551616:=by
 unfold IntKind.wrap;simp[IntKind.bits,IntKind.signed];omega
theorem Wv{I:aH}{L:List aw}(B g:Nat)(b:WX)(S:gy)(o:jd)(A J:Value)(w:World)(U:bC S.bB)(C:S.bi.length<=1000)(G:o.n<=9223372036854775807)(h:St I w (ab B 55 (wC b)::eK b.gv S::L)):
 Rt I w 34 #[pO B,pO g,.agg (fw o A J)] (.tuple #[sN,iI (if o.n<0 then 1 else 0)]) (ab B 55 (wC b)::eK b.gv (if o.n<0 then S else(S.apply (tmC S o.n)).s)::L):=by
 by_cases W:o.n<0
 ·rw[iP W,iP W]
  have d1:decide (o.n<0)=true:=dZ W;have Z:=h.alloc 30 (fw o A J);obtain⟨N,c⟩:=nM (w.heap.size);obtain⟨y,z,q,R,Q,M,D⟩:=(Z.ah 0 rfl).seven;rw[<-c]at Z;refine bm c Z λt H=>?_;clear h Z c W G U C
  go_enter func34,ntmps34
  go_wp2_with fail
  go_ret2
  exact afs
 ·rw[iN W,iN W]
  have d1:decide (o.n<0)=false:=dQ W;have wn:IntKind.u64.wrap o.n=o.n:=IntWalk.u64_in _ oM;obtain⟨x,a⟩:=nM (IntKind.u64.wrap (S.bB.now+o.n));have d:=wrap_u64 (S.bB.now+o.n);rw[show tmC S o.n=⟨7,0,0,0,0,0,x⟩by rw[a];rfl];rw[<-a]at d;have wt:=a.symm;have Y:=aa (show(dD.mk 7 0 0 0 0 0 x).ok from⟨⟨by show(1:Int)<=7;decide,by show(7:Int)<=7;decide⟩,⟨ef 0,by show(0:Int)<=255;decide⟩,⟨ef 0,by show(0:Int)<=255;decide⟩,⟨ef 0,by show(0:Int)<=255;decide⟩,⟨ef 0,by show(0:Int)<4294967296;decide⟩,⟨ef 0,by show(0:Int)<18446744073709551616;decide⟩,d⟩);have V:=aa (And.intro U C);have n:=aa (show(S.apply (dD.mk 7 0 0 0 0 0 x)).e=0 by unfold gy.apply;rw[iP rfl]);have K:=Ny;have Z:=h.alloc 30 (fw o A J);obtain⟨N,c⟩:=nM (w.heap.size);obtain⟨y,z,q,R,Q,M,D⟩:=(Z.ah 0 rfl).seven;rw[<-c]at Z;refine bm c Z λt H=>?_;clear h Z c W G U C a d
  go_enter func34,ntmps34
  go_wp2_with fail
  rw[<-t.out];clear y z q R Q M D;obtain⟨gs,j,F⟩:=(H.fi 2).Vl;have H:=aa F;clear F;refine ak (I:=I) (L0:=fa gs S.bi::L) [⟨none,none,λe=>ab N 30 (fw o A J)⟩,⟨none,none,λe=>ab B 55 (wC b)⟩,⟨none,none,λe=>ab b.gv 113 (fT gs j)⟩,⟨none,some 5,λe=>bW j S.bB⟩,⟨some 5,none,λe=>bW j S.bB⟩,⟨some 11,none,λe=>ai .u8 (.slice (e 11).A (mP (dD.mk 7 0 0 0 0 0 x)).length (e 11).n) (mP (dD.mk 7 0 0 0 0 0 x))⟩] [[],[0],[0,1],rG 3,rG 4,rG 5,[],[6],[6,7],rG 9,rG 10,rG 11,rG 12,rG 13,rG 13,rG 14,rG 16] (rG 17) rfl kR kR kR (by rfl) (λ_=>rfl) H.fk ?_;refine AG ?_;refine aZ 59 (λe=> #[pO b.gv]) (λe=> pO j) rfl (λe p O h=>by(
   have h:=h.fn;refine(Qd b.gv gs j _ ((h.ah 2 rfl).cell 1)).mono ?_;rintro u X⟨rfl,rfl⟩;exact⟨⟨none,0,default⟩,rfl,h.fk⟩)) ?_
  simp only[aR];refine aZ 60 (λe=> #[pO j]) (λe=> iU S.bB.now) rfl (λe p O h=>by(
   have h:=h.fn;refine(Ld j S.bB _ (h.fi 3)).mono ?_;rintro u X⟨rfl,Z⟩;exact⟨⟨none,0,default⟩,rfl,Z.fk⟩)) ?_
  simp only[aR];refine sO ?_;refine aZ 58 (λe=> #[.agg (dN (dD.mk 7 0 0 0 0 0 x))]) (λe=> .tuple #[.slice (e 11).A (mP (dD.mk 7 0 0 0 0 0 x)).length (e 11).n,iI 0]) rfl (λe p O h=>by(
   have h:=h.fn;refine(DT (dD.mk 7 0 0 0 0 0 x) _ Y h).mono ?_;rintro u X⟨i,k,rfl,Z⟩;exact⟨⟨i,k,default⟩,rfl,Z.fk⟩)) ?_
  simp only[aR];refine sO ?_;refine ax ?_;intro e l h;have h:=h.fn;have r:Hid (St I l (ai .u8 (.slice (e 11).A (mP (dD.mk 7 0 0 0 0 0 x)).length (e 11).n) (mP (dD.mk 7 0 0 0 0 0 x))::eK b.gv S::ab B 55 (wC b)::L)):=((h.pk 6 [2,5,3,4,1]).Su).swap;have P:l.cell? (aD B 0)=some (pO b.gv):=(h.ah 1 rfl).cell 0;clear h H
  go_wp2_with fail
  generalize(e 11).A=i at r⊢;generalize(e 11).n=k at r⊢;refine qK (vy b.gv S (dD.mk 7 0 0 0 0 0 x) i _ k _ Y V.1 ⟨ef 0,(by decide:(0:Int)<16)⟩ V.2 (λh=>absurd (show(7:Int)=3\/(7:Int)=4\/(7:Int)=5 from h) dC) rfl r) λE h=>?_;rw[n.out];have T:=aa h.swap;clear h r
  exact afX
section
theorem vu(S:gy)(c:Int)(C:bq)(r t:Int):(gH S c C r t).c.bl=C.bl/\(gH S c C r t).c.wr=C.wr/\(gH S c C r t).c.r=C.r:=by
 show(if _ then _ else _:sZ).c.bl=_/\(if _ then _ else _:sZ).c.wr=_/\(if _ then _ else _:sZ).c.r=_
 split
 ·exact⟨rfl,rfl,rfl⟩
 ·dsimp only
  unfold bq.nT
  split<;>exact⟨rfl,rfl,rfl⟩
def Zv(x:CX)(C:bq)(p:Nat->Value):Prop:=∀i,(p i=x.p i/\C.r i=x.c.r i)\/(p i= sN/\(C.r i).au=[])
section
variable {I:aH} {w:World} {L:List aw} {g:Nat} {bl wr:List PU} {x:CX}
def CX.Vz(x:CX)(i:Nat):CX:=⟨x.id,x.c.tQ i jc.zero,aJ x.p i sN⟩
def CX.cB(x:CX)(i:Nat)(y:jc)(v:Value):CX:=⟨x.id,x.c.tQ i y,aJ x.p i v⟩
theorem vL(x:CX)(i:Nat):x.cB i (x.c.r i) (x.p i)=x:=by
 unfold CX.cB bq.tQ;rw[show aJ x.c.r i (x.c.r i)=x.c.r from funext λj=>by unfold aJ;split<;>simp_all,show aJ x.p i (x.p i)=x.p from funext λj=>by unfold aJ;split<;>simp_all]
theorem CN(x:CX)(y:jc)(v:Value)(n:Int):∀{i:Nat},i<4->∀a c,(cF (x.cB i y v) a c).set! (22+i*5+0) (iW n)=cF (x.cB i ⟨n,y.iy,y.eY,y.au,y.bS⟩ v) a c
 |0,_,_,_=>rfl
 |1,_,_,_=>rfl
 |2,_,_,_=>rfl
 |3,_,_,_=>rfl
 |n+4,h,_,_=>oM
theorem Lz(x:CX)(y:jc)(v:Value)(b:Bool):∀{i:Nat},i<4->∀a c,(cF (x.cB i y v) a c).set! (22+i*5+1) (.bool b)=cF (x.cB i ⟨y.seq,b,y.eY,y.au,y.bS⟩ v) a c
 |0,_,_,_=>rfl
 |1,_,_,_=>rfl
 |2,_,_,_=>rfl
 |3,_,_,_=>rfl
 |n+4,h,_,_=>oM
theorem Lt(x:CX)(y:jc)(v:Value)(b:Bool):∀{i:Nat},i<4->∀a c,(cF (x.cB i y v) a c).set! (22+i*5+2) (.bool b)=cF (x.cB i ⟨y.seq,y.iy,b,y.au,y.bS⟩ v) a c
 |0,_,_,_=>rfl
 |1,_,_,_=>rfl
 |2,_,_,_=>rfl
 |3,_,_,_=>rfl
 |n+4,h,_,_=>oM
theorem qS(x:CX)(y:jc)(v:Value)(q:List RQ)(u:Value):∀{i:Nat},i<4->∀a c,(cF (x.cB i y v) a c).set! (22+i*5+3) (u)=cF (x.cB i ⟨y.seq,y.iy,y.eY,q,y.bS⟩ u) a c
 |0,_,_,_=>rfl
 |1,_,_,_=>rfl
 |2,_,_,_=>rfl
 |3,_,_,_=>rfl
 |n+4,h,_,_=>oM
theorem zR(x:CX)(y:jc)(v:Value)(n:Int):∀{i:Nat},i<4->∀a c,(cF (x.cB i y v) a c).set! (22+i*5+4) (iI n)=cF (x.cB i ⟨y.seq,y.iy,y.eY,y.au,n⟩ v) a c
 |0,_,_,_=>rfl
 |1,_,_,_=>rfl
 |2,_,_,_=>rfl
 |3,_,_,_=>rfl
 |n+4,h,_,_=>oM
theorem rS(x:CX)(v u:Value):∀{i:Nat},i<4->(cF x v u)[22+i*5+0]? =some (iW (x.c.r i).seq)
 |0,_=>rfl
 |1,_=>rfl
 |2,_=>rfl
 |3,_=>rfl
 |n+4,h=>oM
theorem CB(x:CX)(v u:Value):∀{i:Nat},i<4->(cF x v u)[22+i*5+1]? =some (.bool (x.c.r i).iy)
 |0,_=>rfl
 |1,_=>rfl
 |2,_=>rfl
 |3,_=>rfl
 |n+4,h=>oM
theorem Dt(x:CX)(v u:Value):∀{i:Nat},i<4->(cF x v u)[22+i*5+2]? =some (.bool (x.c.r i).eY)
 |0,_=>rfl
 |1,_=>rfl
 |2,_=>rfl
 |3,_=>rfl
 |n+4,h=>oM
theorem l9(x:CX)(v u:Value):∀{i:Nat},i<4->(cF x v u)[22+i*5+3]? =some (x.p i)
 |0,_=>rfl
 |1,_=>rfl
 |2,_=>rfl
 |3,_=>rfl
 |n+4,h=>oM
theorem yW(x:CX)(v u:Value):∀{i:Nat},i<4->(cF x v u)[22+i*5+4]? =some (iI (x.c.r i).bS)
 |0,_=>rfl
 |1,_=>rfl
 |2,_=>rfl
 |3,_=>rfl
 |n+4,h=>oM
theorem St.XF(h:St I w (an x g bl wr::L)){i:Nat}(z:i<4):
 St I (((((w.setCell ⟨g,22+i*5,none⟩ (iW 0)).setCell ⟨g,22+i*5+1,none⟩ (.bool false)).setCell ⟨g,22+i*5+2,none⟩ (.bool false)).setCell ⟨g,22+i*5+3,none⟩ sN).setCell ⟨g,22+i*5+4,none⟩ (iI 0)) (an (x.Vz i) g bl wr::L):=by
 have K:St I w (an (x.cB i (x.c.r i) (x.p i)) g bl wr::L):=by rw[vL];exact h
 have Z:=St.fm K (22+i*5) (iW 0) (CN x (x.c.r i) (x.p i) 0 z);have V:=St.fm Z (22+i*5+1) (.bool false) (Lz x _ (x.p i) false z);have M:=St.fm V (22+i*5+2) (.bool false) (Lt x _ (x.p i) false z);have Q:=St.fm M (22+i*5+3) sN (qS x _ (x.p i) [] sN z);exact St.fm Q (22+i*5+4) (iI 0) (zR x _ sN 0 z)
end
theorem Nk(w:World):(Instr.build 72 #[]).run prog w= .ok (.agg #[iW 0,.bool false,.bool false,sN,iI 0]) w:=kR
theorem Sn{x:CX}(K:0<=x.id)(M:x.id<3){o:Int}(H:o=1\/o=2):(dD.of ⟨o,0,0,0,0,0,0⟩ x).ok:=by
 have e:dD.of ⟨o,0,0,0,0,0,0⟩ x=⟨o,x.id,0,0,0,0,0⟩:=by unfold dD.of;rw[iN (by show¬2<o;omega)]
 rw[e];refine⟨?_,⟨K,?_⟩,⟨ef 0,?_⟩,⟨ef 0,?_⟩,⟨ef 0,?_⟩,⟨ef 0,?_⟩,⟨ef 0,?_⟩⟩
 ·show 1<=o/\o<=7;omega
 ·show x.id<=255;omega
 all_goals first|(show(0:Int)<=255;decide)|(show(0:Int)<4294967296;decide)|(show(0:Int)<18446744073709551616;decide)
theorem MF{I:aH}{L:List aw}(B g:Nat)(b:WX)(x:CX)(S:gy)(o:jd)(A c:Value)(k:Int)(w:World)(U:cW S x.c x.id k)(h0:0<=x.id)(h3:x.id<3)(K0:0<=k)(hk:k<4000000000)
 (hv:∀v,0<=o.r->o.r<4->(iV S x.id x.c).e=0->v=((iV S x.id x.c).s.apply ⟨3,x.id,dX (iV S x.id x.c).c.seq,o.r,2,0,0⟩)->v.e=0->0<=v.v/\v.v<18446744073709551616)
 (hl:x.c.wr.length<=1000000) (hd:∀y∈x.c.wr,y.data.length<=1000000) (h:St I w (ab B 55 (wC b)::eK b.gv S::an x g x.c.bl x.c.wr::L)):
 Calls prog 36 #[pO B,pO g,.agg (fw o A c)] w λe D1=>e= .returned (.tuple #[sN,iI (ji S x.id x.c o.r).e])/\∃W0,Zv x (ji S x.id x.c o.r).c W0/\St I D1 (ab B 55 (wC b)::eK b.gv (ji S x.id x.c o.r).s::an ⟨x.id,(ji S x.id x.c o.r).c,W0⟩ g (ji S x.id x.c o.r).c.bl (ji S x.id x.c o.r).c.wr::L):=by
 cases ht:cD o.r with
 |false=>
  have E:ji S x.id x.c o.r=⟨S,x.c,93⟩:=iP ht;rw[E];have D0:=AC ht;have Z:=h.alloc 30 (fw o A c);obtain⟨N,G⟩:=nM (w.heap.size);obtain⟨z0,z1,q,z3,z4,z5,z6⟩:=(Z.ah 0 rfl).seven;rw[<-G]at Z;refine bm G Z λR0 H=>?_;have hc:decide (o.r<0)=true\/decide (o.r<0)=false/\decide (o.r≥4)=true/\decide (4<=o.r)=true:=by
   by_cases C0:o.r<0
   ·exact .inl (dZ C0)
   ·exact .inr ⟨dQ C0,decide_eq_true (by omega),decide_eq_true (by omega)⟩
  clear E U h0 h3 K0 hk hv hl hd ht h Z G D0
  go_enter func36,ntmps36
  rcases hc with d1|⟨d1,d2,d3⟩
  all_goals
   go_wp2_with fail
   go_ret2
   exact⟨rfl,x.p,λi=> .inl ⟨rfl,rfl⟩,H.tail⟩
 |true=>
  obtain⟨i,hi,U0⟩:=o6 ht;refine bm hi U0 λHI T=>?_;have C0:0<=o.r:=oM
  have V0:o.r<4:=oM
  have K:=aa (And.intro C0 V0);have d1:decide (o.r<0)=false:=decide_eq_false (by omega);have d2:decide (o.r≥4)=false:=decide_eq_false (by omega);have d3:decide (4<=o.r)=false:=decide_eq_false (by omega);have HD:=aa (And.intro hl hd);obtain⟨y,hy⟩:=nM (ji S x.id x.c o.r);have EA:ji S x.id x.c o.r=if(iV S x.id x.c).e≠0 then iV S x.id x.c else mI (iV S x.id x.c).s x.id (iV S x.id x.c).c o.r:=iN (by rw[ht];decide);rw[<-hy];have V:=aa (And.intro h0 (And.intro h3 (And.intro K0 hk)));have Z:=h.alloc 30 (fw o A c);obtain⟨N,G⟩:=nM (w.heap.size);obtain⟨z0,z1,q,z3,z4,z5,z6⟩:=(Z.ah 0 rfl).seven;rw[<-G]at Z;refine ib G (And.intro U (And.intro hv (hy.trans EA))) (Z.pk 4 [1,2,3,0]) λR0 J H=>?_;obtain⟨vB,uB,z⟩:=(Z.fi 3).bT;obtain⟨bs,I0⟩:=nM (x.c.bi);have b2:World.cell? _ ⟨g,1,none⟩=some (.bool bs):=((z.ah 0 rfl).cell 1).trans (by show some (Value.bool x.c.bi)=_;rw[I0]);have HB:=aa I0.symm;clear z h Z G U h0 h3 K0 hk hv hl hd ht hi U0 C0 V0 hy EA I0
  go_enter func36,ntmps36
  go_upto_if 22 with fail
  rw[<-R0.out];clear z0 z1 q z3 z4 z5 z6 d1 d2 d3
  go_cut [] (λp=>∃(C:bq) (O:gy),C.r=x.c.r/\C.bi=true/\y=mI O x.id C o.r/\cW O C x.id k/\dX C.seq=C.seq+1/\(∀v,v=O.apply ⟨3,x.id,C.seq+1,o.r,2,0,0⟩->v.e=0->0<=v.v/\v.v<18446744073709551616)/\(C.wr.length<=1000000/\∀y∈C.wr,y.data.length<=1000000)/\St I p (ab B 55 (wC b)::eK b.gv O::an ⟨x.id,C,x.p⟩ g C.bl C.wr::ab N 30 (fw o A c)::L))
  case first=>
   cases bs with
   |true=>
    have n:iV S x.id x.c=⟨S,x.c,0⟩:=iP HB;have hq:dX x.c.seq=x.c.seq+1:=zJ J.1.Mk (by have:=J.1.Oc;have:=V.2.2.2;omega);have HF:Hid (y=mI S x.id x.c o.r):=J.2.2.trans (by rw[n];exact iN acy);have HV:=aa (show∀v,v=(S.apply ⟨3,x.id,x.c.seq+1,o.r,2,0,0⟩)->v.e=0->0<=v.v/\v.v<18446744073709551616 from λv N0=>J.2.1 v K.1 K.2 (by rw[n]) (by rw[n,hq];exact N0));have HQ:=aa hq;clear n hq
    go_wp2_with fail
    go_meet
    exact⟨x.c,S,rfl,HB,HF,J.1,HQ,HV,HD,H⟩
   |false=>
    obtain⟨O,F0⟩:=nM ((S.apply ⟨2,x.id,0,0,0,0,0⟩));obtain⟨F,E0⟩:=nM (O.s.apply ⟨1,x.id,0,0,0,0,0⟩);have n:iV S x.id x.c=if F.e≠0 then⟨F.s,x.c,F.e⟩else⟨F.s,{x.c with bi:=true,seq:=0},0⟩:=by
     refine(iN (by rw[HB.out];decide)).trans ?_;rw[E0,F0]
    have G0:=J.1.shut HB ⟨2,x.id,0,0,0,0,0⟩ (show(0:Int)<=_ by decide);rw[<-F0]at G0;refine ib G0 E0 F0 λA1 Z0 X0=>?_;have C1:=aa (show F.e=0->cW F.s {x.c with bi:=true,seq:=0} x.id k from λY=>by
     rw[E0]at Y⊢;exact G0.open_ V.2.2.1 Y)
    have Q0:=aa n;clear n G0 F0 E0
    go_wp2_with fail
    refine qK (Eg B g b x x.c.bl x.c.wr S ⟨2,0,0,0,0,0,0⟩ _ (J.1.ok V.1 V.2.1 acW) (Sn V.1 V.2.1 (.inr rfl)) (.inr rfl) H) λl h=>?_;have h:St I l (ab B 55 (wC b)::eK b.gv (S.apply ⟨2,x.id,0,0,0,0,0⟩).s::an x g x.c.bl x.c.wr::ab N 30 (fw o A c)::L):=h;rw[<-X0.out]at h;have H1:=aa h;clear h H
    go_wp2_with fail
    refine qK (Eg B g b x x.c.bl x.c.wr O.s ⟨1,0,0,0,0,0,0⟩ _ (A1.ok V.1 V.2.1 acW) (Sn V.1 V.2.1 (.inl rfl)) (.inl rfl) H1) λw2 h=>?_;rw[show dD.of ⟨1,0,0,0,0,0,0⟩ x=⟨1,x.id,0,0,0,0,0⟩from rfl,<-Z0.out]at h⊢;have h:St I w2 (ab B 55 (wC b)::eK b.gv F.s::an x g x.c.bl x.c.wr::ab N 30 (fw o A c)::L):=h;have M:=h.alloc 158 (aN F.e F.v);have r0:World.cell? _ ⟨w2.heap.size,0,none⟩=some (iI F.e):=(M.ah 0 rfl).cell 0;clear H1 b2;by_cases Y:F.e=0
    ·have e0:(F.e !=0)=false:=by simp[Y]
     have n:=Q0.out;rw[iN (show¬F.e≠0 by simp[Y])]at n;obtain⟨vC,uC,hC⟩:=(M.fi 3).bT;have k1:World.cell? _ ⟨g,1,none⟩=some (.bool x.c.bi):=(hC.ah 0 rfl).cell 1;have kf:=(hC.ah 0 rfl).frozen;have h4:=St.fm (x':=⟨x.id,{x.c with bi:=true},x.p⟩) (M.front (X:=an x g x.c.bl x.c.wr)) 1 (.bool true) (λ_ _=>rfl);obtain⟨vE,uE,hE⟩:=h4.bT;have k2:World.cell? _ ⟨g,2,none⟩=some (iW x.c.seq):=(hE.ah 0 rfl).cell 2;have kg:=(hE.ah 0 rfl).frozen;have h5:=St.fm (x':=⟨x.id,{x.c with bi:=true,seq:=0},x.p⟩) h4 2 (iW 0) (λ_ _=>rfl);have HC:Hid (y=mI F.s x.id {x.c with bi:=true,seq:=0} o.r):=J.2.2.trans (by rw[n];exact iN (show¬(0:Int)≠0 by simp));have HV:=aa (show∀v,v=(F.s.apply ⟨3,x.id,0+1,o.r,2,0,0⟩)->v.e=0->0<=v.v/\v.v<18446744073709551616 from λv N0=>J.2.1 v K.1 K.2 (by rw[n]) (by rw[n];exact N0));refine bm (C1 Y) (h5.pk 4 [2,3,0]) λHN H=>?_;clear h M hC h4 hE h5 Y n
     go_wp2_with fail
     go_meet
     exact⟨{x.c with bi:=true,seq:=0},F.s,rfl,rfl,HC,HN,zJ (ef 0) (show(0:Int)<4294967295 by decide),HV,HD,H⟩
    ·have e0:(F.e !=0)=true:=by simp[Y]
     have n:=Q0.out;rw[iP (show F.e≠0 from Y)]at n;have P:Hid (y=⟨F.s,x.c,F.e⟩):=J.2.2.trans (by rw[n];exact iP (show F.e≠0 from Y));have H2:=aa M;clear h M Y n
     go_wp2_with (go_quiet (fail))
     go_ret2
     rw[P.out];exact⟨rfl,x.p,λj=> .inl ⟨rfl,rfl⟩,(H2.pk 5 [1,2,3]).drewN nq⟩
  case rest=>
   clear H J HB b2;obtain⟨C,O,D0,M0,hy,U,hq,hv,hd,h⟩:=hcut;have q:World.cell? _ ⟨N,2,none⟩=some (iI o.r):=(h.ah 3 rfl).cell 2;obtain⟨a,ha⟩:=nM (O.apply ⟨3,x.id,C.seq+1,o.r,2,0,0⟩);obtain⟨D,R⟩:∃D:bq,D={C with seq:=C.seq+1}:=⟨_,rfl⟩;refine bm ha R λJ P0=>?_;have H0:=aa (show y=if a.e≠0 then⟨a.s,D,a.e⟩else if a.v=D.tok o.r then gH a.s x.id D o.r a.v else gH a.s x.id ((D.drop o.r).tQ o.r.toNat jc.zero) o.r a.v by
    rw[hy];unfold mI;rw[hq,<-ha,<-R,show C.tok o.r=D.tok o.r by rw[R];rfl])
   have HS:=aa (And.intro U M0);have A0:=aa (show cW a.s D x.id (k+1)by rw[ha,R];exact U.NX (o:=3) (.inl rfl) o.r 2 0);have T0:=aa (hv a ha);have O0:=aa (show D.wr.length<=1000000/\∀y∈D.wr,y.data.length<=1000000 by rw[R];exact hd);have HX:=aa (show D.r=x.c.r by rw[R];exact D0);have S0:=aa (show D.bi=true by rw[R];exact M0);have H:=aa h;clear D0 M0 hy U hq hv hd h ha R HD
   go_wp2_with fail
   clear q;refine qK (xT B g b ⟨x.id,C,x.p⟩ C.bl C.wr O ⟨3,0,0,o.r,2,0,0⟩ _ (cW.ok (x:=⟨x.id,C,x.p⟩) HS.1 V.1 V.2.1 acW) (Hu (x:=⟨x.id,C,x.p⟩) HS.1 V.1 V.2.1 acW (o:=3) (r:=o.r) (m:=2) (t:=0) ⟨dC,dC⟩ K ⟨dC,dC⟩ ⟨dC,dC⟩) (.inl rfl) (HS.1.next HS.2 acW 3 o.r 2 0 0) H) λl h=>?_;rw[show dD.of ⟨3,0,0,o.r,2,0,0⟩ ⟨x.id,C,x.p⟩=⟨3,x.id,C.seq+1,o.r,2,0,0⟩from rfl,<-J.out]at h⊢;have h:St I l (ab B 55 (wC b)::eK b.gv a.s::an ⟨x.id,D,x.p⟩ g D.bl D.wr::ab N 30 (fw o A c)::L):=by rw[P0.out];exact h
   have M:=h.alloc 158 (aN a.e a.v);obtain⟨ga,J0⟩:=nM (l.heap.size);have r0:World.cell? _ ⟨l.heap.size,0,none⟩=some (iI a.e):=(M.ah 0 rfl).cell 0;rw[<-J0]at M;refine bm J0 M λY0 H2=>?_;clear h M H J0 J P0 HS;by_cases Y:a.e=0
   ·have e1:(a.e !=0)=false:=by simp[Y]
    have HE:=aa Y;clear Y
    go_wp2_with fail
    rw[<-Y0.out];clear r0;refine ak (I:=I) (L0:=ab B 55 (wC b)::eK b.gv a.s::L) [⟨none,none,λe=>ab N 30 (fw o A c)⟩,⟨none,none,λe=>ab ga 158 (aN a.e a.v)⟩,⟨none,some 7,λe=>an ⟨x.id,D,x.p⟩ g D.bl D.wr⟩,⟨some 7,none,λe=>an ⟨x.id,D,x.p⟩ g D.bl D.wr⟩] [[],[0],[],[2],[2,3],[],[5],[2,3,4,5,6],rG 8] (rG 9) rfl kR kR kR (by rfl) (λ_=>rfl) H2.fk ?_;refine YD ?_;refine aZ 22 (λe=> #[.pointer (some ⟨g,4,none⟩),iI o.r]) (λe=> iU (D.tok o.r)) rfl (λe p Lx h=>by(
     have h:=h.fn;refine(mM g ⟨x.id,D,x.p⟩ D.bl D.wr o.r _ (h.fi 2)).mono ?_;rintro u wy⟨rfl,Z⟩;exact⟨⟨none,0,default⟩,rfl,Z.fk⟩)) ?_
    simp only[aR];refine lY ?_;refine ax ?_;intro e l h;have h:=h.fn;have H3:=aa (h.pk 0 []);clear h H2;by_cases B0:a.v=D.tok o.r
    ·obtain⟨z0,z1,q,z3,z4,z5,z6⟩:=(H3.ah 0 rfl).seven
     have y1:World.cell? _ ⟨ga,1,none⟩=some (iU a.v):=(H3.ah 1 rfl).cell 1;have d:y=gH a.s x.id D o.r a.v:=by rw[H0.out,iN (by simp[HE.out]),iP B0]
     have P:=aa d;have e3:(a.v !=D.tok o.r)=false:=by simp[B0]
     clear d B0
     go_wp2_with fail
     refine qK (tj B g b ⟨x.id,D,x.p⟩ D.bl D.wr a.s o.r a.v (k+1) _ A0 V.1 V.2.1 acW S0 K (T0 HE) (H3.pk 5 [3,4,2])) λw5 h=>?_;have h:St I w5 (ab B 55 (wC b)::eK b.gv (gH a.s x.id D o.r a.v).s::an ⟨x.id,(gH a.s x.id D o.r a.v).c,x.p⟩ g D.bl D.wr::L):=h;have Q:=vu a.s x.id D o.r a.v;rw[<-P.out]at h Q;have EY:=P.out;rw[show(gH a.s (CX.id ⟨x.id,D,x.p⟩) (CX.c ⟨x.id,D,x.p⟩) o.r a.v).e=y.e by rw[EY]];refine bm h Q λH5 W=>?_;clear h Q H3 EY z0 z1 q z3 z4 z5 z6 y1
     go_wp2_with fail
     go_ret2
     refine⟨rfl,x.p,λj=> .inl ⟨rfl,by rw[W.out.2.2,HX.out]⟩,?_⟩;rw[W.out.1,W.out.2.1];exact H5.out
    ·have e3:(a.v !=D.tok o.r)=true:=by simp[B0]
     have d:y=gH a.s x.id ((D.drop o.r).tQ o.r.toNat jc.zero) o.r a.v:=by rw[H0.out,iN (by simp[HE.out]),iN B0]
     rw[show o.r.toNat=i by rw[HI.out];rfl]at d;have P:=aa d;clear d B0
     go_wp2_with fail
     refine ak (I:=I) (L0:=ab ga 158 (aN a.e a.v)::ab B 55 (wC b)::eK b.gv a.s::L) [⟨none,none,λe=>ab N 30 (fw o A c)⟩,⟨none,some 5,λe=>an ⟨x.id,D,x.p⟩ g D.bl D.wr⟩,⟨some 5,none,λe=>an ⟨x.id,D,x.p⟩ g (D.bl.filter (λy=> !ao o.r y)) (D.wr.filter (λy=> !ao o.r y))⟩] [[],[0],[0,1],[],[3],rG 5] (rG 6) rfl kR kR kR (by rfl) (λ_=>rfl) H3.fk ?_;refine sO ?_;refine aZ 63 (λe=> #[.pointer (some ⟨g,20,none⟩),iI o.r]) (λe=>(e 5).v) rfl (λe p Lx h=>by(
      have h:=h.fn;refine(LH (cx:=⟨x.id,D,x.p⟩) g D.bl D.wr o.r _ O0.1 O0.2 (h.fi 1)).mono ?_;rintro u wy⟨v6,rfl,Z⟩;exact⟨⟨none,0,v6⟩,rfl,Z.fk⟩)) ?_
     simp only[aR];refine ax ?_;intro e l h;have h:=h.fn;have H4:Hid (St I l (ab N 30 (fw o A c)::an ⟨x.id,D.drop o.r,x.p⟩ g (D.bl.filter (λy=> !ao o.r y)) (D.wr.filter (λy=> !ao o.r y))::ab ga 158 (aN a.e a.v)::ab B 55 (wC b)::eK b.gv a.s::L)):=h;clear h H3
     go_wp2_with fail
     refine ak (I:=I) (L0:=ab ga 158 (aN a.e a.v)::ab B 55 (wC b)::eK b.gv a.s::L) [⟨none,none,λe=>ab N 30 (fw o A c)⟩,⟨none,some 7,λe=>an ⟨x.id,D.drop o.r,x.p⟩ g (D.bl.filter (λy=> !ao o.r y)) (D.wr.filter (λy=> !ao o.r y))⟩,⟨some 7,none,λe=>an (CX.Vz ⟨x.id,D.drop o.r,x.p⟩ i) g (D.bl.filter (λy=> !ao o.r y)) (D.wr.filter (λy=> !ao o.r y))⟩] [[],[],[1],[],[0],[0,4],rG 6,rG 7] (rG 8) rfl kR kR kR (by rfl) (λ_=>rfl) H4.fk ?_;refine vM ?_;refine kj (λe=> iI (i:Nat)) rfl (λe p Lx h=>by(have h:=h.fn;obtain⟨z0,z1,q,z3,z4,z5,z6⟩:=(h.ah 0 rfl).seven;rw[HI.out]at q;go_simp;try rfl)) ?_;simp only[aR];refine kj (λe=> .agg #[iW 0,.bool false,.bool false,sN,iI 0]) rfl (λe p Lx h=>by(have F1:=Nk p;go_simp;try rfl)) ?_;simp only[aR];refine vM ?_;refine kj (λe=> .pointer (some ⟨g,22+i*5,none⟩)) rfl (λe p Lx h=>by(have i0:(0:Int)<=(i:Int):=oM;have i1:(i:Int)<4:=(by have:=T.out;omega);go_simp;try rfl)) ?_;simp only[aR];refine jA (λe=> .pointer (some ⟨g,22+i*5,none⟩)) (λe=> .agg #[iW 0,.bool false,.bool false,sN,iI 0]) rfl rfl (λe p Lx h=>by(
      have h:=h.fn;obtain⟨v,u,z⟩:=(h.fi 1).bT;have q0:p.cell? ⟨g,22+i*5,none⟩=some (iW (D.r i).seq):=((z.ah 0 rfl).cell (22+i*5+0)).trans (rS ⟨x.id,D.drop o.r,x.p⟩ v u T);have q1:p.cell? ⟨g,22+i*5+1,none⟩=some (.bool (D.r i).iy):=((z.ah 0 rfl).cell (22+i*5+1)).trans (CB ⟨x.id,D.drop o.r,x.p⟩ v u T);have q2:p.cell? ⟨g,22+i*5+2,none⟩=some (.bool (D.r i).eY):=((z.ah 0 rfl).cell (22+i*5+2)).trans (Dt ⟨x.id,D.drop o.r,x.p⟩ v u T);have q3:p.cell? ⟨g,22+i*5+3,none⟩=some (x.p i):=((z.ah 0 rfl).cell (22+i*5+3)).trans (l9 ⟨x.id,D.drop o.r,x.p⟩ v u T);have q4:p.cell? ⟨g,22+i*5+4,none⟩=some (iI (D.r i).bS):=((z.ah 0 rfl).cell (22+i*5+4)).trans (yW ⟨x.id,D.drop o.r,x.p⟩ v u T);have E1:=(z.ah 0 rfl).frozen;have U:=(h.fi 1).XF T;exact⟨_,gS,U.fk⟩)) ?_
     simp only[Act.put];refine ax ?_;intro e l h;have h:=h.fn;have H5:=aa h;clear h H4;obtain⟨z0,z1,q,z3,z4,z5,z6⟩:=(H5.ah 0 rfl).seven;have y1:l.cell? (aD ga 1)=some (iU a.v):=(H5.ah 2 rfl).cell 1;have B1:=aa (show cW a.s (CX.c (CX.Vz ⟨x.id,D.drop o.r,x.p⟩ i)) (CX.id (CX.Vz ⟨x.id,D.drop o.r,x.p⟩ i)) (k+1)from⟨A0.bB,A0.len,A0.Mk,A0.Oc,A0.num⟩)
     go_wp2_with fail
     refine qK (tj B g b (CX.Vz ⟨x.id,D.drop o.r,x.p⟩ i) (D.bl.filter (λy=> !ao o.r y)) (D.wr.filter (λy=> !ao o.r y)) a.s o.r a.v (k+1) _ B1 V.1 V.2.1 acW S0 K (T0 HE) (H5.pk 5 [3,4,1])) λw6 h=>?_;have EY:y=gH a.s (CX.id (CX.Vz ⟨x.id,D.drop o.r,x.p⟩ i)) (CX.c (CX.Vz ⟨x.id,D.drop o.r,x.p⟩ i)) o.r a.v:=P.out;have Q:=vu a.s (CX.id (CX.Vz ⟨x.id,D.drop o.r,x.p⟩ i)) (CX.c (CX.Vz ⟨x.id,D.drop o.r,x.p⟩ i)) o.r a.v;rw[<-EY]at h Q⊢;refine bm h Q λH6 W=>?_;clear h Q H5 EY z0 z1 q z3 z4 z5 z6 y1
     go_wp2_with fail
     go_ret2
     refine⟨rfl,aJ x.p i sN,λj=> ?_,?_⟩
     ·rw[W.out.2.2]
      by_cases hj:j=i
      ·exact .inr ⟨iP hj,by show(aJ D.r i jc.zero j).au=[];rw[show aJ D.r i jc.zero j=jc.zero from iP hj];rfl⟩
      ·exact .inl ⟨iN hj,(show aJ D.r i jc.zero j=D.r j from iN hj).trans (by rw[HX.out])⟩
     ·rw[W.out.1,W.out.2.1]
      exact H6.out
   ·have e1:(a.e !=0)=true:=by simp[Y]
    have d:y=⟨a.s,D,a.e⟩:=by rw[H0.out,iP Y]
    have P:=aa d;clear d Y
    go_wp2_with (go_quiet (fail))
    go_ret2
    rw[P.out];refine⟨rfl,x.p,λj=> .inl ⟨rfl,by show D.r j=_;rw[HX.out]⟩,?_⟩;exact(H2.pk 5 [1,2,3]).drewN nq
end
theorem abc(l:Int):bits .and .i64 l 3=l%4:=by
 have h:bits .and .i64 l 3=IntKind.i64.wrap (((BitVec.ofInt 64 l)&&&(BitVec.ofInt 64 3)).toNat:Int):=rfl;have V:((BitVec.ofInt 64 l)&&&(BitVec.ofInt 64 3)).toNat=(BitVec.ofInt 64 l).toNat%4:=by
  rw[BitVec.toNat_and];exact Nat.and_two_pow_sub_one_eq_mod _ 2
 have M:((BitVec.ofInt 64 l).toNat:Int)=l%18446744073709551616:=by
  rw[BitVec.toNat_ofInt];exact zcU (Sz _ dC)
 rw[h,V,IntWalk.i64_in _ oM];omega
theorem xS{I:aH}{L:List aw}(j:Nat)(l:Int)(w:World)(h:St I w (ab j 169 #[iI l]::L)):
 Rt I w 70 #[pO j] (iI (l%4)) (ab j 169 #[iI (l/4)]::L):=by
 have z:w.cell? (aD j 0)=some (iI l):=(h.ah 0 rfl).cell 0;have C:=(h.ah 0 rfl).frozen;have H:=aa (h.bI 0 (iI (l/4)));clear h
 go_enter func70,ntmps70
 go_wp2_with fail
 rw[abc]
 go_ret
 exact⟨rfl,H⟩
section
open Go.Shelf
def Ss(up:Bool)(a:Nat):Value:= .pointer (if up=true then some ⟨a,0,none⟩else none)
def stQ(gs gd:Nat)(X:eu)(p:Nat×Nat×Nat):aw:=aX (ab gs 122 (gK 5 gd (Ss X.up p.1))) (aX (ab p.1 151 (jb gd p.2.1 p.2.2 0 8 X.s.dn)) (aX (jR p.2.1 gd X.s.J) (aX (dL p.2.2 X.s.M) (da gd X.s.D))))
def uN(gs gd:Nat)(X:eu):aw:=AU (stQ gs gd X)
def lR(w:World)(N:LV)(x:Int×RQ):Prop:=∃i A n k,N=(iu 11 x.1 5 i false (.slice A n k)).toList/\aA w .u8 (.slice A n k) (aY x.2)
abbrev WX.az(b:WX)(v:Value):WX:=⟨b.gv,b.gd,b.gs,b.g0,b.g1,b.g2,v,b.ev⟩
def Zi(B:Nat)(b:WX)(X:eu)(v:Value):aw:=aX (ab B 55 (wC (b.az v))) (aX (ay 184 10 lR v X.az) (uN b.gs b.gd X))
def cu(B:Nat)(b:WX)(X:eu):aw:=AU (Zi B b X)
section
variable {I:aH} {w:World} {L:List aw} {B gs gd a j i:Nat} {X:eu} {b:WX} {v:Value}
theorem St.stO(h:St I w (uN gs gd X::L)):∃a j i,St I w (ab gs 122 (gK 5 gd (Ss X.up a))::eV a gd j i 0 8 X.s L):=by
 obtain⟨⟨a,j,i⟩,h⟩:=h.ex;have Z:St I w (aX (ab gs 122 (gK 5 gd (Ss X.up a))) (aX (ab a 151 (jb gd j i 0 8 X.s.dn)) (aX (jR j gd X.s.J) (aX (dL i X.s.M) (da gd X.s.D))))::L):=h;have V:=Z.star.swap.star.swap.star.swap.star;refine⟨a,j,i,V.sub ?_⟩;unfold eV
 exact sU
theorem St.YG(h:St I w (ab gs 122 (gK 5 gd (Ss X.up a))::eV a gd j i 0 8 X.s L)):St I w (uN gs gd X::L):=by
 have Z:St I w (dL i X.s.M::da gd X.s.D::jR j gd X.s.J::ab a 151 (jb gd j i 0 8 X.s.dn)::ab gs 122 (gK 5 gd (Ss X.up a))::L):=h.sub acB;have V:=Z.aM.swap.aM.swap.aM.swap.aM;exact St.cZ (f:=stQ gs gd X) (a,j,i) V
theorem St.zo(h:St I w (cu B b X::L)):∃A c,X.az.length<=c/\c<=9223372036854775807/\St I w (ab B 55 (wC (b.az (.slice A X.az.length c)))::ay 184 10 lR (.slice A X.az.length c) X.az::uN b.gs b.gd X::L):=by
 obtain⟨v,h⟩:=h.ex;have Z:St I w (aX (ab B 55 (wC (b.az v))) (aX (ay 184 10 lR v X.az) (uN b.gs b.gd X))::L):=h;have V:=Z.star.swap.star;obtain⟨A,c,rfl,D,y⟩:=V.fx;exact⟨A,c,D,by unfold maxLen at y;omega,V.sub⟩
theorem St.rD(h:St I w (ab B 55 (wC (b.az v))::ay 184 10 lR v X.az::uN b.gs b.gd X::L)):St I w (cu B b X::L):=by
 have Z:=(h.pk 3 [1,2,0]).aM.swap.aM;exact St.cZ (f:=Zi B b X) v Z
end
theorem Om(m:Nat->Rg)(r:RQ):0<=(aC m r).2/\(aC m r).2<256:=by
 have U:r.b9=0\/r.b9=1\/r.b9=2:=by
  unfold RQ.b9
  split
  ·exact .inr (.inl rfl)
  ·split
   ·exact .inr (.inr rfl)
   ·exact aes
 unfold aC
 split
 ·show 0<=r.b9/\r.b9<256
  omega
 split;· decide
 split;· decide
 split;· decide
 split
 ·unfold Rg.next Rg.pE
  have V:∀n,0<=(Rg.j5 n r).2/\(Rg.j5 n r).2<256:=by
   exact afH
  exact ae0
 ·decide
def ZC(v:Value)(f i:Int)(ok:Bool)(X:LI)(p:Nat×OA×Nat):aw:=aX (ko (v= .slice (aO p.1) 1 1)) (aX (ab p.1 184 (iu 12 5 f i ok (.slice p.2.1 X.length p.2.2))) (ai .u8 (.slice p.2.1 X.length p.2.2) X))
def Ux(v:Value)(f i:Int)(ok:Bool)(X:LI):aw:=AU (ZC v f i ok X)
theorem St.YY{I:aH}{w:World}{L:List aw}{v:Value}{f i:Int}{ok:Bool}{X:LI}(h:St I w (Ux v f i ok X::L)):∃u A c,v= .slice (aO u) 1 1/\St I w (ab u 184 (iu 12 5 f i ok (.slice A X.length c))::ai .u8 (.slice A X.length c) X::L):=by
 obtain⟨⟨u,A,c⟩,h⟩:=h.ex;have Z:St I w (aX (ko (v= .slice (aO u) 1 1)) (aX (ab u 184 (iu 12 5 f i ok (.slice A X.length c))) (ai .u8 (.slice A X.length c) X))::L):=h;obtain⟨e,V⟩:=Z.star.wT;exact⟨u,A,c,e,V.star⟩
theorem ze{I:aH}{L:List aw}(P:ml I)(gs gd:Nat)(f i:Int)(X:eu)(q:RQ){N:Nat->Rg}{n:Nat}(A:OA)(m c:Nat)(w:World)(K:fM X N n T)(W:n<=900000)(x:T<256)(d:fE q)
 (h:St I w (ai .u8 (.slice A m c) (aY q)::uN gs gd X::L)):
 Calls prog 75 #[pO gs,vV 11 f 5 i false (.slice A m c)] w λe O=>
  (X.ii q=true/\∃v,e= .returned v/\St I O (Ux v f i ((aC X.s.M q).2==0) (rE X.s.M q)::uN gs gd (X.df q)::L))\/
  (X.ii q=false/\e= .returned sN/\St I O (uN gs gd (X.df q)::L)):=by
 obtain⟨a,j,g,Z⟩:=h.swap.stO
 cases E:X.up with
 |false=>
  have S:X.df q=X:=iN (by rw[E];decide);have Y:X.ii q=false:=by unfold eu.ii;rw[E];rfl
  rw[E]at Z;have V:St I w (ab gs 122 (gK 5 gd (.pointer none))::eV a gd j g 0 8 X.s (ai .u8 (.slice A m c) (aY q)::L)):=Z;refine qK (Qa gs gd 5 11 f 5 i false A m c w V) λO M=>?_;refine .inr ⟨Y,rfl,?_⟩;rw[S];have Q:St I O (ab gs 122 (gK 5 gd (Ss X.up a))::eV a gd j g 0 8 X.s (ai .u8 (.slice A m c) (aY q)::L)):=by rw[E];exact M
  exact Q.YG.sub
 |true=>
  obtain⟨_,b⟩:=K.c.same E;have H:=b.mi;have z:=b.sok oM 0;rw[E]at Z;have V:St I w (ai .u8 (.slice A m c) (aY q)::ab gs 122 (gK 5 gd (pO a))::eV a gd j g 0 8 X.s L):=(show St I w (ab gs 122 (gK 5 gd (pO a))::eV a gd j g 0 8 X.s (ai .u8 (.slice A m c) (aY q)::L))from Z).sub acB;have r:X.df q=⟨X.s.kd 0 8 q,(X.s.nH 0 8 q !=43),X.az⟩:=iP E;rcases b.kd oM x d.ok d.b with⟨d1,d2,d3,_⟩|⟨d1,d2,d3,d4,_⟩
  ·have D:=nY X.s.M q
   have k:=WJ d1;have y:(X.s.kd 0 8 q).D.down=false:=d2.c.dn;have l:(X.s.nH 0 8 q !=43)=true:=by rw[d1];simp[D.2.2]
   refine(Tq P gs a gd j g 0 5 f i false X.s q A m c w oM z d.ok d.b d.w (by rw[d1];omega) (by rw[d1];exact D.2.2) y (by rw[k];have:=yp H.ok d.ok;omega) V).mono ?_;rintro e O⟨u,t,o,rfl,M⟩;rw[k,d1]at M;refine .inl ⟨by unfold eu.ii;rw[E,l];rfl,_,rfl,?_⟩;rw[r,l];have Q:St I O (ab gs 122 (gK 5 gd (pO a))::eV a gd j g 0 8 (X.s.kd 0 8 q) (ab u 184 (iu 12 5 f i ((aC X.s.M q).2==0) (.slice t (rE X.s.M q).length o))::ai .u8 (.slice t (rE X.s.M q).length o) (rE X.s.M q)::L)):=M.sub (by unfold eV rE;exact sU);have F:=St.YG (a:=a) (j:=j) (i:=g) (X:=⟨X.s.kd 0 8 q,true,X.az⟩) Q;have G:=(F.pk 3 [1,2,0]).aM;have U:=(G.uk (p:=Value.slice (aO u) 1 1=Value.slice (aO u) 1 1) rfl).aM;exact St.cZ (f:=ZC (.slice (aO u) 1 1) f i ((aC X.s.M q).2==0) (rE X.s.M q)) (u,t,o) U
  ·have l:(X.s.nH 0 8 q !=43)=false:=by rw[d1];rfl
   refine qK (TI P gs a gd j g 0 5 f i false X.s q A m c w oM z d.ok d.b d.w d1 V) λO M=>?_;refine .inr ⟨by unfold eu.ii;rw[E,l];rfl,rfl,?_⟩;rw[r,l];exact St.YG (a:=a) (j:=j) (i:=g) (X:=⟨X.s.kd 0 8 q,false,X.az⟩) M
theorem Nj:eB prog 53 184 (.agg (iu 0 0 0 0 false sN)) 10 112:=⟨underlying53,kR,kR,oM⟩
theorem IH(w:World)(k f t i:Int)(A:OA)(n c:Nat):(Instr.buildSlice 53 1 #[(0,vV k f t i false (.slice A n c))]).run prog w= .ok (.slice (aO w.heap.size) 1 1) (w.alloc (.cells (iu k f t i false (.slice A n c)) 184)):=kR
theorem Vd(k f t i:Int)(A:OA)(n c:Nat):∀u∈(iu k f t i false (.slice A n c)).toList,u.oneCell'=true:=by
 have h:(iu k f t i false (.slice A n c)).toList.all (λu=>u.oneCell')=true:=rfl;exact yT.1 h
theorem WB{w:World}{g:Nat}{cs:LV}(h:eF w g 184 cs.toArray)(C:cs.length=10):Sl w Any 10 (aO g) 1 cs:=C▸xZ h
theorem Rw{M:Nat->Rg}{q:RQ}(y:MI M)(d:q.ok):(rE M q).length<=1000000:=by
 have Z:=yp y.ok d;have V:=JE y.ok d;have K:∀l:List (LI),(∀x∈l,x.length<=24)->(l.flatMap bE).length<=32*l.length:=by
  intro l
  induction l with
  |nil=>exact λ_=>g9 0
  |cons a l W=>
   intro h;have H:=h a Je;have B:=W λx J=>h x (Dl _ J);rw[Bo,eG,oO];have D:(bE a).length<=26:=by unfold bE;rw[eG,fJ,aq];omega
   omega
 have Q:=K _ V;unfold rE kw;rw[eG,eG,aq,aq];omega
theorem rV(X:eu)(q:RQ):(X.df q).az=X.az:=by
 unfold eu.df
 split<;>rfl
theorem xW{I:aH}{L:List aw}(hT:ml I)(B g:Nat)(b:WX)(x:CX)(bl wr:List PU)(X:eu)(q:RQ){K0:Nat->Rg}{n:Nat}(i:Int)(A:OA)(m c:Nat)(w:World)(D:fM X K0 n T)(hn:n<=800000)(B0:T<256)(F:fE q)(hl:0<=i/\i<4)
 (h:St I w (ai .u8 (.slice A m c) q.data::cu B b X::an x g bl wr::L)):
 Calls prog 69 #[pO B,pO g,nQ q (.slice A m c),iI i] w λe G0=>∃F0,e= .returned (.tuple #[F0,iI (X.ask x.id q i).e])/\St I G0 (aB 1 dP F0 (X.ask x.id q i).l::cu B b (X.ask x.id q i).x::an x g bl wr::L):=by
 have J:∀k,k=1\/k=3->X.ask x.id q k=⟨X,[],111⟩:=λk hk=>iP oM;have C:∀k,k=0\/k=2->X.ask x.id q k=if(X.send x.id q).ii q=false\/2<=k then⟨(X.send x.id q).df q,[],111⟩else⟨(X.send x.id q).df q,mR X.s.M q,(aC X.s.M q).2⟩:=λk hk=>(iN oM).trans (iN (by rw[F.w];simp));have C0:fM (X.send x.id q) K0 (n+1) T:=by
  refine⟨fM.mono ⟨D.c,D.l,D.g⟩ (Nat.le_succ n) (ef _)|>.c,by show(X.az++[(x.id,q)]).length<=n+1;rw[eG];exact zdn D.l,λN0 P=> ?_⟩;rcases lU.1 (show N0∈X.az++[(x.id,q)]from P)with P|P
  ·exact D.g N0 P
  ·rw[lA.1 P];exact F
 have D0:X.az.length<=800000:=qJ D.l hn;refine ib F (And.intro C0 (And.intro (show n+1<=900000 by omega) B0)) D0 λY G J0=>?_;have Z:=h.alloc 175 #[iI q.op,iI q.region,iI q.index,iU q.token,iW q.seq,.slice A m c];obtain⟨gq,W⟩:=nM (w.heap.size);rw[<-W]at Z;have P0:=aa W;have Q0:i=1\/i=3\/i=0\/i=2:=oM
 rcases Q0 with rfl|rfl|rfl|rfl
 ·rw[J 1 oM]
  exact aeE
 ·rw[J 3 oM]
  exact aeE
 case' inr.inr.inl=>
  have ea:=C 0 oM;obtain⟨y,hy⟩:=nM (X.ask x.id q 0)
 case' inr.inr.inr=>
  have ea:=C 2 oM;obtain⟨y,hy⟩:=nM (X.ask x.id q 2)
 all_goals
  rw[<-hy]at ea⊢;have HY:=aa ea;obtain⟨S,d,S0,T0,h2⟩:=(Z.fi 2).zo;have I0:=aa (h2.pk 6 [3,4,5,0,1,2]);have U0:(X.az.length:Int)<=800000:=oM
  have wl:IntKind.u64.wrap (X.az.length:Int)=(X.az.length:Int):=IntWalk.u64_in _ oM;clear h Z h2 W J C D C0 D0 F hn B0 hl ea hy
  go_enter func69,ntmps69
  go_wp2_with fail
  rw[<-P0.out];refine ak (I:=I) (L0:=ay 184 10 lR (.slice S X.az.length d) X.az::uN b.gs b.gd X::L) [⟨none,none,λe=>ab gq 175 #[iI q.op,iI q.region,iI q.index,iU q.token,iW q.seq,.slice A m c]⟩,⟨none,none,λe=>an x g bl wr⟩,⟨none,none,λe=>ab B 55 (wC (b.az (.slice S X.az.length d)))⟩,⟨none,some 11,λe=>ai .u8 (.slice A m c) q.data⟩,⟨some 11,none,λe=>ai .u8 (.slice (e 11).A (aY q).length (e 11).n) (aY q)⟩,⟨some 15,some 16,λe=>ab (e 15).n 184 (iu 0 0 0 0 false sN)⟩,⟨some 16,none,λe=>ab (e 15).n 184 (iu 11 x.id 5 X.az.length false (.slice (e 11).A (aY q).length (e 11).n))⟩] [[],[0],[0,1],rG 3,[],[4],[4,5],[4,5,6],[4,5,6,7],[4,5,6,7,8],[],rG 11,rG 12,rG 13,rG 13,[],[0,1,2,3,4,5,6,7,8,9,10,11,12,13,15],rG 17] (rG 18) rfl kR kR kR (by rfl) (λ_=>rfl) I0.fk ?_
  iterate 2 (refine yk ?_;refine kj _ rfl (λe p O h=>by(have h:=h.fn;obtain⟨z0,z1,z2,z3,z4,z5⟩:=(h.ah 0 rfl).ni;obtain⟨v,u,hB⟩:=(h.fi 1).bT;have k0:p.cell? (aD g 0)=some (iI x.id):=(hB.ah 0 rfl).cell 0;have q2:p.cell? (aD B 2)=some (pO b.gs):=(h.ah 2 rfl).cell 2;have q6:p.cell? (aD B 6)=some (.slice S X.az.length d):=(h.ah 2 rfl).cell 6;go_simp;try rfl)) ?_;simp only[aR])
  refine vM ?_;refine kj _ rfl (λe p O h=>by(have h:=h.fn;obtain⟨z0,z1,z2,z3,z4,z5⟩:=(h.ah 0 rfl).ni;obtain⟨v,u,hB⟩:=(h.fi 1).bT;have k0:p.cell? (aD g 0)=some (iI x.id):=(hB.ah 0 rfl).cell 0;have q2:p.cell? (aD B 2)=some (pO b.gs):=(h.ah 2 rfl).cell 2;have q6:p.cell? (aD B 6)=some (.slice S X.az.length d):=(h.ah 2 rfl).cell 6;go_simp;try rfl)) ?_;simp only[aR];refine aZ 109 (λe=> #[iI x.id,iI 5,iU X.az.length,nQ q (.slice A m c)]) (λe=> .tuple #[vV 11 x.id 5 X.az.length false (.slice (e 11).A (aY q).length (e 11).n),iI 0]) rfl (λe p O h=>by(
   have h:=h.fn;refine(Xw x.id 5 X.az.length q A m c _ Y.ok Y.w (h.fi 3)).mono ?_;rintro u wy⟨t,o,rfl,Z⟩;exact⟨⟨t,o,default⟩,rfl,Z.fk⟩)) ?_
  simp only[aR];refine yk ?_;refine xN (λe=> .pointer (some ⟨(e 15).n,0,none⟩)) rfl (λe p O h=>by(
   have h:=h.fn;have ha:=h.alloc 184 (iu 0 0 0 0 false sN);exact⟨⟨none,p.heap.size,default⟩,_,gS,ha.fk⟩)) ?_
  simp only[aR];refine jA (λe=> .pointer (some ⟨(e 15).n,0,none⟩)) (λe=>vV 11 x.id 5 X.az.length false (.slice (e 11).A (aY q).length (e 11).n)) rfl rfl (λe p O h=>by(
   have h:=h.fn;have hf:=h.fi 4;obtain⟨m0,m1,m2,m3,m4,m5,m6,m7,m8,m9⟩:=(hf.ah 0 rfl).Tu;have fz:=(hf.ah 0 rfl).frozen;have hs:=hf.RA (iI 11) (iI x.id) (iI 5) (iU 0) (iU X.az.length) (iU 0) (iU 0) (.bool false) (.slice (e 11).A (aY q).length (e 11).n) sN;exact⟨_,gS,hs.fk⟩)) ?_
  simp only[Act.put];refine lY ?_;refine ax ?_;intro e l h;have h:=h.fn;have r:=aa (h.pk 1 []);clear h I0
  go_wp2_with fail
  generalize(e 11).A=t at r⊢;generalize(e 11).n=o at r⊢;generalize(e 15).n=gm at r⊢;refine ak (I:=I) (L0:=uN b.gs b.gd (X.send x.id q)::an x g bl wr::L) [⟨none,some 10,λe=>ab B 55 (wC (b.az (.slice S X.az.length d)))⟩,⟨none,none,λe=>ab gm 184 (iu 11 x.id 5 X.az.length false (.slice t (aY q).length o))⟩,⟨none,none,λe=>ai .u8 (.slice t (aY q).length o) (aY q)⟩,⟨none,some 7,λe=>ay 184 10 lR (.slice S X.az.length d) X.az⟩,⟨some 6,none,λe=>ab (e 6).n 184 (iu 11 x.id 5 X.az.length false (.slice t (aY q).length o))⟩,⟨some 7,none,λe=>ay 184 10 lR (.slice (e 7).A (X.az.length+1) (e 7).n) (X.az++[(x.id,q)])⟩,⟨some 10,none,λe=>ab B 55 (wC (b.az (.slice (e 7).A (X.az.length+1) (e 7).n)))⟩] [[],[],[1],[1,2],[1,2,3],[],[5],[1,2,3,4,5,6],rG 8,rG 9,rG 10] (rG 11) rfl kR kR kR (by rfl) (λ_=>rfl) (show St I _ (uN b.gs b.gd (X.send x.id q)::_)from r.fi 5).fk ?_;refine Lb ?_;refine xN (λe=> .slice (some ⟨(e 6).n,0,none⟩) 1 1) rfl (λe p O h=>by(
   have h:=h.fn;exact⟨⟨none,p.heap.size,default⟩,_,cM rfl rfl (IH _ _ _ _ _ _ _ _),((h.alloc 184 (iu 11 x.id 5 X.az.length false (.slice t (aY q).length o)))).fk⟩)) ?_
  simp only[aR];refine xN (λe=> .slice (e 7).A (X.az.length+1) (e 7).n) rfl (λe p O h=>by(
   have h:=h.fn;have hz:=WB (cs:=(iu 11 x.id 5 X.az.length false (.slice t (aY q).length o)).toList) (by rw[Array.toArray_toList];exact h.ah 4 rfl) rfl;have P:=(h.jT (Q:=λw=>aA w .u8 (.slice t (aY q).length o) (aY q))).bu (R':=λw=>lR w (iu 11 x.id 5 X.az.length false (.slice t (aY q).length o)).toList (x.id,q)) (λG0 hi=>⟨_,_,_,_,rfl,hi⟩);obtain⟨A',c',G0,O0,h2⟩:=(P.pk 5 [4,0,1,2,3]).yB Nj _ ⟨(e 6).n,0,none⟩ 1 hz (Vd _ _ _ _ _ _ _) rfl (by have:=J0.out;omega) (by have:=J0.out;omega);exact⟨⟨A',c',default⟩,_,gL rfl rfl rfl O0,h2.fk⟩)) ?_
  simp only[aR];refine vM ?_;refine jA (λe=> .pointer (some ⟨B,6,none⟩)) (λe=> .slice (e 7).A (X.az.length+1) (e 7).n) rfl rfl (λe p O h=>by(
   have h:=h.fn;have q2:p.cell? (aD B 2)=some (pO b.gs):=(h.ah 0 rfl).cell 2;have q6:p.cell? (aD B 6)=some (.slice S X.az.length d):=(h.ah 0 rfl).cell 6;have qf:=(h.ah 0 rfl).frozen;have hs:=(h.fi 0).br 6 (.slice (e 7).A (X.az.length+1) (e 7).n) (wC (b.az (.slice (e 7).A (X.az.length+1) (e 7).n))) rfl;exact⟨_,gS,hs.fk⟩)) ?_
  simp only[Act.put];refine ax ?_;intro e l h;have h:=h.fn;have U:=St.rD (X:=X.send x.id q) (h.pk 6 [4,3,5,0,1]);have N:=aa (h.pk 6 [4,3,5,0,1]);clear h U r
  go_wp2_with fail
  generalize(e 7).A=A7 at N⊢;generalize(e 7).n=c7 at N⊢;have R0:(X.send x.id q).ii q=false\/(X.send x.id q).ii q=true:=by cases(X.send x.id q).ii q<;>simp
  rcases R0 with H|H
  ·have R:=aa H
   clear H;refine ak (I:=I) (L0:=ay 184 10 lR (.slice A7 (X.az.length+1) c7) (X.az++[(x.id,q)])::an x g bl wr::L) [⟨none,none,λe=>ab B 55 (wC (b.az (.slice A7 (X.az.length+1) c7)))⟩,⟨none,none,λe=>ab gm 184 (iu 11 x.id 5 X.az.length false (.slice t (aY q).length o))⟩,⟨none,some 5,λe=>ai .u8 (.slice t (aY q).length o) (aY q)⟩,⟨none,some 5,λe=>uN b.gs b.gd (X.send x.id q)⟩,⟨some 5,none,λe=>uN b.gs b.gd ((X.send x.id q).df q)⟩] [[],[0],[0,1],rG 3,[],rG 5,rG 6] (rG 7) rfl kR kR kR (by rfl) (λ_=>rfl) N.fk ?_;refine sO ?_;refine aZ 75 (λe=> #[pO b.gs,vV 11 x.id 5 X.az.length false (.slice t (aY q).length o)]) (λe=> sN) rfl (λe p O h=>by(
    have h:=h.fn;refine(ze hT b.gs b.gd x.id X.az.length (X.send x.id q) q t (aY q).length o _ G.1 G.2.1 G.2.2 Y (h.pk 4 [2,3,0,1])).mono ?_;rintro u wy E;rcases E with⟨H,_⟩|⟨_,rfl,Z⟩
    ·rw[R.out]at H;cases H
    exact⟨⟨none,0,default⟩,rfl,Z.fk⟩)) ?_
   simp only[aR];refine lY ?_;refine ax ?_;intro e l h;have h:=h.fn;have U:St I l (cu B b ((X.send x.id q).df q)::an x g bl wr::L):=St.rD (v:= .slice A7 (X.az.length+1) c7) (X:=(X.send x.id q).df q) (by rw[show((X.send x.id q).df q).az=X.az++[(x.id,q)]from rV _ _];exact h.pk 4 [0,3,2]);have a:=HY.trans (iP (by first|exact .inl R|exact .inr dC));have z:=aa U;clear h U N
   exact afU
  have R:=aa H;clear H;refine ak (I:=I) (L0:=ay 184 10 lR (.slice A7 (X.az.length+1) c7) (X.az++[(x.id,q)])::an x g bl wr::L) [⟨none,none,λe=>ab B 55 (wC (b.az (.slice A7 (X.az.length+1) c7)))⟩,⟨none,none,λe=>ab gm 184 (iu 11 x.id 5 X.az.length false (.slice t (aY q).length o))⟩,⟨none,some 5,λe=>ai .u8 (.slice t (aY q).length o) (aY q)⟩,⟨none,some 5,λe=>uN b.gs b.gd (X.send x.id q)⟩,⟨some 5,none,λe=>uN b.gs b.gd ((X.send x.id q).df q)⟩,⟨some 5,none,λe=>Ux (e 5).v x.id X.az.length ((aC X.s.M q).2==0) (rE X.s.M q)⟩] [[],[0],[0,1],rG 3,[],rG 5,rG 6] (rG 7) rfl kR kR kR (by rfl) (λ_=>rfl) N.fk ?_;refine sO ?_;refine aZ 75 (λe=> #[pO b.gs,vV 11 x.id 5 X.az.length false (.slice t (aY q).length o)]) (λe=>(e 5).v) rfl (λe p O h=>by(
   have h:=h.fn;refine(ze hT b.gs b.gd x.id X.az.length (X.send x.id q) q t (aY q).length o _ G.1 G.2.1 G.2.2 Y (h.pk 4 [2,3,0,1])).mono ?_;rintro u wy E;obtain⟨_,v5,rfl,Z⟩:=E.resolve_right (λhx=>by have j:=hx.1;rw[R.out]at j;cases j);have Z:St I wy (Ux v5 x.id X.az.length ((aC X.s.M q).2==0) (rE X.s.M q)::uN b.gs b.gd ((X.send x.id q).df q)::ab B 55 (wC (b.az (.slice A7 (X.az.length+1) c7)))::ab gm 184 (iu 11 x.id 5 X.az.length false (.slice t (aY q).length o))::O):=Z;exact⟨⟨none,0,v5⟩,rfl,Z.fk⟩)) ?_
  simp only[aR];refine lY ?_;refine ax ?_;intro e l h;have h:=h.fn
 ·have U:St I l (cu B b ((X.send x.id q).df q)::an x g bl wr::L):=St.rD (v:= .slice A7 (X.az.length+1) c7) (X:=(X.send x.id q).df q) (by rw[show((X.send x.id q).df q).az=X.az++[(x.id,q)]from rV _ _];exact h.pk 5 [0,4,2])
  have a:=HY.trans (iP (by first|exact .inl R|exact .inr dC));obtain⟨gA,V,K,hv,A0⟩:=(h.fi 3).YY;refine bm hv U λHV z=>?_;clear h U N A0 hv
  exact afU
 ·obtain⟨gA,V,K,hv,A0⟩:=(h.fi 3).YY
  have HV:=aa hv;have a:=HY.trans (iN (by rw[R.out];exact λhx=>hx.elim (λh=>by cases h) nD));have M0:=A0.pk 6 [2,5,4,0,1];have H0:St I l (cu B b ((X.send x.id q).df q)::ab gA 184 (iu 12 5 x.id X.az.length ((aC X.s.M q).2==0) (.slice V (rE X.s.M q).length K))::ai .u8 (.slice V (rE X.s.M q).length K) (rE X.s.M q)::an x g bl wr::L):=St.rD (v:= .slice A7 (X.az.length+1) c7) (X:=(X.send x.id q).df q) (by rw[show((X.send x.id q).df q).az=X.az++[(x.id,q)]from rV _ _];exact M0);obtain⟨m0,m1,m2,m3,m4,m5,m6,m7,m8,m9⟩:=(H0.ah 1 rfl).Tu;have z:=aa (H0.pk 3 [2,0]);clear h A0 M0 H0 N HV
  go_wp2_with fail
  have E:X.up=true:=by
   have j:=R.out;unfold eu.ii at j;exact(Bool.and_eq_true_iff.1 j).1
  have hU:=(G.1.c.same E).2;have M:MI X.s.M:=hU.mi;have E0:=MD (aC X.s.M q).2 (mR X.s.M q) (Om _ _) (by have:=yp M.ok Y.ok;omega) (JE M.ok Y.ok);refine(Ty 5 x.id X.az.length ((aC X.s.M q).2==0) 0 0 0 sN ⟨none,0,0,rfl⟩ V (rE X.s.M q).length K (rE X.s.M q) _ (JY (Ci M.mb Y.b)) (Rw M Y.ok) z).mono ?_;rintro e w2⟨ht,_⟩;obtain⟨F0,rfl,h⟩:=ht E0.2.2;rw[show(xr (rE X.s.M q)).1=(aC X.s.M q).2 by show(xr (kw _ _)).1=_;rw[E0.1]];rw[show(xg (rE X.s.M q)).1=mR X.s.M q by show(xg (kw _ _)).1=_;rw[E0.2.1]]at h;have H4:=aa h;clear h ht z E0 M hU E
  go_wp2_with fail
  go_ret2
  rw[a];exact⟨F0,rfl,H4⟩
end
section
section
variable (x:CX) (y z:jc) (v u:Value) (k:Nat)
theorem nk:(x.cB k y v).c.r k=y:=aW _ _ _
theorem tP:(x.cB k y v).p k=v:=aW _ _ _
theorem QT(r:Int):(x.cB k y v).c.tok r=x.c.tok r:=rfl
end
theorem TC(n:Int):wrap64 n%4294967296=IntKind.u32.wrap n:=by
 rw[IntKind.wrap_u32];unfold wrap64;omega
theorem Gj{X:eu}{q:RQ}{N:Nat->Rg}{n:Nat}(u:fM X N n T)(d:fE q)(c l:Int):(X.ask c q l).l.length<=4/\∀b∈(X.ask c q l).l,Bytes b/\b.length<=24:=by
 unfold eu.ask
 split
 ·exact afM
 ·split
  ·exact afM
  ·split
   ·exact afM
   ·next h=>
    have H:(X.send c q).ii q=true:=by
     cases D:(X.send c q).ii q with
     |true=>rfl
     |false=>exact absurd (.inl D) h
    have E:X.up=true:=by
     unfold eu.ii at H;exact(Bool.and_eq_true_iff.1 H).1
    have y:=(u.c.same E).2.mi;exact⟨yp y.ok d.ok,λb B=>⟨Ci y.mb d.b b B,JE y.ok d.ok b B⟩⟩
theorem Jw{I:aH}{L:List aw}(hT:ml I)(B g j:Nat)(b:WX)(x:CX)(bl wr:List PU)(X:eu){N:Nat->Rg}{n:Nat}(k:Nat)(y:jc)(v:Value)(l:Int)(w:World)(D:fM X N n T)(W:n<=700000)(G0:T<256)(hk:k<4)(ht:0<=x.c.tok (k:Int)/\x.c.tok (k:Int)<18446744073709551616)
 (h:St I w (cu B b X::an (x.cB k y v) g bl wr::ab j 169 #[iI (l)]::aB 6 eO v y.au::L)):
 Calls prog 107 #[pO B,pO g,iI (k:Nat),pO j] w λA0 O=>A0= .returned (iI (cT X x.id (k:Int) (x.c.tok (k:Int)) y l).e)/\∃v',St I O (cu B b (cT X x.id (k:Int) (x.c.tok (k:Int)) y l).x::an (x.cB k (cT X x.id (k:Int) (x.c.tok (k:Int)) y l).r v') g bl wr::ab j 169 #[iI (cT X x.id (k:Int) (x.c.tok (k:Int)) y l).l]::aB 6 eO v' (cT X x.id (k:Int) (x.c.tok (k:Int)) y l).r.au::L):=by
 obtain⟨t,M0⟩:=nM (x.c.tok (k:Int));obtain⟨P,S⟩:=nM (cT X x.id (k:Int) (x.c.tok (k:Int)) y l);rw[<-S];rw[<-M0]at S ht;have J0:(0:Int)<=(k:Int)/\(k:Int)<4:=oM
 refine mr (Gw J0 ht) (GH J0 ht) (And.intro D (And.intro W G0)) hk λF0 P0 U u=>?_;refine ib G0 M0 S λY0 R0 HP=>?_;have i0:(0:Int)<=(k:Int):=oM
 have i1:(k:Int)<4:=oM
 obtain⟨E,J,A⟩:=(h.fi 1).bT;have O0:=aa (h.pk 2 [1,0]);clear h A D W G0 hk ht M0 S J0 E J
 go_enter func107,ntmps107
 go_wp2_with fail
 refine qK (mM g (x.cB k y v) bl wr (k:Int) _ O0) λw1 h=>?_;rw[QT,<-R0.out];obtain⟨E,J,A⟩:=h.bT;have B1:∃bs,bs=y.iy:=⟨_,rfl⟩;obtain⟨bs,H0⟩:=B1;have kf:w1.cell? ⟨g,22+k*5+1,none⟩=some (.bool bs):=((A.ah 0 rfl).cell (22+k*5+1)).trans ((CB (x.cB k y v) E J u).trans (by rw[nk,H0]));refine bm H0.symm (h.pk 3 [2,1,0]) λHB Y=>?_;clear h A O0 H0
 go_upto_if 29 with fail
 go_cut [] (λwx=>∃(X:eu) (y:jc) (l:Int) (N:Nat->Rg) (n:Nat),P=tV X x.id (k:Int) t y l/\n<=700001/\fM X N n T/\St I wx (ab j 169 #[iI (l)]::cu B b X::an (x.cB k y v) g bl wr::aB 6 eO v y.au::L))
 case first=>
  cases bs with
  |true=>
   have Z:=aa (show P=tV X x.id (k:Int) t y l by
    rw[HP.out];have:pC X x.id (k:Int) t y l=⟨X,y,l,0⟩:=iP HB;unfold cT;rw[this];exact iN acy)
   go_wp2_with fail
   go_meet
   exact⟨X,y,l,N,n,Z,by have:=U.2.1;omega,U.1,Y⟩
  |false=>
   go_wp2_with fail
   refine qK (xS j l _ Y) λw1 h=>?_;have p:=aa ((h.bG (R:=λw=>aA w .u8 sN []) (λO _=>aA.none_ O _)).pk 4 [0,2,3,1]);clear h Y
   go_wp2_with fail
   refine(xW hT B g b (x.cB k y v) bl wr X (mZ (k:Int) t) (l%4) none 0 0 _ U.1 (by have:=U.2.1;omega) U.2.2 F0 ⟨Sz _ dC,Uz _ dC⟩ p).mono ?_;rintro A0 C⟨N0,rfl,h⟩;obtain⟨N2,B0,_⟩:=U.out.1.ask (by have:=U.2.1;omega) U.2.2 x.id F0 (l%4);obtain⟨d,e⟩:=nM (X.ask x.id (mZ (k:Int) t) (l%4));have h:St I C (aB 1 dP N0 (X.ask x.id (mZ (k:Int) t) (l%4)).l::cu B b (X.ask x.id (mZ (k:Int) t) (l%4)).x::an (x.cB k y v) g bl wr::ab j 169 #[iI (l/4)]::aB 6 eO v y.au::L):=h;rw[show(eu.ask X (x.cB k y v).id (mZ (k:Int) t) (l%4)).e=d.e by rw[e];rfl];rw[<-e]at h B0;have EF:pC X x.id (k:Int) t y l=if d.e=0 then⟨d.x,{y with iy:=true},l/4,0⟩else⟨d.x,y,l/4,d.e⟩:=by
    rw[e];exact iN (by simp[HB.out])
   have W0:=aa B0;by_cases H:d.e=0
   ·have e0:(d.e !=0)=false:=by simp[H]
    have Z:=aa (show P=tV d.x x.id (k:Int) t {y with iy:=true} (l/4)by
     rw[HP.out];unfold cT;rw[EF,iP H];exact iN acy)
    obtain⟨E,J,A⟩:=(h.fi 2).bT;have C1:C.cell? ⟨g,22+k*5+1,none⟩=some (.bool y.iy):=((A.ah 0 rfl).cell (22+k*5+1)).trans ((CB (x.cB k y v) E J u).trans (by rw[nk]));have D1:=(A.ah 0 rfl).frozen;have K:=St.fm (h.fi 2) (22+k*5+1) (.bool true) (Lz x y v true u);have Y:=aa (K.pk 4 [3,2,0]);clear h A K p H EF B0 e
    go_wp2_with fail
    go_meet
    exact⟨d.x,{y with iy:=true},l/4,N2,n+1,Z,by have:=U.2.1;omega,W0,Y⟩
   ·have e0:(d.e !=0)=true:=by simp[H]
    have i:=aa (show P=⟨d.x,y,l/4,d.e⟩by
     rw[HP.out];unfold cT;rw[EF,iN H];exact iP H)
    have z:=aa h;clear h H EF B0 e p
    go_wp2_with fail
    go_ret
    rw[i.out];exact⟨rfl,v,z.sub⟩
 case rest=>
  clear Y kf U HB R0 F0 HP;obtain⟨X,y,l,N,n,S,W,D,h⟩:=hcut;refine ib S (And.intro D (And.intro W Y0)) h λZ U Y=>?_;clear S W D h
  go_wp2_with fail
  refine qK (xS j l _ Y) λw1 h=>?_;have p:=aa ((h.bG (R:=λw=>aA w .u8 sN []) (λO _=>aA.none_ O _)).pk 4 [0,2,3,1]);clear h Y
  go_wp2_with fail
  refine(xW hT B g b (x.cB k y v) bl wr X (oL (k:Int) t) (l%4) none 0 0 _ U.1 (by have:=U.2.1;omega) U.2.2 P0 ⟨Sz _ dC,Uz _ dC⟩ p).mono ?_;rintro A0 C⟨N0,rfl,h⟩;have Q0:=aa (Gj (U.1) P0 x.id (l%4));obtain⟨a,Q⟩:=nM ((X).ask x.id (oL (k:Int) t) (l%4));have h:St I C (aB 1 dP N0 ((X).ask x.id (oL (k:Int) t) (l%4)).l::cu B b ((X).ask x.id (oL (k:Int) t) (l%4)).x::an (x.cB k y v) g bl wr::ab j 169 #[iI (l/4)]::aB 6 eO v (y).au::L):=h;rw[show(eu.ask X (x.cB k y v).id (oL (k:Int) t) (l%4)).e=a.e by rw[Q];rfl];rw[<-Q]at h;have I0:=Q0.out;rw[<-Q]at I0;have EP:P=if a.e≠0 then⟨a.x,y,l/4,a.e⟩else if l7 a.l≠0 then⟨a.x,{y with au:=gu (k:Int) t 2 a.l},l/4,l7 a.l⟩else⟨a.x,{y with au:=gu (k:Int) t 2 a.l,eY:=true,seq:=IntKind.u32.wrap (2+((gu (k:Int) t 2 a.l).length:Nat))},l/4,0⟩:=by
   rw[Z.out,Q]
   rfl
  refine ib EP I0 h λq HL z=>?_;clear h I0 EP Q Q0 p;by_cases F:a.e=0
  ·have e1:(a.e !=0)=false:=by simp[F]
   have HE:=aa F;obtain⟨U0,c,hV,Z0,A1⟩:=(z.dJ 0 rfl).slice;have HV:=aa hV;rw[hV]at z⊢;clear F hV Z0 A1
   go_wp2_with fail
   refine(WL (k:Int) t 2 a.l U0 _ c _ ⟨dC,dC⟩ (by have:=HL.1;omega) (λb hb=>⟨(HL.2 b hb).1,by have:=(HL.2 b hb).2;omega⟩) z).mono ?_;rintro A0 w4⟨V2,rfl,h⟩;obtain⟨M,o,C0,S0,T0⟩:=h.fx;obtain⟨r,D0⟩:=nM ((gu (k:Int) t 2 a.l).length);have V0:=aa D0;rw[<-D0]at C0;rw[C0]at h⊢;obtain⟨E,J,A⟩:=(h.fi 2).bT;have kp:w4.cell? ⟨g,22+k*5+3,none⟩=some v:=((A.ah 0 rfl).cell (22+k*5+3)).trans ((l9 (x.cB k y v) E J u).trans (by rw[tP]));have kz:=(A.ah 0 rfl).frozen;have K:=St.fm (h.fi 2) (22+k*5+3) (.slice M r o) (qS x y v (gu (k:Int) t 2 a.l) (.slice M r o) u);have V:=((K.fi 1).kF);by_cases G:l7 a.l=0
   ·have e2:(l7 a.l !=0)=false:=by simp[G]
    have HR:=aa G;obtain⟨vC,uC,hC⟩:=(V.fi 1).bT;have kq:World.cell? _ ⟨g,22+k*5+3,none⟩=some (.slice M r o):=((hC.ah 0 rfl).cell (22+k*5+3)).trans ((l9 (x.cB k ⟨(y).seq,(y).iy,(y).eY,gu (k:Int) t 2 a.l,(y).bS⟩ (.slice M r o)) vC uC u).trans (by rw[tP]));have kr:World.cell? _ ⟨g,22+k*5+2,none⟩=some (.bool (y).eY):=((hC.ah 0 rfl).cell (22+k*5+2)).trans ((Dt (x.cB k ⟨(y).seq,(y).iy,(y).eY,gu (k:Int) t 2 a.l,(y).bS⟩ (.slice M r o)) vC uC u).trans (by rw[nk]));have E1:=(hC.ah 0 rfl).frozen;have K0:=St.fm (V.fi 1) (22+k*5+2) (.bool true) (Lt x ⟨(y).seq,(y).iy,(y).eY,gu (k:Int) t 2 a.l,(y).bS⟩ (.slice M r o) true u);obtain⟨vD,uD,hD⟩:=K0.bT;have ks:World.cell? _ ⟨g,22+k*5,none⟩=some (iW (y).seq):=((hD.ah 0 rfl).cell (22+k*5)).trans ((rS (x.cB k ⟨(y).seq,(y).iy,true,gu (k:Int) t 2 a.l,(y).bS⟩ (.slice M r o)) vD uD u).trans (by rw[nk]));have F1:=(hD.ah 0 rfl).frozen;have L0:=St.fm K0 (22+k*5) (iW (IntKind.u32.wrap (2+(r:Int)))) (CN x ⟨(y).seq,(y).iy,true,gu (k:Int) t 2 a.l,(y).bS⟩ (.slice M r o) (IntKind.u32.wrap (2+(r:Int))) u);obtain⟨sq,E0⟩:=nM (IntKind.u32.wrap (2+(r:Int)));have C:wrap64 (2+(r:Int))%4294967296=sq:=(TC _).trans E0.symm;rw[<-E0]at L0;refine ib E0 (q.trans ((iN (by simp[HE.out])).trans (iN (by simp[G])))) L0 λX0 i H5=>?_;clear h A K V K0 L0 hC hD z G q D0 C0 S0 T0 E0
    go_wp2_with fail
    go_ret
    rw[i.out];refine⟨rfl,.slice M r o,?_⟩;show St I _ (cu B b a.x::an (x.cB k ⟨IntKind.u32.wrap (2+((gu (k:Int) t 2 a.l).length:Nat)),(y).iy,true,gu (k:Int) t 2 a.l,(y).bS⟩ (.slice M r o)) g bl wr::ab j 169 #[iI (l/4)]::aB 6 eO (.slice M r o) (gu (k:Int) t 2 a.l)::L);rw[<-V0.out,<-X0.out];exact H5.sub
   ·have e2:(l7 a.l !=0)=true:=by simp[G]
    refine bm (q.trans ((iN (by simp[HE.out])).trans (iP G))) V λi H5=>?_;clear h A K V z G q D0 C0 S0 T0
    go_wp2_with fail
    go_ret
    rw[i.out];refine⟨rfl,.slice M r o,?_⟩;show St I _ (cu B b a.x::an (x.cB k ⟨(y).seq,(y).iy,(y).eY,gu (k:Int) t 2 a.l,(y).bS⟩ (.slice M r o)) g bl wr::ab j 169 #[iI (l/4)]::aB 6 eO (.slice M r o) (gu (k:Int) t 2 a.l)::L);exact H5.sub
  ·have e1:(a.e !=0)=true:=by simp[F]
   have i:=aa (q.trans (iP F));clear F q
   go_wp2_with fail
   go_ret
   rw[i.out];refine⟨rfl,v,?_⟩;exact z.sub
end
end Go.Proofs.YtblpaldggenbaaaGreatDoor
