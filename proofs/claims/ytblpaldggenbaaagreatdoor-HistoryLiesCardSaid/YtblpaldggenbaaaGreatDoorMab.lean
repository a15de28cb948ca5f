/- A part. -/
import Derived.Test.YtblpaldggenbaaaGreatDoorMaa
import Derived.Test.YtblpaldggenbaaaGreatDoorMz
import Derived.Test.YtblpaldggenbaaaGreatDoorMx
namespace Go.Proofs.YtblpaldggenbaaaGreatDoor
open Go.RowKit Go.Proofs.Tryz
set_option maxRecDepth 100000
set_option maxHeartbeats 64000000
variable{L:List aw}{I:aH}
section
def sV(C l:bq)(j:Int)(a:Prop):Prop:=l.tok j=C.tok j\/l.tok j=0\/a
theorem sV.same{C l:bq}{j:Int}{p:Prop}(h:l.h=C.h):sV C l j p:= .inl (ua h j)
theorem sV.to{C C1 l:bq}{j:Int}{p:Prop}(h:C1.h=C.h)(Z:sV C1 l j p):sV C l j p:=by
 unfold sV at Z⊢;rwa[ua h j]at Z
theorem Lg(S:gy)(c:Int)(C:bq)(r t j:Int):sV C (gH S c C r t).c j ((gH S c C r t).e=0/\j=r/\(gH S c C r t).c.tok j=t):=by
 unfold gH
 dsimp only
 split
 ·exact .same rfl
 ·refine sV.to (C1:={C with seq:=dX C.seq}) rfl ?_
  by_cases R:C.mF r t=0
  ·have e:({C with seq:=dX C.seq}:bq).nT r t (S.apply ⟨5,c,dX C.seq,r,0,t,0⟩).v={C with seq:=dX C.seq,h:=aJ C.h r.toNat ⟨2,t,(S.apply ⟨5,c,dX C.seq,r,0,t,0⟩).v⟩,la:=aJ C.la r.toNat t}:=iP R
   have G:0<=r/\r<4:=by
    unfold bq.mF at R
    split at R
    ·cases R
    ·rename_i h
     exact qV acX
   dsimp only
   rw[e];by_cases N:0<=j/\j<4
   ·by_cases I:j=r
    ·subst I
     refine .inr (.inr ⟨R,rfl,?_⟩);rw[mx N.1 N.2];show(aJ C.h j.toNat _ j.toNat).t=t;rw[aW]
    ·refine .inl ?_
     rw[mx N.1 N.2,mx N.1 N.2];show(aJ C.h r.toNat _ j.toNat).t=(C.h j.toNat).t;rw[cm _ _ _ _ oM]
   ·exact .inr (.inl (lF N))
  ·have e:({C with seq:=dX C.seq}:bq).nT r t (S.apply ⟨5,c,dX C.seq,r,0,t,0⟩).v={C with seq:=dX C.seq}:=iN R
   dsimp only
   rw[e];exact .same rfl
theorem Xo(y:AK)(c:Int)(C:bq)(r i:Int):(An y c C r i).c.h=C.h:=by
 unfold An
 split
 ·rfl
 ·split<;>rfl
theorem Ws(X:eu)(c:Int)(C:bq)(r i n:Int):(gX X c C r i n).c.h=C.h:=by
 unfold gX
 split
 ·rfl
 ·split
  ·rfl
  ·exact Xo _ _ _ _ _
theorem Pj(y:AK)(c:Int)(C:bq)(r:Int):(oI y c C r).c.h=C.h:=by
 unfold oI
 split
 ·rfl
 ·split
  ·rfl
  ·split<;>rfl
theorem Vy(X:eu)(c:Int)(C:bq)(r n:Int):(eJ X c C r n).c.h=C.h:=by
 unfold eJ
 split
 ·rfl
 ·exact Pj _ _ _ _
theorem UX(C:bq)(r i:Int)(b:LI):(dO C r i b).1.h=C.h:=by
 unfold dO
 split<;>rfl
theorem VN(S:gy)(c:Int)(C:bq):(iV S c C).c.h=C.h:=by
 unfold iV
 split
 ·rfl
 ·dsimp only
  split<;>rfl
theorem Tm(S:gy)(c:Int)(C:bq)(r j:Int):sV C (mI S c C r).c j ((mI S c C r).e=0/\j=r):=by
 unfold mI
 dsimp only
 split
 ·exact .same rfl
 ·have key:∀(b:bq) (l:gy) (t:Int),b.h=C.h->sV C (gH l c b r t).c j ((gH l c b r t).e=0/\j=r):=λb l t h=>by
   refine sV.to h ?_;rcases Lg l c b r t j with Z|Z|⟨Z,V,_⟩
   ·exact .inl Z
   ·exact .inr (.inl Z)
   ·exact .inr (.inr ⟨Z,V⟩)
  split
  ·exact key _ _ _ rfl
  ·exact key _ _ _ rfl
theorem UB(M:gy)(p:eu)(C:bq)(o:jd)(j:Int):sV C (gR M p C o).c j (o.d=3/\(gR M p C o).e=0/\j=o.r):=by
 unfold gR;by_cases V:o.d=1
 ·rw[iP V]
  exact afr
 by_cases E:o.d=2
 ·rw[iN V,iP E]
  exact afr
 by_cases d:o.d=3
 ·rw[iN V,iN E,iP d]
  show sV C (ji M o.c C o.r).c j (o.d=3/\(ji M o.c C o.r).e=0/\j=o.r);unfold ji
  split
  ·exact .same rfl
  ·split
   ·exact .same (VN _ _ _)
   ·refine sV.to (VN M o.c C) ?_
    rcases Tm (iV M o.c C).s o.c (iV M o.c C).c o.r j with Z|Z|⟨Z,J⟩
    ·exact .inl Z
    ·exact .inr (.inl Z)
    ·exact .inr (.inr ⟨d,Z,J⟩)
 by_cases i:o.d=4
 ·rw[iN V,iN E,iN d,iP i]
  show sV C (dI M o.c C o.r).c j _;unfold dI
  split
  ·exact .same rfl
  ·rcases Lg M o.c C o.r (C.tok o.r) j with Z|Z|⟨_,Z,J⟩
   ·exact .inl Z
   ·exact .inr (.inl Z)
   ·exact .inl (J.trans (by rw[Z]))
 by_cases q:o.d=5
 ·rw[iN V,iN E,iN d,iN i,iP q]
  exact .same (UX _ _ _ _)
 by_cases l:o.d=6
 ·rw[iN V,iN E,iN d,iN i,iN q,iP l]
  exact .same (Ws _ _ _ _ _ _)
 by_cases w:o.d=7
 ·rw[iN V,iN E,iN d,iN i,iN q,iN l,iP w]
  exact .same (Vy _ _ _ _ _)
 by_cases y:o.d=8
 ·rw[iN V,iN E,iN d,iN i,iN q,iN l,iN w,iP y]
  show sV C (jJ M o.c C o.r).c j _;unfold jJ
  split
  ·exact .same rfl
  ·dsimp only
   by_cases N:0<=j/\j<4
   ·by_cases G:cD o.r=true
    ·have e:({C with seq:=dX C.seq}:bq).gone o.r={C with seq:=dX C.seq,h:=aJ C.h o.r.toNat qx.zero}:=iP G
     rw[e];obtain⟨F,L⟩:=qV G;by_cases I:j=o.r
     ·refine .inr (.inl ?_)
      rw[mx N.1 N.2];show(aJ C.h o.r.toNat qx.zero j.toNat).t=0;rw[I,aW]
      rfl
     ·refine .inl ?_
      rw[mx N.1 N.2,mx N.1 N.2];show(aJ C.h o.r.toNat qx.zero j.toNat).t=(C.h j.toNat).t;rw[cm _ _ _ _ oM]
    ·have e:({C with seq:=dX C.seq}:bq).gone o.r={C with seq:=dX C.seq}:=iN G
     rw[e];exact .same rfl
   ·exact .inr (.inl (lF N))
 rw[iN V,iN E,iN d,iN i,iN q,iN l,iN w,iN y]
 split
 ·exact .inr (.inl (nG _ _))
 split
 ·exact afr
 ·exact afr
structure sP(X:WM):Prop where
 c:∀c r:Int,0<=c->c<3->(X.c c.toNat).tok r≠0->∃e∈X.ev,EC e=true/\e.t=(X.c c.toNat).tok r
 e:∀e∈X.ev,∀r,e.cX r=true->∃x∈X.ev,EC x=true/\x.t=e.t
 b:∀e∈X.ev,e.d=5->e.e=0->AM e.b
theorem sP.new:sP Wh:=⟨λc r _ _ h=>absurd (nG 0 r) h,λe Y=>(by cases Y),λe Y=>(by cases Y)⟩
theorem qq{e:eW}{r:Int}(h:e.cX r=true):e.r=r/\e.t≠0/\e.e=0/\5<=e.d/\e.d<=7:=by
 unfold eW.cX at h;simp only[mq,beq_iff_eq,bne_iff_ne,decide_eq_true_eq]at h;exact⟨h.1.1.1.1,h.1.1.1.2,h.1.1.2,h.1.2,h.2⟩
theorem sP.step{X:WM}(h:sP X){o:jd}(H:Bytes o.b):sP (X.step o):=by
 have I:∀{t:Int},(∃e∈X.ev,EC e=true/\e.t=t)->∃e∈(X.step o).ev,EC e=true/\e.t=t:=λ⟨e,Y,Z⟩=>⟨e,by rw[oB];exact Wd _ Y,Z⟩;obtain⟨O,L,n,w⟩:=RK X o;by_cases a:o.fit=true
 case neg=>
  have S:X.step o=⟨X.sv,X.st,X.c,X.ev++[X.eA o]⟩:=iN a;have P:(X.eA o).e=1:=by rw[show X.eA o=⟨o.d,o.c,o.r,o.i,0,[],1⟩from iN a]
  have j:(X.step o).c=X.c:=by rw[S]
  refine⟨λc r K M R=> ?_,λe Y r u=> ?_,λe Y q p=> ?_⟩
  ·rw[j]at R⊢
   exact I (h.c c r K M R)
  ·rw[oB]at Y
   rcases lU.1 Y with Y|Y
   ·exact I (h.e e Y r u)
   ·rw[lA.1 Y]at u
    have:=(qq u).2.2.1;omega
  ·rw[oB]at Y
   rcases lU.1 Y with Y|Y
   ·exact h.b e Y q p
   ·rw[lA.1 Y]at p
    omega
 obtain⟨_,_,z,V⟩:=zC a;have S:=WM.yx (X:=X) a;have P:=WM.Ky (X:=X) a;refine⟨λc r K M R=> ?_,λe Y r u=> ?_,λe Y q p=> ?_⟩
 ·have j:(X.step o).c=aJ X.c o.c.toNat (X.one o).c:=by rw[S]
  rw[j]at R⊢;rcases cz X.c o.c.toNat c.toNat (X.one o).c with⟨g,E⟩|⟨_,E⟩
  ·rw[E]at R⊢
   rcases UB X.sv X.st (X.c o.c.toNat) o r with Z|Z|⟨d,W,k⟩
   ·have Z:(X.one o).c.tok r=(X.c o.c.toNat).tok r:=Z
    rw[Z]at R⊢;exact I (h.c o.c r z V R)
   ·exact absurd Z R
   ·refine⟨X.eA o,by rw[oB];simp,?_,?_⟩
    ·unfold EC
     rw[O,d,P];show((3:Int)==3&&(X.one o).e==0)=true;rw[show(X.one o).e=0 from W]
     rfl
    ·rw[P,k]
     exact iP ⟨d,W⟩
  ·rw[E]at R⊢
   exact I (h.c c r K M R)
 ·rw[oB]at Y
  rcases lU.1 Y with Y|Y
  ·exact I (h.e e Y r u)
  ·rw[lA.1 Y]at u⊢
   obtain⟨_,A,_,D,i⟩:=qq u;have b:(X.eA o).t=(X.c o.c.toNat).tok o.r:=by
    rw[O]at D;rw[P];exact iN (λl=>oM)
   rw[b]at A⊢;exact I (h.c o.c o.r z V A)
 ·rw[oB]at Y
  rcases lU.1 Y with Y|Y
  ·exact h.b e Y q p
  ·rw[lA.1 Y]at q p⊢
   rw[O]at q;have B:(X.eA o).b=o.b:=by
    rw[P]at p⊢;exact iP ⟨q,p⟩
   rw[B];exact λx J=>by have:=H x J;unfold isByte at this;omega
theorem yz:∀(S l:LI),S.Nodup->(∀t∈S,t∈l)->S.length<=l.length
 |[],_,_,_=>jG _
 |t::S,l,W,h=>by
  rw[XZ]at W;have Z:=yz S (l.erase t) W.2 (λx J=>(List.mem_erase_of_ne (λ(e:x=t)=>W.1 (by rw[<-e];exact J))).2 (h x (by simp[J])));have V:=List.length_erase_of_mem (h t acy);have M:=List.length_pos_of_mem (h t acy);simp only[oO];omega
theorem FQ{p q:eW->Bool}(h:∀x,p x=true->q x=false):∀l:List eW,(l.filter p).length+(l.filter q).length<=l.length
 |[]=>g9 _
 |x::l=>by
  have K:=FQ h l
  cases o:p x with
  |true=>
   rw[zcF o,zca (by rw[h x o];exact gV)];simp only[oO];omega
  |false=>
   rw[zca acU]
   cases d:q x with
   |true=>
    rw[zcF d];simp only[oO];omega
   |false=>
    rw[zca (by rw[d];exact gV)];simp only[oO];omega
theorem sP.Wk{X:WM}(h:sP X)(r:Int):2*(fZ r X.ev).length<=X.ev.length:=by
 have ok:=qY r X.ev;have Z:=yz _ ((X.ev.filter EC).map eW.t) ok.nd (λt R=>by
  obtain⟨e,Y,u,S⟩:=(ok.ts t).1 R;obtain⟨x,J,a,P⟩:=h.e e Y r u;exact oK.2 ⟨x,zk.2 ⟨J,a⟩,P.trans S⟩)
 have V:=yz _ ((X.ev.filter (eW.cX r)).map eW.t) ok.nd (λt R=>by
  obtain⟨e,Y,u,S⟩:=(ok.ts t).1 R;exact oK.2 ⟨e,zk.2 ⟨Y,u⟩,S⟩)
 have M:=FQ (p:=EC) (q:=eW.cX r) (λx J=>by
  unfold EC at J;simp only[mq,beq_iff_eq]at J;exact VK (.inl oM) r) X.ev
 rw[nL]at Z V;rw[nL]at Z V;omega
theorem GI.Zy{X:WM}{gv:Nat->Int->Vw}{own:dj}{N:Nat->Rg}{n m:Nat}{T:Int}(h:GI X gv own N n m T){r:Int}(K:0<=r)(Q:r<4){G:List bp}(o:G.Perm (fZ r X.ev))(U:(G.map bp.t).Pairwise (·<=·)):(kC G).isSome=true:=by
 obtain⟨k,F⟩:=h.w.p.rm r K Q;exact Ut rfl F (λe Y u=>(h.ev e Y r u).1) o U
theorem LN(r t:Int)(l:List eW):∀p∈(aG r t l).p,∃e∈l,e.d=5/\e.e=0/\p.d=e.b:=by
 have key:∀(l:List eW) (s:bp),∀p∈(l.foldl bH s).p,p∈s.p\/∃e∈l,e.d=5/\p.d=e.b:=by
  intro l
  induction l with
  |nil=>exact λs p o=> .inl o
  |cons e l K=>
   intro s p o;rcases K _ p o with h|⟨x,J,h⟩
   ·unfold bH at h
    split at h
    ·rename_i q
     rcases lU.1 h with h|h
     ·exact .inl h
     ·exact .inr ⟨e,by simp,q,by rw[lA.1 h]⟩
    ·split at h<;>exact .inl h
   ·exact .inr ⟨x,by simp[J],h⟩
 intro p o;rcases key _ _ p o with h|⟨e,Y,Z,V⟩
 ·cases h
 ·obtain⟨y,u⟩:=zk.1 Y
  unfold mC at u;rw[mq]at u;exact⟨e,y,Z,(qq u.1).2.2.1,V⟩
theorem UU(r t:Int)(l:List eW){e:eW}(Y:e∈l)(u:e.cX r=true)(R:e.t=t)(q:e.d=6):∃y∈(aG r t l).k,y.d=e.b:=by
 have key:∀(l:List eW) (s:bp),e∈l->∃y∈(l.foldl bH s).k,y.d=e.b:=by
  intro l
  induction l with
  |nil=>exact λs h=>(by cases h)
  |cons x l K=>
   intro s h;rcases nO.1 h with rfl|h
   ·obtain⟨_,k,F⟩:=Ag l (bH s e)
    refine⟨⟨(s.p.length:Nat),e.i,e.b⟩,?_,rfl⟩;show _∈(l.foldl bH (bH s e)).k;rw[F];refine Wd _ ?_;unfold bH;rw[iN oM,iP q];exact acy
   ·exact K _ h
 exact key _ _ (zk.2 ⟨Y,by unfold mC;rw[u,R];simp⟩)
theorem BX:∀(l:List eW) (s:bp),(l.foldl bH s).p.length<=s.p.length+l.length
 |[],s=>g9 _
 |e::l,s=>by
  have h:=BX l (bH s e);have V:(bH s e).p.length<=s.p.length+1:=by
   unfold bH
   split
   ·exact acy
   ·split<;>simp
  rw[List.foldl_cons,oO];omega
theorem RZ(r t:Int)(l:List eW):(aG r t l).p.length<=l.length:=by
 have h:=BX (l.filter (mC r t)) (gI t);have V:=VP (mC r t) l;unfold aG;have M:(gI t).p.length=0:=rfl;omega
theorem Dx{P:LI->Prop}:∀(l:List fj) {b:kZ},(∀j,P (b j))->(∀p∈l,P p.d)->∀j,P (dq b l j)
 |[],_,h,_=>h
 |p::l,b,h,C=>by
  refine Dx l (b:=kT b p) (λj=> ?_) (λq d=>C q (by simp[d]));exact afm
theorem Mc{P:LI->Prop}(K:P []){S:Int->bp}{k:Int->Nat}(h:∀t,∀p∈(S t).p,P p.d):∀n j,P (sL S k n j)
 |0=>λ_=>K
 |n+1=>Dx _ (Mc K h n) (λp o=>h _ p (Hn o))
theorem Rs{P:LI->Prop}(K:P []){r:Int}{l:List eW}{gv:Int->Vw}{x:Rg}{k:Int->Nat}(h:dw (λt=>aG r t l) gv x k)(o:∀t,∀p∈(aG r t l).p,P p.d){t:Int}(R:1<=t):∀y∈(aG r t l).k,P y.d:=by
 intro y E;have key:∀b:kZ,(∀j,P (b j))->iT (aG r t l) b y=true->P y.d:=λb B C=>by
  have F:xM (dq b ((aG r t l).p.take y.a.toNat)) y.i=y.d:=of_decide_eq_true C;rw[<-F];unfold xM
  split
  ·exact Dx _ B (λp G=>o t p (Hn G)) _
  ·exact K
 obtain⟨d,g⟩:=h.lk t R y E;by_cases M:t<=x.aE
 ·exact key _ (λj=>Mc K (k:=k) o _ j) (d M)
 ·exact key PZ (λ_=>K) (g oM _)
structure Jy(l:List eW):Prop where
 Wk:∀r:Int,(fZ r l).length<20
 n:l.length<=100
 ok:∀r:Int,0<=r->r<4->∀s∈fZ r l,wS s
 bl:∀r:Int,0<=r->r<4->∀x∈l,x.cX r=true->x.d=5\/x.d=6->x.b.length<=1000
section
variable {X:WM} {a:Nat->Int->Vw} {own:dj} {N:Nat->Rg} {n m:Nat} {T:Int}
theorem GI.small(h:GI X a own N n m T)(z:sP X){r t:Int}(K:0<=r)(Q:r<4)(R:1<=t):(∀p∈(aG r t X.ev).p,AM p.d/\p.d.length<=23)/\∀y∈(aG r t X.ev).k,AM y.d/\y.d.length<=23:=by
 have o:∀t,∀p∈(aG r t X.ev).p,AM p.d/\p.d.length<=23:=λt p o=>by
  obtain⟨e,Y,Z,V,M⟩:=LN r t X.ev p o;rw[M];exact⟨z.b e Y Z V,h.ed e Y Z V⟩
 obtain⟨k,F⟩:=h.w.p.rm r K Q;exact⟨o t,Rs (P:=λd=>AM d/\d.length<=23) ⟨λx J=>by simp at J,jG _⟩ F o R⟩
theorem GI.VR(h:GI X a own N n m T)(z:sP X)(C:X.ev.length<=99){r t:Int}(K:0<=r)(Q:r<4)(R:1<=t):wS (aG r t X.ev):=by
 obtain⟨Z,V⟩:=h.small z K Q R;have:=RZ r t X.ev;exact⟨λx J=>(Z x J).1,λx J=>(V x J).1,oM⟩
theorem GI.ZP(h:GI X a own N n m T)(z:sP X){r:Int}(K:0<=r)(Q:r<4):∀x∈X.ev,x.cX r=true->x.d=5\/x.d=6->x.b.length<=1000:=λx J u q=>by
 rcases q with q|q
 ·have:=h.ed x J q (qq u).2.2.1
  omega
 ·obtain⟨y,E,e⟩:=UU r x.t X.ev J u rfl q
  have:=((h.small z K Q (h.ev x J r u).1).2 y E).2;rw[e]at this;omega
theorem GI.abH(h:GI X a own N n m T)(z:sP X)(C:X.ev.length<=36):Jy X.ev where
 Wk r:=by have:=z.Wk r;omega
 n:=oM
 ok r h0 h4 s hs:=by
  have ok:=qY r X.ev;obtain⟨e,Y,u,S⟩:=(ok.ts s.t).1 (oK.2 ⟨s,hs,rfl⟩);rw[ok.eq s hs];exact h.VR z oM h0 h4 (by have:=(h.ev e Y r u).1;omega)
 bl r h0 h4:=h.ZP z h0 h4
end
end
section
open Go.Shelf
theorem TK{w:World}{U:LV}{T:List eW}(C:U.length=T.length*7)(g:∀(i:Nat) x,T[i]? =some x->qI w ((U.drop (i*7)).take 7) x):∀u∈U,u.oneCell'=true:=by
 intro u E;obtain⟨j,N⟩:=zdu.1 E;have k:=(lQ.1 N).1;have J:=gP (l:=T) (i:=j/7) oM;obtain⟨A,c,e,_⟩:=g _ _ J;have Z:((U.drop (j/7*7)).take 7)[j%7]? =some u:=by
  rw[AH,iP oM,xV,show j/7*7+j%7=j by omega];exact N
 rw[e]at Z;exact Dh _ _ _ _ _ _ _ _ _ u (pJ Z)
theorem OE(w:World):(Instr.buildSlice 26 0 #[]).run prog w= .ok (.slice (aO w.heap.size) 0 0) (w.alloc (.cells #[] 34)):=kR
theorem JD(A:OA)(n c:Nat)(l:List eW)(w:World)(B:n<=1000000)(h:St I w (ay 34 7 qI (.slice A n c) l::L)):
 Calls prog 32 #[.slice A n c] w λe O=>∃v,e= .returned v/\St I O (ay 34 7 qI v l::ay 34 7 qI (.slice A n c) l::L):=by
 rcases A with _|a
 ·have C:l=[]/\n=0:=by
   obtain⟨U,W,_,Z⟩:=h.bK;have K:n=0:=by
    rcases Ox n with K|K
    ·exact K
    ·obtain⟨N,r,_⟩:=Z.sl.2 K
     cases r
   exact⟨AJ (W.symm.trans K),K⟩
  obtain⟨rfl,rfl⟩:=C;have R:=λw=>Lib.run_eql_slice_nil (P:=prog) w 26 34 none 0 c 0 0 underlying26;have H:=aa h;clear h
  go_enter func32,ntmps32
  go_wp2
  go_ret
  exact⟨_,rfl,H.dU _ _ _⟩
 ·obtain⟨U,W,C,Z⟩:=h.bK
  have u:=TK (by rw[C,W]) (Z.get 1 rfl);have R:=λw=>Lib.run_eql_slice_nil (P:=prog) w 26 34 (some a) n c 0 0 underlying26;have k:=OE;have V:=Z.oH 34 7 0 [] rfl oM w.heap.size rfl;refine mr V.swap.sl V u (And.intro W C) λt H z b=>?_;clear h Z V u W C
  go_enter func32,ntmps32
  go_wp2_with (at_builtin;refine St.dW uM H rfl _ _ rfl rfl (some a) n c rfl U t z oM oM ?_;intro G p Y M)
  go_ret
  refine⟨_,rfl,?_⟩;rw[s7,xL]at M;obtain⟨W,C⟩:=b.out;subst W;have Q:=(M.copy 2 rfl).pk 2 [1,0];have F:St I Y (ay 34 7 qI (.slice G l.length p) l::bY 34 7 (.slice (some a) l.length c) l.length U::aS (λw=>∀(i:Nat) x,l[i]? =some x->qI w ((U.drop (i*7)).take 7) x)::L):=St.cZ (f:=λU=>aX (bY 34 7 (.slice G l.length p) l.length U) (aS (λw=>∀(i:Nat) x,l[i]? =some x->qI w ((U.drop (i*7)).take 7) x))) U Q.aM;have j:=F.pk 3 [1,2,0];exact(St.cZ (f:=λU=>aX (bY 34 7 (.slice (some a) l.length c) l.length U) (aS (λw=>∀(i:Nat) x,l[i]? =some x->qI w ((U.drop (i*7)).take 7) x))) U j.aM).swap
theorem Bq(B:Nat)(X:WM)(w:World)(Y:X.ev.length<=1000000)(h:St I w (Ka B X::L)):
 Calls prog 16 #[pO B] w λe O=>∃v,e= .returned v/\St I O (ay 34 7 qI v X.ev::Ka B X::L):=by
 obtain⟨b,Z⟩:=h.wmO;obtain⟨A,c,q,U,K,P,_⟩:=(Z.fi 3).nC;obtain⟨S,d,_,_,V⟩:=Z.zo;have a:=((V.ah 0 rfl).cell 7).trans (show(wC (b.az (.slice S X.st.az.length d)))[7]? =some (.slice A q c)by rw[<-K];rfl);have r:=aa ((V.rD (X:=X.st)).fi 3);rw[K]at r;refine bm (show q<=1000000 by omega) K λC t=>?_;clear h Z V K P
 go_enter func16,ntmps16
 go_wp2_with fail
 refine(JD A q c X.ev _ C r).mono ?_;rintro e l⟨v,rfl,M⟩;have T:=aa M;clear M r
 go_wp2_with fail
 go_ret
 refine⟨v,rfl,?_⟩;have Q:=T.out;rw[<-t.out]at Q;exact((Q.pk 5 [2,3,4,1,0]).wmC).swap
theorem St.PS{w:World}{e:TypeId}{v:Value}{l:List eW}(h:St I w (ay e 7 qI v l::L)):St I w (aB 7 Vr v l::L):=h.kF
theorem BA(v:Value)(l:List eW)(q:Nat)(w:World)(O:q<=4)(C:Jy l)(Z:∀r:Nat,r<q->∀G:List bp,G.Perm (fZ r l)->(G.map bp.t).Pairwise (·<=·)->(kC G).isSome=true)(V:q<4->∀G:List bp,G.Perm (fZ q l)->(G.map bp.t).Pairwise (·<=·)->kC G=none)(h:St I w (aB 7 Vr v l::L)):
 Rt I w 15 #[v] (iI (if q=4 then-1 else(q:Int))) L:=by
 refine mr h C Z V λH j a D=>?_;clear h C Z V
 go_enter func15,ntmps15
 go_wp2_with fail
 go_loopg [6] 4 (λQ t wr=>∃k:Nat,Q=4-k/\k<=q/\t= iI (k:Nat)/\St I wr (aB 7 Vr v l::L))
 case atStart=>exact ae4
 case round=>
  clear H;obtain⟨k,y,F,rfl,h⟩:=hrel;refine bm y h λR Y=>?_;clear h y;by_cases d:k<4
  ·have d1:decide ((k:Int)<4)=true:=decide_eq_true (by omega)
   go_wp2_with fail
   refine(Fh v (k:Int) l _ (by have:=j.n;omega) (j.Wk _) (j.bl _ oM oM) Y).mono ?_;rintro e M⟨u,T,rfl,o,U,h⟩;obtain⟨A,c,rfl,_,_⟩:=(h.dJ 0 rfl).slice;have g:=aa (And.intro o U);have b:T.length<=100:=by
    have S:=o.length_eq;rw[nL]at S;have:=j.Wk (k:Int);omega
   have B:∀x∈T,wS x.s:=λx J=>j.ok _ oM oM _ (o.mem_iff.1 (List.mem_map_of_mem J));obtain⟨m,p⟩:=nM (T.length);rw[<-p]at h⊢;refine ib h B b λN z K=>?_;clear h Y o U B b p
   go_wp2_with fail
   refine(qm A m c T _ K z N).mono ?_;rintro e X⟨W,rfl,h⟩;have P:=aa h.tail;clear h N;by_cases i:k<q
   ·have S:=a.out k i _ g.1 g.2
    rw[S];clear S
    go_wp2_with fail
    go_roundg (4-(k+1))
    case measure=>exact aec
    case rel=>exact⟨k+1,rfl,oM,by go_num,P⟩
   ·obtain rfl:k=q:=oM
    have S:=D.out d _ g.1 g.2;rw[S];clear S
    go_wp2_with fail
    go_ret
    exact⟨rfl,P.tail⟩
  ·obtain rfl:q=4:=oM
   obtain rfl:k=4:=oM
   go_wp2_with fail
   go_ret
   exact⟨rfl,Y.tail⟩
end
end Go.Proofs.YtblpaldggenbaaaGreatDoor
