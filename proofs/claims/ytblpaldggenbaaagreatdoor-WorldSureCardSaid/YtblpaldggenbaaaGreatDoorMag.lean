/- The statement is proved, for every input, with no condition. -/
import Derived.Lib.Strings
import Derived.Lib.Walk
import Derived.Lib.Bytes
import Derived.WalkMore
import Derived.Test.YtblpaldggenbaaaGreatDoorTie
import Derived.Test.YtblpaldggenbaaaGreatDoorCards
import Derived.Test.YtblpaldggenbaaaGreatDoorMad
import Derived.Test.YtblpaldggenbaaaGreatDoorMac
namespace Go.Proofs.YtblpaldggenbaaaGreatDoor
open Go.RowKit Go.Proofs.Tryz
set_option maxRecDepth 100000
set_option maxHeartbeats 64000000
variable{b:LI}{o:eH}{C:aY}{I:aK}
section
def jq(X Y:dz)(t:Int):Prop:=∀p∈Y.aw,p∈X.aw\/p.2.token=t
theorem jq.refl(X:dz)(t:Int):jq X X t:=λ_ P=> .inl P
theorem jq.trans{X Y Z:dz}{t:Int}(h:jq X Y t)(k:jq Y Z t):jq X Z t:=λp P=>(k p P).elim (h p) .inr
theorem El(X:dz)(q:RQ):(X.cI q).aw=X.aw:=by
 unfold dz.cI
 split<;>rfl
theorem nE(X:dz)(c l:Int)(q:RQ):jq X (X.ask c q l).x q.token:=by
 unfold dz.ask;have V:jq X ((X.send c q).cI q) q.token:=λp P=>by
  rw[El]at P;rcases oc.1 P with P|P
  ·exact .inl P
  ·rw[nN.1 P];exact .inr rfl
 split
 ·exact ad9
 ·split
  ·exact ad9
  ·split
   ·exact V
   ·exact V
theorem RD{r t s:Int}:∀(l:List PU) (i:Nat),∀q∈wl (wQ r t s) i l,q.token=t
 |[],_,_,h=>by cases h
 |p::l,i,q,h=>by
  rcases qQ.1 h with rfl|h
  ·rfl
  ·exact RD l (i+1) q h
theorem Fu{r t s:Int}{l:List PU}:∀q∈tz r t s l,q.token=t:=λq h=>by
 rcases oc.1 h with h|h
 ·exact RD _ _ q h
 ·split at h
  ·rw[nN.1 h]
  ·cases h
theorem KM{r t s:Int}{W:List (LI)}:∀q∈dL r t s W,q.token=t:=λq h=>by
 unfold dL at h
 split at h
 ·exact Fu q h
 ·cases h
theorem Qi{P:RQ->Prop}{f:Nat->PU->RQ}(a:∀i p,P (f i p)):∀(l:List PU) (i:Nat),∀q∈wl f i l,P q
 |[],_,_,h=>by cases h
 |p::l,i,q,h=>by
  rcases qQ.1 h with rfl|h
  ·exact a _ _
  ·exact Qi a l (i+1) q h
theorem Rz{r t s:Int}{l:List PU}:∀(j:Nat),∀q∈(pQ r t s l j).2,q.token=t
 |0,_,h=>by cases h
 |j+1,q,h=>by
  unfold pQ at h;rcases oc.1 h with h|h
  ·exact Rz j q h
  ·unfold qF at h
   rcases oc.1 h with h|h
   ·exact Qi (P:=λq=>q.token=t) (λ_ _=>rfl) _ _ q h
   ·exact Fu q h
theorem Qd{r t s:Int}{l:List PU}:∀q∈dg r t s l,q.token=t:=λq h=>by
 unfold dg at h
 split at h
 ·exact Rz _ q h
 ·cases h
section
variable {c r t l:Int} {X:dz} {x:dO}
theorem RJ:jq X (jL X c r t x l).x t/\(jL X c r t x l).r.aq=x.aq:=by
 unfold jL
 split
 ·exact⟨jq.refl _ _,rfl⟩
 ·split
  ·exact⟨nE X c _ (gE r t),rfl⟩
  ·exact⟨nE X c _ (gE r t),rfl⟩
theorem QT(P:∀q∈x.aq,q.token=t):jq X (ms X c r t x l).x t/\∀q∈(ms X c r t x l).r.aq,q.token=t:=by
 unfold ms
 split
 ·exact⟨nE X c _ (jH r t),P⟩
 ·split
  ·exact⟨nE X c _ (jH r t),λq h=>KM q h⟩
  ·exact⟨nE X c _ (jH r t),λq h=>KM q h⟩
theorem ML(P:∀q∈x.aq,q.token=t):jq X (cy X c r t x l).x t/\∀q∈(cy X c r t x l).r.aq,q.token=t:=by
 obtain⟨a,b⟩:=RJ (c:=c) (r:=r) (t:=t) (l:=l) (X:=X) (x:=x);unfold cy
 split
 ·exact⟨a,by rw[b];exact P⟩
 ·obtain⟨d,e⟩:=QT (c:=c) (r:=r) (t:=t) (l:=(jL X c r t x l).l) (X:=(jL X c r t x l).x) (x:=(jL X c r t x l).r) (by rw[b];exact P)
  exact⟨a.trans d,e⟩
theorem vL:∀(p:List RQ) (X:dz) (l:Int),(∀q∈p,q.token=t)->jq X (eO c p X l).x t
 |[],X,l,_=>jq.refl _ _
 |q::p,X,l,h=>by
  have d:=h q abN;have T:jq X (X.ask c q (l%4)).x t:=by rw[<-d];exact nE X c _ q
  unfold eO
  split
  ·exact T
  ·exact T.trans (vL p _ _ (λz o=>h z (Bd _ o)))
theorem Cc{B:List PU}(P:∀q∈x.aq,q.token=t):jq X (mK X c r t x B l).x t:=by
 unfold Go.Proofs.YtblpaldggenbaaaGreatDoor.mK
 split
 ·exact vL _ _ _ P
 ·exact vL _ _ _ P
theorem vM{B:List PU}(P:∀q∈x.aq,q.token=t):jq X (cz X c r t x B l).x t:=by
 unfold Go.Proofs.YtblpaldggenbaaaGreatDoor.cz
 split
 ·exact Cc P
 ·obtain⟨a,b⟩:=ML (c:=c) (r:=r) (l:=l) (X:=X) P
  split
  ·exact a
  ·exact a.trans (Cc b)
theorem LW{i n:Int}(P:∀q∈(C.r r.toNat).aq,q.token=C.tok r):jq X (df X c C r i n).x (C.tok r):=by
 have V:jq X (fU X c C r n).x (C.tok r):=vM P;unfold df
 split
 ·exact ad9
 ·split
  ·exact ad9
  ·unfold Au
   split
   ·exact V
   ·have T:jq (fU X c C r n).x _ (C.tok r):=nE (fU X c C r n).x c ((fU X c C r n).l%4) (eC r i (C.tok r))
    split
    ·exact V.trans T
    ·exact V.trans T
theorem IA{n:Int}(P:∀q∈(C.r r.toNat).aq,q.token=C.tok r):jq X (bz X c C r n).x (C.tok r):=by
 have V:jq X (fU X c C r n).x (C.tok r):=vM P;unfold bz
 split
 ·exact ad9
 ·unfold mX
  split
  ·exact V
  ·split
   ·exact V
   ·split
    ·exact V
    ·exact V.trans (vM (λq h=>Qd q h))
end
def Bq(X:WM):Prop:=∀p∈X.st.aw,p.2.token<=X.sv.be.last
section
variable {X:WM} {l:Nat->Int->Vw} {own:cU} {N:Nat->Rg} {n m:Nat} {T:Int}
theorem GI.Pu(h:GI X l own N n m T){c r:Int}(D:0<=c)(y:c<3)(Q:0<=r)(L:r<4)(R:1<=(X.c c.toNat).tok r):∀q∈((X.c c.toNat).r r.toNat).aq,q.token=(X.c c.toNat).tok r:=λq d=>by
 have o:=h.w.p.vw r _ Q L R;have F:=h.lk c r D y Q L R;rw[<-F.1.x]at d;obtain⟨j,H⟩:=zcG d;exact(o.sq j q H).2.1
theorem Tj{r:Int}(o:C.h r.toNat=qO.zero\/1<=(C.h r.toNat).t)(B:C.wM r=true):1<=C.tok r/\0<=r/\r<4:=by
 unfold aY.wM at B;simp only[mf]at B;obtain⟨⟨⟨Z,G⟩,_⟩,_⟩:=B;have:=qZ Z;refine⟨?_,this⟩;rw[qe this.1 this.2];rcases o with e|e
 ·rw[e]at G;cases G
 ·exact e
theorem GI.wM(h:GI X l own N n m T){c r:Int}(D:0<=c)(y:c<3)(B:(X.c c.toNat).wM r=true):1<=(X.c c.toNat).tok r/\0<=r/\r<4/\∀q∈((X.c c.toNat).r r.toNat).aq,q.token=(X.c c.toNat).tok r:=by
 obtain⟨a,b,d⟩:=Tj (h.hz c D y r.toNat) B;exact⟨a,b,d,h.Pu D y b d a⟩
theorem QW(h:GI X l own N n m T)(D:0<=o.c)(y:o.c<3):∀p∈(X.one o).st.aw,p∈X.st.aw\/p.2.token<=X.sv.be.last:=by
 have d:∀{Y:dz} {r:Int},jq X.st Y ((X.c o.c.toNat).tok r)->∀p∈Y.aw,p∈X.st.aw\/p.2.token<=X.sv.be.last:=λV p P=>(V p P).imp id (λe=>by rw[e];exact(h.tk o.c _ D y).2);have u:jq X.st (df X.st o.c (X.c o.c.toNat) o.r o.i o.n).x ((X.c o.c.toNat).tok o.r):=by
  by_cases B:(X.c o.c.toNat).eI o.r o.i=0
  ·exact LW (h.wM D y (nt B).2.2).2.2.2
  ·unfold df
   rw[iP B];exact ad9
 have a:jq X.st (bz X.st o.c (X.c o.c.toNat) o.r o.n).x ((X.c o.c.toNat).tok o.r):=by
  by_cases B:(X.c o.c.toNat).eI o.r 0=0
  ·exact IA (h.wM D y (nt B).2.2).2.2.2
  ·unfold bz
   rw[iP B];exact ad9
 unfold WM.one gJ;by_cases G:o.d=1
 ·rw[iP G]
  split<;>exact λp P=> .inl P
 rw[iN G];by_cases j:o.d=2
 ·rw[iP j]
  split<;>exact λp P=> .inl P
 rw[iN j];by_cases i:o.d=3
 ·rw[iP i]
  exact aee
 rw[iN i];by_cases t:o.d=4
 ·rw[iP t]
  exact aee
 rw[iN t];by_cases x:o.d=5
 ·rw[iP x]
  exact aee
 rw[iN x];by_cases w:o.d=6
 ·rw[iP w]
  exact d u
 rw[iN w];by_cases E:o.d=7
 ·rw[iP E]
  exact d a
 rw[iN E];by_cases W:o.d=8
 ·rw[iP W]
  exact aee
 rw[iN W];by_cases A:o.d=9
 ·rw[iP A]
  exact aee
 rw[iN A];by_cases I:o.d=10
 ·rw[iP I]
  split
  ·exact aee
  ·exact λp P=> .inl (by rwa[El]at P)
 rw[iN I]
 split<;>exact λp P=> .inl P
theorem Bq.step(V:Bq X)(h:GI X l own N n m T){k:cU}(J:zS X own o (X.step o) k):Bq (X.step o):=by
 have F:=J.x.last;by_cases a:o.fit=true
 ·obtain⟨_,_,D,y⟩:=zH a
  rw[WM.oQ a]at F⊢;intro p P;rcases QW h D y p P with P|P
  ·exact tU (V p P) F
  ·exact tU P F
 ·have u:X.step o=⟨X.sv,X.st,X.c,X.ev++[X.bw o]⟩:=iN a
  rw[u];exact V
theorem Bq.ax(V:Bq X)(h:GI X l own N n m T)(k:Nat):(X.st.s.M k).ax<=X.sv.be.last:=by
 rcases h.w.z.hm k with e|⟨p,P,_,e⟩
 ·rw[e];exact h.tb.last
 ·rw[<-e];exact V p P
theorem Lc(h:GI X l own N n m T){c r:Int}(D:0<=c)(y:c<3)(V:(X.c c.toNat).a9=false)(Y:(eB X.sv c (X.c c.toNat) r).e=0):
 0<=r/\r<4/\X.sv.be.last<(eB X.sv c (X.c c.toNat) r).c.tok r:=by
 unfold eB at Y⊢;by_cases R:cB r=false
 ·rw[iP R]at Y;cases Y
 rw[iN R]at Y⊢;have R:cB r=true:=by simpa using R
 obtain⟨Q,L⟩:=qZ R;by_cases B:(ia X.sv c (X.c c.toNat)).e≠0
 ·rw[iP B]at Y;exact absurd Y B
 rw[iN B]at Y⊢;have B:(ia X.sv c (X.c c.toNat)).e=0:=by simpa using B
 obtain⟨u,I,k,_,H⟩:=h.Xl D y (m':=m+1) oM oM;have k:=k B;have O:∀i,i<4->∀x∈((ia X.sv c (X.c c.toNat)).s.be.r i).h,x.c≠c:=by
  have E:(ia X.sv c (X.c c.toNat)).s=((X.sv.apply ⟨2,c,0,0,0,0,0⟩).s.apply ⟨1,c,0,0,0,0,0⟩).s:=by
   unfold ia;rw[iN (by rw[V];exact iu)];show(if((X.sv.apply ⟨2,c,0,0,0,0,0⟩).s.apply ⟨1,c,0,0,0,0,0⟩).e≠0 then(⟨((X.sv.apply ⟨2,c,0,0,0,0,0⟩).s.apply ⟨1,c,0,0,0,0,0⟩).s,X.c c.toNat,((X.sv.apply ⟨2,c,0,0,0,0,0⟩).s.apply ⟨1,c,0,0,0,0,0⟩).e⟩:nP)else⟨((X.sv.apply ⟨2,c,0,0,0,0,0⟩).s.apply ⟨1,c,0,0,0,0,0⟩).s,{X.c c.toNat with a9:=true,seq:=0},0⟩).s=_
   split<;>rfl
  have P:∀S:gD,(S.apply ⟨1,c,0,0,0,0,0⟩).s.be=S.be:=λS=>by
   unfold gD.apply;rw[iN (by show¬(1:Int)=7;decide),iP rfl]
   split
   ·rfl
   ·split<;>rfl
  have g:(X.sv.apply ⟨2,c,0,0,0,0,0⟩).s.be=if(aP X.sv.a9 c).isSome=true then nh X.sv.be c else X.sv.be:=by
   unfold gD.apply;rw[iN (by show¬(2:Int)=7;decide),iN (by show¬(2:Int)=1;decide),iP rfl];show(if(aP X.sv.a9 c).isSome=true then(⟨⟨jV X.sv.a9 c,nh X.sv.be c⟩,0,0⟩:qG)else⟨X.sv,81,0⟩).s.be=_
   split<;>rfl
  rw[E,P,g];intro i z x J;by_cases d:(aP X.sv.a9 c).isSome=true
  ·rw[iP d]at J
   obtain⟨_,_,G⟩:=FJ h.tb (c:=c) ⟨D,oM⟩;exact(G i z).1 x J
  ·rw[iN d]at J
   intro e;have:=(h.hc i z x J).2.2;rw[e]at this;exact d this
 have C0:X.sv.be.last<=(ia X.sv c (X.c c.toNat)).s.be.last:=H.last;have j:=I.tb;have A:=I.ss c D y (by show((aI X.c c.toNat (ia X.sv c (X.c c.toNat)).c) c.toNat).a9=true;rw[aT];exact k);generalize(ia X.sv c (X.c c.toNat)).s=S1 at*;generalize(ia X.sv c (X.c c.toNat)).c=C1 at*;have A:(aP S1.a9 c).isSome=true:=A;have j:kK S1.be u:=j;obtain⟨E0,p,J⟩:=j.acquire c r;have w:=jb (S:=S1) (q:=⟨3,c,dP C1.seq,r,2,0,0⟩) (.inl rfl) A;rw[PC]at w;have F:∀(S:gD) (C:aY) (t:Int),(cZ S c C r t).e=0->(cZ S c C r t).c.tok r=t:=λS C t U=>by
  unfold cZ at U⊢;simp only at U⊢
  split at U
  ·rename_i W;exact absurd U W
  ·rename_i W
   rw[iN W];have U:C.my r t=0:=U;show(({C with seq:=dP C.seq}:aY).nS r t _).tok r=t;have Z:({C with seq:=dP C.seq}:aY).my r t=0:=U;unfold aY.nS;rw[iP Z,qe Q L];show(aI C.h r.toNat _ r.toNat).t=t;rw[aT]
 unfold mU at Y⊢;simp only[w]at Y⊢;by_cases K:(S1.be.acquire c r 2).2.2≠0
 ·rw[iP K]at Y;exact absurd Y K
 rw[iN K]at Y⊢;obtain⟨_,_,x,M,b,A0⟩:=J (by simpa using K);have D0:S1.be.last<(S1.be.acquire c r 2).2.1:=by
  rw[<-A0];rcases p.h r.toNat oM x M with⟨a,_⟩|⟨B0,hy,e,_⟩
  ·exact a
  ·exact absurd (e.trans b) (O r.toNat oM B0 hy)
 refine⟨Q,L,?_⟩
 split at Y
 ·rename_i o
  rw[iP o,F _ _ _ Y];omega
 ·rename_i o
  rw[iN o,F _ _ _ Y];omega
end
end
theorem Cl{S:Int->fT}{k:Int->Nat}(n:Nat):∀m:Nat,(∀t:Int,(n:Nat)<t->t<=(n+m:Nat)->(S t).p=[])->qL S k (n+m)=qL S k n
 |0,_=>rfl
 |m+1,h=>by
  show jG (qL S k (n+m)) ((S ((n+m+1:Nat):Int)).p.take (k ((n+m+1:Nat):Int)))=_;rw[h ((n+m+1:Nat):Int) oM oM,zdo,Cl n m (λt Z G=>h t Z oM)]
  rfl
section
def oC(p:LI):eH:=⟨11,0,0,0,0,[],p⟩
def xV(c:Int):eH:=⟨9,c,0,0,0,[],[]⟩
def oT:eH:=⟨1,0,0,0,11,[],[]⟩
def iO(c r:Int):eH:=⟨3,c,r,0,0,[],[]⟩
def oW(r i:Int)(b:LI):eH:=⟨5,0,r,i,0,b,[]⟩
def tT(r:Int):eH:=⟨7,0,r,0,0,[],[]⟩
def mI(r i:Int):eH:=⟨6,1,r,i,0,[],[]⟩
theorem bL(d c r i n:Int)(b p:LI)(B:Bytes b)(K: -9223372036854775808<=n)(Z:n<=1073741824):xY ⟨d,c,r,i,n,b,p⟩:=⟨B,K,λ_=>Z⟩
theorem bQ:Bytes []:=λ_ h=>by cases h
def kQ(X:WM)(i:Nat)(T:Int):Prop:=∃v own N,mg X v own N i T/\Bq X
theorem kQ.new:kQ vq 0 1:=⟨_,_,_,mg.new,λ_ h=>by cases h⟩
theorem kQ.step{X:WM}{i:Nat}{T T1:Int}(h:kQ X i T)(z:i<=55)(A:T<=200)(q:xY o)(u:T<=T1)(b:o.d=11->T+1<=T1):kQ (X.step o) (i+1) T1/\X.sv.be.last<=(X.step o).sv.be.last:=by
 obtain⟨v,own,N,U,V⟩:=h;obtain⟨g,k,w,t,J⟩:=U.step z A q u b;exact⟨⟨g,k,w,t,V.step U.g J⟩,J.x.last⟩
section
variable {X:WM}
theorem sO(p:LI):(X.step (oC p)).st=X.st.br p/\(X.step (oC p)).c=X.c/\(X.bw (oC p)).e=0:=⟨rfl,oK X.c 0,rfl⟩
theorem DN:(X.step (xV 0)).st=X.st/\(X.step (xV 0)).c=aI X.c 0 (aY.zero (X.c 0).iZ):=⟨rfl,rfl⟩
theorem Tt:(X.step (xV 1)).st=X.st/\(X.step (xV 1)).c=aI X.c 1 (aY.zero (X.c 1).iZ):=⟨rfl,rfl⟩
theorem yh:(X.step oT).st=X.st/\(X.step oT).c=X.c:=⟨rfl,oK X.c 0⟩
theorem Tf(r:Int):(X.step (iO 0 r)).st=X.st/\(X.step (iO 0 r)).c=aI X.c 0 (eB X.sv 0 (X.c 0) r).c/\(X.bw (iO 0 r)).e=(eB X.sv 0 (X.c 0) r).e:=⟨rfl,rfl,rfl⟩
theorem Td(r:Int):(X.step (iO 1 r)).st=X.st/\(X.step (iO 1 r)).c=aI X.c 1 (eB X.sv 1 (X.c 1) r).c/\(X.bw (iO 1 r)).e=(eB X.sv 1 (X.c 1) r).e:=⟨rfl,rfl,rfl⟩
theorem Rp(r i:Int)(b:LI):(X.step (oW r i b)).st=X.st/\(X.step (oW r i b)).c=aI X.c 0 (dj (X.c 0) r i b).1/\(X.bw (oW r i b)).e=(dj (X.c 0) r i b).2:=⟨rfl,rfl,rfl⟩
theorem PV(r:Int):(X.step (tT r)).st=(bz X.st 0 (X.c 0) r 0).x/\(X.step (tT r)).c=aI X.c 0 (bz X.st 0 (X.c 0) r 0).c/\(X.bw (tT r)).e=(bz X.st 0 (X.c 0) r 0).e:=⟨rfl,rfl,rfl⟩
theorem La(r i:Int):(X.bw (mI r i)).e=(df X.st 1 (X.c 1) r i 0).e:=rfl
theorem Tw(x:Int):((X.step (fG x)).st=X.st\/∃p∈X.st.aw,(X.step (fG x)).st=X.st.cI p.2)/\(X.step (fG x)).c=X.c:=by
 have l:X.one (fG x)=if x<0\/(X.st.aw.length:Int)<=x then⟨X.sv,X.st,X.c 0,[],1⟩else⟨X.sv,X.st.cI ((X.st.aw.getD x.toNat (0,gE 0 0)).2),X.c 0,[],0⟩:=rfl;have u:=WM.oQ (X:=X) (o:=fG x) rfl;by_cases J:x<0\/(X.st.aw.length:Int)<=x
 ·rw[iP J]at l
  rw[u,l];exact⟨.inl rfl,oK X.c 0⟩
 ·rw[iN J]at l
  have t:x.toNat<X.st.aw.length:=oM
  rw[u,l];refine⟨.inr ⟨_,?_,rfl⟩,oK X.c 0⟩;rw[Iy,g7 t];exact Oq t
theorem Lu{c r:Int}(D:c=0\/c=1)(Y:(X.bw (iO c r)).e=0):(X.bw (iO c r)).t=(eB X.sv c (X.c c.toNat) r).c.tok r/\(eB X.sv c (X.c c.toNat) r).e=0:=by
 rcases D with rfl|rfl
 ·exact⟨iP ⟨rfl,Y⟩,Y⟩
 ·exact⟨iP ⟨rfl,Y⟩,Y⟩
end
theorem zy{X:WM}{i:Nat}{T:Int}(h:kQ X i T)(z:i<=55)(A:T<=200)(p:LI):fw (X.st.br p):=by
 obtain⟨v,own,N,U,_⟩:=h;exact⟨rfl,(U.g.w.s.br oM oM p).2.2.2.2.1⟩
theorem Me{X:WM}{i:Nat}{T:Int}(h:kQ X i T)(z:i<=55)(A:T<=200)(F:fw X.st){p:Int×RQ}(P:p∈X.st.aw):fw (X.st.cI p.2):=by
 obtain⟨v,own,N,U,_⟩:=h;obtain⟨a,b,_⟩:=U.g.w.s.live oM oM F.1 F.2 (U.g.w.s.g p P);exact⟨a,b⟩
structure qA(X:WM)(i:Nat)(T:Int):Prop where
 r:kQ X i T
 l:fw X.st
 s1:(X.c 1).a9=false
theorem xA9{p:Prop}(h:p:=by exact bL _ _ _ _ _ _ _ bQ dC dC):p:=h
theorem qA.time{X:WM}{i:Nat}{T:Int}(h:qA X i T)(z:i<=55)(A:T<=200):qA (X.step oT) (i+1) T/\X.sv.be.last<=(X.step oT).sv.be.last:=by
 obtain⟨a,b⟩:=h.r.step z A (o:=oT) xA9 (cO _) (λe=>absurd e dC);exact⟨⟨a,by rw[yh.1];exact h.l,by rw[yh.2];exact h.s1⟩,b⟩
theorem qA.late{X:WM}{i:Nat}{T:Int}(h:qA X i T)(z:i<=55)(A:T<=200)(x:Int)(J: -9223372036854775808<=x):qA (X.step (fG x)) (i+1) T/\X.sv.be.last<=(X.step (fG x)).sv.be.last:=by
 obtain⟨a,b⟩:=h.r.step z A (o:=fG x) ⟨bQ,J,λh=>absurd rfl h⟩ (cO _) (λe=>absurd e (show¬(10:Int)=11 by decide));obtain⟨c,d⟩:=Tw (X:=X) x;refine⟨⟨a,?_,by rw[d];exact h.s1⟩,b⟩;rcases c with c|⟨p,P,c⟩
 ·rw[c];exact h.l
 ·rw[c];exact Me h.r z A h.l P
theorem wJ{X:WM}(h:o.d<5\/7<o.d)(r t:Int):aC r t (X.step o).ev=aC r t X.ev:=by
 rw[cv];exact jE (KJ (by rw[(dr X o).1];exact h) r) t
theorem DT{a:List jZ}{e:jZ}{r t:Int}(U:e.r=r)(R:e.t=t)(t1:1<=t)(Y:e.e=0)(y:5<=e.d/\e.d<=7)(j:Int):aC r j (a++[e])=if j=t then fo (aC r t a) e else aC r j a:=by
 have C:e.gO r=true:=by
  unfold jZ.gO;simp only[mf,decide_eq_true_eq,beq_iff_eq,bne_iff_ne];exact⟨⟨⟨⟨U,oM⟩,Y⟩,y.1⟩,y.2⟩
 rw[An];unfold ku;rw[C,R,Re];by_cases H:j=t
 ·subst H
  rw[iP abN,iP rfl]
 ·rw[iN (by simp;exact λe=>H e.symm),iN H]
theorem WT{X:WM}{i:Nat}{T:Int}(h:kQ X i T)(z:i<=50)(A:T<=190):
 let Y:=((((X.step (oC [])).step (xV 0)).step (xV 1)).step oT).step oT
 qA Y (i+5) (T+1)/\(Y.c 0).a9=false:=by
 have Z:=(h.step oM oM (o:=oC []) (T1:=T+1) xA9 oM (λ_=>cO _)).1;have G:=(Z.step oM oM (o:=xV 0) (T1:=T+1) xA9 (cO _) (λe=>absurd e dC)).1;have M:=(G.step oM oM (o:=xV 1) (T1:=T+1) xA9 (cO _) (λe=>absurd e dC)).1;have F:=zy h oM oM [];obtain⟨H,u,_⟩:=sO (X:=X) [];generalize X.step (oC [])=X1 at*;obtain⟨O,J⟩:=DN (X:=X1);generalize X1.step (xV 0)=X2 at*;obtain⟨d,Q⟩:=Tt (X:=X2);generalize X2.step (xV 1)=X3 at*;have D:qA X3 (i+1+1+1) (T+1):=⟨M,by rw[d,O,H];exact F,by rw[Q,aT];rfl⟩;have K:(X3.c 0).a9=false:=by rw[Q,bS _ _ _ _ dC,J,aT];rfl
 obtain⟨S,_⟩:=D.time oM oM;obtain⟨U,_⟩:=S.time oM oM;exact⟨U,by show((X3.step oT).step oT|>.c 0).a9=false;rw[yh.2,yh.2];exact K⟩
structure jh(X:WM)(i:Nat)(T r bl:Int)(b:LI)(L t0:Int):Prop where
 w:qA X i T
 rgn:0<=r/\r<4
 tt:1<=t0/\L<t0/\t0<=X.sv.be.last
 L0:0<=L
 ev:∀j,L<j->aC r j X.ev=if j=t0 then⟨t0,[⟨bl,b⟩],1,[]⟩else jB j
theorem Ey{X:WM}{i:Nat}{T:Int}(h:qA X i T)(hi:i<=50)(hT:T<=190)(h0:(X.c 0).a9=false){r bl:Int}(hb:Bytes b)
 (W:(X.bw (iO 0 r)).e=0) (Y:((X.step (iO 0 r)).bw (oW r bl b)).e=0):
 (((X.step (iO 0 r)).step (oW r bl b)).bw (tT r)).e=0/\jh (((X.step (iO 0 r)).step (oW r bl b)).step (tT r)) (i+3) T r bl b X.sv.be.last (X.bw (iO 0 r)).t:=by
 obtain⟨et,ea⟩:=Lu (X:=X) (.inl rfl) W;obtain⟨v,own,N,U,hs⟩:=h.r;obtain⟨Q,L,I⟩:=Lc U.g (c:=0) (r:=r) dC dC h0 ea;have hL:=U.g.tb.last;have P:=λj (H:X.sv.be.last<j)=>(U.g.pr r j Q L H).2;have D0:=hs.ax U.g;obtain⟨u,l6⟩:=h.r.step oM oM (o:=iO 0 r) (T1:=T) xA9 (cO _) (λe=>absurd e (show¬(3:Int)=11 by decide));obtain⟨l,l7⟩:=u.step oM oM (o:=oW r bl b) (T1:=T) (bL _ _ _ _ _ _ _ hb dC dC) (cO _) (λe=>absurd e (show¬(5:Int)=11 by decide));obtain⟨h8,l8⟩:=l.step oM oM (o:=tT r) (T1:=T) xA9 (cO _) (λe=>absurd e (show¬(7:Int)=11 by decide));obtain⟨S,Z,_⟩:=Tf (X:=X) r;have w:∀j,aC r j (X.step (iO 0 r)).ev=aC r j X.ev:=λj=>wJ (.inl (show(3:Int)<5 by decide)) r j;rw[et];obtain⟨t0,g⟩:∃t,t=(eB X.sv 0 (X.c 0) r).c.tok r:=⟨_,rfl⟩;have R:X.sv.be.last<t0:=by rw[g];exact I
 clear I;rw[show(eB X.sv 0 (X.c (0:Int).toNat) r).c.tok r=t0 from g.symm];have D:((X.step (iO 0 r)).c 0).tok r=t0:=by rw[Z,aT,g]
 have M:((X.step (iO 0 r)).c 1).a9=false:=by rw[Z,bS _ _ _ _ dC];exact h.s1
 obtain⟨v6,J0,N6,G0,_⟩:=u;have A:=(G0.g.tk 0 r dC dC).2;have A:t0<=(X.step (iO 0 r)).sv.be.last:=by rw[<-D];exact A
 generalize X.step (iO 0 r)=X6 at*;obtain⟨F,O,w7⟩:=Rp (X:=X6) r bl b;have E:=Y;rw[w7]at E;have p:(X6.c 0).eI r bl=0:=by
  unfold dj at E;by_cases d:(X6.c 0).eI r bl=0
  ·exact d
  ·rw[iP d]at E;exact absurd E d
 have J:((X6.step (oW r bl b)).c 0).tok r=t0/\((X6.step (oW r bl b)).c 0).wM r=true:=by
  have hw:(dj (X6.c 0) r bl b).1={X6.c 0 with bl:=ya (X6.c 0).bl (X6.c 0).wr ⟨r,bl,b⟩,wr:=Az (X6.c 0).bl (X6.c 0).wr ⟨r,bl,b⟩}:=by
   unfold dj;rw[iN (λd=>d p)]
  rw[O,aT,hw];exact⟨D,(nt p).2.2⟩
 have V:((X6.step (oW r bl b)).c 1).a9=false:=by rw[O,bS _ _ _ _ dC];exact M
 have y:∀j,X.sv.be.last<j->aC r j (X6.step (oW r bl b)).ev=if j=t0 then⟨t0,[⟨bl,b⟩],0,[]⟩else jB j:=λj H=>by
  rw[cv,DT (r:=r) (t:=t0) (dr X6 (oW r bl b)).2.2.1 D oM Y ⟨by rw[(dr X6 (oW r bl b)).1];exact(show(5:Int)<=5 by decide),by rw[(dr X6 (oW r bl b)).1];exact(show(5:Int)<=7 by decide)⟩];by_cases n:j=t0
  ·rw[iP n,iP n,w,P t0 R]
   have B0:(X6.bw (oW r bl b)).b=b:=iP ⟨rfl,Y⟩;unfold fo;rw[iP (show(X6.bw (oW r bl b)).d=5 from(dr X6 (oW r bl b)).1),B0,show(X6.bw (oW r bl b)).i=bl from(dr X6 (oW r bl b)).2.2.2]
   rfl
  ·rw[iN n,iN n,w,P j H]
 obtain⟨z,K0,N7,x,I0⟩:=l;have E0:fw (X6.step (oW r bl b)).st:=by rw[F,S];exact h.l
 have C0:∀k,((X6.step (oW r bl b)).st.s.M k).ax<=t0:=λk=>by rw[F,S];have:=D0 k;omega
 generalize X6.step (oW r bl b)=X7 at*;obtain⟨k,rfl⟩:∃k:Nat,r=(k:Int):=⟨r.toNat,oM⟩;have F0:=x.g.lk 0 (k:Int) dC dC Q L (by show 1<=(X7.c 0).tok (k:Int);rw[J.1];omega);have G:ol (X7.c 0) (k:Int) (z k ((X7.c 0).tok (k:Int))) (aC (k:Int) ((X7.c 0).tok (k:Int)) X7.ev):=F0.1;have H0:=x.g.lb;have A0:(X7.c 0).eI (k:Int) 0=0:=by
  unfold aY.eI;rw[iN (by rw[J.2];simp),iN oM]
 have a:=WI.Ah (k:=k) (f:=(z k ((X7.c 0).tok (k:Int))).f) (ca:=(z k ((X7.c 0).tok (k:Int))).ca) (C:=X7.c 0) x.g.w oM (m:=2*(i+1+1)) oM oM 0 oM (by rw[J.1];omega)
  (by have:=G.x;show z k _=⟨(X7.c 0).r (k:Int).toNat,_,_⟩;rw[<-this]) (x.g.ci 0 dC dC) G.w E0 (by rw[J.1];exact C0 k) A0
 obtain⟨B,K,w8⟩:=PV (X:=X7) (k:Int);have q:(X7.bw (tT (k:Int))).e=0:=by rw[w8];exact a.1
 refine⟨q,⟨h8,by rw[B];exact a.2.1,by rw[K,bS _ _ _ _ dC];exact V⟩,⟨Q,L⟩,⟨oM,R,oM⟩,hL,λj H=> ?_⟩;rw[cv,DT (r:=(k:Int)) (t:=t0) (dr X7 (tT (k:Int))).2.2.1 J.1 oM q ⟨by rw[(dr X7 (tT (k:Int))).1];exact(show(5:Int)<=7 by decide),by rw[(dr X7 (tT (k:Int))).1];exact(show(7:Int)<=7 by decide)⟩];by_cases n:j=t0
 ·rw[iP n,iP n,y t0 R,iP rfl]
  unfold fo;rw[show(X7.bw (tT (k:Int))).d=7 from(dr X7 (tT (k:Int))).1,iN (show¬(7:Int)=5 by decide),iN (show¬(7:Int)=6 by decide)]
  rfl
 ·rw[iN n,iN n,y j H,iN n]
theorem jh.AU{X Y:WM}{i:Nat}{T Q r D:Int}{L t0:Int}(h:jh X i T r D b L t0)(G:Y=X.step o)(y:o.d<5\/7<o.d)(M:qA Y (i+1) Q)(F:X.sv.be.last<=Y.sv.be.last):jh Y (i+1) Q r D b L t0:=
 ⟨M,h.rgn,⟨h.tt.1,h.tt.2.1,tU h.tt.2.2 F⟩,h.L0,λj H=>by rw[G,wJ y];exact h.ev j H⟩
theorem jh.time{X:WM}{i:Nat}{T r j:Int}{L t0:Int}(h:jh X i T r j b L t0)(z:i<=55)(A:T<=200):jh (X.step oT) (i+1) T r j b L t0:=
 h.AU (o:=oT) rfl (.inl dC) (h.w.time z A).1 (h.w.time z A).2
theorem jh.late{X:WM}{i:Nat}{T r j:Int}{L t0:Int}(h:jh X i T r j b L t0)(z:i<=55)(A:T<=200)(x:Int)(J: -9223372036854775808<=x):jh (X.step (fG x)) (i+1) T r j b L t0:=
 h.AU (o:=fG x) rfl (.inr (show(7:Int)<10 by decide)) (h.w.late z A x J).1 (h.w.late z A x J).2
theorem jh.die{X:WM}{i:Nat}{T r j:Int}{L t0:Int}(h:jh X i T r j b L t0)(z:i<=55)(A:T<=200):jh (X.step (xV 0)) (i+1) T r j b L t0:=by
 obtain⟨a,c⟩:=h.w.r.step z A (o:=xV 0) (T1:=T) xA9 (cO _) (λe=>absurd e dC);exact h.AU (o:=xV 0) rfl (.inr dC) ⟨a,by rw[DN.1];exact h.w.l,by rw[DN.2,bS _ _ _ _ dC];exact h.w.s1⟩ c
theorem jh.br{X:WM}{i:Nat}{T r j:Int}{L t0:Int}(h:jh X i T r j b L t0)(z:i<=55)(A:T<=199)(p:LI):jh (X.step (oC p)) (i+1) (T+1) r j b L t0:=by
 obtain⟨a,c⟩:=h.w.r.step z oM (o:=oC p) (T1:=T+1) xA9 oM (λ_=>cO _);exact h.AU (o:=oC p) rfl (.inr (show(7:Int)<11 by decide)) ⟨a,by rw[(sO p).1];exact zy h.w.r z oM p,by rw[(sO p).2.1];exact h.w.s1⟩ c
theorem Ip{X:WM}{i:Nat}{T r bl:Int}{L t0:Int}(h:jh X i T r bl b L t0)(hi:i<=53)(A:T<=200)(V:0<=bl/\bl<4)(J:(X.bw (iO 1 r)).e=0):
 t0<(X.bw (iO 1 r)).t/\(((X.step (iO 1 r)).bw (mI r bl)).e≠110->((X.step (iO 1 r)).bw (mI r bl)).e=0/\((X.step (iO 1 r)).bw (mI r bl)).b=b):=by
 obtain⟨O,R⟩:=Lu (X:=X) (.inr rfl) J;obtain⟨v,own,N,U,hs⟩:=h.w.r;obtain⟨Q,F,I⟩:=Lc U.g (c:=1) (r:=r) dC dC h.w.s1 R;have B0:=hs.ax U.g;rw[O];obtain⟨t1,W⟩:∃t,t=(eB X.sv 1 (X.c 1) r).c.tok r:=⟨_,rfl⟩;have G0:X.sv.be.last<t1:=by rw[W];exact I
 clear I;rw[show(eB X.sv 1 (X.c (1:Int).toNat) r).c.tok r=t1 from W.symm];have H0:=h.tt;refine⟨oM,λhe=> ?_⟩;obtain⟨K,_⟩:=h.w.r.step oM A (o:=iO 1 r) (T1:=T) xA9 (cO _) (λe=>absurd e (show¬(3:Int)=11 by decide));obtain⟨D,_⟩:=K.step oM A (o:=mI r bl) (T1:=T) xA9 (cO _) (λe=>absurd e (show¬(6:Int)=11 by decide));obtain⟨P,w,_⟩:=Td (X:=X) r;have p:∀j,aC r j (X.step (iO 1 r)).ev=aC r j X.ev:=λj=>wJ (.inl (show(3:Int)<5 by decide)) r j;have E:((X.step (iO 1 r)).c 1).tok r=t1:=by rw[w,aT,W]
 have C0:fw (X.step (iO 1 r)).st:=by rw[P];exact h.w.l
 have A0:∀k,((X.step (iO 1 r)).st.s.M k).ax<=t1:=λk=>by rw[P];have:=B0 k;omega
 generalize X.step (iO 1 r)=Y at*;obtain⟨y,I0,NY,g,_⟩:=K;obtain⟨k,rfl⟩:∃k:Nat,r=(k:Int):=⟨r.toNat,oM⟩;have D0:=g.g.lk 1 (k:Int) dC dC Q F (by show 1<=(Y.c 1).tok (k:Int);rw[E];omega);have G:ol (Y.c 1) (k:Int) (y k ((Y.c 1).tok (k:Int))) (aC (k:Int) ((Y.c 1).tok (k:Int)) Y.ev):=D0.1;have F0:=g.g.lb;have u:=(g.g.tk 1 (k:Int) dC dC).2;have u:t1<=Y.sv.be.last:=by rw[<-E];exact u
 have H:(Y.c 1).eI (k:Int) bl=0:=by
  by_cases d:(Y.c 1).eI (k:Int) bl=0
  ·exact d
  ·exfalso
   apply he;rw[La];unfold df;rw[iP d];show(Y.c 1).eI (k:Int) bl=110;unfold aY.eI at d⊢;by_cases B:(Y.c 1).wM (k:Int)=false
   ·rw[iP B]
   ·rw[iN B,iN oM]at d
    exact absurd rfl d
 have l:(Y.bw (mI (k:Int) bl)).e=0:=by
  rw[La];exact WI.Bo (k:=k) (f:=(y k ((Y.c 1).tok (k:Int))).f) (ca:=(y k ((Y.c 1).tok (k:Int))).ca) (C:=Y.c 1) g.g.w oM (m:=2*(i+1)) oM 1 oM (by rw[E];omega)
   (by have:=G.x;show y k _=⟨(Y.c 1).r (k:Int).toNat,_,_⟩;rw[<-this]) (g.g.ci 1 dC dC) G.w C0 (by rw[E];exact A0 k) H
 refine⟨l,?_⟩;obtain⟨vZ,J0,NZ,E0,_⟩:=D;obtain⟨q,d⟩:=E0.g.w.p.rm (k:Int) Q F;have x:∀j,h.tt.1=h.tt.1->X.sv.be.last<X.sv.be.last+1->L<j->aC (k:Int) j (Y.step (mI (k:Int) bl)).ev=if j=t1 then⟨t1,[],0,[⟨0,bl,(Y.bw (mI (k:Int) bl)).b⟩]⟩else if j=t0 then⟨t0,[⟨bl,b⟩],1,[]⟩else jB j:=λj _ _ hj=>by
  rw[cv,DT (r:=(k:Int)) (t:=t1) (dr Y (mI (k:Int) bl)).2.2.1 E oM l ⟨by rw[(dr Y (mI (k:Int) bl)).1];exact(show(5:Int)<=6 by decide),by rw[(dr Y (mI (k:Int) bl)).1];exact(show(6:Int)<=7 by decide)⟩];by_cases n:j=t1
  ·rw[iP n,iP n,p,h.ev t1 oM,iN oM]
   unfold fo;rw[show(Y.bw (mI (k:Int) bl)).d=6 from(dr Y (mI (k:Int) bl)).1,iN (show¬(6:Int)=5 by decide),iP rfl,show(Y.bw (mI (k:Int) bl)).i=bl from(dr Y (mI (k:Int) bl)).2.2.2]
   rfl
  ·rw[iN n,iN n,p,h.ev j hj]
 have x:=λj=>x j rfl oM;have a:=d.lk t1 oM ⟨0,bl,(Y.bw (mI (k:Int) bl)).b⟩ (by show _∈(aC (k:Int) t1 _).k;rw[x t1 oM,iP rfl];exact nN.2 rfl);have a:px (aC (k:Int) t1 (Y.step (mI (k:Int) bl)).ev) (ny (λt=>aC (k:Int) t (Y.step (mI (k:Int) bl)).ev) q t1) ⟨0,bl,(Y.bw (mI (k:Int) bl)).b⟩=true:=by
  by_cases hc:t1<=((Y.step (mI (k:Int) bl)).st.s.M (k:Int).toNat).ax
  ·exact a.1 hc
  ·exact a.2 oM _
 have M:=d.ks t0 oM;have M:1<=q t0:=by
  have M:(aC (k:Int) t0 (Y.step (mI (k:Int) bl)).ev).s<=(q t0:Nat):=M;rw[x t0 oM,iN oM,iP rfl]at M;have M:(1:Int)<=(q t0:Nat):=M;omega
 have z:ny (λt=>aC (k:Int) t (Y.step (mI (k:Int) bl)).ev) q t1=ti (ny (λt=>aC (k:Int) t (Y.step (mI (k:Int) bl)).ev) q t0) ⟨bl,b⟩:=by
  have Z:ny (λt=>aC (k:Int) t (Y.step (mI (k:Int) bl)).ev) q t1=Bi (λt=>aC (k:Int) t (Y.step (mI (k:Int) bl)).ev) q t0:=by
   unfold ny Bi;have:=Cl (S:=λt=>aC (k:Int) t (Y.step (mI (k:Int) bl)).ev) (k:=q) t0.toNat ((t1-1).toNat-t0.toNat) (λt ha B=>by
    show(aC (k:Int) t _).p=[];rw[x t oM,iN oM,iN oM]
    rfl)
   rwa[show t0.toNat+((t1-1).toNat-t0.toNat)=(t1-1).toNat by omega]at this
  rw[Z,yy _ _ oM];show jG _ ((aC (k:Int) t0 _).p.take (q t0))=_;rw[x t0 oM,iN oM,iP rfl];show jG _ ([(⟨bl,b⟩:gZ)].take (q t0))=_;rw[oJ (by simpa using M)]
  rfl
 rw[z,x t1 oM,iP rfl]at a;unfold px at a;have a:=of_decide_eq_true a;have a:NE (ti (ny (λt=>aC (k:Int) t (Y.step (mI (k:Int) bl)).ev) q t0) ⟨bl,b⟩) bl=(Y.bw (mI (k:Int) bl)).b:=a;rw[<-a];unfold NE ti;rw[iP oM,iP (show 0<=bl/\bl<4 from V)];exact aT _ _ _
end
section
open Go.Shelf
section
variable {P:Program} {ops:Array Oper} {rest:List Oper} {o:Oper} {a:Act} {Q:Exit->Act->World->Prop} {w O:World} {v:Value}
theorem tR(A:o.guard=none)(t:TypeId)(M:Nat)(C:Operand)(J:Value)(q:o.op= .build t #[(M,C)])(S:a.eval C=J)
 (d:(Instr.build t #[(M,J)]).run P w= .ok v O) (h:wpList P ops Q rest (a.put o.dst v) O):wpList P ops Q (o::rest) a w:=by
 refine wpList_plain A λK N=> ?_;unfold Oper.wp execOp;simp only[q,S,CB,nG,zF,Sem.run_bind,Sem.run_pure,Result.andThen_ok,d];exact N _ _ h
theorem Ms(A:o.guard=none)(t:TypeId)(M G j:Nat)(C D r:Operand)(J x b:Value)(q:o.op= .build t #[(M,C),(G,D),(j,r)])(S:a.eval C=J)(u:a.eval D=x)(Y:a.eval r=b)
 (d:(Instr.build t #[(M,J),(G,x),(j,b)]).run P w= .ok v O) (h:wpList P ops Q rest (a.put o.dst v) O):wpList P ops Q (o::rest) a w:=by
 refine wpList_plain A λK N=> ?_;unfold Oper.wp execOp;simp only[q,S,u,Y,CB,nG,zF,Sem.run_bind,Sem.run_pure,Result.andThen_ok,d];exact N _ _ h
theorem BN(A:o.guard=none)(t:TypeId)(M G j i:Nat)(C D r S:Operand)(J x b k:Value)(q:o.op= .build t #[(M,C),(G,D),(j,r),(i,S)])(B:a.eval C=J)(u:a.eval D=x)(Y:a.eval r=b)(d:a.eval S=k)
 (T:(Instr.build t #[(M,J),(G,x),(j,b),(i,k)]).run P w= .ok v O) (h:wpList P ops Q rest (a.put o.dst v) O):wpList P ops Q (o::rest) a w:=by
 refine wpList_plain A λK N=> ?_;unfold Oper.wp execOp;simp only[q,B,u,Y,d,CB,nG,zF,Sem.run_bind,Sem.run_pure,Result.andThen_ok,T];exact N _ _ h
end
theorem CW(d:Int)(w:World):(Instr.build 30 #[(0,iI d)]).run prog w= .ok (.agg (dW ⟨d,0,0,0,0,[],[]⟩ sN sN)) w:=kR
theorem Pf(d c:Int)(w:World):(Instr.build 30 #[(0,iI d),(1,iI c)]).run prog w= .ok (.agg (dW ⟨d,c,0,0,0,[],[]⟩ sN sN)) w:=kR
theorem Gy(d r:Int)(w:World):(Instr.build 30 #[(0,iI d),(2,iI r)]).run prog w= .ok (.agg (dW ⟨d,0,r,0,0,[],[]⟩ sN sN)) w:=kR
theorem MF(d c r:Int)(w:World):(Instr.build 30 #[(0,iI d),(1,iI c),(2,iI r)]).run prog w= .ok (.agg (dW ⟨d,c,r,0,0,[],[]⟩ sN sN)) w:=kR
theorem JZ(d c r i:Int)(w:World):(Instr.build 30 #[(0,iI d),(1,iI c),(2,iI r),(3,iI i)]).run prog w= .ok (.agg (dW ⟨d,c,r,i,0,[],[]⟩ sN sN)) w:=kR
theorem Ic(d r i:Int)(b:LI)(A:OA)(n c:Nat)(w:World):(Instr.build 30 #[(0,iI d),(2,iI r),(3,iI i),(5,.slice A n c)]).run prog w= .ok (.agg (dW ⟨d,0,r,i,0,b,[]⟩ (.slice A n c) sN)) w:=kR
theorem Qg(d:Int)(p:LI)(A:OA)(n c:Nat)(w:World):(Instr.build 30 #[(0,iI d),(6,.slice A n c)]).run prog w= .ok (.agg (dW ⟨d,0,0,0,0,[],p⟩ sN (.slice A n c))) w:=kR
theorem gW{L:List az}(u:kL I)(B:Nat)(X:WM)(o:eH)(E:OA)(t D:Nat)(J:Value)(w:World){i:Nat}{T:Int}(g:kQ X i T)(z:i<=55)(r:T<=200)(q:xY o)(K:o.b.length<=140737488355328)(F:X.ev.length<=1000)
 (h:St I w (ai .u8 (.slice E t D) o.b::ai .i64 J o.p::tQ B X::L)):
 Calls prog 10 #[pO B,.agg (dW o (.slice E t D) J)] w λe O=>∃A n c,e= .returned (.agg (fM o.d o.c o.r o.i (X.bw o).t (.slice A n c) (X.bw o).e))/\St I O (ai .u8 (.slice A n c) (X.bw o).b::tQ B (X.step o)::L):=by
 obtain⟨v,own,N,U,_⟩:=g;exact ry u B X o E t D J w (U.now z r) q K oM h
theorem St.vg{w:World}{L:List az}(h:St I w L):St I w (ai .u8 sN []::ai .i64 sN []::L):=
 (h.bH (R:=λw=>ay w .i64 sN []) (λO _=>ay.none_ O _)).bH (R:=λw=>ay w .u8 sN []) (λO _=>ay.none_ O _)
theorem Mq{M0:List az}(A:kL I)(v vb vp vl:Value)(l:List eH)(r bl:Int)(b G E:LI)(w:World)(hq:∀o∈l,LU o)(O4:Bytes b)(K2:∀x∈E,-9223372036854775808<=x/\x<=9223372036854775807)
 (h:St I w (aG 7 iH v l::ai .u8 vb b::ai .i64 vp G::ai .i64 vl E::M0)):
 Rt I w 4 #[v,iI r,iI bl,vb,vp,vl] (.bool true) M0:=by
 obtain⟨N2,c,rfl,hc,hm⟩:=(h.eM 0 rfl).slice;obtain⟨AB,cb,rfl,M5,N5⟩:=ay.DL (show ay w .u8 vb b from h.get 1 rfl);obtain⟨AP,cp,rfl,P5,Q5⟩:=ay.DL (show ay w .i64 vp G from h.get 2 rfl);obtain⟨AL,cl,rfl,O0,O5⟩:=ay.DL (show ay w .i64 vl E from h.get 3 rfl);obtain⟨n,hn⟩:=nM (l.length);obtain⟨y,P0⟩:∃n,n=b.length:=⟨_,rfl⟩;obtain⟨np,L2⟩:∃n,n=G.length:=⟨_,rfl⟩;obtain⟨a,Q0⟩:∃n,n=E.length:=⟨_,rfl⟩;refine iG hn P0 Q0 λHN H5 N3=>?_;rw[<-hn,<-P0,<-L2,<-Q0]at h;rw[<-hn,<-P0,<-L2,<-Q0];refine bq hq O4 λHQ T0=>?_
 refine bq K2 h λG5 H=>?_;clear h hq hn hc hm Q0 P0 L2 M5 P5 O0 N5 Q5 O5 K2 O4
 by_cases c1:n<=30
 case neg=>
  have i1:(30:Int)<(n:Int):=oM
  exact ac3
 have i1:¬(30:Int)<(n:Int):=oM
 by_cases c2:¬r<0
 case neg=>
  have i2:r<0:=oM
  have d2:decide (r<0)=true:=dZ i2
  exact ac3
 have i2:¬r<0:=oM
 have d2:decide (r<0)=false:=dQ i2;by_cases c3:¬r>3
 case neg=>
  have i3:r>3:=oM
  have d3:decide (r>3)=true:=dZ i3
  exact ac3
 have i3:¬r>3:=oM
 have d3:decide (r>3)=false:=dQ i3;by_cases c4:¬bl<0
 case neg=>
  have i4:bl<0:=oM
  have d4:decide (bl<0)=true:=dZ i4
  exact ac3
 have i4:¬bl<0:=oM
 have d4:decide (bl<0)=false:=dQ i4;by_cases c5:¬bl>3
 case neg=>
  have i5:bl>3:=oM
  have d5:decide (bl>3)=true:=dZ i5
  exact ac3
 have i5:¬bl>3:=oM
 have d5:decide (bl>3)=false:=dQ i5;by_cases c6:y<=23
 case neg=>
  have i6:(23:Int)<(y:Int):=oM
  exact ac3
 have i6:¬(23:Int)<(y:Int):=oM
 by_cases c7:a<=10
 case neg=>
  have i7:(10:Int)<(a:Int):=oM
  exact ac3
 have i7:¬(10:Int)<(a:Int):=oM
 go_enter func4,ntmps4
 go_wp2_with fail
 refine qH (ei A _ H) λT F=>?_;clear H
 go_wp2_with fail
 refine(gC A _ F).mono ?_;rintro e S⟨B,rfl,h⟩;have N:=aa h;clear h F
 go_wp2_with fail
 go_loopg [15] n (λgh iv wr=>∃(k:Nat) (p:WM) (T1:Int),gh=n-k/\k<=n/\iv= iI (k:Nat)/\kQ p k T1/\T1<=1+(k:Int)/\p.ev.length=k/\St I wr (tQ B p::aG 7 iH (.slice N2 n c) l::ai .u8 (.slice AB y cb) b::ai .i64 (.slice AP np cp) G::ai .i64 (.slice AL a cl) E::M0))
 case atStart=>exact⟨0,vq,1,rfl,oM,rfl,kQ.new,oM,rfl,N⟩
 case round=>
  clear N;obtain⟨k,p,T1,H0,hk,rfl,T4,I4,G0,h⟩:=hrel;have d:=aa (And.intro H0 (And.intro T4 (And.intro I4 G0)));clear H0 T4 I4 G0;by_cases K2:k<n
  ·have R:=g7 (l:=l) (i:=k) acd
   generalize l[k]' acd=o at R;obtain⟨ad,A0,n0,c0,B0,m0,k0,rfl,S5,O0,K⟩:=(h.fi 1).Zw R;obtain⟨x0,x1,x2,x3,x4,x5,x6⟩:=Du O0;refine bq (HQ o (qP R)) (K.pk 4 [0,1,3,2]) λHO J=>?_;clear h K O0 R S5 hk;by_cases hN:o.n>1073741824
   ·go_wp2_with fail
    go_ret
    exact⟨rfl,J.tail.tail.tail.tail.tail.tail.tail⟩
   have O3:=aa (Jc HO hN)
   go_wp2_with fail
   refine(gW A B p o A0 n0 c0 (.slice B0 m0 k0) _ d.2.1 oM acE O3 HO.2.1 (by rw[d.out.2.2.2];omega) J).mono ?_;rintro e w3⟨A3,n3,c3,rfl,h⟩;have R4:=(d.2.1.step (o:=o) (T1:=T1+1) oM acE O3 oM (λ_=>cO _)).1;have E0:=aa (And.intro R4 (show(p.step o).ev.length=k+1 by rw[cv,dB,d.out.2.2.2];rfl));have H4:=aa (h.pk 1 []);clear h J R4 hN x0 x1 x2 x3 x4 x5 x6
   go_wp2_with fail
   go_roundg (n-(k+1))
   case measure=>have:=d.1;omega
   case rel=>exact⟨k+1,p.step o,T1+1,rfl,oM,by go_num,E0.1,by have:=d.2.2.1;omega,E0.2,H4⟩
  ·obtain rfl:n=k:=oM
   have G0:=d.2.2.2;have F4:=d.2.1;have G4:=d.2.2.1;refine nK F4 G4 G0 h λD0 q J0 J=>?_;clear h hk G0 F4 G4 d;have D0:Hid (kQ p (n+0) (T1+0)):=aa (by simpa using D0.out);have J0:Hid (p.ev.length=n+0):=aa (by rw[J0.out];rfl)
   go_wp2_with ((with_reducible apply tR (t:=30));iterate 3 (focus rfl);(focus exact CW _ _))
   refine(gW A B p (oC []) none 0 0 sN _ D0 oM abM xA9 (iD _) (by rw[J0.out];omega) ((J.vg).pk 0 [])).mono ?_;rintro e v1⟨A1,n1,c1,rfl,h⟩;obtain⟨X1,J1⟩:∃Z,Z=p.step (oC []):=⟨_,rfl⟩;rw[<-J1]at h;have V0:=aa J1;clear J1;have Q3:Hid (kQ X1 (n+1) (T1+1)):=aa (by rw[V0.out];exact(D0.step oM abM (o:=oC []) (T1:=T1+1) xA9 oM (λe=>by first|omega|exact absurd e dC|exact absurd e (show¬((oC []:eH)).d=11 by show¬(11:Int)=11;decide))).1);have B3:Hid (X1.ev.length=n+1):=aa (by rw[V0.out,cv,dB,J0.out];rfl);have O2:=aa (h.pk 1 []);clear h J
   go_wp2_with ((with_reducible apply tR (t:=30));iterate 3 (focus rfl);(focus exact CW _ _))
   refine(gW A B X1 (xV 0) none 0 0 sN _ Q3 oM abM xA9 (iD _) (by rw[B3.out];omega) ((O2.vg).pk 0 [])).mono ?_;rintro e v2⟨A2,n2,c2,rfl,h⟩;obtain⟨X2,O1⟩:∃Z,Z=X1.step (xV 0):=⟨_,rfl⟩;rw[<-O1]at h;have Z0:=aa O1;clear O1;have E0:Hid (kQ X2 (n+2) (T1+1)):=aa (by rw[Z0.out];exact(Q3.step oM abM (o:=xV 0) (T1:=T1+1) xA9 oM (λe=>absurd (show(9:Int)=11 from e) dC)).1);have E3:Hid (X2.ev.length=n+2):=aa (by rw[Z0.out,cv,dB,B3.out];rfl);have P2:=aa (h.pk 1 []);clear h O2
   go_wp2_with ((with_reducible apply iQ (t:=30));iterate 4 (focus rfl);(focus exact Pf _ _ _))
   refine(gW A B X2 (xV 1) none 0 0 sN _ E0 oM abM xA9 (iD _) (by rw[E3.out];omega) ((P2.vg).pk 0 [])).mono ?_;rintro e v3⟨A3,n3,c3,rfl,h⟩;obtain⟨X3,P1⟩:∃Z,Z=X2.step (xV 1):=⟨_,rfl⟩;rw[<-P1]at h;have B1:=aa P1;clear P1;have T3:Hid (kQ X3 (n+3) (T1+1)):=aa (by rw[B1.out];exact(E0.step oM abM (o:=xV 1) (T1:=T1+1) xA9 oM (λe=>absurd (show(9:Int)=11 from e) dC)).1);have F3:Hid (X3.ev.length=n+3):=aa (by rw[B1.out,cv,dB,E3.out];rfl);have Q2:=aa (h.pk 1 []);clear h P2
   go_wp2_with ((with_reducible apply iQ (t:=30));iterate 4 (focus rfl);(focus exact mV _ _ _))
   refine(gW A B X3 (oT) none 0 0 sN _ T3 oM abM xA9 (iD _) (by rw[F3.out];omega) ((Q2.vg).pk 0 [])).mono ?_;rintro e v4⟨A4,n4,c4,rfl,h⟩;obtain⟨X4,Q1⟩:∃Z,Z=X3.step (oT):=⟨_,rfl⟩;rw[<-Q1]at h;have C1:=aa Q1;clear Q1;have U3:Hid (kQ X4 (n+4) (T1+1)):=aa (by rw[C1.out];exact(T3.step oM abM (o:=oT) (T1:=T1+1) xA9 oM (λe=>absurd (show(1:Int)=11 from e) dC)).1);have G3:Hid (X4.ev.length=n+4):=aa (by rw[C1.out,cv,dB,F3.out];rfl);have R2:=aa (h.pk 1 []);clear h Q2
   go_wp2_with ((with_reducible apply iQ (t:=30));iterate 4 (focus rfl);(focus exact mV _ _ _))
   refine(gW A B X4 (oT) none 0 0 sN _ U3 oM abM xA9 (iD _) (by rw[G3.out];omega) ((R2.vg).pk 0 [])).mono ?_;rintro e v5⟨A5,n5,c5,rfl,h⟩;obtain⟨u,R1⟩:∃Z,Z=X4.step (oT):=⟨_,rfl⟩;rw[<-R1]at h;have D1:=aa R1;clear R1;have V3:Hid (kQ u (n+5) (T1+1)):=aa (by rw[D1.out];exact(U3.step oM abM (o:=oT) (T1:=T1+1) xA9 oM (λe=>absurd (show(1:Int)=11 from e) dC)).1);have I3:Hid (u.ev.length=n+5):=aa (by rw[D1.out,cv,dB,G3.out];rfl);have S2:=aa (h.pk 1 []);clear h R2;have hA:qA u (n+5) (T1+1)/\(u.c 0).a9=false:=by rw[D1.out,C1.out,B1.out,Z0.out,V0.out];exact WT (by simpa using D0.out) oM abM
   have HA:=aa hA;clear hA
   go_wp2_with fail
   refine(wS B u _ HA.1.l.1 S2).mono ?_;rintro e w9⟨gi,D6,rfl,h,hb⟩;have Z2:=aa (hb _ _ h);clear h hb S2
   go_wp2_with ((with_reducible apply iQ (t:=30));iterate 4 (focus rfl);(focus exact Gy _ _ _))
   refine(gW A B u (iO 0 r) none 0 0 sN _ V3 oM abM xA9 (iD _) (by rw[I3.out];omega) ((Z2.vg).pk 0 [])).mono ?_;rintro e v6⟨A6,n6,c6,rfl,h⟩;obtain⟨C,S1⟩:∃Z,Z=u.step (iO 0 r):=⟨_,rfl⟩;rw[<-S1]at h;have L0:=aa S1;clear S1;have W3:Hid (kQ C (n+6) (T1+1)):=aa (by rw[L0.out];exact(V3.step oM abM (o:=iO 0 r) (T1:=T1+1) xA9 oM (λe=>absurd (show(3:Int)=11 from e) dC)).1);have J3:Hid (C.ev.length=n+6):=aa (by rw[L0.out,cv,dB,I3.out];rfl);have K:=h.alloc 34 (fM (iO 0 r).d (iO 0 r).c (iO 0 r).r (iO 0 r).i (u.bw (iO 0 r)).t (.slice A6 n6 c6) (u.bw (iO 0 r)).e);obtain⟨g1,G2⟩:∃g,g=v6.heap.size:=⟨_,rfl⟩;rw[<-G2]at K;refine bq G2 (K.pk 3 [2,0]) λD5 T2=>?_;clear h K Z2 G2
   go_wp2_with ((with_reducible apply BN (t:=30));iterate 6 (focus rfl);(focus exact Ic _ _ _ b _ _ _ _))
   refine(gW A B C (oW r bl b) AB y cb sN _ W3 oM abM (bL _ _ _ _ _ _ _ T0 dC dC) (by show b.length<=_;have:=H5.out;omega) (by rw[J3.out];omega) (((T2.jd (Q:=λw=>ay w .u8 (.slice AB y cb) b)).vg).pk 3 [2,1])).mono ?_;rintro e v7⟨A7,n7,c7,rfl,h⟩;obtain⟨X,U1⟩:∃Z,Z=C.step (oW r bl b):=⟨_,rfl⟩;rw[<-U1]at h;have E1:=aa U1;clear U1;have Y3:Hid (kQ X (n+7) (T1+1)):=aa (by rw[E1.out];exact(W3.step oM abM (o:=oW r bl b) (T1:=T1+1) (bL _ _ _ _ _ _ _ T0 dC dC) oM (λe=>absurd (show(5:Int)=11 from e) dC)).1);have K3:Hid (X.ev.length=n+7):=aa (by rw[E1.out,cv,dB,J3.out];rfl);have K:=h.alloc 34 (fM (oW r bl b).d (oW r bl b).c (oW r bl b).r (oW r bl b).i (C.bw (oW r bl b)).t (.slice A7 n7 c7) (C.bw (oW r bl b)).e);obtain⟨g2,I2⟩:∃g,g=v7.heap.size:=⟨_,rfl⟩;rw[<-I2]at K;refine bq I2 (K.pk 3 [2,0]) λE5 U2=>?_;clear h K T2 I2
   go_wp2_with ((with_reducible apply iQ (t:=30));iterate 4 (focus rfl);(focus exact Gy _ _ _))
   refine(gW A B X (tT r) none 0 0 sN _ Y3 oM abM xA9 (iD _) (by rw[K3.out];omega) ((U2.vg).pk 0 [])).mono ?_;rintro e v8⟨A8,n8,c8,rfl,h⟩;obtain⟨X8,V1⟩:∃Z,Z=X.step (tT r):=⟨_,rfl⟩;rw[<-V1]at h;have F1:=aa V1;clear V1;have Z3:Hid (kQ X8 (n+8) (T1+1)):=aa (by rw[F1.out];exact(Y3.step oM abM (o:=tT r) (T1:=T1+1) xA9 oM (λe=>absurd (show(7:Int)=11 from e) dC)).1);have L3:Hid (X8.ev.length=n+8):=aa (by rw[F1.out,cv,dB,K3.out];rfl);have K:=h.alloc 34 (fM (tT r).d (tT r).c (tT r).r (tT r).i (X.bw (tT r)).t (.slice A8 n8 c8) (X.bw (tT r)).e);obtain⟨g3,J2⟩:∃g,g=v8.heap.size:=⟨_,rfl⟩;rw[<-J2]at K;refine bq J2 (K.pk 3 [2,0]) λF5 z=>?_;clear h K U2 J2
   go_upto_region 21 with fail
   rw[<-F5.out,<-E5.out,<-D5.out];generalize v8.alloc (.cells (fM (tT r).d (tT r).c (tT r).r (tT r).i (X.bw (tT r)).t (.slice A8 n8 c8) (X.bw (tT r)).e) 34)=W8 at z⊢;have q1:W8.cell? (aD g1 6)=some (iI (u.bw (iO 0 r)).e):=(z.ah 3 rfl).cell 6;have q2:W8.cell? (aD g2 6)=some (iI (C.bw (oW r bl b)).e):=(z.ah 2 rfl).cell 6;have q3:W8.cell? (aD g3 6)=some (iI (X.bw (tT r)).e):=(z.ah 1 rfl).cell 6;obtain⟨e1,Z1⟩:∃e,e=(u.bw (iO 0 r)).e:=⟨_,rfl⟩;obtain⟨e2,B2⟩:∃e,e=(C.bw (oW r bl b)).e:=⟨_,rfl⟩;obtain⟨e3,C2⟩:∃e,e=(X.bw (tT r)).e:=⟨_,rfl⟩;have Q4:e1=0->e2=0->e3=0/\jh X8 (n+5+3) (T1+1) r bl b u.sv.be.last (u.bw (iO 0 r)).t:=λP O=>by
    have:=Ey HA.1 oM abM HA.2 T0 (r:=r) (bl:=bl) (Z1.symm.trans P) (by rw[<-L0.out];exact B2.symm.trans O);rw[<-L0.out,<-E1.out,<-F1.out]at this;exact⟨C2.trans this.1,this.2⟩
   rw[<-Z1]at q1;rw[<-B2]at q2;rw[<-C2]at q3;have HF:=aa Q4;clear Q4 Z1 B2 C2;by_cases P:e1=0
   case neg=>
    have d1:(e1 !=0)=true:=bne_iff_ne.2 P;clear P
    exact aeu
   have d1:(e1 !=0)=false:=by rw[P];rfl
   by_cases O:e2=0
   case neg=>
    have d2:(e2 !=0)=true:=bne_iff_ne.2 O;clear P O
    exact aeu
   have d2:(e2 !=0)=false:=by rw[O];rfl
   obtain⟨U4,M4⟩:=HF.out P O;have d3:(e3 !=0)=false:=by rw[U4];rfl
   have I5:=aa M4;clear U4 M4 P O HF
   go_wp2_with ((with_reducible apply tR (t:=30));iterate 3 (focus rfl);(focus exact CW _ _))
   refine(gW A B X8 (xV 0) none 0 0 sN _ Z3 oM abM xA9 (iD _) (by rw[L3.out];omega) ((z.vg).pk 5 [0,1,2])).mono ?_;rintro e v9⟨A9,n9,c9,rfl,h⟩;obtain⟨U,W1⟩:∃Z,Z=X8.step (xV 0):=⟨_,rfl⟩;rw[<-W1]at h;have G1:=aa W1;clear W1;have B4:Hid (kQ U (n+9) (T1+1)):=aa (by rw[G1.out];exact(Z3.step oM abM (o:=xV 0) (T1:=T1+1) xA9 oM (λe=>absurd (show(9:Int)=11 from e) dC)).1);have M3:Hid (U.ev.length=n+9):=aa (by rw[G1.out,cv,dB,L3.out];rfl);have V2:=aa (h.pk 1 []);clear h z
   go_wp2_with ((with_reducible apply iQ (t:=30));iterate 4 (focus rfl);(focus exact Qg _ G _ _ _ _))
   refine(gW A B U (oC G) none 0 0 (.slice AP np cp) _ B4 oM abM xA9 (iD _) (by rw[M3.out];omega) (((V2.jd (Q:=λw=>ay w .i64 (.slice AP np cp) G)).vg).pk 2 [0])).mono ?_;rintro e v10⟨R0,M2,I1,rfl,h⟩;obtain⟨N0,K1⟩:∃Z,Z=U.step (oC G):=⟨_,rfl⟩;rw[<-K1]at h;have W0:=aa K1;clear K1;have U0:Hid (kQ N0 (n+10) (T1+2)):=aa (by rw[W0.out];exact(B4.step oM abM (o:=oC G) (T1:=T1+2) xA9 oM (λe=>by first|omega|exact absurd e dC|exact absurd e (show¬((oC G:eH)).d=11 by show¬(11:Int)=11;decide))).1);have K0:Hid (N0.ev.length=n+10):=aa (by rw[W0.out,cv,dB,M3.out];rfl);have K:=h.alloc 34 (fM (oC G).d (oC G).c (oC G).r (oC G).i (U.bw (oC G)).t (.slice R0 M2 I1) (U.bw (oC G)).e);obtain⟨g4,D2⟩:∃g,g=v10.heap.size:=⟨_,rfl⟩;rw[<-D2]at K;refine bq D2 (K.pk 3 [2,0]) λZ4 S0=>?_;clear h K V2 D2;have N4:jh U (n+5+3+1) (T1+1) r bl b u.sv.be.last (u.bw (iO 0 r)).t:=by rw[G1.out];exact I5.die oM abM
   have K4:jh N0 (n+5+3+1+1) (T1+1+1) r bl b u.sv.be.last (u.bw (iO 0 r)).t:=by rw[W0.out];exact N4.br oM abM G
   have D4:=aa K4;clear N4 K4 d1 d2 d3 q1 q2 q3
   go_upto_region 27 with fail
   rw[<-Z4.out];generalize v10.alloc (.cells (fM (oC G).d (oC G).c (oC G).r (oC G).i (U.bw (oC G)).t (.slice R0 M2 I1) (U.bw (oC G)).e) 34)=W10 at S0⊢
   go_wp2_with fail
   go_loopg [20] a (λgh iv wr=>∃(j:Nat) (Y:WM),gh=a-j/\j<=a/\iv= iI (j:Nat)/\jh Y (n+10+j) (T1+2) r bl b u.sv.be.last (u.bw (iO 0 r)).t/\Y.ev.length=n+10+j/\St I wr (tQ B Y::ab g4 34 (fM (oC G).d (oC G).c (oC G).r (oC G).i (U.bw (oC G)).t (.slice R0 M2 I1) (U.bw (oC G)).e)::ab g1 34 (fM (iO 0 r).d (iO 0 r).c (iO 0 r).r (iO 0 r).i (u.bw (iO 0 r)).t (.slice A6 n6 c6) (u.bw (iO 0 r)).e)::aG 7 iH (.slice N2 n c) l::ai .u8 (.slice AB y cb) b::ai .i64 (.slice AP np cp) G::ai .i64 (.slice AL a cl) E::M0))
   case atStart=>exact⟨0,N0,rfl,oM,rfl,by have h:=D4.out;rw[show n+10+0=n+5+3+1+1 by omega,show T1+2=T1+1+1 by omega];exact h,K0,S0⟩
   case round=>
    clear S0 D4;obtain⟨j,Y,H0,hj,rfl,hY,J4,h⟩:=hrel;have D:=aa (And.intro H0 (And.intro hY J4));clear H0 hY J4;by_cases G6:j<a
    ·have R:=g7 (l:=E) (i:=j) (by have:=N3.out;omega)
     generalize E[j]'(by have:=N3.out;omega)=x at R;obtain⟨bd,rfl,Y1⟩:=(h.qq (Q:=λw=>ay w .i64 (.slice AL a cl) E)).atW R;have HX:=aa (G5 x (qP R));have Y1:wr.cell? (bd.add j)=some (iI x):=Y1;have j0:(0:Int)<=(j:Int):=oM
     have j1:(j:Int)<(a:Int):=oM
     have H6:=aa (h.vg.pk 0 []);clear h R hj
     go_wp2_with ((with_reducible apply iQ (t:=30));iterate 4 (focus rfl);(focus exact mV _ _ _))
     refine(gW A B Y (fG x) none 0 0 sN _ D.2.1.w.r oM abM ⟨bQ,HX.1,λh=>absurd rfl h⟩ (iD _) (by rw[D.out.2.2];omega) H6).mono ?_;rintro e v20⟨Z5,J6,F6,rfl,h⟩;have H7:=aa (h.pk 1 []);clear h H6 Y1
     go_wp2_with fail
     go_roundg (a-(j+1))
     case measure=>have:=D.1;omega
     case rel=>exact⟨j+1,Y.step (fG x),rfl,oM,by go_num,D.2.1.late oM abM x HX.1,by rw[cv,dB,D.out.2.2];rfl,H7⟩
    ·obtain rfl:a=j:=oM
     have U0:Hid (kQ Y ((n+a)+10) (T1+2)):=aa (by have h:=D.2.1.w.r;rwa[show n+10+a=(n+a)+10 by omega]at h);have K0:Hid (Y.ev.length=(n+a)+10):=aa (by have:=D.2.2;omega);refine bq D.2.1 h λJ5 J=>?_;clear h hj D
     go_wp2_with ((with_reducible apply iQ (t:=30));iterate 4 (focus rfl);(focus exact mV _ _ _))
     refine(gW A B Y (oT) none 0 0 sN _ U0 oM abM xA9 (iD _) (by rw[K0.out];omega) ((J.vg).pk 0 [])).mono ?_;rintro e v11⟨Y5,I6,E6,rfl,h⟩;obtain⟨W,L1⟩:∃Z,Z=Y.step (oT):=⟨_,rfl⟩;rw[<-L1]at h;have X0:=aa L1;clear L1;have R3:Hid (kQ W ((n+a)+11) (T1+2)):=aa (by rw[X0.out];exact(U0.step oM abM (o:=oT) (T1:=T1+2) xA9 oM (λe=>absurd (show(1:Int)=11 from e) dC)).1);have C3:Hid (W.ev.length=(n+a)+11):=aa (by rw[X0.out,cv,dB,K0.out];rfl);have W2:=aa (h.pk 1 []);clear h J
     go_wp2_with ((with_reducible apply Ms (t:=30));iterate 5 (focus rfl);(focus exact MF _ _ _ _))
     refine(gW A B W (iO 1 r) none 0 0 sN _ R3 oM abM xA9 (iD _) (by rw[C3.out];omega) ((W2.vg).pk 0 [])).mono ?_;rintro e V5⟨Y4,T5,K5,rfl,h⟩;obtain⟨M,M1⟩:∃Z,Z=W.step (iO 1 r):=⟨_,rfl⟩;rw[<-M1]at h;have Y0:=aa M1;clear M1;have S3:Hid (kQ M ((n+a)+12) (T1+2)):=aa (by rw[Y0.out];exact(R3.step oM abM (o:=iO 1 r) (T1:=T1+2) xA9 oM (λe=>absurd (show(3:Int)=11 from e) dC)).1);have D3:Hid (M.ev.length=(n+a)+12):=aa (by rw[Y0.out,cv,dB,C3.out];rfl);have K:=h.alloc 34 (fM (iO 1 r).d (iO 1 r).c (iO 1 r).r (iO 1 r).i (W.bw (iO 1 r)).t (.slice Y4 T5 K5) (W.bw (iO 1 r)).e);obtain⟨g5,E2⟩:∃g,g=V5.heap.size:=⟨_,rfl⟩;rw[<-E2]at K;refine bq E2 (K.pk 3 [2,0]) λB5 Y2=>?_;clear h K W2 E2
     go_wp2_with ((with_reducible apply BN (t:=30));iterate 6 (focus rfl);(focus exact JZ _ _ _ _ _))
     refine(gW A B M (mI r bl) none 0 0 sN _ S3 oM abM xA9 (iD _) (by rw[D3.out];omega) ((Y2.vg).pk 0 [])).mono ?_;rintro e V4⟨C0,I0,F0,rfl,h⟩;obtain⟨E4,N1⟩:∃Z,Z=M.step (mI r bl):=⟨_,rfl⟩;rw[<-N1]at h;have C4:=aa N1;clear N1;have C6:Hid (kQ E4 ((n+a)+13) (T1+2)):=aa (by rw[C4.out];exact(S3.step oM abM (o:=mI r bl) (T1:=T1+2) xA9 oM (λe=>absurd (show(6:Int)=11 from e) dC)).1);have B6:Hid (E4.ev.length=(n+a)+13):=aa (by rw[C4.out,cv,dB,D3.out];rfl);have K:=h.alloc 34 (fM (mI r bl).d (mI r bl).c (mI r bl).r (mI r bl).i (M.bw (mI r bl)).t (.slice C0 I0 F0) (M.bw (mI r bl)).e);obtain⟨g6,F2⟩:∃g,g=V4.heap.size:=⟨_,rfl⟩;rw[<-F2]at K;refine bq F2 (K.pk 3 [2,0,1]) λC5 V=>?_;clear h K Y2 F2
     go_upto_region 34 with fail
     rw[<-C5.out,<-B5.out];generalize V4.alloc (.cells (fM (mI r bl).d (mI r bl).c (mI r bl).r (mI r bl).i (M.bw (mI r bl)).t (.slice C0 I0 F0) (M.bw (mI r bl)).e) 34)=W13 at V⊢;have L4:jh W (n+10+a+1) (T1+2) r bl b u.sv.be.last (u.bw (iO 0 r)).t:=by rw[X0.out];exact J5.time oM abM
     have q1:W13.cell? (aD g1 4)=some (iU (u.bw (iO 0 r)).t):=(V.ah 5 rfl).cell 4;have q4:W13.cell? (aD g4 6)=some (iI (U.bw (oC G)).e):=(V.ah 4 rfl).cell 6;have q5:W13.cell? (aD g5 6)=some (iI (W.bw (iO 1 r)).e):=(V.ah 3 rfl).cell 6;have U5:W13.cell? (aD g5 4)=some (iU (W.bw (iO 1 r)).t):=(V.ah 3 rfl).cell 4;have q6:W13.cell? (aD g6 6)=some (iI (M.bw (mI r bl)).e):=(V.ah 1 rfl).cell 6;have L6:W13.cell? (aD g6 5)=some (.slice C0 I0 F0):=(V.ah 1 rfl).cell 5;have L:=λ(W5:(W.bw (iO 1 r)).e=0)=>Ip L4 oM abM (bl:=bl) ⟨oM,oM⟩ W5;rw[<-Y0.out]at L;have e4:(U.bw (oC G)).e=0:=(sO G).2.2;rw[e4]at q4;generalize(u.bw (iO 0 r)).t=t0 at q1 L;generalize(W.bw (iO 1 r)).t=t1 at U5 L;generalize(W.bw (iO 1 r)).e=e5 at q5 L;generalize(M.bw (mI r bl)).e=e6 at q6 L;have P3:=aa L;clear L L4 e4;by_cases z5:e5=0
     case neg=>
      have L5:(e5 !=0)=true:=bne_iff_ne.2 z5;clear z5
      exact ael
     have L5:(e5 !=0)=false:=by rw[z5];rfl
     by_cases z6:e6=110
     case pos=>
      have d6:(e6==110)=true:=by rw[z6];rfl
      clear z5 z6
      exact ael
     have d6:(e6==110)=false:=jM z6;obtain⟨R5,S4⟩:=P3.out z5;obtain⟨W4,P4⟩:=S4 z6;have d7:decide (t1>t0)=true:=decide_eq_true (by omega);have d8:(e6==0)=true:=by rw[W4];rfl
     have HD:=aa P4;clear z5 z6 W4 R5 S4 P4 P3
     go_wp2_with fail
     refine(IX (.slice C0 I0 F0) (.slice AB y cb) (M.bw (mI r bl)).b b _ (V.qq (Q:=λw=>ay w .u8 (.slice C0 I0 F0) (M.bw (mI r bl)).b)) (V.qq (Q:=λw=>ay w .u8 (.slice AB y cb) b))).mono ?_;rintro e M6⟨rfl,K6,rfl⟩;have d9:decide ((M.bw (mI r bl)).b=b)=true:=dZ HD
     go_wp2_with fail
     go_ret
     exact⟨(by first|rfl|(simp[d9])),(V.drewN _).tail.tail.tail.tail.tail.tail.tail.tail.tail.tail⟩
end
section
open Go.ChangeAt Go.ChangeShapes Go.Deep Go.WideShapes
theorem wU(os:Os)(a:os.Started)(H:Type)(enc:TypeId×Value->H):
 ReturnsInHanded {} Tryz.checked os 4 .any (λw args=>(Rows.worldSureSpec.pre enc prog Tryz.f4 Rows.worldSureRow.domain false w args/\laidMet prog Rows.worldSureRow.laid w)/\sizedMet enc prog Tryz.f4 (OpenSpec.ofChange Rows.worldSureSpec) false w args)
  (Rows.worldSureSpec.post enc prog Tryz.f4 false true false false):=by
 refine wW a kR func4 kR rfl underlying4 rfl ?_
  (ChangeSpec.witness_at (enc:=enc) (C:=Tryz.checked) (os:=os) (X:=λw _=>laidMet prog Rows.worldSureRow.laid w) false (World.laidAll prog os Rows.worldSureRow.laid) #[sN,iI 0,iI 0,sN,sN,sN] 8 (World.laidAll_os _ _ _) kR kR kR kR kR (laidMet_laidAll _ kR kR)) ?_
 ·intro n h
  match n,h with
  |[_,_,_,_,_,_],_=>rfl
 intro W base args n T F o J0 E g;rw[params4]at F;have o:DataW.TrodAll enc prog W 0 (λ_=>true) true Tryz.f4.params.toList args.toList n T:=o;rw[params4]at o;obtain⟨q,K0,d0,B0,p0,q0,I0,rfl,rfl,K,Q⟩:=trodAll_cons o;obtain⟨u,L0,d1,C0,p1,q1,rfl,rfl,rfl,Z,i⟩:=trodAll_cons Q;obtain⟨y,M0,d2,D0,p2,q2,rfl,rfl,rfl,J,D⟩:=trodAll_cons i;obtain⟨V,N0,d3,E0,p3,q3,rfl,rfl,rfl,M,O⟩:=trodAll_cons D;obtain⟨P,O0,d4,F0,p4,q4,rfl,rfl,rfl,S,I⟩:=trodAll_cons O;obtain⟨z,P0,d5,G0,p5,q5,rfl,rfl,rfl,t,c⟩:=trodAll_cons I;obtain⟨rfl,rfl,rfl⟩:=trodAll_nil c;obtain rfl:args= #[q,u,y,V,P,z]:=by cases args;simp_all
 rw[params4]at E;simp only[DataW.weightsEach,XG,mf]at E;obtain⟨l,A0,d,U⟩:=vS (F 0 22 q rfl rfl) K E.1;obtain⟨r,rfl,rfl,rfl,_⟩:=open_int underlying3 (F 1 3 u rfl rfl) Z;obtain⟨j,rfl,rfl,rfl,_⟩:=open_int underlying3 (F 2 3 y rfl rfl) J;obtain⟨b,k,A⟩:=x9 underlying27 underlying5 kR (F 3 27 V rfl rfl) M;obtain⟨G,_,R⟩:=x9 underlying28 underlying3 kR (F 4 28 P rfl rfl) S;obtain⟨p,L,N⟩:=x9 underlying28 underlying3 kR (F 5 28 z rfl rfl) t;refine(Mq (Ae (q9 g)) q V P z l r j b G p W d (xp k) (λx B=>wm (L x B)) (((((St.init W).GV N).GV R).GV A).Ru U)).mono ?_;rintro H0 e⟨Y,h⟩;exact⟨Y,h.done⟩
theorem yJ:Rows.worldSureRow.holds Tryz.pinned (OpenSpec.ofChange Rows.worldSureSpec):=
 OpenClaim.holds_of_wide 4 Tryz.f4 rfl rfl rfl rfl rfl rfl rfl ⟨rfl,rfl,rfl,rfl,rfl⟩ rfl rfl rfl rfl rfl kR func4 kR
  (of_decide_eq_true kR) abR
  (λu I H a _=>wU u I H a)
theorem WorldSure_holds:Rows.WorldSureCardSaid:=
 Claim7.holds_tied_plain_at .later [] [.data] true (true, "29b42cd94584fd114e4f1010933af93af63949972e10cfd92949e99ad9b520f4") true
  yJ (λ_ h=>by cases h) kR (λ_ h=>by cases h) worldSure_row_tie rfl ⟨rfl,rfl⟩ kR rfl
  (λf r a y=>by
   obtain rfl:f=4:=ME ((show prog.funcNamed "pursuivant/pursuivantlaw27.WorldSure" =some 4 by kernel_rfl).symm.trans a)|>.symm;obtain rfl:r=Tryz.f4:=(ME (func4.symm.trans y)).symm;exact⟨kR,λj t R=>by
    rw[params4]at R;have p:t∈[22,3,3,27,28,28]:=by simpa using zcB R
    have G:([22,3,3,27,28,28].all λu=> !prog.wantsStandIn u)=true:=kR
    exact(show prog.wantsStandIn t=false by simpa using AR.1 G t p)⟩)
  kR
end
end Go.Proofs.YtblpaldggenbaaaGreatDoor
