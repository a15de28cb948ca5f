/- A part. -/
import Derived.Test.YtblpaldggenbaaaGreatDoorMb
namespace Go.Proofs.YtblpaldggenbaaaGreatDoor
open Go.RowKit Go.Proofs.Tryz
set_option maxRecDepth 100000
set_option maxHeartbeats 64000000
variable{xs:LV}{v:Value}{b:LI}
structure bh where
 c:Int
 m:Int
 t:Int
 u:Int
structure cY where
 c:Int
 m:Int
structure wz where
 h:List bh
 w:List cY
structure aH where
 now:Int
 last:Int
 r:Nat->wz
def fI(l:Int):Int:=if l>18446744073709551605 then 18446744073709551615 else l+10
def rA(m:Int)(h:bh):Bool:=(h.m==2)||(m==2)
def ua(n:Int):Bool:=decide (0<=n)&&decide (n<16)
def cB(n:Int):Bool:=decide (0<=n)&&decide (n<4)
def Bv(n:Int):Bool:=(n==1)||(n==2)
def cQ(c r:Int):Int:=if ua c=false then 31 else if cB r=false then 93 else 0
def fF(l:Int):List cY->List bh->Int->List cY×List bh×Int
 |[],V,last=>([],V,last)
 |x::B,V,last=>if V.length<4/\V.any (rA x.m)=false/\last<18446744073709551615 then fF l B (V++[⟨x.c,x.m,last+1,fI l⟩]) (last+1)else(x::B,V,last)
def aH.ff(T:aH)(i:Nat):aH:=
 ⟨T.now,(fF T.now (T.r i).w (T.r i).h T.last).2.2,aI T.r i ⟨(fF T.now (T.r i).w (T.r i).h T.last).2.1,(fF T.now (T.r i).w (T.r i).h T.last).1⟩⟩
def aH.vX(T:aH)(i:Nat)(V:List bh):aH:=⟨T.now,T.last,aI T.r i ⟨V,(T.r i).w⟩⟩
def aH.cz(T:aH)(i:Nat)(ws:List cY):aH:=⟨T.now,T.last,aI T.r i ⟨(T.r i).h,ws⟩⟩
def lG(V:List bh)(c:Int):Option bh:=V.find? (λh=>h.c==c)
def vt(B:List cY)(c:Int):Option cY:=B.find? (λw=>w.c==c)
def aH.Ar(T:aH)(c:Int)(i:Nat)(j:Int):aH×Int×Int:=
 match lG ((((T.cz i ((T.r i).w++[⟨c,j⟩])).ff i).r i).h) c with
 |some h=>((T.cz i ((T.r i).w++[⟨c,j⟩])).ff i,h.t,0)
 |none=>((T.cz i ((T.r i).w++[⟨c,j⟩])).ff i,0,90)
def aH.oB(T:aH)(c:Int)(i:Nat)(j:Int):aH×Int×Int:=
 match lG (T.r i).h c with
 |some h=>if h.m=j then(T,h.t,0)else(T,0,91)
 |none=>match vt (T.r i).w c with
  |some w=>if w.m=j then(T,0,90)else(T,0,91)
  |none=>if 4<=(T.r i).w.length\/T.last=18446744073709551615 then(T,0,42)else T.Ar c i j
def aH.acquire(T:aH)(c r j:Int):aH×Int×Int:=
 if cQ c r≠0 then(T,0,cQ c r)else if Bv j=false then(T,0,91)else T.oB c r.toNat j
def aH.gy(T:aH)(c r t:Int):Int:=
 if cQ c r≠0 then cQ c r else match lG (T.r r.toNat).h c with
 |some h=>if h.t=t then 0 else 92
 |none=>92
def xz(V:List bh)(c:Int):List bh:=V.eraseP (λh=>h.c==c)
def qE(B:List cY)(c:Int):List cY:=B.eraseP (λw=>w.c==c)
def aH.release(T:aH)(c r t:Int):aH×Int:=
 if T.gy c r t≠0 then(T,T.gy c r t)else((T.vX r.toNat (xz (T.r r.toNat).h c)).ff r.toNat,0)
def iL:List bh->Int->Int->List bh
 |[],_,_=>[]
 |h::r,c,u=>if h.c==c then⟨h.c,h.m,h.t,u⟩::r else h::iL r c u
def aH.renew(T:aH)(c r t:Int):aH×Int×Int:=
 if T.gy c r t≠0 then(T,0,T.gy c r t)else(T.vX r.toNat (iL (T.r r.toNat).h c (fI T.now)),fI T.now,0)
def aH.cancel(T:aH)(c r:Int):aH×Int:=
 if cQ c r≠0 then(T,cQ c r)else match vt (T.r r.toNat).w c with
 |some _=>((T.cz r.toNat (qE (T.r r.toNat).w c)).ff r.toNat,0)
 |none=>(T,41)
def aH.time(T:aH)(l:Int):aH:=
 if l<=T.now then T else
 ((((aH.mk l T.last (λi=>⟨(T.r i).h.filter (λh=> !decide (h.u<=l)),(T.r i).w⟩)).ff 0).ff 1).ff 2).ff 3
def aH.lp(T:aH)(r:Int):List bh:=if cB r=true then(T.r r.toNat).h else []
structure bD(T:aH):Prop where
 Bf:0<=T.now
 Ej:T.now<=18446744073709551615
 qD:0<=T.last
 uh:T.last<=18446744073709551615
 hl:∀i,i<4->(T.r i).h.length<=4
 wl:∀i,i<4->(T.r i).w.length<=4
theorem Fi(l:Int):∀(B:List cY) (V:List bh) (last:Int),0<=last->last<=18446744073709551615->V.length<=4->
 (fF l B V last).1.length<=B.length/\(fF l B V last).2.1.length<=4/\last<=(fF l B V last).2.2/\(fF l B V last).2.2<=18446744073709551615
 |[],V,last,K,Z,G=>⟨by simp[fF],G,cO _,Z⟩
 |x::B,V,last,K,Z,G=>by
  unfold fF
  split
  ·rename_i D
   obtain⟨a,b,c,d⟩:=Fi l B (V++[⟨x.c,x.m,last+1,fI l⟩]) (last+1) oM oM abS;exact⟨by simp;omega,b,oM,d⟩
  ·exact⟨io _,G,cO _,Z⟩
theorem bD.ff{T:aH}(h:bD T){i:Nat}(z:i<4):bD (T.ff i):=by
 obtain⟨a,b,c,d⟩:=Fi T.now (T.r i).w (T.r i).h T.last h.qD h.uh (h.hl i z);have M:=h.wl i z;refine⟨h.Bf,h.Ej,tU h.qD c,d,λj H=> ?_,λj H=> ?_⟩
 ·show(aI T.r i _ j).h.length<=4
  unfold aI
  split
  ·exact b
  ·exact h.hl j H
 ·show(aI T.r i _ j).w.length<=4
  unfold aI
  split
  ·exact qJ a M
  ·exact h.wl j H
theorem bD.vX{T:aH}(h:bD T){i:Nat}{V:List bh}(F:V.length<=4):bD (T.vX i V):=by
 refine⟨h.Bf,h.Ej,h.qD,h.uh,λj H=> ?_,λj H=> ?_⟩
 ·show(aI T.r i _ j).h.length<=4
  unfold aI
  split
  ·exact F
  ·exact h.hl j H
 ·show(aI T.r i _ j).w.length<=4
  unfold aI
  split
  ·rename_i e
   subst e;exact h.wl _ H
  ·exact h.wl j H
theorem bD.cz{T:aH}(h:bD T){i:Nat}{ws:List cY}(F:ws.length<=4):bD (T.cz i ws):=by
 refine⟨h.Bf,h.Ej,h.qD,h.uh,λj H=> ?_,λj H=> ?_⟩
 ·show(aI T.r i _ j).h.length<=4
  unfold aI
  split
  ·rename_i e
   subst e;exact h.hl _ H
  ·exact h.hl j H
 ·show(aI T.r i _ j).w.length<=4
  unfold aI
  split
  ·exact F
  ·exact h.wl j H
theorem j7{c r:Int}(h:cQ c r=0):0<=c/\c<16/\0<=r/\r<4:=by
 unfold cQ at h
 split at h
 ·omega
 ·rename_i Z
  split at h
  ·omega
  ·rename_i G
   unfold ua at Z;unfold cB at G;simp at Z G;omega
theorem Bb(V:List bh)(c u:Int):(iL V c u).length=V.length:=by
 induction V with
 |nil=>rfl
 |cons h r K=>
  unfold iL
  split
  ·rfl
  ·simp[K]
theorem bD.acquire{T:aH}(h:bD T)(c r j:Int):bD (T.acquire c r j).1:=by
 unfold aH.acquire
 split
 ·exact h
 ·rename_i U
  have U:=j7 (by omega:cQ c r=0)
  split
  ·exact h
  ·unfold aH.oB
   split
   ·split<;>exact h
   ·split
    ·split<;>exact h
    ·split
     ·exact h
     ·rename_i W
      have V:bD (((T.cz r.toNat ((T.r r.toNat).w++[⟨c,j⟩]))).ff r.toNat):=(h.cz abS).ff oM;unfold aH.Ar
      split<;>exact V
theorem bD.release{T:aH}(h:bD T)(c r t:Int):bD (T.release c r t).1:=by
 unfold aH.release
 split
 ·exact h
 ·rename_i Y
  have U:cQ c r=0:=by
   exact aev
  have U:=j7 U;refine(h.vX ?_).ff oM;have:=h.hl r.toNat oM;exact qJ (zcA) this
theorem bD.renew{T:aH}(h:bD T)(c r t:Int):bD (T.renew c r t).1:=by
 unfold aH.renew
 split
 ·exact h
 ·rename_i Y
  have U:cQ c r=0:=by
   exact aev
  have U:=j7 U;refine h.vX ?_;rw[Bb];exact h.hl r.toNat oM
theorem bD.cancel{T:aH}(h:bD T)(c r:Int):bD (T.cancel c r).1:=by
 unfold aH.cancel
 split
 ·exact h
 ·rename_i Y
  have U:=j7 (by omega:cQ c r=0)
  split
  ·refine(h.cz ?_).ff oM
   exact qJ (zcA) (h.wl r.toNat oM)
  ·exact h
theorem bD.time{T:aH}(h:bD T){l:Int}(Z:l<=18446744073709551615):bD (T.time l):=by
 unfold aH.time
 split
 ·exact h
 ·rename_i W
  have K:=h.Bf;have:bD (aH.mk l T.last (λi=>⟨(T.r i).h.filter (λh=> !decide (h.u<=l)),(T.r i).w⟩)):=
   ⟨by show 0<=l;omega,Z,h.qD,h.uh,λj H=>qJ (Xd _ _) (h.hl j H),λj H=>h.wl j H⟩
  exact(((this.ff oM).ff oM).ff oM).ff oM
structure DS where
 n:Nat
 seen:LI
 sure:LI
 aq:List (Nat×LI)
 gM:Int
 down:Bool
def wv(p:Nat×LI):LV:=Value.int .i64 p.1::bv p.2
def pv(l:List (Nat×LI)):LV:=l.flatMap wv
def bW(k:Nat):LI:=List.replicate k 0
theorem JL(p:Nat×LI):∀u∈wv p,u.oneCell'=true:=by
 intro u y;rcases qQ.1 y with rfl|h
 ·rfl
 ·exact jJ _ u h
structure DS.ok(D:DS):Prop where
 n1:1<=D.n
 n2:D.n<=512
 hs:D.seen.length=D.n*64
 hu:D.sure.length=D.n*64
 hp:∀p∈D.aq,p.1<D.n/\p.2.length=64
 f1: -9223372036854775808<=D.gM
 f2:D.gM<=9223372036854775807
theorem Oi(l m:List (Nat×LI)):pv (l++m)=pv l++pv m:=by simp[pv]
theorem Wr(p:Nat×LI):pv [p]=wv p:=by simp[pv]
theorem Zc{l:List (Nat×LI)}(h:∀p∈l,p.2.length=64)(k:Nat)(Q:k<l.length):((pv l).drop (k*65)).take 65=wv l[k]:=by
 induction l generalizing k with
 |nil=>simp at Q
 |cons p l K=>
  have Z:=h p (Eg ..);have M:(wv p).length=65:=by simp[wv,Z]
  cases k with
  |zero=>
   simp only[pv,BA,XJ,Bg,List.getElem_cons_zero];rw[Vg oM,oJ oM]
  |succ k=>
   have:=K (λq d=>h q (Bd _ d)) k (by simpa using Q);simp only[pv,BA,List.getElem_cons_succ]at this⊢;rw[show(k+1)*65=(wv p).length+k*65 by omega,zc5,UY oM];simpa using this
def DS.goes(D:DS):Bool:= !(D.down||D.gM==0)
def DS.after(D:DS):DS:={D with down:=D.down||D.gM==0,gM:=if 0<D.gM then D.gM-1 else D.gM}
def full(b:LI):LI:=b++bW (64-b.length)
theorem jY(h:b.length<=64):(full b).length=64:=by simp[full,bW];omega
def DS.put(D:DS)(i:Nat)(b:LI):DS:={D with seen:=bm D.seen (i*64) (full b),aq:=D.aq++[(i,full b)]}
def DS.eR(D:DS)(i:Int)(b:LI):Int:=
 if i<0\/(D.n:Int)<=i then 40 else if 64<b.length then 2 else if D.goes then 0 else 43
def DS.write(D:DS)(i:Int)(b:LI):DS:=
 if i<0\/(D.n:Int)<=i then D else if 64<b.length then D else if D.goes then D.after.put i.toNat b else D.after
def DS.at_(D:DS)(i:Nat):LI:=(D.seen.drop (i*64)).take 64
def DS.OP(D:DS)(i:Int):Int:=if i<0\/(D.n:Int)<=i then 40 else 0
def DS.read(D:DS)(i:Int):LI:=if i<0\/(D.n:Int)<=i then []else D.at_ i.toNat
def qX(s:LI):List (Nat×LI)->LI
 |[]=>s
 |p::r=>qX (bm s (p.1*64) p.2) r
def DS.sync(D:DS):DS:=if D.goes then{D.after with sure:=qX D.sure D.aq,aq:=[]}else D.after
def keeps(G:LI)(k:Nat):Nat:=if k<G.length then(max 0 (min (G.getD k 0) 64)).toNat else 0
theorem Ao(G:LI)(k:Nat):keeps G k<=64:=by unfold keeps;split<;>omega
def qj(G:LI)(s:LI):Nat->List (Nat×LI)->LI
 |_,[]=>s
 |k,p::r=>qj G (bm s (p.1*64) (p.2.take (keeps G k))) (k+1) r
def DS.br(D:DS)(G:LI):DS:=
 {n:=D.n,seen:=qj G D.sure 0 D.aq,sure:=qj G D.sure 0 D.aq,aq:=[],gM:= -1,down:=false}
theorem Eu(l:List (Nat×LI)):∀(s:LI) (n:Nat),s.length=n*64->(∀p∈l,p.1<n/\p.2.length=64)->(qX s l).length=n*64:=by
 induction l with
 |nil=>intro s n h _;exact h
 |cons p r K=>
  intro s n h P;have Z:=P p (Eg ..);exact K _ n (by rw[ig _ _ _ oM];exact h) (λq d=>P q (Bd _ d))
theorem rJ(G:LI)(l:List (Nat×LI)):∀(s:LI) (k n:Nat),s.length=n*64->(∀p∈l,p.1<n/\p.2.length=64)->(qj G s k l).length=n*64:=by
 induction l with
 |nil=>intro s k n h _;exact h
 |cons p r K=>
  intro s k n h P;have Z:=P p (Eg ..);exact K _ _ n (by rw[ig _ _ _ (by simp only[fV];omega)];exact h) (λq d=>P q (Bd _ d))
theorem xG(s:LI)(l m:List (Nat×LI)):qX s (l++m)=qX (qX s l) m:=by
 induction l generalizing s with
 |nil=>rfl
 |cons p r K=>exact K _
theorem FE(G s:LI)(k:Nat)(l m:List (Nat×LI)):qj G s k (l++m)=qj G (qj G s k l) (k+l.length) m:=by
 induction l generalizing s k with
 |nil=>rfl
 |cons p r K=>
  simp only[Oe,qj,qR];rw[K,show k+1+r.length=k+(r.length+1)by omega]
theorem DS.ok.after{D:DS}(h:D.ok):D.after.ok:=by
 have f1:=h.f1;have f2:=h.f2;exact⟨h.n1,h.n2,h.hs,h.hu,h.hp,by unfold DS.after;simp only;split<;>omega,by unfold DS.after;simp only;split<;>omega⟩
theorem DS.ok.put{D:DS}(h:D.ok)(i:Nat)(b:LI)(z:i<D.n)(B:b.length<=64):(D.put i b).ok:=by
 have a:=jY B;have V:=h.hs;refine⟨h.n1,h.n2,?_,h.hu,?_,h.f1,h.f2⟩
 ·show(bm D.seen (i*64) (full b)).length=D.n*64
  rw[ig _ _ _ oM,V]
 ·intro p P
  rcases oc.1 P with P|P
  ·exact h.hp p P
  ·obtain rfl:=nN.1 P
   exact⟨z,a⟩
theorem DS.ok.write{D:DS}(h:D.ok)(i:Int)(b:LI):(D.write i b).ok:=by
 unfold DS.write
 split;· exact h
 split;· exact h
 split
 ·exact h.after.put _ _ (by show _<D.n;omega) oM
 ·exact h.after
theorem DS.ok.sync{D:DS}(h:D.ok):D.sync.ok:=by
 unfold DS.sync
 split
 ·have E:=h.after
  exact⟨h.n1,h.n2,h.hs,Eu _ _ _ h.hu h.hp,λp P=>(qo P).elim,E.f1,E.f2⟩
 ·exact h.after
theorem DS.ok.br{D:DS}(h:D.ok)(G:LI):(D.br G).ok:=
 ⟨h.n1,h.n2,rJ _ _ _ _ _ h.hu h.hp,rJ _ _ _ _ _ h.hu h.hp,λp P=>(qo P).elim,by show(-9223372036854775808:Int)<=-1;omega,by show(-1:Int)<=_;omega⟩
def DS.new(n:Nat):DS:=⟨n,bW (n*64),bW (n*64),[],-1,false⟩
theorem DS.Rj{n:Nat}(Z:1<=n)(G:n<=512):(DS.new n).ok:=
 ⟨Z,G,by simp[DS.new,bW],by simp[DS.new,bW],λp P=>(qo P).elim,by show(-9223372036854775808:Int)<=-1;omega,by show(-1:Int)<=_;omega⟩
section
def Im(b1 c1 b2 c2:Nat)(V:Value)(D:DS):Vq:=
 #[.slice (some ⟨b1,0,none⟩) D.n c1,.slice (some ⟨b2,0,none⟩) D.n c2,V,iI D.gM,.bool D.down]
structure jI(w:World)(g:Nat)(D:DS)(F:Nat->Prop)(b1 c1 b2 c2:Nat)(A:OA)(c3:Nat):Prop where
 ah:eK w g 117 (Im b1 c1 b2 c2 (.slice A D.aq.length c3) D)
 seen:w.ownsRow 0 296 64 (.slice (some ⟨b1,0,none⟩) D.n c1) D.n (bv D.seen)
 sure:w.ownsRow 0 296 64 (.slice (some ⟨b2,0,none⟩) D.n c2) D.n (bv D.sure)
 aq:w.ownsRow 0 298 65 (.slice A D.aq.length c3) D.aq.length (pv D.aq)
 ne:b1≠b2
 fg:F g
 f1:F b1
 f2:F b2
 f3:∀b,(Value.slice A D.aq.length c3).ownBlock=some b->F b
 lt:∀b,F b->b<w.heap.size
def cq(w:World)(g:Nat)(D:DS)(F:Nat->Prop):Prop:=∃b1 c1 b2 c2 A c3,jI w g D F b1 c1 b2 c2 A c3
def Bk(F:Nat->Prop)(w O:World):Nat->Prop:=λb=>F b\/(w.heap.size<=b/\b<O.heap.size)
section
variable {w O:World} {g:Nat} {D:DS} {F S:Nat->Prop} {i p j o k:Nat} {A:OA}
theorem jI.fr(h:jI w g D F i p j o A k)(a:Fr S w O)(y:∀b,F b->¬S b):jI O g D F i p j o A k:=
 ⟨h.ah.fr a (y _ h.fg),dX h.seen a (y _ h.f1),dX h.sure a (y _ h.f2),oI h.aq a (λb B=>y _ (h.f3 b B)),
  h.ne,h.fg,h.f1,h.f2,h.f3,λb B=>Ox (h.lt b B) a.size⟩
theorem cq.lt(h:cq w g D F):∀b,F b->b<w.heap.size:=by
 obtain⟨i,p,j,o,A,k,h⟩:=h;exact h.lt
theorem cq.fg(h:cq w g D F):F g:=by
 obtain⟨i,p,j,o,A,k,h⟩:=h;exact h.fg
theorem cq.mono(h:cq w g D F)(V:∀b,F b->S b)(C:∀b,S b->b<w.heap.size):cq w g D S:=by
 obtain⟨i,p,j,o,A,k,h⟩:=h;exact⟨i,p,j,o,A,k,h.ah,h.seen,h.sure,h.aq,h.ne,V _ h.fg,V _ h.f1,V _ h.f2,λb B=>V _ (h.f3 b B),C⟩
theorem jI.Xy(h:jI w g D F i p j o A k):g≠i:=by
 obtain⟨E,B,_⟩:=mF h.seen;exact h.ah.ne_ B dC
theorem jI.UM(h:jI w g D F i p j o A k):g≠j:=by
 obtain⟨E,B,_⟩:=mF h.sure;exact h.ah.ne_ B dC
theorem Ja{e:TypeId}{size n:Nat}{t:TypeId}{K:Vq}(h:w.ownsRow 0 e size v n xs)(C:eK w g t K)(X:e≠t):∀b,v.ownBlock=some b->b≠g:=by
 intro b B;rcases h.2 with⟨rfl,_⟩|⟨d,cap,E,rfl,_,l,_⟩
 ·simp[Value.ownBlock]at B
 ·simp[Value.ownBlock]at B
  subst B;exact eK.ne_ (t:=e) l C X
theorem jI.SB(h:jI w g D F i p j o A k):∀b,(Value.slice A D.aq.length k).ownBlock=some b->b≠g/\b≠i/\b≠j:=by
 obtain⟨a,E,_⟩:=mF h.seen;obtain⟨c,G,_⟩:=mF h.sure;intro b B;exact⟨Ja h.aq h.ah dC b B,Ja h.aq E dC b B,Ja h.aq G dC b B⟩
end
theorem SD(g:Nat)(D:DS)(F:Nat->Prop)(w:World)(B:cq w g D F):
 Calls prog 85 #[pO g] w λe O=>e= .returned (iI D.n)/\w=O:=by
 obtain⟨b1,c1,b2,c2,A,c3,h⟩:=B;have G:w.cell? (aD g 0)=some (.slice (some ⟨b1,0,none⟩) D.n c1):=(h.ah.cell 0).trans rfl;clear h
 go_enter func85,ntmps85
 go_wp2
 exact ae9
theorem QM(g:Nat)(D:DS)(F:Nat->Prop)(w:World)(B:cq w g D F):
 Calls prog 119 #[pO g] w λe O=>e= .returned (.bool D.down)/\w=O:=by
 obtain⟨b1,c1,b2,c2,A,c3,h⟩:=B;have G:w.cell? (aD g 4)=some (.bool D.down):=(h.ah.cell 4).trans rfl;clear h
 go_enter func119,ntmps119
 go_wp2
 exact ae9
theorem sE(g:Nat)(i:Int)(D:DS)(F:Nat->Prop)(w:World)(B:cq w g D F):
 Calls prog 173 #[pO g,iI i] w λe O=>e= .returned (.bool (decide (0<=i/\i<D.n)))/\w=O:=by
 obtain⟨b1,c1,b2,c2,A,c3,h⟩:=B;have G:w.cell? (aD g 0)=some (.slice (some ⟨b1,0,none⟩) D.n c1):=(h.ah.cell 0).trans rfl;clear h;by_cases K:0<=i
 ·go_enter func173,ntmps173
  go_wp2
  go_ret
  exact⟨by simp[K],rfl⟩
 ·rw[dQ (λh=>K h.1)]
  go_enter func173,ntmps173
  go_wp2
  exact ae9
theorem OF(g:Nat)(n:Int)(D:DS)(F:Nat->Prop)(w:World)(B:cq w g D F):
 Calls prog 76 #[pO g,iI n] w λe O=>e= .returned (.tuple #[])/\Fr F w O/\cq O g {D with gM:=n} F:=by
 obtain⟨b1,c1,b2,c2,A,c3,h⟩:=B;have G:w.cell? (aD g 3)=some (iI D.gM):=(h.ah.cell 3).trans rfl;have M:=h.ah.frozen 3;have H:=aa h;clear h
 go_enter func76,ntmps76
 go_wp2
 go_end0
 have h:=H.out;have a:Fr (·=g) w (w.setCell ⟨g,3,none⟩ (iI n)):=Fr.setCell (S:=(·=g)) (p:=⟨g,3,none⟩) (Fr.refl _ _) (λ_=>rfl) _;refine⟨rfl,a.mono (by rintro i _ rfl;exact h.fg),b1,c1,b2,c2,A,c3,?_⟩;exact⟨h.ah.bE 3 _,dX h.seen a (λe=>h.Xy e.symm),dX h.sure a (λe=>h.UM e.symm),oI h.aq a (λb B=>(h.SB b B).1),h.ne,h.fg,h.f1,h.f2,h.f3,
  λb B=>Ox (h.lt b B) a.size⟩
end
theorem jI.YT{w:World}{g:Nat}{D:DS}{F:Nat->Prop}{b1 c1 b2 c2 c3:Nat}{A:OA}(h:jI w g D F b1 c1 b2 c2 A c3)(k:Bool)(x:Int):
 jI (((w.setCell ⟨g,4,none⟩ (.bool k)).drew).setCell ⟨g,3,none⟩ (iI x)) g {D with down:=k,gM:=x} F b1 c1 b2 c2 A c3:=by
 have a:Fr (·=g) w (((w.setCell ⟨g,4,none⟩ (.bool k)).drew).setCell ⟨g,3,none⟩ (iI x)):=
  Fr.setCell (S:=(·=g)) (p:=⟨g,3,none⟩) (Fr.drew (Fr.setCell (S:=(·=g)) (p:=⟨g,4,none⟩) (Fr.refl _ _) (λ_=>rfl) _)) (λ_=>rfl) _
 exact⟨((h.ah.bE 4 _).drew).bE 3 _,dX h.seen a (λe=>h.Xy e.symm),dX h.sure a (λe=>h.UM e.symm),oI h.aq a (λb B=>(h.SB b B).1),h.ne,h.fg,h.f1,h.f2,h.f3,
  λb B=>Ox (h.lt b B) a.size⟩
theorem No(g:Nat)(k:Bool)(x:Int)(w:World)(F: -9223372036854775808<=x)(y:x<=9223372036854775807)
 (M:w.cell? (aD g 3)=some (iI x)) (S:w.cell? (aD g 4)=some (.bool k)) (f3:w.frozen? ⟨g,3,none⟩=false) (f4:w.frozen? ⟨g,4,none⟩=false):
 Calls prog 207 #[pO g] w λe O=>e= .returned (.bool (!(k||x==0)))/\
  O=((w.setCell ⟨g,4,none⟩ (.bool (k||x==0))).drew).setCell ⟨g,3,none⟩ (iI (if 0<x then x-1 else x)):=by
 have D:(0<x)\/x=0\/x<0:=oM
 rcases D with D|rfl|D
 all_goals cases k
 all_goals
  first
  |have d:=jM (Int.ne_of_gt D);rw[iP D]
  |have d:=jM (Int.ne_of_lt D);rw[iN oM]
  |rw[iN oM]
  try simp only[d,Zs,Bool.false_or,ZH,Zr]
 all_goals
  go_enter func207,ntmps207
  go_wp2
  refine fP 13 kR kR (λW J=> ?_);have i:W.cell? (aD g 3)=w.cell? (aD g 3):=by rw[J,Cb,World.cell?_setCell_other _ _ _ _ abN]
  rw[M]at i;have t:=congrArg (λz:World=>z.cell? (aD g 4)) J;simp only[Cb,World.cell?_setCell_same _ _ _ S]at t;have j:W.frozen? ⟨g,3,none⟩=false:=by rw[J,Ex,World.frozen?_setCell];exact f3
  have Q:=aa J;clear J M S f3 f4;simp only[IE,Hd,NC,Bg]
  repeat still_step
  try refine wpStill_nil ?_
  go_wp2
  go_ret
  exact⟨rfl,by rw[Q.out];rfl⟩
theorem uf(g:Nat)(D:DS)(F:Nat->Prop)(w:World)(q:D.ok)(B:cq w g D F):
 Calls prog 207 #[pO g] w λe O=>e= .returned (.bool D.goes)/\Fr (·=g) w O/\O.heap.size=w.heap.size/\cq O g D.after F:=by
 obtain⟨b1,c1,b2,c2,A,c3,h⟩:=B;have K:w.cell? (aD g 3)=some (iI D.gM):=(h.ah.cell 3).trans rfl;have u:w.cell? (aD g 4)=some (.bool D.down):=(h.ah.cell 4).trans rfl;refine(No g D.down D.gM w q.f1 q.f2 K u (h.ah.frozen 3) (h.ah.frozen 4)).mono λe O ⟨Y,M⟩=>⟨Y,?_,?_,b1,c1,b2,c2,A,c3,?_⟩
 ·rw[M]
  exact Fr.setCell (S:=(·=g)) (p:=⟨g,3,none⟩) (Fr.drew (Fr.setCell (S:=(·=g)) (p:=⟨g,4,none⟩) (Fr.refl _ _) (λ_=>rfl) _)) (λ_=>rfl) _
 ·rw[M];simp[World.setCell]
 ·rw[M];exact h.YT _ _
theorem Ad:(prog.info? 298).map (λi=>(i.zero,i.size,i.bytes))=some (some (.agg (Value.int .i64 0::List.replicate 64 (.int .u8 0)).toArray),65,72):=kR
theorem Fm(k:Nat)(w:World):(Instr.build 298 #[(0,iI k)]).run prog w= .ok (.agg (wv (k,bW 64)).toArray) w:=kR
theorem rD(w:World):(Instr.alloc 298 true (.tuple #[])).run prog w= .ok (pO w.heap.size) (w.alloc (.cells (wv (0,bW 64)).toArray 298)):=kR
theorem p8:(prog.info? 298).map (·.size)=some 65:=kR
theorem oe:(prog.info? 296).map (·.size)=some 64:=kR
theorem Cf:(prog.info? 5).map (·.size)=some 1:=kR
theorem wu(w:World)(K:Vq)(h:K.size=65):
 (Instr.buildSlice 115 1 #[(0,.agg K)]).run prog w= .ok (.slice (some ⟨w.heap.size,0,none⟩) 1 1) (w.alloc (.cells K 298)):=
 tK (P:=prog) w 115 298 K _ 72 underlying115 (by rw[h];exact Ad) oM oM
theorem oh{k:Nat}(h:b.length=64):(wv (k,b)).toArray.size=65:=by simp[wv,h]
theorem Gd(k:Nat):bm (wv (k,bW 64)) 1 (bv b)=wv (k,full b):=by
 simp only[bm,wv,Nr,IE,Hd,Oe,zm,show 1+b.length=b.length+1 by omega,NC];simp only[bv,bW,full,yu,zcU,ZA]
theorem Qt(g:Nat)(i:Int)(v:Value)(D:DS)(F:Nat->Prop)(w:World)(z:i<0\/(D.n:Int)<=i)(B:cq w g D F):
 Calls prog 206 #[pO g,iI i,v] w λe O=>e= .returned (iI 40)/\w=O:=by
 have H:=aa (sE g i D F w B);rw[decide_eq_false (by omega)]at H
 exact afr
theorem Hn(g:Nat)(i:Int)(a:OA)(n c:Nat)(D:DS)(F:Nat->Prop)(w:World)(z:0<=i)(V:i<(D.n:Int))(W:64<n)(B:cq w g D F):
 Calls prog 206 #[pO g,iI i,.slice a n c] w λe O=>e= .returned (iI 2)/\w=O:=by
 have H:=aa (sE g i D F w B);rw[dZ ⟨z,V⟩]at H
 exact afr
theorem Hm(g:Nat)(i:Int)(a:OA)(n c:Nat)(D:DS)(F:Nat->Prop)(w:World)(q:D.ok)(z:0<=i)(V:i<(D.n:Int))(W:n<=64)(y:D.goes=false)(B:cq w g D F):
 Calls prog 206 #[pO g,iI i,.slice a n c] w λe O=>e= .returned (iI 43)/\Fr (·=g) w O/\O.heap.size=w.heap.size/\cq O g D.after F:=by
 have H:=aa (sE g i D F w B);rw[dZ ⟨z,V⟩]at H;have N:=aa (uf g D F w q B);rw[y]at N;clear y
 go_enter func206,ntmps206
 go_wp2_with (first|(go_at_call 173;refine H.mono ?_;rintro e O⟨rfl,rfl⟩)|(go_at_call 207;refine qK N ?_;rintro O⟨Z,G,M⟩))
 go_ret
 exact⟨rfl,Z,G,M⟩
theorem QR(g k:Nat)(A:OA)(n c:Nat)(X:LI)(Q:Nat->Prop)(D:DS)(F:Nat->Prop)(w:World)(ho:D.ok)(P1:k<D.n)(hn:n=X.length)(R:X.length<=64)(hd:D.goes=true)(hp:D.aq.length<1000000)
 (hq:∀b,Q b->b≠g) (hv:Sl w Q 1 A n (bv X)) (B:cq w g D F):
 Calls prog 206 #[pO g,iI k,.slice A n c] w λe O=>e= .returned (iI 0)/\Fr F w O/\cq O g (D.after.put k X) (Bk F w O):=by
 have B0:=aa (sE g k D F w B);rw[dZ (show 0<=(k:Int)/\(k:Int)<(D.n:Int)by omega)]at B0;have H2:=aa (uf g D F w ho B);rw[hd]at H2;have HN:=aa hn;have D1:n<=64:=oM
 refine bq hv B.fg λHV HF=>?_;have U1:=ho.after;clear hd hn hv B;generalize E0:D.after=d at*
 go_enter func206,ntmps206
 go_wp2_with fail
 refine B0.mono ?_;rintro e O⟨rfl,rfl⟩
 go_wp2_with fail
 refine qK H2 ?_;rintro z⟨f1,y,X0⟩;have HZ:=aa y;clear y;have Q0:(Instr.storeAt 298 (pO z.heap.size) (.agg (wv (k,bW 64)).toArray)).run prog (z.alloc (.cells (wv (0,bW 64)).toArray 298))= .ok () (z.alloc (.cells (wv (k,bW 64)).toArray 298)):=
  run_storeAt_new z 298 _ _ (by rw[p8,oh (by simp[bW])]) (by rw[oh (by simp[bW]),oh (by simp[bW])]) (all_oneCell_toArray (JL _))
 have H0:(Builtin.copy_ #[27,27] 3 #[.slice (some ⟨z.heap.size,1,none⟩) 64 64,.slice A n c]).run prog (z.alloc (.cells (wv (k,bW 64)).toArray 298))= .ok (goInt n) (z.alloc (.cells (wv (k,full X)).toArray 298)):=by
  have A1:Fr jo z (z.alloc (.cells (wv (k,bW 64)).toArray 298)):=(Fr.refl _ _).alloc _;have hV:Sl (z.alloc (.cells (wv (k,bW 64)).toArray 298)) Q 1 A n (bv X):=(HV.fr f1 (λb h _ e=>hq b h e)).RY A1;rw[FO 27 27 3 5 z.heap.size 1 64 64 A n c (bv X) Q underlying27 Cf hV D1 ?_ (jJ X),
   rS _ _ _ _ _ (by rw[oh (by simp[bW])];simp;omega),Gd]
  refine(eK.new _ _ _).there 1 n (by rw[oh (by simp[bW])];omega)
 go_wp2_with (first
  |((with_reducible apply Mh (t:=298));(focus rfl);(focus rfl);(focus rfl);(focus exact Fm k _))
  |((with_reducible apply zR (t:=298));(focus rfl);(focus rfl);(focus exact rD _))
  |((with_reducible apply rF (t:=298));(focus rfl);(focus rfl);(focus rfl);(focus rfl);(focus exact Q0))
  |((with_reducible apply KD (tx:=27));(focus rfl);(focus rfl);(focus rfl);(focus rfl);(focus exact H0)))
 clear Q0 H0;obtain⟨b1,c1,b2,c2,a,c3,C⟩:=X0;have Q1:(0:Int)<=(k:Int)/\(k:Int)<(d.n:Int):=by rw[<-E0];show(0:Int)<=(k:Int)/\(k:Int)<(D.n:Int);omega
 have R1:d.aq.length<1000000:=by rw[<-E0];exact hp
 refine fP 8 kR kR (λW J=> ?_);have N:Fr jo z W:=by rw[J];exact((Fr.refl _ _).alloc _).drew
 have I:=C.fr N (λ_ _ x=>x);have F0:eK W z.heap.size 298 (wv (k,full X)).toArray:=by rw[J];exact(eK.new _ _ _).drew
 have HW:=aa J;clear J;have k0:W.cell? (aD g 0)=some (.slice (some ⟨b1,0,none⟩) d.n c1):=(I.ah.cell 0).trans rfl;have O0:W.rangeAt z.heap.size 1 (bv (full X)):=by
  have:=F0.range 1 64;rwa[oJ (by simp[wv,jY R])]at this
 have K0:=run_loadAt_mid (P:=prog) W z.heap.size 1 296 (bv (full X)) _ O0 underlying296 rfl (by rw[oe];simp[jY R]);simp only[IE,Hd,NC,Bg]
 iterate 6 still_step
 (with_reducible apply As (t:=296))
 focus rfl
 focus rfl
 focus rfl
 focus exact K0
 repeat still_step
 try refine wpStill_nil ?_
 have u:=jY R;have J0:k*64+64<=d.n*64:=by
  have:k<d.n:=oM
  omega
 have o:(Instr.storeAt 296 (.pointer (some ⟨b1,k*64,none⟩)) (.agg (bv (full X)).toArray)).run prog W= .ok () (W.setCells b1 (k*64) (bv (full X))):=
  run_storeAt_mid (P:=prog) W b1 (k*64) 296 (bv (full X)).toArray (by simpa[u]using iX I.seen (k*64) 64 J0) (by rw[oe];simp[u]) (all_oneCell_toArray (jJ _))
 have P0:=kB (V:=bv (full X)) I.seen (k*64) (by simpa[u]using J0);have L:Fr (·=b1) W (W.setCells b1 (k*64) (bv (full X))):=jS b1 _ _ _ (Fr.refl _ _) (λ_=>rfl);generalize W.setCells b1 (k*64) (bv (full X))=w2 at o P0 L
 (with_reducible apply rF (t:=296))
 focus rfl
 focus rfl
 focus rfl
 focus rfl
 focus exact o
 clear o K0 O0 k0;have G0:eK w2 z.heap.size 298 (wv (k,full X)).toArray:=F0.fr L (λe=>by have:=C.lt _ C.f1;omega);have G:eK w2 g 117 (Im b1 c1 b2 c2 (.slice a d.aq.length c3) d):=I.ah.fr L I.Xy;have I1:=dX I.sure L I.ne.symm;have E1:=oI I.aq L (λb B=>(I.SB b B).2.1);have k2:w2.cell? (aD g 2)=some (.slice a d.aq.length c3):=(G.cell 2).trans rfl;have j2:=G.frozen 2;simp only[Act.put]
 go_wp2_with fail
 refine bT (λW=>W.cell? (aD g 2)=some (.slice a d.aq.length c3)/\W.rangeAt z.heap.size 0 (wv (k,full X))) 8 (rG 6) [6,7,8,9,10] kR kR
  (λS0=>by cases S0<;>exact λ_ _ _ _ h=>h) (λl Y=> ?_)
 refine⟨⟨by rw[Y];exact k2,?_⟩,?_⟩
 ·rw[Y]
  have:=G0.range 0 65;rw[Bg,oJ (by simp[wv,u])]at this;exact this
 iterate 5 (refine bJ rfl rfl (λW J=>by(rcases J with⟨_,_⟩;go_simp;try rfl)) ?_;simp only[aW])
 have B1 (W:World) (J:W.cell? (aD g 2)=some (.slice a d.aq.length c3)/\W.rangeAt z.heap.size 0 (wv (k,full X))):=run_loadAt_mid (P:=prog) W z.heap.size 0 298 (wv (k,full X)) _ J.2 underlying298 rfl (by rw[p8];simp[wv,u]);refine MU rfl rfl 298 _ (pO z.heap.size) rfl rfl B1 ?_;simp only[aW];have D0:eK l z.heap.size 298 (wv (k,full X)).toArray:=by rw[Y];exact G0.drew
 have H:eK l g 117 (Im b1 c1 b2 c2 (.slice a d.aq.length c3) d):=by rw[Y];exact G.drew
 have T0:Fr jo w2 l:=by rw[Y];exact(Fr.refl _ _).drew
 have K1:l.heap.size=w2.heap.size:=by rw[Y];rfl
 clear Y;have Z0:=wu l (wv (k,full X)).toArray (by simp[wv,u]);refine bY rfl rfl 115 1 0 _ (.agg (wv (k,full X)).toArray) rfl rfl Z0 (λ_=>⟨?_,?_⟩) ?_
 ·rw[World.cell?_alloc_lt _ _ _ (by have:=H.lt;exact this)];exact H.cell 2
 ·have:=(D0.alloc (.cells (wv (k,full X)).toArray 298)).range 0 65
  rwa[Bg,oJ (by simp[wv,u])]at this
 simp only[aW];have i:Fr jo w2 (l.alloc (.cells (wv (k,full X)).toArray 298)):=T0.alloc _;have L0:=eK.new l 298 (wv (k,full X)).toArray;have N0:=oI E1 i (λ_ _ x=>x);have j:=H.alloc (.cells (wv (k,full X)).toArray 298);have C0:=D0.alloc (.cells (wv (k,full X)).toArray 298);have L1:(l.alloc (.cells (wv (k,full X)).toArray 298)).heap.size=w2.heap.size+1:=by rw[World.size_alloc,K1]
 generalize l.alloc (.cells (wv (k,full X)).toArray 298)=W4 at i L0 N0 j C0 L1;have I0:¬(Value.slice a d.aq.length c3).ownBlock=some g:=λe=>(C.SB g e).1 rfl;have J1:¬(Value.slice a d.aq.length c3).ownBlock=some z.heap.size:=λe=>Nat.lt_irrefl _ (C.lt _ (C.f3 _ e));refine AG rfl rfl _ _ 115 rfl 0 298 _ 65 72 underlying115 Ad kR oM (.slice a d.aq.length c3) d.aq.length (pv d.aq) rfl N0 ⟨l.heap.size,0,none⟩ 1 1 rfl (wv (k,full X)) (by simp[wv,u]) ?_ (JL _) oM oM (iD _) (λv' r U M Y0=>⟨λ_=>⟨?_,?_⟩,?_⟩)
 ·intro R0 V1 hu
  rw[show(⟨l.heap.size,0,none⟩:Addr).add R0=⟨l.heap.size,R0,none⟩by simp[Addr.add];exact UQ,L0.cell];simpa using hu
 ·exact(j.fr M I0).cell 2
 ·have:=(C0.fr M J1).range 0 65
  rwa[Bg,oJ (by simp[wv,u])]at this
 simp only[aW]
 (refine bF rfl rfl gS nD ?_;simp only[aW])
 (refine bF rfl rfl gS nD ?_;simp only[aW])
 have K:=j.fr M I0;obtain⟨T,E,rfl⟩:∃T E,v'= .slice T (d.aq.length+1) E:=by
  rcases U.2 with⟨rfl,_⟩|⟨b5,M1,N1,rfl,_⟩
  ·exact⟨_,_,by rw[show d.aq.length+1=0 from by assumption]⟩
  ·exact⟨_,_,rfl⟩
 have H1:(Instr.storeAt 115 (.pointer (some ⟨g,2,none⟩)) (.slice T (d.aq.length+1) E)).run prog r= .ok () (r.setCell ⟨g,2,none⟩ (.slice T (d.aq.length+1) E)):=by
  have h1:r.cell? (aD g 2)=some (.slice a d.aq.length c3):=(K.cell 2).trans rfl;have h2:=K.frozen 2;go_simp
 refine cE rfl rfl 115 _ _ (.pointer (some ⟨g,2,none⟩)) (.slice T (d.aq.length+1) E) rfl rfl rfl H1 nD ?_
 (simp only[Act.put])
 refine cD ?_
 go_wp2_with fail
 go_ret
 have T1:W.heap.size+1<=r.heap.size:=by
  have h1:=L.size;have h2:=M.size;omega
 have S1:=N.size;have y:=HZ.out;have U0:Fr F w (r.setCell ⟨g,2,none⟩ (.slice T (d.aq.length+1) E)):=by
  have e1:Fr F w z:=f1.mono (by rintro A0 _ rfl;exact HF.out);have e2:Fr F w W:=e1.step N (λ_ x _=>x.elim);have e3:Fr F w w2:=e2.step L (by rintro A0 rfl _;exact C.f1);have e4:Fr F w W4:=e3.step i (λ_ x _=>x.elim);have e5:Fr F w r:=e4.step M (λA0 x _=>C.f3 A0 x);exact e5.setCell (λ_=>HF.out) _
 have q:Fr (·=g) r (r.setCell ⟨g,2,none⟩ (.slice T (d.aq.length+1) E)):=Fr.setCell (S:=(·=g)) (p:=⟨g,2,none⟩) (Fr.refl _ _) (λ_=>rfl) _;have G1:(r.setCell ⟨g,2,none⟩ (.slice T (d.aq.length+1) E)).heap.size=r.heap.size:=by simp[World.setCell]
 have V0:¬(Value.slice a d.aq.length c3).ownBlock=some b1:=λe=>(C.SB b1 e).2.1 rfl;have W0:¬(Value.slice a d.aq.length c3).ownBlock=some b2:=λe=>(C.SB b2 e).2.2 rfl;have O1:=C.lt _ C.fg;have M0:∀b,(Value.slice T (d.aq.length+1) E).ownBlock=some b->(Value.slice a d.aq.length c3).ownBlock=some b\/b=W4.heap.size:=by
  intro b e;rcases Y0 with h|h
  ·exact .inl (h▸e)
  ·exact .inr (by rw[h]at e;injection e with e;exact e.symm)
 refine⟨rfl,U0,b1,c1,b2,c2,T,E,?_⟩;have Z:(d.put k X).aq.length=d.aq.length+1:=by simp[DS.put]
 have C1:∀b,F b->b<w.heap.size:=λb B=>by have:=C.lt b B;omega
 refine⟨?_,?_,?_,?_,C.ne,.inl C.fg,.inl C.f1,.inl C.f2,?_,?_⟩
 ·have:=K.bE 2 (.slice T (d.aq.length+1) E)
  rw[Z];exact this
 ·have:=dX (dX (dX P0 i (λx=>x)) M V0) q (λe=>C.Xy e.symm)
  rw[<-wE]at this;exact this
 ·exact dX (dX (dX I1 i (λx=>x)) M W0) q (λe=>C.UM e.symm)
 ·rw[Z]
  have F1:pv (d.put k X).aq=pv d.aq++wv (k,full X):=by
   show pv (d.aq++[(k,full X)])=_;rw[Oi,Wr]
  rw[F1];refine oI U q (λb e=> ?_);rcases M0 b e with h|rfl
  ·exact(C.SB b h).1
  ·have:=j.lt;omega
 ·rw[Z]
  intro b e;rcases M0 b e with h|rfl
  ·exact .inl (C.f3 b h)
  ·refine .inr ⟨?_,?_⟩
   ·have h1:=L.size
    omega
   ·rw[G1];exact(U.lt _ e).2
 ·rintro b(h|h)
  ·have:=C1 b h;omega
  ·exact h.2
theorem Bk.sub{F:Nat->Prop}{w O:World}(b:Nat)(h:F b):Bk F w O b:= .inl h
theorem cq.plus{w O:World}{g:Nat}{D:DS}{F:Nat->Prop}(h:cq O g D F):cq O g D (Bk F w O):=by
 refine h.mono Bk.sub ?_;rintro b(B|B)
 ·exact h.lt b B
 ·exact B.2
theorem NN(g:Nat)(i:Int)(A:OA)(n c:Nat)(X:LI)(Q:Nat->Prop)(D:DS)(F:Nat->Prop)(w:World)(q:D.ok)(W:n=X.length)(P:D.aq.length<1000000)
 (d:∀b,Q b->b≠g) (o:Sl w Q 1 A n (bv X)) (B:cq w g D F):
 Calls prog 206 #[pO g,iI i,.slice A n c] w λe O=>e= .returned (iI (D.eR i X))/\Fr F w O/\cq O g (D.write i X) (Bk F w O):=by
 unfold DS.eR DS.write;by_cases z:i<0\/(D.n:Int)<=i
 ·rw[iP z,iP z]
  refine(Qt g i _ D F w z B).mono ?_;exact ae5
 ·rw[iN z,iN z]
  by_cases C:64<X.length
  ·rw[iP C,iP C]
   refine(Hn g i A n c D F w oM oM oM B).mono ?_;exact ae5
  ·rw[iN C,iN C]
   cases y:D.goes with
   |false=>
    refine qK (Hm g i A n c D F w q oM oM oM y B) ?_;rintro O⟨Z,_,G⟩;exact⟨rfl,Z.mono (by rintro b _ rfl;exact B.fg),G.plus⟩
   |true=>
    obtain⟨k,rfl⟩:=BE (show 0<=i by omega);exact QR g k A n c X Q D F w q oM W oM y P d o B
theorem Np:(prog.info? 5).map (λi=>(i.zero,i.size,i.bytes))=some (some (.int .u8 0),1,1):=kR
theorem Jz(w:World):(Instr.buildSlice 27 0 #[]).run prog w= .ok (.slice (some ⟨w.heap.size,0,none⟩) 0 0) (w.alloc (.cells #[] 5)):=kR
theorem Io(a:Addr)(n c:Nat)(y:LV)(w:World)(F:y.length=n*1)(D:∀j u,y[j]? =some u->w.cell? (a.add j)=some u)(Z:∀u∈y,u.oneCell'=true)(W:n*1<=140737488355328):
 Calls prog 23 #[.slice (some a) n c] w λe O=>∃v g,e= .returned v/\O.ownsRow 0 5 1 v n y/\v.ownBlock=some g/\w.heap.size<=g/\g<O.heap.size/\Fr jo w O:=by
 have R:=λw=>Lib.run_eql_slice_nil (P:=prog) w 27 5 (some a) n c 0 0 underlying27;have k:=Jz;refine iG F (λj u h=>(World.cell?_alloc_lt w (.cells #[] 5) (a.add j) (World.block_lt_of_cell? _ _ (D j u h))).trans (D j u h)) Z λp M K=>?_;have r:(w.alloc (.cells #[] 5)).ownsRow 0 5 1 (.slice (some ⟨w.heap.size,0,none⟩) 0 0) 0 []:=World.ownsRow_made w #[] 0 (iD _) (iD _) abN;have Q:=aa r;clear F D Z r
 go_enter func23,ntmps23
 go_wp2_with (at_builtin;refine BF rfl _ _ 27 rfl 0 5 (.int .u8 0) 1 1 underlying27 Np kR oM (.slice (some ⟨w.heap.size,0,none⟩) 0 0) 0 [] rfl Q a n c rfl y p M K oM oM (iD _) ?_;intro v z l d E)
 go_ret
 have C:v.ownBlock=some w.heap.size\/v.ownBlock=some (w.heap.size+1):=by
  exact aeS
 have hF:Fr jo w z:=((Fr.refl _ _).alloc _).step d acy;have b:z.ownsRow 0 5 1 v n y:=by simpa using l
 exact aed
theorem DS.CD{D:DS}(q:D.ok){k:Nat}(Q:k<D.n):(D.at_ k).length=64:=by
 have:=q.hs;have G:(k+1)*64<=D.n*64:=vz _ Q;unfold DS.at_;rw[fV,km];omega
theorem Sr(g:Nat)(i:Int)(D:DS)(F:Nat->Prop)(w:World)(z:i<0\/(D.n:Int)<=i)(B:cq w g D F):
 Calls prog 131 #[pO g,iI i] w λe O=>e= .returned (.tuple #[sN,iI 40])/\w=O:=by
 have H:=aa (sE g i D F w B);rw[decide_eq_false (by omega)]at H
 go_enter func131,ntmps131
 go_wp2_with (go_at_call 173;refine H.mono ?_;rintro e O⟨rfl,rfl⟩)
 go_ret2
 exact ac7
theorem BU{w:World}{L c3 n k:Nat}{l:List (Nat×LI)}(h:w.ownsRow 0 298 65 (.slice (some ⟨L,0,none⟩) n c3) n (pv l))(F:∀p∈l,p.2.length=64)(Q:k<l.length):
 (Instr.loadAt 298 (.pointer (some ⟨L,k*65,none⟩))).run prog w= .ok (.agg (wv l[k]).toArray) w:=by
 have U:=Bu h (k*65) 65;rw[Zc F k Q]at U;have Z:=F _ (Oq Q);exact run_loadAt_mid (P:=prog) w L (k*65) 298 (wv l[k]) _ U underlying298 rfl (by rw[p8];simp[wv,Z])
theorem xu{w:World}(p:Nat×LI)(h:p.2.length=64):(Instr.storeAt 298 (pO w.heap.size) (.agg (wv p).toArray)).run prog (w.alloc (.cells (wv (0,bW 64)).toArray 298))= .ok () (w.alloc (.cells (wv p).toArray 298)):=
 run_storeAt_new w 298 _ _ (by rw[p8,oh h]) (by rw[oh h,oh (by simp[bW])]) (all_oneCell_toArray (JL _))
theorem WC{w:World}{b:Nat}{p:Nat×LI}(h:eK w b 298 (wv p).toArray)(o:p.2.length=64):(Instr.loadAt 296 (.pointer (some ⟨b,1,none⟩))).run prog w= .ok (.agg (bv p.2).toArray) w:=by
 have U:=h.range 1 64;rw[show(((wv p).toArray.toList.drop 1).take 64)=bv p.2 by simp only[wv,NC,Bg];exact oJ (by simp[o])]at U;exact run_loadAt_mid (P:=prog) w b 1 296 (bv p.2) _ U underlying296 rfl (by rw[oe];simp[o])
theorem Dl{w:World}{b c n i:Nat}{v:LI}(h:w.ownsRow 0 296 64 (.slice (some ⟨b,0,none⟩) n c) n xs)(z:i<n)(o:v.length=64):
 (Instr.storeAt 296 (.pointer (some ⟨b,i*64,none⟩)) (.agg (bv v).toArray)).run prog w= .ok () (w.setCells b (i*64) (bv v))/\
 (w.setCells b (i*64) (bv v)).ownsRow 0 296 64 (.slice (some ⟨b,0,none⟩) n c) n (bm xs (i*64) (bv v))/\Fr (·=b) w (w.setCells b (i*64) (bv v)):=by
 have u:(i+1)*64<=n*64:=vz _ z;refine⟨?_,kB h (i*64) (by simp[o];omega),jS b _ _ _ (Fr.refl _ _) (λ_=>rfl)⟩;exact run_storeAt_mid (P:=prog) w b (i*64) 296 (bv v).toArray (by simpa[o]using iX h (i*64) 64 oM) (by rw[oe];simp[o]) (all_oneCell_toArray (jJ _))
theorem On{s:LI}{l:List (Nat×LI)}{k:Nat}(Q:k<l.length):qX s (l.take (k+1))=bm (qX s (l.take k)) (l[k].1*64) l[k].2:=by
 rw[VQ Q,xG]
 rfl
theorem MS(g:Nat)(D:DS)(F:Nat->Prop)(w:World)(q:D.ok)(y:D.goes=false)(B:cq w g D F):
 Calls prog 178 #[pO g] w λe O=>e= .returned (.tuple #[])/\Fr (·=g) w O/\cq O g D.after F:=by
 have N:=aa (uf g D F w q B);rw[y]at N;clear y
 go_enter func178,ntmps178
 go_wp2_with (go_at_call 207;refine qK N ?_;rintro O⟨Z,G,M⟩)
 ((try simp only[Exit.inBlock,Exit.then]);refine bodyPost_ret (results_none rfl _ _ _) rfl ?_)
 exact⟨rfl,Z,M⟩
theorem Th(g:Nat)(D:DS)(F:Nat->Prop)(w:World)(q:D.ok)(y:D.goes=true)(P:D.aq.length<1000000)(B:cq w g D F):
 Calls prog 178 #[pO g] w λe O=>e= .returned (.tuple #[])/\Fr F w O/\cq O g {D.after with sure:=qX D.sure D.aq,aq:=[]} F:=by
 have N:=aa (uf g D F w q B);rw[y]at N;have HF:=aa B.fg;have T:=q.after;have H0:D.after.aq.length<1000000:=P;have F0:=aa B.lt;rw[show qX D.sure D.aq=qX D.after.sure D.after.aq from rfl];clear y B P q;generalize D.after=Da at*
 go_enter func178,ntmps178
 go_wp2_with fail
 refine qK N ?_;rintro w1⟨f1,A,C0⟩;have HZ:=aa A;clear A N;obtain⟨b1,c1,b2,c2,a,c3,C⟩:=C0;have L:w1.cell? (aD g 2)=some (.slice a Da.aq.length c3):=(C.ah.cell 2).trans rfl
 go_wp2_with fail
 have j:Fr F w w1:=f1.mono (by rintro i _ rfl;exact HF.out);have K:=aa T;clear f1 T L
 go_loopg [12] Da.aq.length (λgh i wr=>∃k:Nat,gh=Da.aq.length-k/\k<=Da.aq.length/\i= iI k/\Fr F w wr/\jI wr g {Da with sure:=qX Da.sure (Da.aq.take k)} F b1 c1 b2 c2 a c3)
 case atStart=>exact⟨0,oM,iD _,rfl,j,C⟩
 case round=>
  clear j C;obtain⟨k,o,Q,rfl,hF,C⟩:=hrel;by_cases V:k<Da.aq.length
  ·obtain⟨g3,rfl⟩:=iE C.aq (by show 0<Da.aq.length;omega)
   have X:=K.hp _ (Oq V);have z:=BU (w:=wr) (k:=k) C.aq (λp B0=>(K.hp p B0).2) V;refine nK o C hF Q λHG l R HK=>?_;have H:=λw=>xu (w:=w) Da.aq[k] X.2;have r:=aa (On (s:=Da.sure) V)
   change (Instr.loadAt 298 (.pointer (some ⟨g3,k*65,none⟩))).run prog wr= .ok (.agg (wv Da.aq[k]).toArray) wr at z
   generalize Da.aq[k]=p at X z H r;obtain⟨c,h⟩:=p;simp only at X;have D0:=X.1;have n:=X.2;clear X o Q C hF
   go_wp2_with (first
    |((with_reducible apply Db (t:=298));(focus rfl);(focus rfl);(focus rfl);(focus exact z))
    |((with_reducible apply zR (t:=298));(focus rfl);(focus rfl);(focus exact rD _))
    |((with_reducible apply rF (t:=298));(focus rfl);(focus rfl);(focus rfl);(focus rfl);(focus exact H _)))
   refine fP 9 kR kR (λW J=> ?_);have u:Fr jo wr W:=by rw[J];exact((Fr.refl _ _).alloc _).drew
   have I:=l.fr u (λ_ _ x=>x);have U:eK W wr.heap.size 298 (wv (c,h)).toArray:=by rw[J];exact(eK.new _ _ _).drew
   have E:W.heap.size=wr.heap.size+1:=by rw[J];exact World.size_alloc _ _
   have E0:=aa E;clear J E;have q1:W.cell? (aD g 1)=some (.slice (some ⟨b2,0,none⟩) Da.n c2):=(I.ah.cell 1).trans rfl;have q2:W.cell? (aD wr.heap.size 0)=some (iI c):=(U.cell 0).trans rfl;have M:=WC U n;have G0:(0:Int)<=(c:Int)/\(c:Int)<(Da.n:Int):=oM
   have A0:=aa I;obtain⟨G,Y,Z⟩:=Dl I.sure (show c<Da.n from D0) n;clear I U;generalize W.setCells b2 (c*64) (bv h)=W2 at G Y Z;simp only[IE,Hd,NC,Bg]
   iterate 7 still_step
   (with_reducible apply As (t:=296))
   focus rfl
   focus rfl
   focus rfl
   focus exact M
   repeat still_step
   try refine wpStill_nil ?_
   (with_reducible apply rF (t:=296))
   focus rfl
   focus rfl
   focus rfl
   focus rfl
   focus exact G
   simp only[Act.put];clear G M q1 q2
   go_wp2_with fail
   go_roundg (Da.aq.length-(k+1))
   case measure=>exact adi
   case rel=>
    have I:=A0.out;refine⟨k+1,rfl,oM,rfl,?_,?_⟩
    ·exact(R.step u (λ_ x _=>x.elim)).step Z (by rintro i rfl _;exact I.f2)
    ·refine⟨?_,?_,?_,?_,I.ne,I.fg,I.f1,I.f2,I.f3,λb B=>Ox (I.lt b B) Z.size⟩
     ·exact I.ah.fr Z I.UM
     ·exact dX I.seen Z I.ne
     ·rw[r.out,wE];exact Y
     ·exact oI I.aq Z (λb B=>(I.SB b B).2.2)
  ·obtain rfl:k=Da.aq.length:=oM
   have l:=aa C;have L:wr.cell? (aD g 2)=some (.slice a Da.aq.length c3):=(C.ah.cell 2).trans rfl;have j2:=C.ah.frozen 2;clear C o Q;have R:=aa hF
   go_wp2_with fail
   go_end0
   have C:=l.out;rw[MT]at C;have d:Fr (·=g) wr (wr.setCell ⟨g,2,none⟩ sN):=Fr.setCell (S:=(·=g)) (p:=⟨g,2,none⟩) (Fr.refl _ _) (λ_=>rfl) _;refine⟨rfl,R.setCell (λ_=>C.fg) _,b1,c1,b2,c2,none,0,?_⟩;refine⟨C.ah.bE 2 _,dX C.seen d (λe=>C.Xy e.symm),dX C.sure d (λe=>C.UM e.symm),World.ownsRow_nil _ _ _ _,C.ne,C.fg,C.f1,C.f2,λb e=>by simp[Value.ownBlock]at e,λb B=>Ox (C.lt b B) d.size⟩
theorem OY(g:Nat)(D:DS)(F:Nat->Prop)(w:World)(q:D.ok)(P:D.aq.length<1000000)(B:cq w g D F):
 Calls prog 178 #[pO g] w λe O=>e= .returned (.tuple #[])/\Fr F w O/\cq O g D.sync F:=by
 unfold DS.sync
 cases y:D.goes with
 |false=>
  refine qK (MS g D F w q y B) ?_;rintro O⟨Z,G⟩;exact⟨rfl,Z.mono (by rintro b _ rfl;exact B.fg),G⟩
 |true=>exact Th g D F w q y P B
theorem xN:(prog.info? 296).map (λi=>(i.zero,i.size,i.bytes))=some (some (.agg (List.replicate 64 (.int .u8 0)).toArray),64,64):=kR
theorem DA(w:World):(Instr.buildSlice 114 0 #[]).run prog w= .ok (.slice (some ⟨w.heap.size,0,none⟩) 0 0) (w.alloc (.cells #[] 296)):=kR
theorem DV(a:Addr)(n c:Nat)(y:LV)(w:World)(F:y.length=n*64)(D:∀j u,y[j]? =some u->w.cell? (a.add j)=some u)(Z:∀u∈y,u.oneCell'=true)(W:n*64<=140737488355328):
 Calls prog 170 #[.slice (some a) n c] w λe O=>∃v g,e= .returned v/\O.ownsRow 0 296 64 v n y/\v.ownBlock=some g/\w.heap.size<=g/\g<O.heap.size/\Fr jo w O:=by
 have R:=λw=>Lib.run_eql_slice_nil (P:=prog) w 114 296 (some a) n c 0 0 underlying114;have k:=DA;refine iG F (λj u h=>(World.cell?_alloc_lt w (.cells #[] 296) (a.add j) (World.block_lt_of_cell? _ _ (D j u h))).trans (D j u h)) Z λp M K=>?_;have r:(w.alloc (.cells #[] 296)).ownsRow 0 296 64 (.slice (some ⟨w.heap.size,0,none⟩) 0 0) 0 []:=World.ownsRow_made w #[] 0 (iD _) (iD _) abN;have Q:=aa r;clear F D Z r
 go_enter func170,ntmps170
 go_wp2_with (at_builtin;refine BF rfl _ _ 114 rfl 0 296 (.agg (List.replicate 64 (.int .u8 0)).toArray) 64 64 underlying114 xN kR oM (.slice (some ⟨w.heap.size,0,none⟩) 0 0) 0 [] rfl Q a n c rfl y p M K oM oM (iD _) ?_;intro v z l d E)
 go_ret
 have C:v.ownBlock=some w.heap.size\/v.ownBlock=some (w.heap.size+1):=by
  exact aeS
 have hF:Fr jo w z:=((Fr.refl _ _).alloc _).step d acy;have b:z.ownsRow 0 296 64 v n y:=by simpa using l
 exact aed
theorem Ol{G s:LI}{l:List (Nat×LI)}{k:Nat}(Q:k<l.length):
 qj G s 0 (l.take (k+1))=bm (qj G s 0 (l.take k)) (l[k].1*64) (l[k].2.take (keeps G k)):=by
 rw[VQ Q,FE,fV,Hc oM,xS]
 rfl
theorem MA(g:Nat)(A:OA)(n V0:Nat)(G:LI)(Q:Nat->Prop)(D:DS)(F:Nat->Prop)(w:World)(ho:D.ok)(hp:D.aq.length<1000000)
 (hn:n=G.length) (hq:∀b,Q b->¬F b) (hv:Sl w Q 1 A n (G.map (Value.int .i64))) (B:cq w g D F):
 Calls prog 121 #[pO g,.slice A n V0] w λe O=>e= .returned (.tuple #[])/\Fr F w O/\cq O g (D.br G) (Bk F w O):=by
 refine nK B.fg hn hv B.lt λHF r HV L1=>?_;obtain⟨b1,c1,b2,c2,o,c3,C⟩:=B;have k2:w.cell? (aD g 2)=some (.slice o D.aq.length c3):=(C.ah.cell 2).trans rfl;have K:=aa ho;clear ho hn hv
 go_enter func121,ntmps121
 go_wp2_with fail
 clear k2
 go_loopg [12] D.aq.length (λgh G0 wr=>∃k:Nat,gh=D.aq.length-k/\k<=D.aq.length/\G0= iI k/\Fr F w wr/\jI wr g {D with sure:=qj G D.sure 0 (D.aq.take k)} F b1 c1 b2 c2 o c3)
 case atStart=>exact⟨0,oM,iD _,rfl,Fr.refl _ _,C⟩
 case round=>
  clear C;obtain⟨k,P,hk,rfl,hF,C⟩:=hrel;by_cases B0:k<D.aq.length
  ·obtain⟨g3,rfl⟩:=iE C.aq (by show 0<D.aq.length;omega)
   have X:=K.hp _ (Oq B0);have C0:=BU (w:=wr) (k:=k) C.aq (λp h=>(K.hp p h).2) B0;refine nK P C hF hk λHG l R HK=>?_;have N0:=λw=>xu (w:=w) D.aq[k] X.2;have Z:=aa (Ol (G:=G) (s:=D.sure) B0)
   change (Instr.loadAt 298 (.pointer (some ⟨g3,k*65,none⟩))).run prog wr= .ok (.agg (wv D.aq[k]).toArray) wr at C0
   generalize D.aq[k]=p at X C0 N0 Z;obtain⟨c,H⟩:=p;simp only at X;have A1:=X.1;have Z0:=X.2;clear X P hk C hF
   go_upto_if 20 with(first
    |((with_reducible apply Db (t:=298));(focus rfl);(focus rfl);(focus rfl);(focus exact C0))
    |((with_reducible apply zR (t:=298));(focus rfl);(focus rfl);(focus exact rD _))
    |((with_reducible apply rF (t:=298));(focus rfl);(focus rfl);(focus rfl);(focus rfl);(focus exact N0 _)))
   have I1:((k:Int)<(n:Int))=(k<G.length):=by rw[r.out];simp
   go_cut [6] (λt wx=>t= iI (keeps G k)/\wx=wr.alloc (.cells (wv (c,H)).toArray 298))
   case first=>
    by_cases Y:k<G.length
    ·have I0:Sl wr Q 1 A n (G.map (Value.int .i64)):=HV.fr R (λb h _=>hq b h)
     obtain⟨ad,P0,rfl,O1,W0,F0,J0⟩:=I0.at_ (k:=k) (by rw[r.out];exact Y);obtain rfl:P0= iI G[k]:=by
      rw[zA,g7 Y]at F0;simpa using F0.symm
     have E1:(wr.alloc (.cells (wv (c,H)).toArray 298)).cell? (ad.add k)=some (iI G[k]):=(World.cell?_alloc_lt _ _ _ (by rw[fh];exact W0)).trans J0;clear I0 F0 J0;have X0:(k:Int)<(n:Int):=by rw[r.out];omega
     have L0:((keeps G k:Nat):Int)=max 0 (min G[k] 64):=by
      unfold keeps;rw[iP Y,Iy,g7 Y];simp only[SR];omega
     have q:=aa L0;clear L0
     exact afj
    ·have X0:¬(k:Int)<(n:Int):=by rw[r.out];omega
     have q:Hid (keeps G k=0):=by unfold keeps;rw[iN Y];exact aa rfl
     exact afj
   case rest=>
    obtain⟨rfl,rfl⟩:=hcut;have A0:keeps G k<=64:=Ao G k;generalize keeps G k=L at Z A0
    go_wp2_with fail
    refine fP 11 kR kR (λW J=> ?_);have H0:Fr jo wr W:=by rw[J];exact((Fr.refl _ _).alloc _).drew
    have I:=l.fr H0 (λ_ _ x=>x);have U:eK W wr.heap.size 298 (wv (c,H)).toArray:=by rw[J];exact(eK.new _ _ _).drew
    clear J;have q1:W.cell? (aD g 1)=some (.slice (some ⟨b2,0,none⟩) D.n c2):=(I.ah.cell 1).trans rfl;have q2:W.cell? (aD wr.heap.size 0)=some (iI c):=(U.cell 0).trans rfl;have N1:(0:Int)<=(c:Int)/\(c:Int)<(D.n:Int):=oM
    have H1:(c+1)*64<=D.n*64:=vz _ A1;have S0:=aa I;have N:(Builtin.copy_ #[27,27] 3 #[.slice (some ⟨b2,c*64,none⟩) 64 64,.slice (some ⟨wr.heap.size,1,none⟩) L 64]).run prog W= .ok (goInt L) (W.setCells b2 (c*64) (bv (H.take L))):=by
     refine FO 27 27 3 5 b2 (c*64) 64 64 (some ⟨wr.heap.size,1,none⟩) L 64 (bv (H.take L)) (λ_=>True) underlying27 Cf ?_ A0 ?_ (jJ _)
     ·refine⟨by simp[Z0];omega,λ_=>⟨_,rfl,trivial,U.lt,λj P0 y=> ?_⟩⟩
      rw[show(⟨wr.heap.size,1,none⟩:Addr).add j=⟨wr.heap.size,1+j,none⟩by unfold Addr.add;split<;>simp_all,U.cell];rw[show 1+j=j+1 by omega];simp only[wv,List.getElem?_toArray,List.getElem?_cons_succ];rw[show bv (H.take L)=(bv H).take L by simp[bv],AW]at y
      split at y
      ·exact y
      ·cases y
     ·exact λj hj=>iX I.sure (c*64) 64 (by show c*64+64<=D.n*64;omega) j oM
    have M0:=kB (V:=bv (H.take L)) I.sure (c*64) (by show c*64+(bv (H.take L)).length<=D.n*64;simp;omega);have i:Fr (·=b2) W (W.setCells b2 (c*64) (bv (H.take L))):=jS b2 _ _ _ (Fr.refl _ _) (λ_=>rfl);clear I U;have J1:(L:Int)<=64:=oM
    have K1:L<=64:=A0;generalize W.setCells b2 (c*64) (bv (H.take L))=W2 at N M0 i;simp only[IE,Hd,NC,Bg]
    repeat still_step
    try refine wpStill_nil ?_
    (with_reducible apply KD (tx:=27))
    focus rfl
    focus rfl
    focus rfl
    focus rfl
    focus exact N
    simp only[Act.put];clear N q1 q2
    go_wp2_with fail
    go_roundg (D.aq.length-(k+1))
    case measure=>exact adi
    case rel=>
     have I:=S0.out;refine⟨k+1,rfl,oM,rfl,?_,?_⟩
     ·exact(R.step H0 (λ_ x _=>x.elim)).step i (by rintro G0 rfl _;exact I.f2)
     ·refine⟨?_,?_,?_,?_,I.ne,I.fg,I.f1,I.f2,I.f3,λb B=>Ox (I.lt b B) i.size⟩
      ·exact I.ah.fr i I.UM
      ·exact dX I.seen i I.ne
      ·rw[Z.out,wE];exact M0
      ·exact oI I.aq i (λb B=>(I.SB b B).2.2)
  ·obtain rfl:k=D.aq.length:=oM
   have R:=aa hF;rw[MT]at C;have T0:=aa (rJ G D.aq D.sure 0 D.n K.hu K.hp);generalize u:qj G D.sure 0 D.aq=T at*;have U0:=aa u;clear u;have l:=aa C;have q2:wr.cell? (aD g 2)=some (.slice o D.aq.length c3):=(C.ah.cell 2).trans rfl;have q3:wr.cell? (aD g 3)=some (iI D.gM):=(C.ah.cell 3).trans rfl;have q4:wr.cell? (aD g 4)=some (.bool D.down):=(C.ah.cell 4).trans rfl;have q1:wr.cell? (aD g 1)=some (.slice (some ⟨b2,0,none⟩) D.n c2):=(C.ah.cell 1).trans rfl;have j0:=C.ah.frozen 0;have j2:=C.ah.frozen 2;have j3:=C.ah.frozen 3;have j4:=C.ah.frozen 4;clear C P hk hF
   go_wp2_with fail
   have i:Fr (·=g) wr (((wr.setCell ⟨g,2,none⟩ sN).setCell ⟨g,3,none⟩ (iI (-1))).setCell ⟨g,4,none⟩ (.bool false)):=
    Fr.setCell (S:=(·=g)) (p:=⟨g,4,none⟩) (Fr.setCell (S:=(·=g)) (p:=⟨g,3,none⟩) (Fr.setCell (S:=(·=g)) (p:=⟨g,2,none⟩) (Fr.refl _ _) (λ_=>rfl) _) (λ_=>rfl) _) (λ_=>rfl) _
   have U:=((l.ah.bE 2 sN).bE 3 (iI (-1))).bE 4 (.bool false);generalize((wr.setCell ⟨g,2,none⟩ sN).setCell ⟨g,3,none⟩ (iI (-1))).setCell ⟨g,4,none⟩ (.bool false)=W3 at i U;have C:=l.out;have Q1:=dX C.seen i (λe=>C.Xy e.symm);have O0:=dX C.sure i (λe=>C.UM e.symm);have D0:∀b,F b->b<W3.heap.size:=λb B=>Ox (C.lt b B) i.size;have n1:=K.n1;have n2:=K.n2;have R0:=aa C;clear C q1 q2 q3 q4 j0 j2 j3 j4;refine(DV ⟨b2,0,none⟩ D.n c2 (bv T) W3 (by simpa using T0.out) (O0.cells (g:=b2) rfl) (jJ _) oM).mono ?_;rintro e z⟨v,g5,rfl,E0,Y0,F1,M1,M⟩;obtain⟨A5,E,rfl⟩:∃A5 E,v= .slice A5 D.n E:=by
    rcases E0.2 with⟨rfl,h0⟩|⟨b5,B1,C1,rfl,_⟩
    ·omega
    ·exact⟨_,_,rfl⟩
   obtain⟨d,rfl⟩:=iE E0 oM;obtain rfl:d=g5:=by simpa[Value.ownBlock]using Y0
   have a:=U.fr M (λx=>x);have q0:z.cell? (aD g 0)=some (.slice (some ⟨b1,0,none⟩) D.n c1):=(a.cell 0).trans rfl;have j0:=a.frozen 0;have Q0:=aa a;clear a
   go_wp2_with fail
   go_end0
   have u:=U0.out;subst u;have a:=Q0.out;have C:=R0.out;have K0:Fr (·=g) z (z.setCell ⟨g,0,none⟩ (.slice (some ⟨d,0,none⟩) D.n E)):=Fr.setCell (S:=(·=g)) (p:=⟨g,0,none⟩) (Fr.refl _ _) (λ_=>rfl) _;have P1:(z.setCell ⟨g,0,none⟩ (.slice (some ⟨d,0,none⟩) D.n E)).heap.size=z.heap.size:=by simp[World.setCell]
   have S1:=R.size;have R1:=i.size;have h5:=M.size;have G1:=D0 _ C.fg;have D1:=D0 _ C.f2;refine⟨rfl,(((R.step i (by rintro G0 rfl _;exact C.fg)).step M (λ_ x _=>x.elim)).setCell (λ_=>C.fg) _),d,E,b2,c2,none,0,?_⟩;refine⟨a.bE 0 _,dX E0 K0 oM,dX (dX O0 M (λx=>x)) K0 (λe=>C.UM e.symm),World.ownsRow_nil _ _ _ _,oM,.inl C.fg,.inr ⟨oM,oM⟩,.inl C.f2,λb e=>by simp[Value.ownBlock]at e,?_⟩;rintro b(h|h)
   ·have:=D0 b h;omega
   ·exact h.2
theorem EU(w:World)(E d r:OA)(t D C c1 O c2:Nat)(x:Int)(y:Bool):
 (Instr.box 117 (.agg #[.slice E t D,.slice d C c1,.slice r O c2,iI x,.bool y])).run prog w= .ok (pO w.heap.size) (w.alloc (.cells #[.slice E t D,.slice d C c1,.slice r O c2,iI x,.bool y] 117)):=kR
theorem QA(K m:Nat)(x:Value)(N:0<K):(madeCells (Value.agg (List.replicate K x).toArray).cells m).toList=List.replicate m x:=by
 show(madeCells (List.replicate K x).toArray m).toList=List.replicate m x;unfold madeCells;rw[Yy,zcT,zdk];refine⟨by simp,λb B=> ?_⟩;obtain⟨i,_,rfl⟩:=um.1 B;have:i%K<K:=Nat.mod_lt _ N;simp[this]
theorem Ny(m:Nat):(madeCells (Value.agg (List.replicate 64 (.int .u8 0)).toArray).cells m).toList=bv (bW m):=by
 rw[QA 64 m _ oM];unfold bv bW;rw[zcU]
theorem lA{P:Program}{l:List Oper}{Q:Exit->Act->World->Prop}{S:World->Prop}{L:Nat}{i:Nat}{r:List Nat}{a:Act}{w O:World}{o:Oper}(q:l[i]? =some o)(C:o.guard=none)(t:TypeId)(x y:Operand)(p u:Value)(X:o.op= .makeSlice t x y)(J:a.eval x=p)(E:a.eval y=u)
 (d:(Instr.makeSlice t p u).run P w= .ok v O) (N:i<L->S O) (h:dJ P l.toArray Q S L r (a.put o.dst v) O):dJ P l.toArray Q S L (i::r) a w:=
 lC q C (by unfold execOp;simp only[X,J,E,Sem.run_bind,Sem.run_pure,Result.andThen_ok,d]) N h
theorem FX(n:Nat)(w:World)(W:n<=512):∃O,(Instr.makeSlice 114 (iI n) (iI n)).run prog w= .ok (.slice (some ⟨w.heap.size,0,none⟩) n n) O/\
 O.ownsRow 0 296 64 (.slice (some ⟨w.heap.size,0,none⟩) n n) n (bv (bW (n*64)))/\Fr jo w O/\O.heap.size=w.heap.size+1:=by
 obtain⟨q,X,x,S,B⟩:=info_parts xN;have U:=run_makeSlice (P:=prog) w 114 296 q _ underlying114 X x .i64 .i64 n n oM oM (by rw[S];simp;omega) (by rw[B];omega) oM;simp only[rE,S]at U;refine⟨_,U,?_,(Fr.refl _ _).alloc _,World.size_alloc _ _⟩;have:=World.ownsRow_lit w (madeCells (Value.agg (List.replicate 64 (.int .u8 0)).toArray).cells (n*64)) n (base:=0) (size:=64) (e:=296) (iD _) ab7 (size_madeCells _ _);rwa[Ny]at this
theorem xJ(w:World)(E d:OA)(t D C c1:Nat):
 (Instr.build 117 #[(0,.slice E t D),(1,.slice d C c1),(3,iI (-1))]).run prog w= .ok (.agg #[.slice E t D,.slice d C c1,sN,iI (-1),.bool false]) w:=kR
theorem TU(n:Nat)(w:World)(Z:1<=n)(G:n<=512):
 Calls prog 19 #[iI n] w λe O=>∃g,e= .returned (.tuple #[pO g,iI 0])/\w.heap.size<=g/\cq O g (DS.new n) (Bk jo w O)/\Fr jo w O:=by
 have Y:¬(n:Int)<1:=oM
 have t:¬512<(n:Int):=oM
 go_enter func19,ntmps19
 go_wp2_with fail
 refine wZ (λW=>True/\True) 8 5 [0,2] [[1,3,4,5,6,7],[3,1,4,5,6,7]] kR kR
  (λd=>by cases d<;>exact λ_ _ _ _ h=>h) (λl M=> ?_)
 have q:Fr jo w l:=by rw[M];exact(Fr.refl _ _).drew
 have j:l.heap.size=w.heap.size:=by rw[M];rfl
 clear M;refine⟨⟨trivial,trivial⟩,?_⟩
 iterate 2 (refine bJ rfl rfl (λW J=>by(rcases J with⟨_,_⟩;go_simp;try rfl)) ?_;simp only[aW])
 obtain⟨c,L,p,k,C⟩:=FX n l G;obtain⟨r,z,a,F,P⟩:=FX n c G;intro T R;simp only[qQ,qo,or_false]at R;rcases R with rfl|rfl
 ·refine lA rfl rfl 114 _ _ (iI n) (iI n) rfl rfl rfl L (λ_=>⟨trivial,trivial⟩) ?_
  simp only[aW];refine lA rfl rfl 114 _ _ (iI n) (iI n) rfl rfl rfl z (λ_=>⟨trivial,trivial⟩) ?_;simp only[aW];refine Cj rfl rfl 117 _ [(0,.slice (some ⟨l.heap.size,0,none⟩) n n),(1,.slice (some ⟨c.heap.size,0,none⟩) n n),(3,iI (-1))] rfl rfl (xJ r (some ⟨l.heap.size,0,none⟩) (some ⟨c.heap.size,0,none⟩) n n n n) (λ_=>⟨trivial,trivial⟩) ?_;simp only[aW];refine LH rfl rfl 117 _ _ rfl rfl (EU r (some ⟨l.heap.size,0,none⟩) (some ⟨c.heap.size,0,none⟩) none n n n n 0 0 (-1) false) (λ_=>⟨trivial,trivial⟩) ?_;simp only[aW];refine bF rfl rfl (v:= pO r.heap.size) gS (λ_=>⟨trivial,trivial⟩) ?_;simp only[aW];refine bF rfl rfl (v:= iI 0) gS (λ_=>⟨trivial,trivial⟩) ?_;simp only[aW];refine cD ?_;have i:Fr jo r (r.alloc (.cells #[.slice (some ⟨l.heap.size,0,none⟩) n n,.slice (some ⟨c.heap.size,0,none⟩) n n,sN,iI (-1),.bool false] 117)):=(Fr.refl _ _).alloc _;have I:=eK.new r 117 #[.slice (some ⟨l.heap.size,0,none⟩) n n,.slice (some ⟨c.heap.size,0,none⟩) n n,sN,iI (-1),.bool false];have o:=World.size_alloc r (.cells #[.slice (some ⟨l.heap.size,0,none⟩) n n,.slice (some ⟨c.heap.size,0,none⟩) n n,sN,iI (-1),.bool false] 117);generalize r.alloc (.cells #[.slice (some ⟨l.heap.size,0,none⟩) n n,.slice (some ⟨c.heap.size,0,none⟩) n n,sN,iI (-1),.bool false] 117)=W7 at i I o;have A:=aa (And.intro o (And.intro C (And.intro P j)));clear o C P j
  go_wp2_with fail
  go_ret2
  obtain⟨o,C,P,j⟩:=A.out;refine⟨r.heap.size,rfl,oM,⟨l.heap.size,n,c.heap.size,n,none,0,?_⟩,((q.trans k).trans F).trans i⟩;refine⟨I,sC (sC p F) i,sC a i,World.ownsRow_nil _ _ _ _,oM,.inr ⟨oM,oM⟩,.inr ⟨oM,oM⟩,.inr ⟨oM,oM⟩,λb B=>by simp[Value.ownBlock]at B,?_⟩;rintro b(h|h)
  ·exact h.elim
  ·exact h.2
 ·refine lA rfl rfl 114 _ _ (iI n) (iI n) rfl rfl rfl L (λ_=>⟨trivial,trivial⟩) ?_
  simp only[aW];refine lA rfl rfl 114 _ _ (iI n) (iI n) rfl rfl rfl z (λ_=>⟨trivial,trivial⟩) ?_;simp only[aW];refine Cj rfl rfl 117 _ [(0,.slice (some ⟨c.heap.size,0,none⟩) n n),(1,.slice (some ⟨l.heap.size,0,none⟩) n n),(3,iI (-1))] rfl rfl (xJ r (some ⟨c.heap.size,0,none⟩) (some ⟨l.heap.size,0,none⟩) n n n n) (λ_=>⟨trivial,trivial⟩) ?_;simp only[aW];refine LH rfl rfl 117 _ _ rfl rfl (EU r (some ⟨c.heap.size,0,none⟩) (some ⟨l.heap.size,0,none⟩) none n n n n 0 0 (-1) false) (λ_=>⟨trivial,trivial⟩) ?_;simp only[aW];refine bF rfl rfl (v:= pO r.heap.size) gS (λ_=>⟨trivial,trivial⟩) ?_;simp only[aW];refine bF rfl rfl (v:= iI 0) gS (λ_=>⟨trivial,trivial⟩) ?_;simp only[aW];refine cD ?_;have i:Fr jo r (r.alloc (.cells #[.slice (some ⟨c.heap.size,0,none⟩) n n,.slice (some ⟨l.heap.size,0,none⟩) n n,sN,iI (-1),.bool false] 117)):=(Fr.refl _ _).alloc _;have I:=eK.new r 117 #[.slice (some ⟨c.heap.size,0,none⟩) n n,.slice (some ⟨l.heap.size,0,none⟩) n n,sN,iI (-1),.bool false];have o:=World.size_alloc r (.cells #[.slice (some ⟨c.heap.size,0,none⟩) n n,.slice (some ⟨l.heap.size,0,none⟩) n n,sN,iI (-1),.bool false] 117);generalize r.alloc (.cells #[.slice (some ⟨c.heap.size,0,none⟩) n n,.slice (some ⟨l.heap.size,0,none⟩) n n,sN,iI (-1),.bool false] 117)=W7 at i I o;have A:=aa (And.intro o (And.intro C (And.intro P j)));clear o C P j
  go_wp2_with fail
  go_ret2
  obtain⟨o,C,P,j⟩:=A.out;refine⟨r.heap.size,rfl,oM,⟨c.heap.size,n,l.heap.size,n,none,0,?_⟩,((q.trans k).trans F).trans i⟩;refine⟨I,sC a i,sC (sC p F) i,World.ownsRow_nil _ _ _ _,oM,.inr ⟨oM,oM⟩,.inr ⟨oM,oM⟩,.inr ⟨oM,oM⟩,λb B=>by simp[Value.ownBlock]at B,?_⟩;rintro b(h|h)
  ·exact h.elim
  ·exact h.2
theorem Sq(n:Int)(w:World)(Z:1<=n)(G:n<=512):
 Calls prog 19 #[iI n] w λe O=>∃g,e= .returned (.tuple #[pO g,iI 0])/\w.heap.size<=g/\cq O g (DS.new n.toNat) (Bk jo w O)/\Fr jo w O:=by
 obtain⟨k,rfl⟩:=BE (show 0<=n by omega);exact TU k w oM oM
section
theorem Iw{w O:World}{base:Nat}{e:TypeId}{size:Nat}{n:Nat}(h:w.ownsRow base e size v n xs)(B:∀b,v.ownBlock=some b->O.heap[b]? =w.heap[b]?):O.ownsRow base e size v n xs:=by
 refine⟨h.1,?_⟩;rcases h.2 with G|⟨g,cap,E,rfl,C,l,r⟩
 ·exact .inl G
 ·exact .inr ⟨g,cap,E,rfl,C,(B g rfl).trans l,r⟩
def di(g:Nat)(D:DS):az where
 holds _ w F:=cq w g D F
 lt h B:=h.lt _ B
 loc:=by
  rintro M u w O F⟨b1,c1,b2,c2,A,c3,h⟩ _ _ B;refine⟨b1,c1,b2,c2,A,c3,(B g h.fg).trans h.ah,Iw h.seen (λb e=> ?_),Iw h.sure (λb e=> ?_),Iw h.aq (λb e=>B b (h.f3 b e)),h.ne,h.fg,h.f1,h.f2,h.f3,λb hF=> ?_⟩
  ·simp[Value.ownBlock]at e;subst e;exact B _ h.f1
  ·simp[Value.ownBlock]at e;subst e;exact B _ h.f2
  ·have Z:=B b hF
   rw[Qk (h.lt b hF)]at Z;exact(CE.1 Z).1
theorem uc.outside{M:aK}{w:World}{L:List az}{d:Nat->Nat->Prop}(V:uc M w L d)(C:fQ w M){i k:Nat}{R:World->Prop}(z:L[i]? =some (bj R))(Q:k<L.length){size:Nat}{A:OA}{n:Nat}(E:0<size)
 (c:∀O,R O->Sl O Any size A n xs):Sl w (λb=>¬d k b) size A n xs:=by
 have J:=V.at_ i _ z;have Z:=c w (J.2 w C);refine⟨Z.1,λW=> ?_⟩;obtain⟨T,rfl,_,B,D⟩:=Z.2 W;refine⟨T,rfl,λhF=> ?_,B,D⟩;have l:=V.off k _ Q hF
 let O:World:={w with heap:=w.heap.modify T.block (λ_=> .map #[] 0)}
 have q:fQ O M:=⟨C.os,C.tape,C.output,λb o g=>by
  have X:T.block≠b:=by rintro rfl;rw[l]at g;cases g
  show(w.heap.modify T.block (λ_=> .map #[] 0))[b]? =some o;rw[YL,iN X];exact C.heap b o g⟩
 obtain⟨U,e,_,_,a⟩:=(c O (J.2 O q)).2 W;injection e with e;subst e;have F:0<xs.length:=by rw[Z.1];exact Nat.mul_pos W E
 have G:=a 0 _ (g7 F);unfold World.cell? at G;rw[fh]at G;have K:O.heap[T.block]? =some (.map #[] 0):=by
  show(w.heap.modify T.block (λ_=> .map #[] 0))[T.block]? =_;rw[YL,iP rfl,Qk B]
  rfl
 rw[K]at G
 cases G
section
variable {I:aK} {w:World} {L:List az} {g:Nat} {D:DS}
theorem St.ds(h:St I w (di g D::L)):∃F,cq w g D F/\(∀(i:Nat) k v xs,L[i]? =some (ai k v xs)->∃A c,v= .slice A xs.length c/\xs.length<=c/\c<=maxLen/\Sl w (λb=>¬F b) 1 A xs.length (xs.map (Value.int k)))/\
 ∀O Q l,Fr F w O->cq O g Q l->(∀b,l b->F b\/w.heap.size<=b)->St I O (di g Q::L):=by
 have K:=h;obtain⟨M,d,p,T,V⟩:=h;refine⟨d 0,V.at_ 0 _ rfl,?_,?_⟩
 ·intro i k v xs z
  obtain⟨A,c,rfl,Z,G,_⟩:=K.get (i+1) abQ;refine⟨A,c,rfl,Z,G,V.outside T (i:=i+1) (k:=0) (R:=λO=>ay O k (.slice A xs.length c) xs) abQ abN oM (λO j=>j.sl.2.2.2)⟩
 ·intro O Q l a y hF
  have q:fQ O M:=T.fr a (λb B=>V.off 0 b abN B);have t:∀i b,i<L.length->d (i+1) b->b<w.heap.size:=λi b z B=>(L[i]).lt (V.at_ (i+1) _ (by simp[g7 z])) B;have W:uc M O L (λi=>d (i+1)):=V.tail.AU q (aK.le.refl _) (λi b z B=>a.block b (t i b z B) (V.apart (i+1) 0 b oM abQ abN B)) (λi b z=>V.off (i+1) b abQ);refine⟨M,_,p,q,W.cons (X:=di g Q) y ?_ ?_⟩
  ·exact aea
  ·exact adM
theorem AF{F:Nat->Prop}{w O:World}(b:Nat)(h:Bk F w O b):F b\/w.heap.size<=b:=h.elim .inl (λh=> .inr h.1)
theorem yG(i:Int)(v:Value)(X:LI)(k:Nat)(q:D.ok)(P:D.aq.length<1000000)(z:L[k]? =some (ai .u8 v X))(h:St I w (di g D::L)):
 Rt I w 206 #[pO g,iI i,v] (iI (D.eR i X)) (di g (D.write i X)::L):=by
 obtain⟨F,y,j,Q⟩:=h.ds;obtain⟨A,c,rfl,_,_,V⟩:=j k _ _ _ z;refine(NN g i A X.length c X _ D F w q rfl P (λb B e=>B (e▸y.fg)) V y).mono ?_;rintro e O⟨Y,a,u⟩;exact⟨Y,Q _ _ _ a u AF⟩
theorem yg(q:D.ok)(P:D.aq.length<1000000)(h:St I w (di g D::L)):
 Rt I w 178 #[pO g] (.tuple #[]) (di g D.sync::L):=by
 obtain⟨F,y,_,Q⟩:=h.ds;refine(OY g D F w q P y).mono ?_;rintro e O⟨Y,a,u⟩
 first|exact⟨Y,Q _ _ _ a u AF⟩|exact⟨Y,Q _ _ _ a u (λb B=> .inl B)⟩
theorem QB(v:Value)(G:LI)(k:Nat)(q:D.ok)(P:D.aq.length<1000000)(z:L[k]? =some (ai .i64 v G))(h:St I w (di g D::L)):
 Rt I w 121 #[pO g,v] (.tuple #[]) (di g (D.br G)::L):=by
 obtain⟨F,y,j,Q⟩:=h.ds;obtain⟨A,c,rfl,_,_,V⟩:=j k _ _ _ z;refine(MA g A G.length c G _ D F w q P rfl (λb B e=>B e) V y).mono ?_;rintro e O⟨Y,a,u⟩;exact⟨Y,Q _ _ _ a u AF⟩
theorem UG(n:Int)(h:St I w (di g D::L)):
 Rt I w 76 #[pO g,iI n] (.tuple #[]) (di g {D with gM:=n}::L):=by
 obtain⟨F,y,_,Q⟩:=h.ds;refine(OF g n D F w y).mono ?_;rintro e O⟨Y,a,u⟩;exact⟨Y,Q _ _ _ a u (λb B=> .inl B)⟩
theorem yq(h:St I w (di g D::L)):Rt I w 119 #[pO g] (.bool D.down) (di g D::L):=by
 obtain⟨F,y,_,_⟩:=h.ds;refine(QM g D F w y).mono ?_;rintro e O⟨Y,rfl⟩;exact⟨Y,h⟩
theorem Hx(h:St I w (di g D::L)):Rt I w 85 #[pO g] (iI D.n) (di g D::L):=by
 obtain⟨F,y,_,_⟩:=h.ds;refine(SD g D F w y).mono ?_;rintro e O⟨Y,rfl⟩;exact⟨Y,h⟩
theorem Xj(n:Int)(Z:1<=n)(G:n<=512)(h:St I w L):
 Calls prog 19 #[iI n] w λe O=>∃g,e= .returned (.tuple #[pO g,iI 0])/\St I O (di g (DS.new n.toNat)::L):=by
 refine(Sq n w Z G).mono ?_;rintro e O⟨g,F,_,y,a⟩;exact⟨g,F,h.add (Y:=di g (DS.new n.toNat)) a (λ_ _=>y) (λb B=>B.elim (λx=>x.elim) (λx=>x.1))⟩
end
end
theorem Mz(g k:Nat)(D:DS)(F:Nat->Prop)(w:World)(q:D.ok)(Q:k<D.n)(B:cq w g D F):
 Calls prog 131 #[pO g,iI k] w λe O=>∃A c,e= .returned (.tuple #[.slice A 64 c,iI 0])/\64<=c/\c<=maxLen/\Sl O (λb=>w.heap.size<=b) 1 A 64 (bv (D.at_ k))/\Fr jo w O:=by
 have H:=aa (sE g k D F w B);rw[dZ (show 0<=(k:Int)/\(k:Int)<(D.n:Int)by omega)]at H;obtain⟨b1,c1,b2,c2,A,c3,h⟩:=B;have G:w.cell? (aD g 0)=some (.slice (some ⟨b1,0,none⟩) D.n c1):=(h.ah.cell 0).trans rfl;have C:=DS.CD q Q;have n:(0:Int)<=(k:Int)/\(k:Int)<(D.n:Int):=oM
 have y:=aa (Io ⟨b1,k*64,none⟩ 64 64 (bv (D.at_ k)) w (by simp[C]) (by
  intro j u E;have:=Bu h.seen (k*64) 64;rw[show(⟨b1,k*64,none⟩:Addr).add j=⟨b1,k*64+j,none⟩by unfold Addr.add;split<;>simp_all];refine this j u ?_;rw[<-E];simp[DS.at_,bv]) (jJ _) oM)
 have J:=aa C;clear h C
 go_enter func131,ntmps131
 go_wp2_with (first|(go_at_call 173;refine H.mono ?_;rintro e O⟨rfl,rfl⟩)|(go_at_call 23;refine y.mono ?_;rintro e O⟨v,l,rfl,Z,M,S,U,V⟩))
 go_ret2
 rcases Z.2 with⟨rfl,K⟩|⟨d,cap,X,rfl,_,I,Y,p,_⟩
 ·simp[Value.ownBlock]at M
 ·obtain rfl:d=l:=by simpa[Value.ownBlock]using M
  exact⟨_,_,rfl,Y,p,⟨Z.1,λ_=>⟨_,rfl,S,U,Z.cells (g:=d) rfl⟩⟩,V⟩
theorem St.Li{I:aK}{w:World}{L:List az}{A:OA}{n c:Nat}{xs:LI}{O:World}(h:St I w L)(a:Fr jo w O)(W:n=xs.length)(D:n<=c)(p:c<=maxLen)(V:Sl O (λb=>w.heap.size<=b) 1 A n (bv xs)):St I O (ai .u8 (.slice A n c) xs::L):=by
 subst W;by_cases K:0<xs.length
 ·obtain⟨T,rfl,d,B,r⟩:=V.2 K
  obtain⟨o,q⟩:∃o,O.heap[T.block]? =some o:=⟨_,Qk B⟩
  let X:az:=⟨λ_ w F=>(∀b,F b↔b=T.block)/\w.heap[T.block]? =some o,λh B=>by rw[(h.1 _).1 B];exact(CE.1 h.2).1,λh _ _ B=>⟨h.1,(B _ ((h.1 _).2 rfl)).trans h.2⟩⟩
  have Z:St I O (X::L):=h.add (F':=(·=T.block)) a (λ_ _=>⟨λ_=>Ve,q⟩) (λb B=>by rw[B];exact d);refine Z.freeze (λM g F J _=> ?_);refine⟨some T,c,rfl,D,p,V.1,λ_=>⟨T,rfl,trivial,(CE.1 J.2).1,λj u y=> ?_⟩⟩;rw[<-r j u y];exact World.cell?_of_block (w:=O) (by rw[fh,J.2,q])
 ·have:xs=[]:=BJ oM
  subst this;exact(h.grow a).bH (λg _=>⟨A,c,rfl,by simp,p,Sl.PO _ _ _ _⟩)
theorem vJ{I:aK}{w:World}{L:List az}{g:Nat}{D:DS}(i:Int)(q:D.ok)(h:St I w (di g D::L)):
 Calls prog 131 #[pO g,iI i] w λe O=>∃A c,e= .returned (.tuple #[.slice A (D.read i).length c,iI (D.OP i)])/\St I O (ai .u8 (.slice A (D.read i).length c) (D.read i)::di g D::L):=by
 obtain⟨F,y,_,_⟩:=h.ds;unfold DS.OP DS.read;by_cases z:i<0\/(D.n:Int)<=i
 ·rw[iP z,iP z]
  refine(Sr g i D F w z y).mono ?_;rintro e O⟨rfl,rfl⟩;exact⟨none,0,rfl,h.Li (Fr.refl _ _) rfl (io _) ab7 (Sl.PO _ _ _ _)⟩
 ·rw[iN z,iN z]
  obtain⟨k,rfl⟩:=BE (show 0<=i by omega);have C:=DS.CD q (k:=k) oM;refine(Mz g k D F w q oM y).mono ?_;rintro e O⟨A,c,rfl,Z,G,M,S⟩;have u:((k:Int).toNat)=k:=oM
  rw[u,C];exact⟨A,c,rfl,h.Li S C.symm Z G M⟩
end Go.Proofs.YtblpaldggenbaaaGreatDoor
