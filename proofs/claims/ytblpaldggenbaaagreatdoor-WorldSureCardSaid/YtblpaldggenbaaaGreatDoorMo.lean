/- A part. -/
import Derived.Test.YtblpaldggenbaaaGreatDoorMn
import Derived.Test.YtblpaldggenbaaaGreatDoorMk
import Derived.Test.YtblpaldggenbaaaGreatDoorMj
namespace Go.Proofs.YtblpaldggenbaaaGreatDoor
open Go.RowKit
set_option maxRecDepth 100000
set_option maxHeartbeats 64000000
variable{T:aH}{l:List PU}{α:Type}{hs:List bh}{L:List gZ}{p:gZ}{b:yw}{x:bh}
def aY.zero(a:Int):aY:=⟨false,0,a,λ_=>qO.zero,λ_=>0,[],[],λ_=>dO.zero⟩
def aY.tok(C:aY)(r:Int):Int:=if cB r=true then(C.h r.toNat).t else 0
def Fo(a b u:Int):Bool:=decide (a<=IntKind.u64.wrap (a+b))&&decide (IntKind.u64.wrap (a+b)<u)
def qO.none(x:qO):Bool:=(x.m==0)&&(x.t==0)&&(x.u==0)
def aY.wM(C:aY)(r:Int):Bool:=cB r&& !(C.h r.toNat).none&&((C.h r.toNat).m==2)&&Fo C.iZ 3 (C.h r.toNat).u
def aY.eI(C:aY)(r i:Int):Int:=if C.wM r=false then 110 else if i<0\/4<=i then 101 else 0
def aY.kX(C:aY)(k:Nat)(x:dO):aY:={C with r:=aI C.r k x}
def aY.my(C:aY)(r t:Int):Int:=if cB r=false then 93 else if t=0\/t<C.la r.toNat then 92 else 0
def aY.nS(C:aY)(r t u:Int):aY:=if C.my r t=0 then{C with h:=aI C.h r.toNat ⟨2,t,u⟩,la:=aI C.la r.toNat t}else C
def aY.gone(C:aY)(r:Int):aY:=if cB r=true then{C with h:=aI C.h r.toNat qO.zero}else C
def aY.drop(C:aY)(r:Int):aY:={C with bl:=C.bl.filter (λx=> !ao r x),wr:=C.wr.filter (λx=> !ao r x)}
structure dz where
 s:SM
 up:Bool
 aw:List (Int×RQ)
def dz.cI(X:dz)(q:RQ):dz:=if X.up=true then⟨X.s.jX 0 8 q,(X.s.mB 0 8 q !=43),X.aw⟩else X
def dz.hZ(X:dz)(q:RQ):Bool:=X.up&&(X.s.mB 0 8 q !=43)
def dz.send(X:dz)(c:Int)(q:RQ):dz:=⟨X.s,X.up,X.aw++[(c,q)]⟩
structure Yp where
 x:dz
 l:List (LI)
 e:Int
def dz.ask(X:dz)(c:Int)(q:RQ)(i:Int):Yp:=
 if i%2=1 then⟨X,[],111⟩else if q.b9≠0 then⟨X,[],q.b9⟩else
 if(X.send c q).hZ q=false\/2<=i then⟨(X.send c q).cI q,[],111⟩else
 ⟨(X.send c q).cI q,mu X.s.M q,(aE X.s.M q).2⟩
def dz.br(X:dz)(G:LI):dz:=⟨⟨mx (X.s.D.br G) 0 8,lK (X.s.D.br G) 0 8,j6 (X.s.D.br G) 0 8,false⟩,true,X.aw⟩
def dz.gM(X:dz)(n:Int):dz:=⟨{X.s with D:=X.s.D.BD n},X.up,X.aw⟩
def gE(r t:Int):RQ:=⟨5,r,0,t,1,[]⟩
def jH(r t:Int):RQ:=⟨3,r,0,t,0,[]⟩
def eC(r i t:Int):RQ:=⟨1,r,i,t,0,[]⟩
structure PrM where
 x:dz
 r:dO
 l:Int
 e:Int
def jL(X:dz)(c r t:Int)(x:dO)(l:Int):PrM:=
 if x.cS=true then⟨X,x,l,0⟩else
 if(X.ask c (gE r t) (l%4)).e=0 then⟨(X.ask c (gE r t) (l%4)).x,{x with cS:=true},l/4,0⟩else
 ⟨(X.ask c (gE r t) (l%4)).x,x,l/4,(X.ask c (gE r t) (l%4)).e⟩
def ms(X:dz)(c r t:Int)(x:dO)(l:Int):PrM:=
 if(X.ask c (jH r t) (l%4)).e≠0 then⟨(X.ask c (jH r t) (l%4)).x,x,l/4,(X.ask c (jH r t) (l%4)).e⟩else
 if jK (X.ask c (jH r t) (l%4)).l≠0 then⟨(X.ask c (jH r t) (l%4)).x,{x with aq:=dL r t 2 (X.ask c (jH r t) (l%4)).l},l/4,jK (X.ask c (jH r t) (l%4)).l⟩else
 ⟨(X.ask c (jH r t) (l%4)).x,{x with aq:=dL r t 2 (X.ask c (jH r t) (l%4)).l,dh:=true,seq:=IntKind.u32.wrap (2+((dL r t 2 (X.ask c (jH r t) (l%4)).l).length:Nat))},l/4,0⟩
def cy(X:dz)(c r t:Int)(x:dO)(l:Int):PrM:=
 if(jL X c r t x l).e≠0 then jL X c r t x l else ms (jL X c r t x l).x c r t (jL X c r t x l).r (jL X c r t x l).l
structure PeM where
 x:dz
 p:List RQ
 l:Int
 e:Int
def eO(c:Int):List RQ->dz->Int->PeM
 |[],X,l=>⟨X,[],l,0⟩
 |q::p,X,l=>if(X.ask c q (l%4)).e≠0 then⟨(X.ask c q (l%4)).x,q::p,l/4,(X.ask c q (l%4)).e⟩else eO c p (X.ask c q (l%4)).x (l/4)
structure Cq where
 x:dz
 r:dO
 ws:List PU
 l:Int
 e:Int
def mK(X:dz)(c r _:Int)(x:dO)(B:List PU)(l:Int):Cq:=
 if(eO c x.aq X l).e≠0 then⟨(eO c x.aq X l).x,{x with aq:=(eO c x.aq X l).p},B,(eO c x.aq X l).l,(eO c x.aq X l).e⟩else
 ⟨(eO c x.aq X l).x,{x with aq:=[],bu:=0},ND B r x.bu,(eO c x.aq X l).l,WW B r x.bu⟩
def cz(X:dz)(c r t:Int)(x:dO)(ws:List PU)(l:Int):Cq:=
 if x.dh=true then mK X c r t x ws l else
 if(cy X c r t x l).e≠0 then⟨(cy X c r t x l).x,(cy X c r t x l).r,ws,(cy X c r t x l).l,(cy X c r t x l).e⟩else
 mK (cy X c r t x l).x c r t (cy X c r t x l).r ws (cy X c r t x l).l
structure TO where
 x:dz
 c:aY
 b:LI
 e:Int
def aY.bR(C:aY)(k:Nat)(y:Cq):aY:={C with r:=aI C.r k y.r,wr:=y.ws}
def fU(X:dz)(c:Int)(C:aY)(r l:Int):Cq:=cz X c r (C.tok r) (C.r r.toNat) C.wr l
def Au(y:Cq)(c:Int)(C:aY)(r i:Int):TO:=
 if y.e≠0 then⟨y.x,C.bR r.toNat y,[],y.e⟩else
 if(y.x.ask c (eC r i (C.tok r)) (y.l%4)).e≠0 then⟨(y.x.ask c (eC r i (C.tok r)) (y.l%4)).x,C.bR r.toNat y,[],(y.x.ask c (eC r i (C.tok r)) (y.l%4)).e⟩else
 ⟨(y.x.ask c (eC r i (C.tok r)) (y.l%4)).x,{C.bR r.toNat y with bl:=oV C.bl y.ws ⟨r,i,(y.x.ask c (eC r i (C.tok r)) (y.l%4)).l.headD []⟩},(y.x.ask c (eC r i (C.tok r)) (y.l%4)).l.headD [],0⟩
def df(X:dz)(c:Int)(C:aY)(r i n:Int):TO:=
 if C.eI r i≠0 then⟨X,C,[],C.eI r i⟩else
 if 0<=gu (cF r i) 0 C.bl then⟨X,{C with bl:=lZ C.bl r i},rv C.bl r i,0⟩else Au (fU X c C r n) c C r i
def mX(y:Cq)(c:Int)(C:aY)(r:Int):TO:=
 if y.e≠0 then⟨y.x,C.bR r.toNat y,[],y.e⟩else
 if y.ws.filter (ao r)=[]then⟨y.x,C.bR r.toNat y,[],0⟩else
 if nU r (y.ws.filter (ao r))≠0 then⟨y.x,C.bR r.toNat y,[],nU r (y.ws.filter (ao r))⟩else
 let z:=cz y.x c r (C.tok r) {y.r with aq:=dg r (C.tok r) y.r.seq (y.ws.filter (ao r)),bu:=((y.ws.filter (ao r)).length:Nat),seq:=IntKind.u32.wrap (y.r.seq+((dg r (C.tok r) y.r.seq (y.ws.filter (ao r))).length:Nat))} y.ws y.l
 ⟨z.x,C.bR r.toNat z,[],z.e⟩
def bz(X:dz)(c:Int)(C:aY)(r n:Int):TO:=if C.eI r 0≠0 then⟨X,C,[],C.eI r 0⟩else mX (fU X c C r n) c C r
def dj(C:aY)(r i:Int)(b:LI):aY×Int:=
 if C.eI r i≠0 then(C,C.eI r i)else({C with bl:=ya C.bl C.wr ⟨r,i,b⟩,wr:=Az C.bl C.wr ⟨r,i,b⟩},Dy C.bl C.wr ⟨r,i,b⟩)
structure dH where
 op:Int
 c:Int
 seq:Int
 r:Int
 m:Int
 t:Int
 tm:Int
structure gD where
 a9:List (Int×Int)
 be:aH
def aP(l:List (Int×Int))(c:Int):Option (Int×Int):=l.find? (λx=>x.1==c)
def bR:List (Int×Int)->Int->Int->List (Int×Int)
 |[],_,_=>[]
 |x::l,c,n=>if(x.1==c)=true then(x.1,n)::l else x::bR l c n
def jV(l:List (Int×Int))(c:Int):List (Int×Int):=l.eraseP (λx=>x.1==c)
def ij(c:Int)(T:aH)(r:Int):aH:=(((T.lp r).foldl (λT h=>if h.c==c then(T.release c r h.t).1 else T) T).cancel c r).1
def nh(T:aH)(c:Int):aH:=ij c (ij c (ij c (ij c T 0) 1) 2) 3
def FF(T:aH)(q:dH):aH×Int×Int:=
 if q.op=3 then T.acquire q.c q.r q.m else if q.op=4 then((T.release q.c q.r q.t).1,0,(T.release q.c q.r q.t).2)else if q.op=5 then T.renew q.c q.r q.t else((T.cancel q.c q.r).1,0,(T.cancel q.c q.r).2)
structure qG where
 s:gD
 e:Int
 v:Int
def gD.apply(S:gD)(q:dH):qG:=
 if q.op=7 then⟨⟨S.a9,S.be.time q.tm⟩,0,(S.be.time q.tm).now⟩else
 if q.op=1 then(if(aP S.a9 q.c).isSome then⟨S,1,0⟩else if 6<=S.a9.length then⟨S,42,0⟩else⟨⟨S.a9++[(q.c,0)],S.be⟩,0,0⟩)else
 if q.op=2 then(if(aP S.a9 q.c).isSome then⟨⟨jV S.a9 q.c,nh S.be q.c⟩,0,0⟩else⟨S,81,0⟩)else
 if(aP S.a9 q.c).isSome then⟨⟨bR S.a9 q.c q.seq,(FF S.be q).1⟩,(FF S.be q).2.2,(FF S.be q).2.1⟩else⟨S,81,0⟩
def dP(n:Int):Int:=IntKind.u32.wrap (n+1)
structure nP where
 s:gD
 c:aY
 e:Int
def cZ(S:gD)(c:Int)(C:aY)(r t:Int):nP:=
 let a:=S.apply ⟨5,c,dP C.seq,r,0,t,0⟩
 if a.e≠0 then⟨a.s,{C with seq:=dP C.seq},a.e⟩else⟨a.s,({C with seq:=dP C.seq}:aY).nS r t a.v,C.my r t⟩
def ia(S:gD)(c:Int)(C:aY):nP:=
 if C.a9=true then⟨S,C,0⟩else
 let b:=(S.apply ⟨2,c,0,0,0,0,0⟩).s.apply ⟨1,c,0,0,0,0,0⟩
 if b.e≠0 then⟨b.s,C,b.e⟩else⟨b.s,{C with a9:=true,seq:=0},0⟩
def mU(S:gD)(c:Int)(C:aY)(r:Int):nP:=
 let a:=S.apply ⟨3,c,dP C.seq,r,2,0,0⟩
 let b:={C with seq:=dP C.seq}
 if a.e≠0 then⟨a.s,b,a.e⟩else
 if a.v=C.tok r then cZ a.s c b r a.v else cZ a.s c ((b.drop r).kX r.toNat dO.zero) r a.v
def eB(S:gD)(c:Int)(C:aY)(r:Int):nP:=
 if cB r=false then⟨S,C,93⟩else
 if(ia S c C).e≠0 then ia S c C else mU (ia S c C).s c (ia S c C).c r
def eo(S:gD)(c:Int)(C:aY)(r:Int):nP:=if C.tok r=0 then⟨S,C,110⟩else cZ S c C r (C.tok r)
def ie(S:gD)(c:Int)(C:aY)(r:Int):nP:=
 if C.tok r=0 then⟨S,C,110⟩else
 let a:=S.apply ⟨4,c,dP C.seq,r,0,C.tok r,0⟩
 ⟨a.s,(({C with seq:=dP C.seq}:aY).gone r).drop r,a.e⟩
structure eH where
 d:Int
 c:Int
 r:Int
 i:Int
 n:Int
 b:LI
 p:LI
structure WM where
 sv:gD
 st:dz
 c:Nat->aY
 ev:List jZ
structure Wf where
 sv:gD
 st:dz
 c:aY
 b:LI
 e:Int
def gJ(z:gD)(p:dz)(C:aY)(o:eH):Wf:=
 if o.d=1 then(if o.n<0 then⟨z,p,C,[],1⟩else⟨(z.apply ⟨7,0,0,0,0,0,IntKind.u64.wrap (z.be.now+o.n)⟩).s,p,C,[],0⟩)else
 if o.d=2 then(if o.n<0 then⟨z,p,C,[],1⟩else⟨z,p,{C with iZ:=IntKind.u64.wrap (C.iZ+o.n)},[],0⟩)else
 if o.d=3 then⟨(eB z o.c C o.r).s,p,(eB z o.c C o.r).c,[],(eB z o.c C o.r).e⟩else
 if o.d=4 then⟨(eo z o.c C o.r).s,p,(eo z o.c C o.r).c,[],(eo z o.c C o.r).e⟩else
 if o.d=5 then⟨z,p,(dj C o.r o.i o.b).1,[],(dj C o.r o.i o.b).2⟩else
 if o.d=6 then⟨z,(df p o.c C o.r o.i o.n).x,(df p o.c C o.r o.i o.n).c,(df p o.c C o.r o.i o.n).b,(df p o.c C o.r o.i o.n).e⟩else
 if o.d=7 then⟨z,(bz p o.c C o.r o.n).x,(bz p o.c C o.r o.n).c,[],(bz p o.c C o.r o.n).e⟩else
 if o.d=8 then⟨(ie z o.c C o.r).s,p,(ie z o.c C o.r).c,[],(ie z o.c C o.r).e⟩else
 if o.d=9 then⟨z,p,aY.zero C.iZ,[],0⟩else
 if o.d=10 then(if o.n<0\/(p.aw.length:Int)<=o.n then⟨z,p,C,[],1⟩else⟨z,p.cI ((p.aw.getD o.n.toNat (0,gE 0 0)).2),C,[],0⟩)else
 if o.i≠0 then⟨z,p.gM o.n,C,[],0⟩else⟨z,p.br o.p,C,[],0⟩
def eH.fit(o:eH):Bool:=decide (1<=o.d)&&decide (o.d<=11)&&decide (0<=o.c)&&decide (o.c<3)
def eH.out(o:eH)(C:aY)(y:Wf):jZ:=
 ⟨o.d,o.c,o.r,o.i,if o.d=3/\y.e=0 then y.c.tok o.r else C.tok o.r,if o.d=5/\y.e=0 then o.b else y.b,y.e⟩
def WM.one(X:WM)(o:eH):Wf:=gJ X.sv X.st (X.c o.c.toNat) o
def WM.bw(X:WM)(o:eH):jZ:=if o.fit=true then o.out (X.c o.c.toNat) (X.one o)else⟨o.d,o.c,o.r,o.i,0,[],1⟩
def WM.step(X:WM)(o:eH):WM:=
 if o.fit=true then⟨(X.one o).sv,(X.one o).st,aI X.c o.c.toNat (X.one o).c,X.ev++[X.bw o]⟩else⟨X.sv,X.st,X.c,X.ev++[X.bw o]⟩
def WM.new(s:SM):WM:=⟨⟨[],⟨0,0,λ_=>⟨[],[]⟩⟩⟩,⟨s,true,[]⟩,λ_=>aY.zero 0,[]⟩
section
def qN(p:gZ):LI:=p.i::p.d
def WE(b:LI):gZ:=⟨b.headD 0,b.tail⟩
def OD(p:gZ):Prop:=0<=p.i/\p.i<4/\p.d.length<=23
def gP(p:PU):gZ:=⟨p.index,p.data⟩
structure eV(q:RQ):Prop where
 ok:q.ok
 w:q.b9=0
 b:Bytes q.data
 i:¬(q.op<=2/\4<=q.index)
 r:q.region<4
theorem xt(b:yw)(l r:List gZ):jG b (l++r)=jG (jG b l) r:=XI
theorem uM(b:yw)(l:List gZ)(p:gZ):jG b (l++[p])=ti (jG b l) p:=xt b l [p]
theorem UE(h:OD p):ti b p=aI b p.i.toNat p.d:=iP ⟨h.1,h.2.1⟩
theorem LZ(l:List gZ):∀(b c:yw) (j:Nat),(b j=c j\/∃p∈l,OD p/\p.i.toNat=j)->jG b l j=jG c l j:=by
 induction l with
 |nil=>
  intro b c j h;rcases h with h|⟨p,P,_⟩
  ·exact h
  ·cases P
 |cons p r K=>
  intro b c j h;show jG (ti b p) r j=jG (ti c p) r j;refine K _ _ j ?_;unfold ti;by_cases P:0<=p.i/\p.i<4
  ·rw[iP P,iP P]
   by_cases Y:j=p.i.toNat
   ·subst Y
    exact .inl (by rw[aT,aT])
   ·rcases h with h|⟨q,d,Q,a⟩
    ·exact .inl (by rw[bS _ _ _ _ Y,bS _ _ _ _ Y];exact h)
    ·rcases qQ.1 d with rfl|d
     ·exact absurd a.symm Y
     ·exact .inr ⟨q,d,Q,a⟩
  ·rw[iN P,iN P]
   rcases h with h|⟨q,d,Q,a⟩
   ·exact .inl h
   ·rcases qQ.1 d with rfl|d
    ·exact absurd ⟨Q.1,Q.2.1⟩ P
    ·exact .inr ⟨q,d,Q,a⟩
theorem rV(l:List gZ):∀(b:yw) (j:Nat),(∀p∈l,0<=p.i->p.i<4->p.i.toNat≠j)->jG b l j=b j:=by
 induction l with
 |nil=>intro b j _;rfl
 |cons p r K=>
  intro b j h;show jG (ti b p) r j=b j;rw[K _ j (λq d=>h q (Bd _ d))];unfold ti
  split
  ·rename_i P
   exact bS _ _ _ _ (Vh (h p Eg P.1 P.2))
  ·rfl
theorem Ju(b:yw)(l:List gZ)(h:∀p∈l,OD p)(k:Nat):jG (jG b (l.take k)) l=jG b l:=by
 funext j
 refine LZ l _ _ j ?_;by_cases J:∃p∈l,p.i.toNat=j
 ·obtain⟨p,P,e⟩:=J
  exact .inr ⟨p,P,h p P,e⟩
 ·exact .inl (rV _ _ _ (λp P _ _ Y=>J ⟨p,TH P,Y⟩))
structure s7(x:Rg)(L:List gZ)(w:Nat)(b0:yw):Prop where
 lg:x.log=L.map qN
 bl:x.b=jG b0 (L.take w)
 ok:∀p∈L,OD p
def Vl(x:Rg):yw:=jG x.b (x.log.map WE)
theorem Qb(L:List gZ):(L.map qN).map WE=L:=by
 rw[Vn];exact(Xp (λ_ _=>rfl)).trans (List.map_id L)
theorem s7.v{x:Rg}{w:Nat}{K:yw}(h:s7 x L w K):Vl x=jG K L:=by
 unfold Vl;rw[h.lg,h.bl,Qb];exact Ju _ _ h.ok _
def pF:List gZ->Nat->List RQ->List gZ->Prop
 |L,w,[],a=>L=[]/\w=0/\a=[]
 |L,w,q::n,a=>
  (q.op=4/\q.index=0/\w=0/\L.length<4/\∃p b,a=p::b/\OD p/\q.data=qN p/\pF (L++[p]) 0 n b)\/
  (q.op=2/\(∃p,L[w]? =some p/\q.index=p.i/\q.data=p.d)/\pF L (w+1) n a)\/
  (q.op=5/\w=L.length/\q.index=(L.length:Nat)/\pF [] 0 n a)
theorem zW{l:List α}{k:Nat}{x:α}(h:l[k]? =some x):l.take (k+1)=l.take k++[x]:=by rw[JU,h];rfl
theorem Cw{x:Rg}{w:Nat}{K:yw}{q:RQ}{n:List RQ}{a:List gZ}(h:s7 x L w K)(ht:pF L w (q::n) a):
 ∃N O g b,s7 (x.act q) N O g/\pF N O n b/\Rg.cT x.log.length q=(true,0)/\q.bI=true/\¬(q.op<=2/\4<=q.index)/\
  ((b=a/\Vl (x.act q)=Vl x)\/∃p,a=p::b/\Vl (x.act q)=ti (Vl x) p):=by
 have F:x.log.length=L.length:=by rw[h.lg,qI]
 rcases ht with⟨S,Q,rfl,r,p,b,rfl,P,y,ht⟩|⟨G,⟨p,P,Q,y⟩,ht⟩|⟨t,rfl,Q,ht⟩
 ·have U:s7 (x.act q) (L++[p]) 0 K:=by
   refine⟨?_,?_,λz o=> ?_⟩
   ·show(if q.op=4 then x.log++[q.data]else if q.op=5 then x.log.drop q.index.toNat else x.log)=_
    rw[iP S,h.lg,y,yu]
    rfl
   ·show(if q.op=2 then aI x.b q.index.toNat q.data else x.b)=_
    rw[iN oM,h.bl,Hd,Hd]
   ·rcases oc.1 o with o|o
    ·exact h.ok z o
    ·rw[nN.1 o]
     exact P
  refine⟨_,_,_,b,U,ht,?_,?_,oM,.inr ⟨p,rfl,?_⟩⟩
  ·unfold Rg.cT
   rw[iN oM,iN oM]
  ·unfold RQ.bI
   rw[S]
   rfl
  ·rw[U.v,h.v,uM]
 ·have B:=h.ok p (qP P)
  have U:s7 (x.act q) L (w+1) K:=by
   refine⟨?_,?_,h.ok⟩
   ·show(if q.op=4 then x.log++[q.data]else if q.op=5 then x.log.drop q.index.toNat else x.log)=_
    rw[iN oM,iN oM];exact h.lg
   ·show(if q.op=2 then aI x.b q.index.toNat q.data else x.b)=_
    rw[iP G,h.bl,zW P,uM,UE B,Q,y]
  refine⟨_,_,_,a,U,ht,?_,?_,?_,.inl ⟨rfl,?_⟩⟩
  ·unfold Rg.cT
   rw[iN oM,iN oM]
  ·unfold RQ.bI
   rw[G]
   rfl
  ·have:=B.2.1
   omega
  ·rw[U.v,h.v]
 ·have U:s7 (x.act q) [] 0 (jG K L):=by
   refine⟨?_,?_,λz o=>by cases o⟩
   ·show(if q.op=4 then x.log++[q.data]else if q.op=5 then x.log.drop q.index.toNat else x.log)=_
    rw[iN oM,iP t,Q,rE,<-F];exact Zm
   ·show(if q.op=2 then aI x.b q.index.toNat q.data else x.b)=_
    rw[iN oM,h.bl,MT]
    rfl
  refine⟨_,_,_,a,U,ht,?_,?_,oM,.inl ⟨rfl,?_⟩⟩
  ·unfold Rg.cT
   rw[iN oM,iN oM]
  ·unfold RQ.bI
   rw[t]
   rfl
  ·rw[U.v,h.v]
   rfl
theorem uY{R:List RQ}{b:List gZ}(c:pF [] 0 R b):∀(Q:List RQ) (L:List gZ) (w:Nat) (a:List gZ),pF L w Q a->pF L w (Q++R) (a++b)
 |[],L,w,a,h=>by
  obtain⟨rfl,rfl,rfl⟩:=h;exact c
 |q::Q,L,w,a,h=>by
  rcases h with⟨S,z,rfl,t,p,d,rfl,P,y,ht⟩|⟨G,P,ht⟩|⟨U,u,z,ht⟩
  ·exact .inl ⟨S,z,rfl,t,p,d++b,rfl,P,y,uY c Q _ _ _ ht⟩
  ·exact .inr (.inl ⟨G,P,uY c Q _ _ _ ht⟩)
  ·exact .inr (.inr ⟨U,u,z,uY c Q _ _ _ ht⟩)
def Ks(r:Int)(p:PU):Prop:=p.region=r/\OD (gP p)
theorem GL{r:Int}{p:PU}(h:Ks r p):jP p=0:=by
 obtain⟨_,Z,G,M⟩:=h;have Z:0<=p.index:=Z;have G:p.index<4:=G;have M:p.data.length<=23:=M;unfold jP;rw[iN oM,iN oM]
theorem Ew{r:Int}{p:PU}(h:Ks r p):Dq p=qN (gP p):=MK p (GL h)
theorem GR(r t s:Int){R:List RQ}{a:List gZ}:∀(l:List PU) (i:Nat) (L:List gZ),(∀p∈l,Ks r p)->L.length+l.length<=4->pF (L++l.map gP) 0 R a->pF L 0 (wl (eQ r t s) i l++R) (l.map gP++a)
 |[],i,L,_,_,h=>by rw[zF,xd]at h;exact h
 |p::l,i,L,B,F,h=>by
  have P:=B p abN;rw[qR]at F;refine .inl ⟨rfl,rfl,rfl,oM,gP p,l.map gP++a,rfl,P.2,Ew P,?_⟩;exact GR r t s l (i+1) (L++[gP p]) (λx J=>B x (by simp[J])) (by rw[dB];simp;omega) (by rw[pI];exact h)
theorem KY(r t s:Int){R:List RQ}{a:List gZ}:∀(l:List PU) (i:Nat) (A:List gZ),pF (A++l.map gP) (A++l.map gP).length R a->pF (A++l.map gP) A.length (wl (wQ r t s) i l++R) a
 |[],i,A,h=>by rw[zF,xd]at h⊢;exact h
 |p::l,i,A,h=>by
  refine .inr (.inl ⟨rfl,⟨gP p,?_,rfl,rfl⟩,?_⟩)
  ·rw[nG,OB (io _),Sm]
   rfl
  ·have e:A++(p::l).map gP=(A++[gP p])++l.map gP:=by rw[pI];rfl
   rw[e]at h⊢;have:=KY r t s l (i+1) (A++[gP p]) h;rwa[dB]at this
theorem Bn(r t s:Int)(l:List PU):pF (l.map gP) 0 (tz r t s l) []:=by
 unfold tz;by_cases h:0<l.length
 ·rw[iP h]
  exact KY r t s l 0 [] (.inr (.inr ⟨rfl,rfl,by rw[zm,qI],rfl,rfl,rfl⟩))
 ·have:l=[]:=Xz.1 oM
  subst this;exact aeC
theorem Nx(r t s:Int)(l:List PU)(B:∀p∈l,Ks r p)(S:l.length<=4):pF [] 0 (qF r t s l).2 (l.map gP):=by
 have:=GR r t s l 0 [] B (by simpa using S) (Bn r t (IntKind.u32.wrap (s+l.length)) l);rwa[xd]at this
theorem LM(r t s:Int)(l:List PU)(B:∀p∈l,Ks r p):∀j,pF [] 0 (pQ r t s l j).2 ((l.take (4*j)).map gP)
 |0=>⟨rfl,rfl,rfl⟩
 |j+1=>by
  have h:=uY (Nx r t (pQ r t s l j).1 ((l.drop (4*j)).take 4) (λp P=>B p (TW (TH P))) ab5) _ _ _ _ (LM r t s l B j);rw[<-yu,show l.take (4*j)++(l.drop (4*j)).take 4=l.take (4*(j+1))by rw[Nat.mul_add,Uz,List.take_add]]at h;exact h
theorem uG{r:Int}(B:∀p∈l,Ks r p):nU r l=0:=by
 have Z:jz l=0:=by
  induction l with
  |nil=>rfl
  |cons p l K=>
   unfold jz;rw[iP (GL (B p abN))];exact K (λx J=>B x (by simp[J]))
 unfold nU;rw[iP Z,iN];rw[zda];rintro⟨x,J,h⟩;rw[(B x J).1]at h;simp at h
theorem Ob(r t s:Int)(l:List PU)(B:∀p∈l,Ks r p):pF [] 0 (dg r t s l) (l.map gP):=by
 unfold dg;rw[iP (uG B)];have:=LM r t s l B ((l.length+3)/4);rwa[oJ oM]at this
theorem BZ{r:Int}(h:OD p):ik (qN p)=0/\ue r (qN p)=⟨r,p.i,p.d⟩:=by
 have e:ik (qN p)=0:=by
  show(if 4<=p.i then 101 else if 23<p.d.length then 2 else(0:Int))=0;obtain⟨Z,G,M⟩:=h;rw[iN oM,iN oM]
 exact⟨e,iP e⟩
theorem DD{r t s:Int}(h:∀p∈L,OD p):jK (L.map qN)=0/\dL r t s (L.map qN)=tz r t s (L.map (λp=>⟨r,p.i,p.d⟩)):=by
 have Z:jK (L.map qN)=0:=by
  induction L with
  |nil=>rfl
  |cons p L K=>
   show(if ik (qN p)=0 then jK (L.map qN)else ik (qN p))=0;rw[iP (BZ (r:=r) (h p abN)).1];exact K (λx J=>h x (by simp[J]))
 refine⟨Z,?_⟩;unfold dL;rw[iP Z,Vn]
 congr 1
 exact Xp (λp P=>(BZ (h p P)).2)
theorem PH{r t s:Int}(h:∀p∈L,OD p):pF L 0 (dL r t s (L.map qN)) []:=by
 rw[(DD h).2];have:=Bn r t s (L.map (λp=>⟨r,p.i,p.d⟩));rwa[Vn,(Xp (λ_ _=>rfl):L.map (gP∘λp=>(⟨r,p.i,p.d⟩:PU))=L.map id),List.map_id]at this
theorem YV(f:Nat->PU->RQ)(l:List PU):∀i k,(wl f i l)[k]? =(l[k]?).map (f (i+k)):=by
 induction l with
 |nil=>intro i k;rfl
 |cons p r K=>
  intro i k
  cases k with
  |zero=>rfl
  |succ k=>
   show(wl f (i+1) r)[k]? =(r[k]?).map (f (i+(k+1)));rw[K,show i+1+k=i+(k+1)by omega]
def lo(r t s:Int)(Q:List RQ):Prop:=∀k q,Q[k]? =some q->q.region=r/\q.token=t/\q.seq=s+(k:Nat)/\eV q/\q.bI=true
theorem lo.nil(r t s:Int):lo r t s []:=λk q h=>by simp at h
theorem lo.oN{r t s:Int}{Q R:List RQ}(h:lo r t s Q)(k:lo r t (s+(Q.length:Nat)) R):lo r t s (Q++R):=by
 intro j q H;by_cases y:j<Q.length
 ·rw[TE y]at H
  exact h j q H
 ·rw[OB oM]at H
  obtain⟨a,b,c,d⟩:=k _ q H;exact ae1
theorem lo.tail{r t s:Int}{q:RQ}{Q:List RQ}(h:lo r t s (q::Q)):lo r t (s+1) Q:=by
 intro j x H;obtain⟨a,b,c,d⟩:=h (j+1) x (by simpa using H);exact ae1
theorem Rr{r t s:Int}{f:Int->Nat->PU->RQ}(W:∀(s:Int) (i:Nat) (p:PU),p∈l->0<=s->s+(i:Nat)<=4294967295->(f s i p).region=r/\(f s i p).token=t/\(f s i p).seq=s+(i:Nat)/\eV (f s i p)/\(f s i p).bI=true)(K:0<=s)(i:Nat)(hs:s+(i:Nat)+(l.length:Nat)<=4294967296):lo r t (s+(i:Nat)) (wl (f s) i l):=by
 intro k q Q;rw[YV]at Q;obtain⟨p,P,rfl⟩:=Option.map_eq_some_iff.1 Q;have y:=(nQ.1 P).1;obtain⟨a,b,c,d⟩:=W s (i+k) p (qP P) K oM;exact ae1
section
variable {r t s:Int} (U:0<=r/\r<4) (c:0<=t/\t<18446744073709551616)
include U c
theorem uF{op i n:Int}{b:LI}(X:op=2\/op=4\/op=5)(z:0<=i/\i<=255/\(op=2->i<4))(W:0<=n/\n<4294967296)(B:Bytes b)(F:b.length<=24):eV ⟨op,r,i,t,n,b⟩/\RQ.bI ⟨op,r,i,t,n,b⟩=true:=by
 refine⟨⟨⟨c.1,c.2,W.1,W.2⟩,?_,B,by show¬(op<=2/\4<=i);omega,U.2⟩,?_⟩
 ·unfold RQ.b9
  rw[iN (by show¬(op<1\/5<op\/r<0\/255<r\/i<0\/255<i);omega),iN (by show¬24<b.length;omega)]
 ·rcases X with rfl|rfl|rfl<;>rfl
theorem FZ(B:∀p∈l,Ks r p/\Bytes p.data)(S:l.length<=255)(K:0<=s)(hs:s+(l.length:Nat)+1<=4294967296):lo r t s (tz r t s l):=by
 unfold tz;have Z:=Rr (f:=wQ r t) (l:=l) (λs i p P a o=>by
  have M:IntKind.u32.wrap (s+(i:Nat))=s+(i:Nat):=IntWalk.u32_in _ oM;obtain⟨⟨Z,G⟩,Y⟩:=B p P;have C:=uF U c (op:=2) (i:=p.index) (n:=s+(i:Nat)) (b:=p.data) (.inl rfl) ⟨G.1,by have:=G.2.1;show p.index<=255;have h:(gP p).i=p.index:=rfl;omega,λ_=>G.2.1⟩ oM Y (by have:=G.2.2;have h:(gP p).d=p.data:=rfl;rw[h]at this;omega);unfold wQ;rw[M];exact⟨rfl,rfl,rfl,C⟩) K 0 oM
 refine lo.oN (by simpa using Z) ?_
 split
 ·intro k q Q
  have u:k=0:=by
   have:=(nQ.1 Q).1;simp at this;exact this
  subst u;obtain rfl:=(by simpa using Q:_=q);have M:IntKind.u32.wrap (s+(l.length:Nat))=s+(l.length:Nat):=IntWalk.u32_in _ oM;rw[M,gG];exact⟨rfl,rfl,by show s+(l.length:Nat)=s+(l.length:Nat)+(0:Nat);omega,uF U c (.inr (.inr rfl)) oM oM (λ_ h=>by cases h) abN⟩
 ·exact lo.nil _ _ _
theorem Pj(B:∀p∈l,Ks r p/\Bytes p.data)(S:l.length<=255)(K:0<=s)(hs:s+2*(l.length:Nat)+1<=4294967295):lo r t s (qF r t s l).2/\(qF r t s l).1=s+((qF r t s l).2.length:Nat):=by
 have M:IntKind.u32.wrap (s+(l.length:Nat))=s+(l.length:Nat):=IntWalk.u32_in _ oM;have Z:=Rr (f:=eQ r t) (l:=l) (λs i p P a o=>by
  have M:IntKind.u32.wrap (s+(i:Nat))=s+(i:Nat):=IntWalk.u32_in _ oM;obtain⟨Z,Y⟩:=B p P;have G:=Z.2;have e:=Ew Z;have C:=uF U c (op:=4) (i:=0) (n:=s+(i:Nat)) (b:=Dq p) (.inr (.inl rfl)) oM oM (by
   rw[e];intro x J;rcases qQ.1 J with rfl|J
   ·exact⟨G.1,by have:=G.2.1;omega⟩
   ·exact Y x J) (by rw[e];have:=G.2.2;unfold qN;rw[qR];omega)
  unfold eQ;rw[M];exact⟨rfl,rfl,rfl,C⟩) K 0 oM
 have G:=FZ U c (s:=s+(l.length:Nat)) B S oM oM;unfold qF;rw[M];refine⟨lo.oN (by simpa using Z) (by rw[gG];exact G),?_⟩;show Gw (s+(l.length:Nat)) l=_;rw[dB,gG];unfold Gw tz
 split
 ·rw[dB,gG]
  rw[show s+(l.length:Nat)+(l.length:Nat)+1=s+2*(l.length:Nat)+1 by omega,IntWalk.u32_in _ oM];exact abS
 ·have:l.length=0:=oM
  rw[dB,gG];exact abS
theorem QO{l:List PU}(B:∀p∈l,Ks r p/\Bytes p.data)(K:0<=s):∀j:Nat,s+9*(j:Nat)<=4294967295->lo r t s (pQ r t s l j).2/\(pQ r t s l j).1=s+((pQ r t s l j).2.length:Nat)
 |0,_=>⟨lo.nil _ _ _,by show s=s+(0:Nat);omega⟩
 |j+1,H=>by
  obtain⟨Z,G⟩:=QO B K j oM;have F:=o9 r t s l j;have S:((l.drop (4*j)).take 4).length<=4:=by rw[fV];omega
  obtain⟨u,V⟩:=Pj U c (s:=(pQ r t s l j).1) (l:=(l.drop (4*j)).take 4) (λp P=>B p (TW (TH P))) oM oM oM;refine⟨lo.oN Z (by rw[<-G];exact u),?_⟩;show(qF r t (pQ r t s l j).1 ((l.drop (4*j)).take 4)).1=s+(((pQ r t s l j).2++(qF r t (pQ r t s l j).1 ((l.drop (4*j)).take 4)).2).length:Nat);rw[V,dB];omega
theorem Ev(B:∀p∈l,Ks r p/\Bytes p.data)(K:0<=s)(F:l.length<=1000)(hs:s<=4000000000):lo r t s (dg r t s l):=by
 unfold dg;rw[iP (uG (λp P=>(B p P).1))];exact(QO U c B K _ oM).1
theorem Tm(B:∀p∈L,OD p/\Bytes p.d)(F:L.length<=255)(K:0<=s)(hs:s<=4000000000):lo r t s (dL r t s (L.map qN)):=by
 rw[(DD (λp P=>(B p P).1)).2];refine FZ U c (λp P=> ?_) (by rw[qI];exact F) K (by rw[qI];omega);obtain⟨x,J,rfl⟩:=um.1 P;exact⟨⟨rfl,(B x J).1⟩,(B x J).2⟩
end
end
section
structure Vw where
 x:dO
 f:Nat
 ca:List PU
def Vw.zero:Vw:=⟨dO.zero,0,[]⟩
def Vw.g(v:Vw):Nat:=v.f+v.x.bu.toNat
def Vw.s0(v:Vw):Int:=v.x.seq-(v.x.aq.length:Nat)
structure Qu(r t:Int)(s:fT)(v:Vw):Prop where
 nr:v.x.dh=false->v.x.aq=[]/\v.x.bu=0/\v.f=0
 rf:v.x.dh=true->v.x.cS=true
 p0:0<=v.x.bu
 fp:v.g<=s.p.length
 sq:lo r t v.s0 v.x.aq
 s2:v.x.dh=true->2<=v.s0
theorem Qu.zero(r t:Int)(s:fT):Qu r t s Vw.zero:=⟨λ_=>⟨rfl,rfl,rfl⟩,λh=>(by cases h),cO _,iD _,lo.nil _ _ _,λh=>(by cases h)⟩
def qL(S:Int->fT)(k:Int->Nat):Nat->yw
 |0=>noB
 |n+1=>jG (qL S k n) ((S ((n+1:Nat):Int)).p.take (k ((n+1:Nat):Int)))
def ny(S:Int->fT)(k:Int->Nat)(t:Int):yw:=qL S k (t-1).toNat
def Bi(S:Int->fT)(k:Int->Nat)(t:Int):yw:=qL S k t.toNat
theorem yy(S:Int->fT)(k:Int->Nat){t:Int}(h:1<=t):Bi S k t=jG (ny S k t) ((S t).p.take (k t)):=by
 unfold Bi ny;obtain⟨n,rfl⟩:∃n:Nat,t=((n+1:Nat):Int):=⟨(t-1).toNat,oM⟩;rw[show(((n+1:Nat):Int)-1).toNat=n by omega,rE]
 rfl
theorem tC{S a:Int->fT}{k i:Int->Nat}:∀n:Nat,(∀t:Int,1<=t->t<=(n:Nat)->(S t).p.take (k t)=(a t).p.take (i t))->qL S k n=qL a i n
 |0,_=>rfl
 |n+1,h=>by
  unfold qL;rw[tC n (λt Z G=>h t Z oM),h _ oM (cO _)]
theorem AH{S a:Int->fT}{k i:Int->Nat}{t:Int}(h:∀j:Int,1<=j->j<t->(S j).p.take (k j)=(a j).p.take (i j)):ny S k t=ny a i t:=
 tC _ (λj Z G=>h j Z oM)
theorem BY{S:Int->fT}{k:Int->Nat}(n:Nat):∀m:Nat,(∀t:Int,(n:Nat)<t->t<=(n+m:Nat)->k t=0)->qL S k (n+m)=qL S k n
 |0,_=>rfl
 |m+1,h=>by
  show jG (qL S k (n+m)) ((S ((n+m+1:Nat):Int)).p.take (k ((n+m+1:Nat):Int)))=_;rw[h ((n+m+1:Nat):Int) oM oM,Hd,BY n m (λt Z G=>h t Z oM)]
  rfl
theorem NI{S:Int->fT}{k:Int->Nat}{h t:Int}(K:0<=h)(ht:h<=t)(Q:∀j,h<j->k j=0):Bi S k t=Bi S k h:=by
 unfold Bi;have:=BY (S:=S) (k:=k) h.toNat (t-h).toNat (λj Z _=>Q j oM);rwa[show h.toNat+(t-h).toNat=t.toNat by omega]at this
def mC(S:Int->fT)(k:Int->Nat)(h t:Int)(y:AI):Prop:=(t<=h->px (S t) (ny S k t) y=true)/\(h<t->∀b,px (S t) b y=true)
theorem mC.up{S:Int->fT}{k:Int->Nat}{h E t:Int}{y:AI}(c:mC S k h t y)(l:h<=E):mC S k E t y:=by
 refine⟨λZ=> ?_,λZ b=>c.2 oM b⟩;by_cases G:t<=h
 ·exact c.1 G
 ·exact c.2 oM _
def OX(s:fT)(v:Vw)(x:Rg)(k:Nat):Prop:=
 ∃L w K,s7 x L w K/\k<=v.g/\((x.seq=v.s0-1/\pF L w v.x.aq ((s.p.take v.g).drop k))\/∃q n,v.x.aq=q::n/\x.seq=v.s0/\pF L w n ((s.p.take v.g).drop k))
structure dF(S:Int->fT)(gv:Int->Vw)(x:Rg)(k:Int->Nat):Prop where
 h0:0<=x.ax
 s1:1<=x.ax->1<=x.seq
 kh:∀t,x.ax<t->k t=0
 kp:∀t,1<=t->k t<=(S t).p.length
 ks:∀t,1<=t->(S t).s<=(k t:Nat)
 v:Vl x=Bi S k x.ax
 lg:∃L w b0,s7 x L w b0
 lk:∀t,1<=t->∀y∈(S t).k,mC S k x.ax t y
 ca:∀t,1<=t->∀y∈(gv t).ca,mC S k x.ax t ⟨((S t).p.length:Nat),y.index,y.data⟩
 fe:∀t,1<=t->(gv t).x.cS=true->t<=x.ax
 vf:∀t,1<=t->t<x.ax->(gv t).x.dh=true->(gv t).f<=k t/\((gv t).x.aq=[]->(gv t).g<=k t)
 Va:1<=x.ax->(gv x.ax).x.dh=false->x.seq=1/\k x.ax=0
 fD:1<=x.ax->(gv x.ax).x.dh=true->(gv x.ax).f<=k x.ax/\OX (S x.ax) (gv x.ax) x (k x.ax)
theorem OX.done{s:fT}{v:Vw}{x:Rg}{k:Nat}(h:OX s v x k)(C:v.g<=s.p.length)(P:v.x.aq=[]):v.g=k/\x.log=[]/\x.seq=v.s0-1:=by
 obtain⟨L,w,K,U,Q,h|⟨q,n,h,_⟩⟩:=h
 ·obtain⟨Z,ht⟩:=h
  rw[P]at ht;obtain⟨rfl,rfl,M⟩:=ht;have S:=congrArg List.length M;rw[km,fV]at S;have t:min v.g s.p.length-k=0:=S;exact⟨oM,U.lg,Z⟩
 ·rw[P]at h
  cases h
theorem dF.kept{S:Int->fT}{gv:Int->Vw}{x:Rg}{k:Int->Nat}(h:dF S gv x k){t:Int}(ht:1<=t)(U:(gv t).x.dh=true)(a:(gv t).x.cS=true):(gv t).f<=k t:=by
 have Z:=h.fe t ht a;by_cases G:t<x.ax
 ·exact(h.vf t ht G U).1
 ·obtain rfl:t=x.ax:=oM
  exact(h.fD ht U).1
def tw(r:Int)(gv:Int->Vw)(q:RQ):Prop:=
 q.region=r->q.bI=true->1<=q.token/\(q=gE r q.token\/((gv q.token).x.dh=true/\(q.seq<(gv q.token).s0\/(gv q.token).x.aq.head? =some q)))
theorem xM{m:Nat->Rg}{q:RQ}(h:(aE m q).2=0/\(aE m q).1=true):
 q.bI=true/\(((m q.region.toNat).ax<q.token/\q.seq=1)\/((m q.region.toNat).ax=q.token/\q.seq=(m q.region.toNat).seq+1)):=by
 unfold aE at h
 split at h;· exact absurd h.2 iu
 split at h;· exact absurd h.2 iu
 split at h;· exact absurd h.2 iu
 split at h;· exact absurd h.2 iu
 rename_i S
 split at h
 ·rename_i D
  refine⟨D,?_⟩;unfold Rg.next Rg.nC at h
  split at h
  ·rename_i U
   split at h
   ·exact absurd h.2 iu
   ·rename_i u
    exact .inl ⟨U,oM⟩
  ·rename_i U
   split at h;· exact absurd h.2 iu
   split at h;· exact absurd h.2 iu
   split at h;· exact absurd h.2 iu
   rename_i u;exact .inr ⟨oM,oM⟩
 ·exact absurd h.2 iu
theorem NT{m:Nat->Rg}{q:RQ}{j:Nat}(h:j≠q.region.toNat):gL m q j=m j:=by
 unfold gL
 split
 ·exact bS _ _ _ _ h
 ·rfl
theorem dF.Yk{S:Int->fT}{gv:Int->Vw}{x:Rg}{k:Int->Nat}(h:dF S gv x k)(d:∀t,1<=t->(gv t).x.dh=true->(gv t).x.cS=true)(C:∀t,1<=t->(gv t).g<=(S t).p.length){r t:Int}(ht:x.ax<t):dF S gv (x.act (gE r t)) k:=by
 have W:=h.h0;have l:(x.act (gE r t)).ax=t:=rfl;have B:(x.act (gE r t)).b=x.b:=rfl;have F:(x.act (gE r t)).log=x.log:=rfl;refine⟨by rw[l];omega,λ_=>cO _,λj H=>h.kh j (by rw[l]at H;omega),h.kp,h.ks,?_,?_,λj H y E=>(h.lk j H y E).up (by rw[l];omega),λj H y E=>(h.ca j H y E).up (by rw[l];omega),λj H a=> ?_,λj H Z G=> ?_,λ_ _=>⟨rfl,?_⟩,λZ G=> ?_⟩
 ·show jG x.b (x.log.map WE)=Bi S k t
  rw[NI W oM h.kh];exact h.v
 ·obtain⟨L,w,K,U⟩:=h.lg
  exact⟨L,w,K,U.lg,U.bl,U.ok⟩
 ·have:=h.fe j H a
  rw[l];omega
 ·have M:=h.fe j H (d j H G)
  by_cases u:j<x.ax
  ·exact h.vf j H u G
  ·obtain rfl:j=x.ax:=oM
   obtain⟨o,V⟩:=h.fD H G;exact⟨o,λP=>by have:=(V.done (C _ H) P).1;omega⟩
 ·rw[l]
  exact h.kh t ht
 ·rw[l]at G
  have:=h.fe t oM (d t oM G);omega
theorem dF.aq{S:Int->fT}{gv:Int->Vw}{x:Rg}{k:Int->Nat}(h:dF S gv x k)(ht:1<=x.ax)(U:(gv x.ax).x.dh=true){r:Int}(K:lo r x.ax (gv x.ax).s0 (gv x.ax).x.aq){q:RQ}{n:List RQ}(P:(gv x.ax).x.aq=q::n)(hs:x.seq=(gv x.ax).s0-1)(B0:2<=(gv x.ax).s0):
 ∃a,dF S gv (x.act q) a:=by
 obtain⟨M,L,w,b0,c,Q,Z|⟨q',C0,_,Z,_⟩⟩:=h.fD ht U
 case inr=>omega
 obtain⟨_,A⟩:=Z;obtain⟨_,V,q3,_⟩:=K 0 q (by rw[P];rfl);rw[P]at A;obtain⟨Y,O,g,A0,X,T,_,_,_,F⟩:=Cw c A;have H:(x.act q).ax=x.ax:=V;have d:(x.act q).seq=(gv x.ax).s0:=by
  show q.seq=_;rw[q3];omega
 rcases F with⟨rfl,o⟩|⟨p,I,o⟩
 ·refine⟨k,by rw[H];exact h.h0,λ_=>by rw[d];omega,by rw[H];exact h.kh,h.kp,h.ks,by rw[o,H];exact h.v,⟨_,_,_,X⟩,by rw[H];exact h.lk,by rw[H];exact h.ca,by rw[H];exact h.fe,by rw[H];exact h.vf,λ_ G=> ?_,λ_ _=> ?_⟩
  ·rw[H,U]at G
   cases G
  ·rw[H]
   exact⟨M,Y,O,g,X,Q,.inr ⟨q,n,P,d,T⟩⟩
 ·have R:k x.ax<(S x.ax).p.length/\k x.ax<(gv x.ax).g/\(S x.ax).p[k x.ax]? =some p:=by
   have u:=congrArg List.length I;rw[km,fV,qR]at u;have t:=congrArg (λl=>l[0]?) I;simp only[zU,yd,zdf]at t;rw[AW,iP oM]at t;exact⟨oM,oM,t⟩
  have z:A0=((S x.ax).p.take (gv x.ax).g).drop (k x.ax+1):=by
   rw[<-FI,I]
   rfl
  obtain⟨a,C⟩:∃a:Int->Nat,a=λj=>if j=x.ax then k x.ax+1 else k j:=⟨_,rfl⟩;have B:a x.ax=k x.ax+1:=by rw[C];exact iP rfl
  have J:∀j,j≠x.ax->a j=k j:=λj N=>by rw[C];exact iN N
  have W:∀j,j<=x.ax->ny S a j=ny S k j:=λj N=>AH (λi _ hi=>by rw[J i oM]);have b:∀j y,mC S k x.ax j y->mC S a x.ax j y:=λj y D=>⟨λZ=>by rw[W j Z];exact D.1 Z,D.2⟩;refine⟨a,by rw[H];exact h.h0,λ_=>by rw[d];omega,λj N=> ?_,λj N=> ?_,λj N=> ?_,?_,⟨_,_,_,X⟩,by rw[H];exact λj N y E=>b j y (h.lk j N y E),by rw[H];exact λj N y E=>b j _ (h.ca j N y E),by rw[H];exact h.fe,λj N Z G=> ?_,λ_ G=> ?_,λ_ _=> ?_⟩
  ·rw[H]at N
   rw[J j oM];exact h.kh j N
  ·by_cases e:j=x.ax
   ·rw[e,B]
    omega
   ·rw[J j e]
    exact h.kp j N
  ·have:=h.ks j N
   by_cases e:j=x.ax
   ·rw[e]at this⊢
    rw[B];omega
   ·rw[J j e]
    exact this
  ·rw[o,H,h.v,yy S k ht,yy S a ht,W _ (cO _),B,zW R.2.2,uM]
  ·rw[H]at Z
   rw[J j oM];exact h.vf j N Z G
  ·rw[H,U]at G
   cases G
  ·rw[H,B]
   refine⟨oM,Y,O,g,X,oM,.inr ⟨q,n,P,d,?_⟩⟩;rw[<-z];exact T
section
variable {S:Int->fT} {g:Int->Vw} {m:Nat->Rg} {k:Int->Nat} {r:Int} {q:RQ}
theorem Iz(h:dF S g (m r.toNat) k)(i:∀t,1<=t->Qu r t (S t) (g t))(hs:tw r g q)(c:q.region=r):
 gL m q=m\/(gL m q=aI m r.toNat ((m r.toNat).act q)/\(aE m q).2=0/\(aE m q).1=true/\
  (((m r.toNat).ax<q.token/\q=gE r q.token)\/(1<=(m r.toNat).ax/\(m r.toNat).ax=q.token/\(g q.token).x.dh=true/\(∃n,(g q.token).x.aq=q::n)/\(m r.toNat).seq=(g q.token).s0-1))):=by
 by_cases d:(aE m q).2=0/\(aE m q).1=true
 ·obtain⟨D,F⟩:=xM d
  rw[c]at F;obtain⟨ht,hs⟩:=hs c D;refine .inr ⟨by unfold gL;rw[iP d,c],d.1,d.2,?_⟩;rcases F with⟨Z,G⟩|⟨Z,G⟩
  ·refine .inl ⟨Z,?_⟩
   rcases hs with hs|⟨hs,_⟩
   ·exact hs
   ·have:=h.fe q.token ht ((i _ ht).rf hs)
    omega
  ·right
   have l:1<=(m r.toNat).ax:=oM
   have Y:=h.s1 l;refine⟨l,Z,?_⟩;rcases hs with hs|⟨U,hs⟩
   ·have:q.seq=1:=by rw[hs];rfl
    omega
   ·have y:(g (m r.toNat).ax).x.dh=true:=by rw[Z];exact U
    obtain⟨_,L,w,K,_,_,E⟩:=h.fD l y;rw[Z]at E;have B:(g q.token).s0-1<=(m r.toNat).seq:=by
     rcases E with⟨e,_⟩|⟨_,_,_,e,_⟩<;>omega
    rcases hs with hs|hs
    ·omega
    ·obtain⟨n,o⟩:∃n,(g q.token).x.aq=q::n:=by
      cases P:(g q.token).x.aq with
      |nil=>rw[P]at hs;cases hs
      |cons a b=>rw[P]at hs;injection hs with hs;exact⟨b,by rw[hs]⟩
     have z:=((i _ ht).sq 0 q (by rw[o];rfl)).2.2.1;exact⟨U,⟨n,o⟩,oM⟩
 ·exact .inl (iN d)
theorem dF.late(h:dF S g (m r.toNat) k)(d:∀t,1<=t->Qu r t (S t) (g t))(hs:tw r g q)(c:q.region=r):∃i,dF S g (gL m q r.toNat) i:=by
 rcases Iz h d hs c with e|⟨e,_,_,⟨Z,G⟩|⟨Z,G,M,⟨n,u⟩,U⟩⟩
 ·rw[e]
  exact⟨k,h⟩
 ·rw[e,aT,G]
  exact⟨k,h.Yk (λt ht=>(d t ht).rf) (λt ht=>(d t ht).fp) Z⟩
 ·rw[e,aT]
  rw[<-G]at M u U;exact h.aq Z M (d _ Z).sq u U ((d _ Z).s2 M)
theorem Ko(D:q.bI=true)(c:q.region=r)(K:(aE m q).2=0):q.token<=(gL m q r.toNat).ax/\(m r.toNat).ax<=q.token:=by
 have B:(m r.toNat).ax<=q.token:=by
  exact adL
 refine⟨?_,B⟩;by_cases a:(aE m q).1=true
 ·unfold gL
  rw[iP ⟨K,a⟩,c,aT];exact cO _
 ·unfold gL
  rw[iN (λh=>a h.2)];by_cases t:(m r.toNat).ax<q.token
  ·exfalso
   apply a;unfold aE at K⊢
   split at K;· rename_i h;exact absurd K h
   split at K;· cases K
   split at K;· cases K
   split at K;· cases K
   rename_i Z G M S;rw[iN Z,iN G,iN M,iN S,iP D]
   try rw[iP D]at K
   unfold Rg.next Rg.nC at K⊢;rw[c]at K⊢;rw[iP t]at K⊢
   split at K
   ·cases K
   ·rename_i U
    rw[iN U];unfold Rg.cT at K⊢
    split at K
    ·cases K
    ·split at K
     ·cases K
     ·rename_i u l
      rw[iN u,iN l]
  ·omega
end
end
section
def kc{α:Type}(f:Int->α)(t:Int)(v:α):Int->α:=λj=>if j=t then v else f j
theorem fA(f:Int->α)(t:Int)(v:α):kc f t v t=v:=iP rfl
theorem fy(f:Int->α){t j:Int}(v:α)(h:j≠t):kc f t v j=f j:=iN h
theorem sD(f:Int->α)(t:Int):kc f t (f t)=f:=by
 funext j
 unfold kc
 split
 ·exact adE
 ·rfl
section
variable {m:Nat->Rg} {r t i:Int} {q:RQ}
theorem zM(D:q.bI=true)(c:q.region=r)(K:(aE m q).2=0):(gL m q r.toNat).ax=q.token/\(gL m q r.toNat).seq=q.seq/\(m r.toNat).ax<=q.token:=by
 have B:=(Ko D c K).2;by_cases a:(aE m q).1=true
 ·have e:gL m q r.toNat=(m r.toNat).act q:=by
   unfold gL;rw[iP ⟨K,a⟩,c,aT]
  rw[e];exact⟨rfl,rfl,B⟩
 ·have e:gL m q=m:=iN (λh=>a h.2)
  have H:=(Ko D c K).1;rw[e]at H⊢;refine⟨oM,?_,B⟩;have G:∀n,(Rg.cT n q).2=0->(Rg.cT n q).1=true:=by
   intro n;unfold Rg.cT
   split
   ·exact λh=>by cases h
   ·split
    ·exact λh=>by cases h
    ·exact λ_=>rfl
  unfold aE at K a
  split at K;· rename_i h;exact absurd K h
  split at K;· cases K
  split at K;· cases K
  split at K;· cases K
  rename_i Z M S U;rw[iN Z,iN M,iN S,iN U,iP D]at a
  try rw[iP D]at K
  unfold Rg.next Rg.nC at K a;rw[c]at K a;rw[iN oM]at K a
  split at K
  ·rename_i h;exact h.symm
  ·rename_i u
   rw[iN u]at a
   split at K
   ·cases K
   ·rename_i l
    rw[iN l]at a
    split at K
    ·cases K
    ·rename_i W
     rw[iN W]at a;exact absurd (G _ K) a
theorem mP(D:q.bI=false):gL m q=m:=by
 refine iN (λh=> ?_);have:=(xM h).1;rw[D]at this
 cases this
theorem Fx(c:q.region=r)(K:(aE m q).2=0):(m r.toNat).ax<=q.token:=by
 exact adL
theorem RE(K:(aE m (eC r i t)).2=0):mu m (eC r i t)=[(m r.toNat).b i.toNat]:=by
 unfold mu;rw[iP K,mP rfl]
 rfl
theorem SK(K:(aE m (jH r t)).2=0):mu m (jH r t)=(m r.toNat).log:=by
 unfold mu;rw[iP K,mP rfl]
 rfl
end
structure GG(s:fT):Prop where
 s0:0<=s.s
 s1:s.s<=(s.p.length:Nat)
 ka:∀y∈s.k,0<=y.a/\y.a<=(s.p.length:Nat)
theorem GG.step{s:fT}(h:GG s)(e:jZ):GG (fo s e):=by
 obtain⟨Z,G,M⟩:=h;unfold fo
 split
 ·exact⟨Z,by simp;omega,λy E=>⟨(M y E).1,by have:=(M y E).2;simp;omega⟩⟩
 ·split
  ·refine⟨Z,G,λy E=> ?_⟩
   rcases oc.1 E with E|E
   ·exact M y E
   ·rw[nN.1 E]
    exact⟨by show(0:Int)<=(s.p.length:Nat);omega,by show(s.p.length:Int)<=(s.p.length:Nat);omega⟩
  ·exact⟨by show(0:Int)<=(s.p.length:Nat);omega,by show(s.p.length:Int)<=(s.p.length:Nat);omega,M⟩
theorem OV(r t:Int)(l:List jZ):GG (aC r t l):=by
 unfold aC;have:∀(l:List jZ) (s:fT),GG s->GG (l.foldl fo s):=by
  intro l
  induction l with
  |nil=>exact λs h=>h
  |cons e l K=>exact λs h=>K _ (h.step e)
 exact this _ _ ⟨cO _,cO _,λy E=>by cases E⟩
theorem Bm(r:Int)(l:List jZ)(e:jZ):(λt=>aC r t (l++[e]))=if e.gO r=true then kc (λt=>aC r t l) e.t (fo (aC r e.t l) e)else λt=>aC r t l:=by
 funext t
 rw[An];unfold ku
 cases C:e.gO r with
 |false=>rw[iN abN,iN iu]
 |true=>
  rw[iP rfl];by_cases ht:e.t=t
  ·subst ht
   rw[iP abN,fA]
  ·rw[iN (by simp[ht]),fy _ _ (λh=>ht h.symm)]
section
variable {S:Int->fT} {N:Int->Vw} {x:Rg} {k:Int->Nat} {t:Int}
def QC(s:fT)(b:yw)(j t:Int)(y:AI):Prop:=(t<=j->px s b y=true)/\(j<t->∀b,px s b y=true)
theorem dF.set(h:dF S N x k)(b:fT)(g:Vw)(P:b.p.take (k t)=(S t).p.take (k t))(Y:k t<=b.p.length)(M:b.s<=(k t:Nat))(A:∀y∈b.k,QC b (ny S k t) x.ax t y)
 (n:∀y∈g.ca,QC b (ny S k t) x.ax t ⟨(b.p.length:Nat),y.index,y.data⟩) (I:g.x.cS=true->t<=x.ax) (U:t<x.ax->g.x.dh=true->g.f<=k t/\(g.x.aq=[]->g.g<=k t))
 (d:x.ax=t->g.x.dh=false->x.seq=1/\k t=0) (c:x.ax=t->g.x.dh=true->g.f<=k t/\OX b g x (k t)):dF (kc S t b) (kc N t g) x k:=by
 have hs:∀j,((kc S t b) j).p.take (k j)=(S j).p.take (k j):=λj=>by
  by_cases e:j=t
  ·subst e
   rw[fA];exact P
  ·rw[fy _ _ e]
 have B:∀j,ny (kc S t b) k j=ny S k j:=λj=>AH (λi _ _=>hs i);have F:∀j y,j≠t->mC S k x.ax j y->mC (kc S t b) k x.ax j y:=λj y H D=>by
  unfold mC;rw[B,fy _ _ H];exact D
 have p:∀y,QC b (ny S k t) x.ax t y->mC (kc S t b) k x.ax t y:=λy D=>by
  unfold mC;rw[B,fA];exact D
 refine⟨h.h0,h.s1,h.kh,λj H=> ?_,λj H=> ?_,?_,h.lg,λj H y E=> ?_,λj H y E=> ?_,λj H a=> ?_,λj H Z G=> ?_,λZ G=> ?_,λZ G=> ?_⟩
 ·by_cases e:j=t
  ·subst e;rw[fA];exact Y
  ·rw[fy _ _ e];exact h.kp j H
 ·by_cases e:j=t
  ·subst e;rw[fA];exact M
  ·rw[fy _ _ e];exact h.ks j H
 ·rw[h.v]
  exact tC _ (λj _ _=>(hs j).symm)
 ·by_cases e:j=t
  ·subst e;rw[fA]at E;exact p y (A y E)
  ·rw[fy _ _ e]at E;exact F j y e (h.lk j H y E)
 ·by_cases e:j=t
  ·subst e;rw[fA]at E⊢;exact p _ (n y E)
  ·rw[fy _ _ e]at E⊢;exact F j _ e (h.ca j H y E)
 ·by_cases e:j=t
  ·subst e;rw[fA]at a;exact I a
  ·rw[fy _ _ e]at a;exact h.fe j H a
 ·by_cases e:j=t
  ·subst e;rw[fA]at G⊢;exact U Z G
  ·rw[fy _ _ e]at G⊢;exact h.vf j H Z G
 ·by_cases e:x.ax=t
  ·rw[e]at G⊢;rw[fA]at G;exact d e G
  ·rw[fy _ _ e]at G;exact h.Va Z G
 ·by_cases e:x.ax=t
  ·rw[e]at G⊢;rw[fA]at G⊢;rw[fA];exact c e G
  ·rw[fy _ _ e]at G⊢;rw[fy _ _ e];exact h.fD Z G
theorem dF.xR(h:dF S N x k)(ht:1<=t)(g:Vw)(n:∀y∈g.ca,mC S k x.ax t ⟨((S t).p.length:Nat),y.index,y.data⟩)(I:g.x.cS=true->t<=x.ax)(U:t<x.ax->g.x.dh=true->g.f<=k t/\(g.x.aq=[]->g.g<=k t))
 (d:x.ax=t->g.x.dh=false->x.seq=1/\k t=0) (c:x.ax=t->g.x.dh=true->g.f<=k t/\OX (S t) g x (k t)):dF S (kc N t g) x k:=by
 have:=h.set (t:=t) (S t) g rfl (h.kp t ht) (h.ks t ht) (h.lk t ht) n I U d c;rwa[sD]at this
theorem dF.ack(h:dF S N x k)(ht:1<=t){q:RQ}{qs:List RQ}(U:(N t).x.dh=true)(b:(N t).x.cS=true)(P:(N t).x.aq=q::qs)(y:q.seq=(N t).s0)(j:(N t).g<=(S t).p.length)(Z:x.ax=t)(G:x.seq=q.seq):
 dF S (kc N t ⟨{(N t).x with aq:=qs},(N t).f,(N t).ca⟩) x k:=by
 refine h.xR ht _ (h.ca t ht) (λ_=>oM) (λl=>oM) (λ_ J=> ?_) (λ_ _=> ?_)
 ·exact aek
 ·subst Z
  obtain⟨a,L,w,K,c,Q,D⟩:=h.fD ht U;refine⟨a,L,w,K,c,Q,.inl ?_⟩;rcases D with⟨e,_⟩|⟨M,n,u,Y,A⟩
  ·omega
  ·rw[P]at u
   injection u with u d;subst u;subst d;refine⟨?_,A⟩;have g:(N x.ax).s0=(N x.ax).x.seq-((qs.length+1:Nat):Int):=by unfold Vw.s0;rw[P,qR]
   show x.seq=(N x.ax).x.seq-(qs.length:Nat)-1;omega
theorem dF.fenced(h:dF S N x k)(ht:1<=t)(U:(N t).x.dh=false)(Z:t<=x.ax):dF S (kc N t ⟨{(N t).x with cS:=true},(N t).f,(N t).ca⟩) x k:=by
 refine h.xR ht _ (h.ca t ht) (λ_=>Z) (λ_ J=> ?_) (λl _=> ?_) (λ_ J=> ?_)
 ·rw[show(N t).x.dh=true from J]at U
  cases U
 ·subst l
  exact h.Va ht U
 ·rw[show(N t).x.dh=true from J]at U
  cases U
theorem dF.ready(h:dF S N x k)(ht:1<=t)(U:(N t).x.dh=false)(E:(N t).f=0){r n:Int}(Z:x.ax=t)(W:n=2+((dL r t 2 x.log).length:Nat)):
 dF S (kc N t ⟨⟨n,true,true,dL r t 2 x.log,0⟩,0,(N t).ca⟩) x k:=by
 refine h.xR ht _ (h.ca t ht) (λ_=>oM) (λl=>oM) (λ_ J=>by cases J) (λ_ _=> ?_);subst Z;obtain⟨G,M⟩:=h.Va ht U;obtain⟨L,w,K,c⟩:=h.lg;refine⟨by show 0<=_;omega,L,0,x.b,⟨c.lg,rfl,c.ok⟩,by rw[M];exact iD _,.inl ⟨?_,?_⟩⟩
 ·show x.seq=n-((dL r x.ax 2 x.log).length:Nat)-1
  omega
 ·have e:((S x.ax).p.take (Vw.g ⟨⟨n,true,true,dL r x.ax 2 x.log,0⟩,0,(N x.ax).ca⟩)).drop (k x.ax)=[]:=by
   show((S x.ax).p.take 0).drop _=[];exact abN
  rw[e];show pF L 0 (dL r x.ax 2 x.log) [];rw[c.lg];exact PH c.ok
theorem dF.Sg(h:dF S N x k)(ht:1<=t)(U:(N t).x.dh=true)(P:(N t).x.aq=[])(j:(N t).g<=(S t).p.length):dF S (kc N t ⟨{(N t).x with bu:=0,aq:=[]},(N t).g,(N t).ca⟩) x k:=by
 have C:Vw.g ⟨{(N t).x with bu:=0,aq:=[]},(N t).g,(N t).ca⟩=(N t).g:=yd _;refine h.xR ht _ (h.ca t ht) (h.fe t ht) (λl _=> ?_) (λl J=> ?_) (λl _=> ?_)
 ·have:=(h.vf t ht l U).2 P
  exact⟨this,λ_=>by rw[C];exact this⟩
 ·exact aek
 ·subst l
  obtain⟨a,D⟩:=h.fD ht U;have y:=D.done j P;obtain⟨L,w,K,c,Q,D⟩:=D;refine⟨YX y.1,L,w,K,c,by rw[C];exact Q,.inl ?_⟩;rcases D with⟨e,A⟩|⟨M,n,u,_⟩
  ·rw[C]
   rw[P]at A;refine⟨?_,A⟩;have g:(N x.ax).s0=(N x.ax).x.seq-(0:Nat):=by unfold Vw.s0;rw[P];rfl
   show x.seq=(N x.ax).x.seq-(0:Nat)-1;omega
  ·rw[P]at u
   cases u
theorem dF.Kc(h:dF S N x k)(ht:1<=t)(U:(N t).x.dh=true)(P:(N t).x.aq=[])(V:(N t).x.bu=0){r n:Int}(F:l.map gP=(S t).p.drop (N t).f)(B:∀p∈l,Ks r p)(j:(N t).f<=(S t).p.length)
 (W:n=(N t).x.seq+((dg r t (N t).x.seq l).length:Nat)):dF S (kc N t ⟨{(N t).x with aq:=dg r t (N t).x.seq l,bu:=(l.length:Nat),seq:=n},(N t).f,(N t).ca⟩) x k:=by
 have g:l.length=(S t).p.length-(N t).f:=by
  have:=congrArg List.length F;rwa[qI,km]at this
 have C:Vw.g ⟨{(N t).x with aq:=dg r t (N t).x.seq l,bu:=(l.length:Nat),seq:=n},(N t).f,(N t).ca⟩=(S t).p.length:=by
  show(N t).f+((l.length:Nat):Int).toNat=_;rw[rE];omega
 have d:(N t).g=(N t).f:=by unfold Vw.g;rw[V];rfl
 have A:=Ob r t (N t).x.seq l B;refine h.xR ht _ (h.ca t ht) (h.fe t ht) (λH _=> ?_) (λH J=> ?_) (λH _=> ?_)
 ·have:=(h.vf t ht H U).1
  refine⟨this,λY=> ?_⟩;have Y:dg r t (N t).x.seq l=[]:=Y;rw[Y]at A;have K:l=[]:=List.map_eq_nil_iff.1 A.2.2;rw[C];subst K;have K:([]:List PU).length=0:=rfl;rw[K]at g;omega
 ·exact aek
 ·subst H
  obtain⟨a,D⟩:=h.fD ht U;have y:=D.done oM P;obtain⟨L,w,X,c,Q,D⟩:=D;have b:s7 x [] 0 x.b:=⟨y.2.1,rfl,λp P=>by cases P⟩;refine⟨a,[],0,x.b,b,by rw[C];exact h.kp _ ht,.inl ⟨?_,?_⟩⟩
  ·have O:(N x.ax).s0=(N x.ax).x.seq-(0:Nat):=by unfold Vw.s0;rw[P];rfl
   show x.seq=n-((dg r x.ax (N x.ax).x.seq l).length:Nat)-1;omega
  ·rw[C,MT,<-y.1,d,<-F]
   exact A
theorem dF.looked(h:dF S N x k)(ht:1<=t)(U:(N t).x.dh=true)(b:(N t).x.cS=true)(P:(N t).x.aq=[])(V:(N t).x.bu=0)(j:(N t).f<=(S t).p.length)(Z:x.ax<=t){i:Int}(z:0<=i/\i<4)(O:∀p∈(S t).p.drop (N t).f,p.i≠i):
 mC S k x.ax t ⟨((S t).p.length:Nat),i,x.b i.toNat⟩:=by
 have d:(N t).g=(N t).f:=by unfold Vw.g;rw[V];rfl
 obtain rfl:t=x.ax:=by have:=h.fe t ht b;omega
 obtain⟨a,D⟩:=h.fD ht U;have y:=D.done oM P;refine⟨λ_=>dZ ?_,λr=>oM⟩;show NE (jG (ny S k x.ax) ((S x.ax).p.take ((((S x.ax).p.length:Nat):Int).toNat))) i=x.b i.toNat;rw[rE,MT];have o:=h.v;unfold Vl at o;rw[y.2.1]at o;have o:x.b=Bi S k x.ax:=o;rw[o,yy S k ht];unfold NE;rw[iP z]
 conv=>lhs;rw[<-Le (k x.ax) (S x.ax).p]
 rw[xt];refine rV _ _ _ (λp P G M Y=> ?_);rw[<-y.1,d]at P;exact O p P oM
end
theorem LG{i:Int}(P:0<=p.i/\p.i<4):NE (ti b p) i=if i=p.i then p.d else NE b i:=by
 unfold NE ti;rw[iP P];by_cases h:i=p.i
 ·subst h
  rw[iP P,iP rfl,aT]
 ·rw[iN h]
  split
  ·rename_i z
   exact bS _ _ _ _ oM
  ·rfl
theorem uz{s:fT}{i:Int}{d:LI}(P:0<=p.i/\p.i<4)(h:(i=p.i/\d=p.d)\/(i≠p.i/\px s b ⟨(s.p.length:Nat),i,d⟩=true)):
 px ⟨s.t,s.p++[p],s.s,s.k⟩ b ⟨((s.p++[p]).length:Nat),i,d⟩=true:=by
 refine dZ ?_;show NE (jG b ((s.p++[p]).take ((((s.p++[p]).length:Nat):Int).toNat))) i=d;rw[rE,MT,uM,LG P];rcases h with⟨rfl,rfl⟩|⟨Z,G⟩
 ·rw[iP rfl]
 ·rw[iN Z]
  have G:NE (jG b (s.p.take (((s.p.length:Nat):Int).toNat))) i=d:=of_decide_eq_true G;rw[rE,MT]at G;exact G
theorem Ch{s:fT}(hs:GG s){y:AI}(E:y∈s.k):px ⟨s.t,s.p++[p],s.s,s.k⟩ b y=px s b y:=by
 unfold px;have:=hs.ka y E;rw[show(s.p++[p]).take y.a.toNat=s.p.take y.a.toNat from Vg oM]
section
variable {S:Int->fT} {g:Int->Vw} {x:Rg} {k:Int->Nat} {t:Int}
theorem dF.put(h:dF S g x k)(ht:1<=t)(hs:GG (S t))(j:(g t).g<=(S t).p.length)(P:0<=p.i/\p.i<4){d:List PU}(n:∀y∈d,(y.index=p.i/\y.data=p.d)\/(y.index≠p.i/\y∈(g t).ca)):
 dF (kc S t ⟨(S t).t,(S t).p++[p],(S t).s,(S t).k⟩) (kc g t ⟨(g t).x,(g t).f,d⟩) x k:=by
 have Q:=h.kp t ht;refine h.set _ _ (Vg Q) abS (h.ks t ht) (λy E=> ?_) (λy E=> ?_) (h.fe t ht) (λl U=>h.vf t ht l U) (λl U=> ?_) (λl U=> ?_)
 ·have F:=h.lk t ht y E
  exact⟨λZ=>by rw[Ch hs E];exact F.1 Z,λZ b=>by rw[Ch hs E];exact F.2 Z b⟩
 ·rcases n y E with D|⟨Z,G⟩
  ·exact⟨λ_=>uz P (.inl D),λ_ b=>uz P (.inl D)⟩
  ·have F:=h.ca t ht y G
   exact⟨λM=>uz P (.inr ⟨Z,F.1 M⟩),λM b=>uz P (.inr ⟨Z,F.2 M b⟩)⟩
 ·subst l
  exact h.Va ht U
 ·subst l
  obtain⟨a,L,w,K,c,Q,D⟩:=h.fD ht U;refine⟨a,L,w,K,c,Q,?_⟩;have e:((S x.ax).p++[p]).take (g x.ax).g=(S x.ax).p.take (g x.ax).g:=Vg j;show _\/_;rw[show((fT.mk (S x.ax).t ((S x.ax).p++[p]) (S x.ax).s (S x.ax).k).p.take (Vw.g ⟨(g x.ax).x,(g x.ax).f,d⟩))=(S x.ax).p.take (g x.ax).g from e];exact D
theorem dF.look(h:dF S g x k)(ht:1<=t){i:Int}{d:LI}(F:mC S k x.ax t ⟨((S t).p.length:Nat),i,d⟩){ca:List PU}(n:∀y∈ca,(y.index=i/\y.data=d)\/y∈(g t).ca):
 dF (kc S t ⟨(S t).t,(S t).p,(S t).s,(S t).k++[⟨((S t).p.length:Nat),i,d⟩]⟩) (kc g t ⟨(g t).x,(g t).f,ca⟩) x k:=by
 refine h.set _ _ rfl (h.kp t ht) (h.ks t ht) (λy E=> ?_) (λy E=> ?_) (h.fe t ht) (λl U=>h.vf t ht l U) (λl U=> ?_) (λl U=> ?_)
 ·rcases oc.1 E with E|E
  ·exact h.lk t ht y E
  ·rw[nN.1 E]
   exact F
 ·rcases n y E with⟨rfl,rfl⟩|E
  ·exact F
  ·exact h.ca t ht y E
 ·subst l
  exact h.Va ht U
 ·subst l
  exact h.fD ht U
theorem dF.sure(h:dF S g x k)(ht:1<=t)(U:(g t).x.dh=true)(b:(g t).x.cS=true)(a:(g t).f=(S t).p.length):dF (kc S t ⟨(S t).t,(S t).p,((S t).p.length:Nat),(S t).k⟩) g x k:=by
 have Q:=h.kept ht U b;have:=h.set (t:=t) ⟨(S t).t,(S t).p,((S t).p.length:Nat),(S t).k⟩ (g t) rfl (h.kp t ht) (by show((S t).p.length:Int)<=_;omega) (λy E=>h.lk t ht y E) (λy E=>h.ca t ht y E) (h.fe t ht) (λl U=>h.vf t ht l U) (λl U=>by subst l;exact h.Va ht U) (λl U=>by subst l;exact h.fD ht U);rwa[sD]at this
end
end
theorem oK(f:Nat->α)(i:Nat):aI f i (f i)=f:=by
 funext j
 unfold aI
 split
 ·exact adE
 ·rfl
abbrev cU:=Int->Int×Int
structure kK(T:aH)(own:cU):Prop where
 last:0<=T.last
 one:∀i,i<4->(T.r i).h.length<=1
 m:∀i,i<4->∀h∈(T.r i).h,h.m=2
 w:∀i,i<4->∀w∈(T.r i).w,w.m=2
 own:∀i,i<4->∀h∈(T.r i).h,own h.t=((i:Int),h.c)/\1<=h.t/\h.t<=T.last
 nd:∀i,i<4->((T.r i).h.map bh.c++(T.r i).w.map cY.c).Nodup
structure cN(q:Int)(T:aH)(own:cU)(T':aH)(own':cU):Prop where
 i:kK T' own'
 last:T.last<=T'.last
 up:T'.last<=T.last+q
 vf:∀t,t<=T.last->own' t=own t
 h:∀i,i<4->∀h'∈(T'.r i).h,(T.last<h'.t/\∃w∈(T.r i).w,w.c=h'.c)\/∃h∈(T.r i).h,h.c=h'.c/\h.t=h'.t
 w:∀i,i<4->∀w∈(T'.r i).w,w∈(T.r i).w
theorem cN.refl{q:Int}(d:0<=q){own:cU}(h:kK T own):cN q T own T own:=⟨h,cO _,oM,λ_ _=>rfl,λ_ _ E l=> .inr ⟨E,l,rfl,rfl⟩,λ_ _ _ h=>h⟩
theorem cN.trans{p q:Int}{T Q H:aH}{o F I:cU}(h:cN p T o Q F)(k:cN q Q F H I):cN (p+q) T o H I:=by
 refine⟨k.i,tU h.last k.last,by have:=h.up;have:=k.up;omega,λt ht=>(k.vf t (tU ht h.last)).trans (h.vf t ht),λi z E l=> ?_,λi z w M=>h.w i z w (k.w i z w M)⟩;rcases k.h i z E l with⟨a,w,M,e⟩|⟨Z,b,u,Y⟩
 ·exact .inl ⟨zcV h.last a,w,h.w i z w M,e⟩
 ·rcases h.h i z Z b with⟨a,w,M,e⟩|⟨G,j,P,g⟩
  ·exact .inl ⟨by rw[<-Y];exact a,w,M,e.trans u⟩
  ·exact .inr ⟨G,j,P.trans u,g.trans Y⟩
theorem Uj(f:Nat->α)(i:Nat)(x:α):aI f i x i=x:=iP rfl
theorem cN.mono{p q:Int}(d:p<=q){T T':aH}{o g:cU}(h:cN p T o T' g):cN q T o T' g:=⟨h.i,h.last,by have:=h.up;omega,h.vf,h.h,h.w⟩
theorem cN.less{own:cU}(h:kK T own){d:aH}(F:d.last=T.last)(l:∀i,i<4->∀x∈(d.r i).h,∃y∈(T.r i).h,y.c=x.c/\y.t=x.t/\y.m=x.m)(D:∀i,i<4->((d.r i).h.map bh.c).Sublist ((T.r i).h.map bh.c))(a:∀i,i<4->(d.r i).w.Sublist (T.r i).w):cN 0 T own d own:=by
 have W:∀i,i<4->(d.r i).h.length<=1:=λi z=>by
  have:=(D i z).length_le;rw[qI,qI]at this;exact qJ this (h.one i z)
 have M:∀i,i<4->∀x∈(d.r i).w,x∈(T.r i).w:=λi z x J=>(a i z).subset J;refine⟨⟨by rw[F];exact h.last,W,λi z x J=> ?_,λi z x J=>h.w i z x (M i z x J),λi z x J=> ?_,λi z=>(h.nd i z).sublist ((D i z).append ((a i z).map _))⟩,by rw[F];exact cO _,by rw[F];omega,λ_ _=>rfl,λi z x J=> ?_,M⟩
 ·obtain⟨y,E,_,_,e⟩:=l i z x J
  rw[<-e];exact h.m i z y E
 ·obtain⟨y,E,u,Y,_⟩:=l i z x J
  rw[<-u,<-Y,F];exact h.own i z y E
 ·obtain⟨y,E,u,Y,_⟩:=l i z x J
  exact .inr ⟨y,E,u,Y⟩
theorem Ak(l:Int)(B:List cY)(h:bh)(last:Int)(p:h.m=2):fF l B [h] last=(B,[h],last):=by
 cases B with
 |nil=>rfl
 |cons x B=>
  unfold fF;rw[iN];intro D;have:=D.2.1;unfold rA at this;simp[p]at this
theorem Js(l:Int)(B:List cY)(hs:List bh)(last:Int)(Z:hs.length<=1)(p:∀h∈hs,h.m=2)(M:∀w∈B,w.m=2):
 fF l B hs last=(B,hs,last)\/∃x r,hs=[]/\B=x::r/\last<18446744073709551615/\fF l B hs last=(r,[⟨x.c,x.m,last+1,fI l⟩],last+1):=by
 cases hs with
 |cons h r=>
  have:r=[]:=Xz.1 (by rw[qR]at Z;omega);subst this;exact .inl (Ak l B h last (p h abN))
 |nil=>
  cases B with
  |nil=>exact adH
  |cons x r=>
   unfold fF
   split
   ·rename_i D
    refine .inr ⟨x,r,rfl,rfl,D.2.2,?_⟩;exact Ak l r _ _ (M x abN)
   ·exact adH
theorem kK.ff{own:cU}(h:kK T own){i:Nat}(z:i<4):∃k,cN 1 T own (T.ff i) k:=by
 have e:T.ff i=⟨T.now,(fF T.now (T.r i).w (T.r i).h T.last).2.2,aI T.r i ⟨(fF T.now (T.r i).w (T.r i).h T.last).2.1,(fF T.now (T.r i).w (T.r i).h T.last).1⟩⟩:=rfl;rcases Js T.now (T.r i).w (T.r i).h T.last (h.one i z) (h.m i z) (h.w i z)with g|⟨x,r,l,I,L,B⟩
 ·rw[g]at e
  refine⟨own,?_⟩;have Y:T.ff i=T:=by
   rw[e];show aH.mk T.now T.last (aI T.r i (T.r i))=T;rw[oK]
  rw[Y];exact cN.refl oM h
 ·rw[B]at e
  have F:=h.last;have J:x∈(T.r i).w:=by rw[I];simp
  obtain⟨k,q⟩:∃k:cU,k=λt=>if t=T.last+1 then((i:Int),x.c)else own t:=⟨_,rfl⟩;have o:k (T.last+1)=((i:Int),x.c):=by rw[q];exact iP rfl
  have n:∀t,t<=T.last->k t=own t:=λt ht=>by rw[q];exact iN oM
  have U:∀j,j≠i->(T.ff i).r j=T.r j:=λj H=>by rw[e];exact iN H
  have A:(T.ff i).r i=⟨[⟨x.c,x.m,T.last+1,fI T.now⟩],r⟩:=by rw[e];exact iP rfl
  have p:(T.ff i).last=T.last+1:=by rw[e]
  refine⟨k,⟨by rw[p];omega,λj H=> ?_,λj H y E=> ?_,λj H y E=> ?_,λj H y E=> ?_,λj H=> ?_⟩,by rw[p];omega,by rw[p];omega,n,λj H y E=> ?_,λj H y E=> ?_⟩
  ·by_cases d:j=i
   ·rw[d,A];exact io _
   ·rw[U j d];exact h.one j H
  ·by_cases d:j=i
   ·rw[d,A]at E
    rw[nN.1 E];exact h.w i z x J
   ·rw[U j d]at E;exact h.m j H y E
  ·by_cases d:j=i
   ·rw[d,A]at E
    exact h.w i z y (by rw[I];exact Bd _ E)
   ·rw[U j d]at E;exact h.w j H y E
  ·rw[p]
   by_cases d:j=i
   ·rw[d,A]at E
    rw[nN.1 E,d];exact⟨o,by show 1<=T.last+1;omega,cO _⟩
   ·rw[U j d]at E
    obtain⟨a,b,c⟩:=h.own j H y E;exact⟨by rw[n _ c];exact a,b,oM⟩
  ·by_cases d:j=i
   ·rw[d,A]
    have:=h.nd i z;rw[l,I]at this;exact this
   ·rw[U j d];exact h.nd j H
  ·by_cases d:j=i
   ·rw[d,A]at E
    rw[nN.1 E,d];exact .inl ⟨by show T.last<T.last+1;omega,x,J,rfl⟩
   ·rw[U j d]at E
    exact .inr ⟨y,E,rfl,rfl⟩
  ·by_cases d:j=i
   ·rw[d,A]at E
    rw[d,I];exact Bd _ E
   ·rw[U j d]at E;exact E
theorem LY{c:Int}(h:x∈xz hs c):x∈hs:=List.mem_of_mem_eraseP h
theorem cL(f:Nat->α)(i j:Nat)(x:α):(j=i/\aI f i x j=x)\/(j≠i/\aI f i x j=f j):=by
 by_cases h:j=i
 ·exact .inl ⟨h,iP h⟩
 ·exact .inr ⟨h,iN h⟩
theorem qZ{r:Int}(h:cB r=true):0<=r/\r<4:=by
 unfold cB at h;exact ace
theorem sF{c r:Int}(h:¬cQ c r≠0):0<=r/\r<4:=by
 have:=j7 (c:=c) (r:=r) oM;omega
theorem wo{own:cU}(h:kK T own){i:Nat}(W:(hs.map bh.c).Sublist ((T.r i).h.map bh.c))(l:∀x∈hs,∃y∈(T.r i).h,y.c=x.c/\y.t=x.t/\y.m=x.m):cN 0 T own (T.vX i hs) own:=by
 refine cN.less h rfl (λj H x J=> ?_) (λj H=> ?_) (λj H=> ?_)
 ·have J:x∈(aI T.r i ⟨hs,(T.r i).w⟩ j).h:=J
  rcases cL T.r i j ⟨hs,(T.r i).w⟩with⟨e,Y⟩|⟨_,Y⟩
  ·rw[Y]at J
   rw[e];exact l x J
  ·rw[Y]at J
   exact⟨x,J,rfl,rfl,rfl⟩
 ·show((aI T.r i ⟨hs,(T.r i).w⟩ j).h.map bh.c).Sublist _
  rcases cL T.r i j ⟨hs,(T.r i).w⟩with⟨e,Y⟩|⟨_,Y⟩
  ·rw[Y,e];exact W
  ·rw[Y];exact KQ _
 ·show(aI T.r i ⟨hs,(T.r i).w⟩ j).w.Sublist _
  rcases cL T.r i j ⟨hs,(T.r i).w⟩with⟨e,Y⟩|⟨_,Y⟩
  ·rw[Y,e];exact KQ _
  ·rw[Y];exact KQ _
theorem Ck{own:cU}(h:kK T own){i:Nat}{ws:List cY}(M:ws.Sublist (T.r i).w):cN 0 T own (T.cz i ws) own:=by
 refine cN.less h rfl (λj H x J=> ?_) (λj H=> ?_) (λj H=> ?_)
 ·have J:x∈(aI T.r i ⟨(T.r i).h,ws⟩ j).h:=J
  rcases cL T.r i j ⟨(T.r i).h,ws⟩with⟨e,Y⟩|⟨_,Y⟩
  ·rw[Y]at J;rw[e];exact⟨x,J,rfl,rfl,rfl⟩
  ·rw[Y]at J;exact⟨x,J,rfl,rfl,rfl⟩
 ·show((aI T.r i ⟨(T.r i).h,ws⟩ j).h.map bh.c).Sublist _
  rcases cL T.r i j ⟨(T.r i).h,ws⟩with⟨e,Y⟩|⟨_,Y⟩
  ·rw[Y,e];exact KQ _
  ·rw[Y];exact KQ _
 ·show(aI T.r i ⟨(T.r i).h,ws⟩ j).w.Sublist _
  rcases cL T.r i j ⟨(T.r i).h,ws⟩with⟨e,Y⟩|⟨_,Y⟩
  ·rw[Y,e];exact M
  ·rw[Y];exact KQ _
theorem kK.release{own:cU}(h:kK T own)(c r t:Int):∃k,cN 1 T own (T.release c r t).1 k:=by
 unfold aH.release
 split
 ·exact aeH
 ·rename_i D
  have U:0<=r/\r<4:=by
   exact aeV
  have Z:=wo h (i:=r.toNat) (hs:=xz (T.r r.toNat).h c) ((ZS ..).map _) (λx J=>⟨x,LY J,rfl,rfl,rfl⟩);exact aeM
theorem Ap:∀{hs:List bh} {c u:Int} {x:bh},x∈iL hs c u->∃y∈hs,y.c=x.c/\y.t=x.t/\y.m=x.m
 |[],_,_,_,h=>by cases h
 |h::r,c,u,x,J=>by
  unfold iL at J
  split at J
  ·rcases qQ.1 J with rfl|J
   ·exact⟨h,by simp,rfl,rfl,rfl⟩
   ·exact⟨x,by simp[J],rfl,rfl,rfl⟩
  ·rcases qQ.1 J with rfl|J
   ·exact⟨x,by simp,rfl,rfl,rfl⟩
   ·obtain⟨y,E,e⟩:=Ap J
    exact⟨y,by simp[E],e⟩
theorem FM:∀(hs:List bh) (c u:Int),(iL hs c u).map bh.c=hs.map bh.c
 |[],_,_=>rfl
 |h::r,c,u=>by
  unfold iL
  split
  ·rfl
  ·rw[nG,FM r c u]
   rfl
theorem kK.renew{own:cU}(h:kK T own)(c r t:Int):cN 0 T own (T.renew c r t).1 own:=by
 unfold aH.renew
 split
 ·exact cN.refl oM h
 ·rename_i D
  have U:0<=r/\r<4:=by
   exact aeV
  exact wo h (by rw[FM];exact KQ _) (λx J=>Ap J)
theorem kK.cancel{own:cU}(h:kK T own)(c r:Int):∃k,cN 1 T own (T.cancel c r).1 k:=by
 unfold aH.cancel
 split
 ·exact aeH
 ·rename_i D
  have U:=sF D
  split
  ·have Z:=Ck h (i:=r.toNat) (ws:=qE (T.r r.toNat).w c) (ZS ..)
   exact aeM
  ·exact aeH
theorem kK.time{own:cU}(h:kK T own)(l:Int):∃k,cN 4 T own (T.time l) k:=by
 unfold aH.time
 split
 ·exact aeH
 ·have Z:cN 0 T own (aH.mk l T.last (λi=>⟨(T.r i).h.filter (λh=> !decide (h.u<=l)),(T.r i).w⟩)) own:=by
   refine cN.less h rfl (λj H x J=>⟨x,(Ea.1 J).1,rfl,rfl,rfl⟩) (λj H=>zcK.map _) (λj H=>KQ _)
  obtain⟨F,G⟩:=Z.i.ff (i:=0) oM;obtain⟨I,M⟩:=G.i.ff (i:=1) oM;obtain⟨E,S⟩:=M.i.ff (i:=2) oM;obtain⟨p,U⟩:=S.i.ff (i:=3) oM;exact⟨p,((((Z.trans G).trans M).trans S).trans U).mono oM⟩
theorem tN{c:Int}{h:bh}(e:lG hs c=some h):h∈hs/\h.c=c:=by
 unfold lG at e;exact⟨List.mem_of_find?_eq_some e,by have:=List.find?_some e;simpa using this⟩
theorem Je{c:Int}(e:lG hs c=none):∀h∈hs,h.c≠c:=by
 unfold lG at e;rw[zcW]at e;intro h l D;exact e h l (by simp[D])
theorem zT{hs:List cY}{c:Int}(e:vt hs c=none):∀h∈hs,h.c≠c:=by
 unfold vt at e;rw[zcW]at e;intro h l D;exact e h l (by simp[D])
structure Mw(q:Int)(T:aH)(own:cU)(T':aH)(own':cU)(c:Int):Prop where
 i:kK T' own'
 last:T.last<=T'.last
 up:T'.last<=T.last+q
 vf:∀t,t<=T.last->own' t=own t
 h:∀i,i<4->∀h'∈(T'.r i).h,(T.last<h'.t/\(h'.c=c\/∃w∈(T.r i).w,w.c=h'.c))\/∃h∈(T.r i).h,h.c=h'.c/\h.t=h'.t
 w:∀i,i<4->∀w∈(T'.r i).w,w.c=c\/w∈(T.r i).w
theorem cN.tV{q:Int}{T d:aH}{own k:cU}(h:cN q T own d k)(c:Int):Mw q T own d k c:=
 ⟨h.i,h.last,h.up,h.vf,λi z x J=>(h.h i z x J).imp (λ⟨a,b⟩=>⟨a,.inr b⟩) (λx=>x),λi z x J=> .inr (h.w i z x J)⟩
theorem kK.acquire{own:cU}(h:kK T own)(c r:Int):∃k,Mw 1 T own (T.acquire c r 2).1 k c/\((T.acquire c r 2).2.2=0->0<=r/\r<4/\∃x∈((T.acquire c r 2).1.r r.toNat).h,x.c=c/\x.t=(T.acquire c r 2).2.1):=by
 unfold aH.acquire
 split
 ·rename_i D
  exact⟨own,(cN.refl oM h).tV c,λF=>absurd F D⟩
 ·rename_i D
  have U:=sF D;rw[iN dC];unfold aH.oB
  split
  ·rename_i x J
   obtain⟨Z,G⟩:=tN J;rw[iP (h.m _ oM x Z)];exact⟨own,(cN.refl oM h).tV c,λ_=>⟨U.1,U.2,x,Z,G,rfl⟩⟩
  ·rename_i l
   split
   ·split
    ·exact aef
    ·exact aef
   ·rename_i n
    split
    ·exact aef
    ·have Z:kK (T.cz r.toNat ((T.r r.toNat).w++[⟨c,2⟩])) own:=by
      refine⟨h.last,λj H=> ?_,λj H x J=> ?_,λj H x J=> ?_,λj H x J=> ?_,λj H=> ?_⟩
      case refine_5=>
       show((aI T.r r.toNat ⟨(T.r r.toNat).h,(T.r r.toNat).w++[⟨c,2⟩]⟩ j).h.map bh.c++(aI T.r r.toNat ⟨(T.r r.toNat).h,(T.r r.toNat).w++[⟨c,2⟩]⟩ j).w.map cY.c).Nodup;rcases cL T.r r.toNat j ⟨(T.r r.toNat).h,(T.r r.toNat).w++[⟨c,2⟩]⟩with⟨e,Y⟩|⟨_,Y⟩
       ·rw[Y]
        show((T.r r.toNat).h.map bh.c++((T.r r.toNat).w++[(⟨c,2⟩:cY)]).map cY.c).Nodup;rw[yu,<-pI,XB];refine⟨h.nd _ oM,by simp,λa C b B q=> ?_⟩;have B:b=c:=by simpa using B
        rcases oc.1 C with C|C
        ·obtain⟨z,o,rfl⟩:=um.1 C
         exact Je l z o (q.trans B)
        ·obtain⟨z,o,rfl⟩:=um.1 C
         exact zT n z o (q.trans B)
       ·rw[Y];exact h.nd j H
      ·show(aI T.r r.toNat ⟨(T.r r.toNat).h,_⟩ j).h.length<=1
       rcases cL T.r r.toNat j ⟨(T.r r.toNat).h,(T.r r.toNat).w++[⟨c,2⟩]⟩with⟨e,Y⟩|⟨_,Y⟩
       ·rw[Y];exact h.one _ oM
       ·rw[Y];exact h.one j H
      ·have J:x∈(aI T.r r.toNat ⟨(T.r r.toNat).h,(T.r r.toNat).w++[⟨c,2⟩]⟩ j).h:=J
       rcases cL T.r r.toNat j ⟨(T.r r.toNat).h,(T.r r.toNat).w++[⟨c,2⟩]⟩with⟨e,Y⟩|⟨_,Y⟩
       ·rw[Y]at J;exact h.m _ oM x J
       ·rw[Y]at J;exact h.m j H x J
      ·have J:x∈(aI T.r r.toNat ⟨(T.r r.toNat).h,(T.r r.toNat).w++[⟨c,2⟩]⟩ j).w:=J
       rcases cL T.r r.toNat j ⟨(T.r r.toNat).h,(T.r r.toNat).w++[⟨c,2⟩]⟩with⟨e,Y⟩|⟨_,Y⟩
       ·rw[Y]at J
        rcases oc.1 J with J|J
        ·exact h.w _ oM x J
        ·rw[nN.1 J]
       ·rw[Y]at J;exact h.w j H x J
      ·have J:x∈(aI T.r r.toNat ⟨(T.r r.toNat).h,(T.r r.toNat).w++[⟨c,2⟩]⟩ j).h:=J
       rcases cL T.r r.toNat j ⟨(T.r r.toNat).h,(T.r r.toNat).w++[⟨c,2⟩]⟩with⟨e,Y⟩|⟨_,Y⟩
       ·rw[Y]at J;rw[e];exact h.own _ oM x J
       ·rw[Y]at J;exact h.own j H x J
     obtain⟨k,G⟩:=Z.ff (i:=r.toNat) oM;have d:Mw 1 T own ((T.cz r.toNat ((T.r r.toNat).w++[⟨c,2⟩])).ff r.toNat) k c:=by
      refine⟨G.i,G.last,G.up,G.vf,λj H x J=> ?_,λj H x J=> ?_⟩
      ·rcases G.h j H x J with⟨a,w,M,e⟩|⟨y,E,u,Y⟩
       ·refine .inl ⟨a,?_⟩
        have M:w∈(aI T.r r.toNat ⟨(T.r r.toNat).h,(T.r r.toNat).w++[⟨c,2⟩]⟩ j).w:=M;rcases cL T.r r.toNat j ⟨(T.r r.toNat).h,(T.r r.toNat).w++[⟨c,2⟩]⟩with⟨P,Y⟩|⟨_,Y⟩
        ·rw[Y]at M
         rcases oc.1 M with M|M
         ·rw[P];exact .inr ⟨w,M,e⟩
         ·rw[nN.1 M]at e;exact .inl e.symm
        ·rw[Y]at M;exact .inr ⟨w,M,e⟩
       ·have E:y∈(aI T.r r.toNat ⟨(T.r r.toNat).h,(T.r r.toNat).w++[⟨c,2⟩]⟩ j).h:=E
        rcases cL T.r r.toNat j ⟨(T.r r.toNat).h,(T.r r.toNat).w++[⟨c,2⟩]⟩with⟨P,g⟩|⟨_,g⟩
        ·rw[g]at E;rw[P];exact .inr ⟨y,E,u,Y⟩
        ·rw[g]at E;exact .inr ⟨y,E,u,Y⟩
      ·have J:=G.w j H x J
       have J:x∈(aI T.r r.toNat ⟨(T.r r.toNat).h,(T.r r.toNat).w++[⟨c,2⟩]⟩ j).w:=J;rcases cL T.r r.toNat j ⟨(T.r r.toNat).h,(T.r r.toNat).w++[⟨c,2⟩]⟩with⟨P,Y⟩|⟨_,Y⟩
       ·rw[Y]at J
        rcases oc.1 J with J|J
        ·rw[P];exact .inr J
        ·rw[nN.1 J];exact adH
       ·rw[Y]at J;exact .inr J
     unfold aH.Ar
     split
     ·rename_i x J
      obtain⟨K,S⟩:=tN J;exact⟨k,d,λ_=>⟨U.1,U.2,x,K,S,rfl⟩⟩
     ·exact⟨k,d,λF=>by cases F⟩
theorem OJ{own:cU}(h:kK T own){c r:Int}(D:0<=c/\c<16)(U:0<=r/\r<4)(J:x∈(T.r r.toNat).h)(p:x.c=c):(T.renew c r x.t).2.2=0/\(T.renew c r x.t).2.1=fI T.now/\∃y∈((T.renew c r x.t).1.r r.toNat).h,y.c=c/\y.t=x.t:=by
 have Z:=h.one r.toNat oM;obtain⟨e⟩:Nonempty ((T.r r.toNat).h=[x]):=by
  cases l:(T.r r.toNat).h with
  |nil=>rw[l]at J;cases J
  |cons y q=>
   rw[l]at Z J;have:q=[]:=Xz.1 (by rw[qR]at Z;omega);subst this;rw[nN.1 J];exact⟨rfl⟩
 have N:cQ c r=0:=by
  exact aeK
 have d:T.gy c r x.t=0:=by
  unfold aH.gy;rw[iN (λh=>h N),e];unfold lG;simp[p]
 unfold aH.renew;rw[iN (λh=>h d)];refine⟨rfl,rfl,⟨x.c,x.m,x.t,fI T.now⟩,?_,p,rfl⟩;show _∈(aI T.r r.toNat ⟨iL (T.r r.toNat).h c (fI T.now),(T.r r.toNat).w⟩ r.toNat).h;rw[Uj,e];show _∈iL [x] c (fI T.now);unfold iL;rw[iP (by simp[p])];exact abN
theorem Jr(Z:hs.length<=1):hs=[]\/∃x,hs=[x]:=by
 cases hs with
 |nil=>exact adH
 |cons x r=>
  have:r=[]:=Xz.1 (by rw[qR]at Z;omega);subst this;exact .inr ⟨x,rfl⟩
theorem Rl(T:aH){i j:Nat}(h:j≠i):(T.ff i).r j=T.r j:=iN h
theorem VO(T:aH){i j:Nat}(hs:List bh)(h:j≠i):(T.vX i hs).r j=T.r j:=iN h
theorem VV(T:aH){i j:Nat}(B:List cY)(h:j≠i):(T.cz i B).r j=T.r j:=iN h
theorem Lo{own:cU}(h:kK T own){i:Nat}(z:i<4){c:Int}(l:∀x∈(T.r i).h,x.c≠c)(M:∀x∈(T.r i).w,x.c≠c):(∀x∈((T.ff i).r i).h,x.c≠c)/\∀x∈((T.ff i).r i).w,x.c≠c:=by
 obtain⟨o,k⟩:=h.ff z;refine⟨λx J D=> ?_,λx J=>M x (k.w i z x J)⟩;rcases k.h i z x J with⟨_,w,Z,G⟩|⟨y,Z,G,_⟩
 ·exact M w Z (G.trans D)
 ·exact l y Z (G.trans D)
theorem FW{own:cU}(h:kK T own){i:Nat}(z:i<4):((T.r i).w.map cY.c).Nodup/\∀x∈(T.r i).h,∀y∈(T.r i).w,x.c≠y.c:=by
 have:=XB.1 (h.nd i z);exact⟨this.2.1,λx J y E=>this.2.2 _ (um.2 ⟨x,J,rfl⟩) _ (um.2 ⟨y,E,rfl⟩)⟩
theorem FG:∀{B:List cY} {c:Int},(B.map cY.c).Nodup->∀x∈qE B c,x.c≠c
 |[],c,_,x,J=>by cases J
 |w::B,c,W,x,J=>by
  rw[nG,XQ]at W;unfold qE at J;by_cases M:w.c=c
  ·rw[UL (by simp[M])]at J
   intro D;exact W.1 (um.2 ⟨x,J,D.trans M.symm⟩)
  ·rw[WH (by simp[M])]at J
   rcases qQ.1 J with rfl|J
   ·exact M
   ·exact FG W.2 x J
theorem NL{own:cU}(h:kK T own){c r:Int}(D:0<=c/\c<16)(U:0<=r/\r<4)(l:∀x∈(T.r r.toNat).h,x.c≠c):
 (∀x∈((T.cancel c r).1.r r.toNat).h,x.c≠c)/\(∀x∈((T.cancel c r).1.r r.toNat).w,x.c≠c)/\∀j,j≠r.toNat->(T.cancel c r).1.r j=T.r j:=by
 have N:cQ c r=0:=by
  exact aeK
 unfold aH.cancel;rw[iN (λh=>h N)]
 split
 ·have Z:=Ck h (i:=r.toNat) (ws:=qE (T.r r.toNat).w c) (ZS ..)
  have e:(T.cz r.toNat (qE (T.r r.toNat).w c)).r r.toNat=⟨(T.r r.toNat).h,qE (T.r r.toNat).w c⟩:=iP rfl;obtain⟨a,b⟩:=Lo Z.i (i:=r.toNat) oM (c:=c) (by rw[e];exact l) (by rw[e];exact FG (FW h oM).1);exact⟨a,b,λj H=>(Rl _ H).trans (VV _ _ H)⟩
 ·rename_i W
  exact⟨l,zT W,λ_ _=>rfl⟩
theorem zj{own:cU}(h:kK T own){r:Int}(U:0<=r/\r<4)(J:(T.r r.toNat).h=[x])(D:0<=x.c/\x.c<16):
 (∀y∈((T.release x.c r x.t).1.r r.toNat).h,y.c≠x.c)/\(∀y∈((T.release x.c r x.t).1.r r.toNat).w,y.c≠x.c)/\∀j,j≠r.toNat->(T.release x.c r x.t).1.r j=T.r j:=by
 have N:cQ x.c r=0:=by
  exact aeK
 have d:T.gy x.c r x.t=0:=by
  unfold aH.gy;rw[iN (λh=>h N),J];unfold lG;exact abN
 have u:xz (T.r r.toNat).h x.c=[]:=by
  rw[J];unfold xz;rw[UL abN]
 unfold aH.release;rw[iN (λh=>h d),u];have Z:=wo h (i:=r.toNat) (hs:=[]) (List.nil_sublist _) (λx J=>by cases J);have e:(T.vX r.toNat []).r r.toNat=⟨[],(T.r r.toNat).w⟩:=iP rfl;have P:=(FW h (i:=r.toNat) oM).2 x (by rw[J];simp);obtain⟨a,b⟩:=Lo Z.i (i:=r.toNat) oM (c:=x.c) (by rw[e];intro y E;cases E) (by rw[e];exact λy E=>(P y E).symm);exact⟨a,b,λj H=>(Rl _ H).trans (VO _ _ H)⟩
theorem sK{own:cU}(h:kK T own){c r:Int}(D:0<=c/\c<16)(U:0<=r/\r<4):
 ∃k,cN 2 T own (ij c T r) k/\(∀x∈((ij c T r).r r.toNat).h,x.c≠c)/\(∀x∈((ij c T r).r r.toNat).w,x.c≠c)/\∀j,j≠r.toNat->(ij c T r).r j=T.r j:=by
 have ht:cB r=true:=by unfold cB;simp;omega
 have i:T.lp r=(T.r r.toNat).h:=iP ht;unfold ij;rw[i];have key:∀Q g,cN 1 T own Q g->(∀x∈(Q.r r.toNat).h,x.c≠c)->(∀j,j≠r.toNat->Q.r j=T.r j)->∃k,cN 2 T own (Q.cancel c r).1 k/\(∀x∈((Q.cancel c r).1.r r.toNat).h,x.c≠c)/\(∀x∈((Q.cancel c r).1.r r.toNat).w,x.c≠c)/\∀j,j≠r.toNat->(Q.cancel c r).1.r j=T.r j:=by
  intro Q g Z G M;obtain⟨a,b,d⟩:=NL Z.i D U G;obtain⟨o,S⟩:=Z.i.cancel c r;exact⟨o,Z.trans S,a,b,λj H=>(d j H).trans (M j H)⟩
 rcases Jr (h.one r.toNat oM)with e|⟨x,e⟩
 ·rw[e]
  exact key T own (cN.refl oM h) (by rw[e];intro x J;cases J) (λ_ _=>rfl)
 ·rw[e]
  show∃k,cN 2 T own ((if x.c==c then(T.release c r x.t).1 else T).cancel c r).1 k/\(∀y∈(((if x.c==c then(T.release c r x.t).1 else T).cancel c r).1.r r.toNat).h,y.c≠c)/\(∀y∈(((if x.c==c then(T.release c r x.t).1 else T).cancel c r).1.r r.toNat).w,y.c≠c)/\∀j,j≠r.toNat->((if x.c==c then(T.release c r x.t).1 else T).cancel c r).1.r j=T.r j;by_cases p:x.c=c
  ·rw[iP (by simp[p])]
   subst p;obtain⟨a,_,d⟩:=zj h U e D;obtain⟨o,G⟩:=h.release x.c r x.t;exact key _ o G a d
  ·rw[iN (by simp[p])]
   exact key T own (cN.refl oM h) (by rw[e];intro y E;rw[nN.1 E];exact p) (λ_ _=>rfl)
theorem FJ{own:cU}(h:kK T own){c:Int}(D:0<=c/\c<16):
 ∃k,cN 8 T own (nh T c) k/\∀i,i<4->(∀x∈((nh T c).r i).h,x.c≠c)/\∀x∈((nh T c).r i).w,x.c≠c:=by
 obtain⟨b,a,K,E,d0⟩:=sK h D (r:=0) oM;obtain⟨F,H,u,S,d1⟩:=sK a.i D (r:=1) oM;obtain⟨I,O,J,P,d2⟩:=sK H.i D (r:=2) oM;obtain⟨q,d,Q,y,d3⟩:=sK O.i D (r:=3) oM;refine⟨q,((a.trans H).trans O).trans d,λi z=> ?_⟩;show(∀x∈((ij c (ij c (ij c (ij c T 0) 1) 2) 3).r i).h,x.c≠c)/\∀x∈((ij c (ij c (ij c (ij c T 0) 1) 2) 3).r i).w,x.c≠c;have z:i=0\/i=1\/i=2\/i=3:=oM
 rcases z with rfl|rfl|rfl|rfl
 ·rw[d3 0 dC,d2 0 dC,d1 0 dC]
  exact⟨K,E⟩
 ·rw[d3 1 dC,d2 1 dC]
  exact⟨u,S⟩
 ·rw[d3 2 dC]
  exact⟨J,P⟩
 ·exact⟨Q,y⟩
end Go.Proofs.YtblpaldggenbaaaGreatDoor
