/- A part. -/
import Derived.Test.YtblpaldggenbaaaGreatDoorMn
import Derived.Test.YtblpaldggenbaaaGreatDoorMj
namespace Go.Proofs.YtblpaldggenbaaaGreatDoor
open Go.RowKit
set_option maxRecDepth 100000
set_option maxHeartbeats 64000000
variable{p:fj}{α:Type}{b:kZ}
def bq.zero(a:Int):bq:=⟨false,0,a,λ_=>qx.zero,λ_=>0,[],[],λ_=>jc.zero⟩
def bq.tok(C:bq)(r:Int):Int:=if cD r=true then(C.h r.toNat).t else 0
def Fq(a b u:Int):Bool:=decide (a<=IntKind.u64.wrap (a+b))&&decide (IntKind.u64.wrap (a+b)<u)
def qx.none(x:qx):Bool:=(x.m==0)&&(x.t==0)&&(x.u==0)
def bq.GK(C:bq)(r:Int):Bool:=cD r&& !(C.h r.toNat).none&&((C.h r.toNat).m==2)&&Fq C.jg 3 (C.h r.toNat).u
def bq.iQ(C:bq)(r i:Int):Int:=if C.GK r=false then 110 else if i<0\/4<=i then 101 else 0
def bq.tQ(C:bq)(k:Nat)(x:jc):bq:={C with r:=aJ C.r k x}
def bq.mF(C:bq)(r t:Int):Int:=if cD r=false then 93 else if t=0\/t<C.la r.toNat then 92 else 0
def bq.nT(C:bq)(r t u:Int):bq:=if C.mF r t=0 then{C with h:=aJ C.h r.toNat ⟨2,t,u⟩,la:=aJ C.la r.toNat t}else C
def bq.gone(C:bq)(r:Int):bq:=if cD r=true then{C with h:=aJ C.h r.toNat qx.zero}else C
def bq.drop(C:bq)(r:Int):bq:={C with bl:=C.bl.filter (λx=> !ao r x),wr:=C.wr.filter (λx=> !ao r x)}
structure eu where
 s:SM
 up:Bool
 az:List (Int×RQ)
def eu.df(X:eu)(q:RQ):eu:=if X.up=true then⟨X.s.kd 0 8 q,(X.s.nH 0 8 q !=43),X.az⟩else X
def eu.ii(X:eu)(q:RQ):Bool:=X.up&&(X.s.nH 0 8 q !=43)
def eu.send(X:eu)(c:Int)(q:RQ):eu:=⟨X.s,X.up,X.az++[(c,q)]⟩
structure Zk where
 x:eu
 l:List (LI)
 e:Int
def eu.ask(X:eu)(c:Int)(q:RQ)(i:Int):Zk:=
 if i%2=1 then⟨X,[],111⟩else if q.b9≠0 then⟨X,[],q.b9⟩else
 if(X.send c q).ii q=false\/2<=i then⟨(X.send c q).df q,[],111⟩else
 ⟨(X.send c q).df q,mR X.s.M q,(aC X.s.M q).2⟩
def eu.bz(X:eu)(V:LI):eu:=⟨⟨mE (X.s.D.bz V) 0 8,lO (X.s.D.bz V) 0 8,jY (X.s.D.bz V) 0 8,false⟩,true,X.az⟩
def eu.gG(X:eu)(n:Int):eu:=⟨{X.s with D:=X.s.D.Bv n},X.up,X.az⟩
def mZ(r t:Int):RQ:=⟨5,r,0,t,1,[]⟩
def oL(r t:Int):RQ:=⟨3,r,0,t,0,[]⟩
def eL(r i t:Int):RQ:=⟨1,r,i,t,0,[]⟩
structure PrM where
 x:eu
 r:jc
 l:Int
 e:Int
def pC(X:eu)(c r t:Int)(x:jc)(l:Int):PrM:=
 if x.iy=true then⟨X,x,l,0⟩else
 if(X.ask c (mZ r t) (l%4)).e=0 then⟨(X.ask c (mZ r t) (l%4)).x,{x with iy:=true},l/4,0⟩else
 ⟨(X.ask c (mZ r t) (l%4)).x,x,l/4,(X.ask c (mZ r t) (l%4)).e⟩
def tV(X:eu)(c r t:Int)(x:jc)(l:Int):PrM:=
 if(X.ask c (oL r t) (l%4)).e≠0 then⟨(X.ask c (oL r t) (l%4)).x,x,l/4,(X.ask c (oL r t) (l%4)).e⟩else
 if l7 (X.ask c (oL r t) (l%4)).l≠0 then⟨(X.ask c (oL r t) (l%4)).x,{x with au:=gu r t 2 (X.ask c (oL r t) (l%4)).l},l/4,l7 (X.ask c (oL r t) (l%4)).l⟩else
 ⟨(X.ask c (oL r t) (l%4)).x,{x with au:=gu r t 2 (X.ask c (oL r t) (l%4)).l,eY:=true,seq:=IntKind.u32.wrap (2+((gu r t 2 (X.ask c (oL r t) (l%4)).l).length:Nat))},l/4,0⟩
def cT(X:eu)(c r t:Int)(x:jc)(l:Int):PrM:=
 if(pC X c r t x l).e≠0 then pC X c r t x l else tV (pC X c r t x l).x c r t (pC X c r t x l).r (pC X c r t x l).l
structure PeM where
 x:eu
 p:List RQ
 l:Int
 e:Int
def jp(c:Int):List RQ->eu->Int->PeM
 |[],X,l=>⟨X,[],l,0⟩
 |q::p,X,l=>if(X.ask c q (l%4)).e≠0 then⟨(X.ask c q (l%4)).x,q::p,l/4,(X.ask c q (l%4)).e⟩else jp c p (X.ask c q (l%4)).x (l/4)
structure AK where
 x:eu
 r:jc
 ws:List PU
 l:Int
 e:Int
def sS(X:eu)(c r _:Int)(x:jc)(ws:List PU)(l:Int):AK:=
 if(jp c x.au X l).e≠0 then⟨(jp c x.au X l).x,{x with au:=(jp c x.au X l).p},ws,(jp c x.au X l).l,(jp c x.au X l).e⟩else
 ⟨(jp c x.au X l).x,{x with au:=[],bS:=0},OX ws r x.bS,(jp c x.au X l).l,Yz ws r x.bS⟩
def cY(X:eu)(c r t:Int)(x:jc)(ws:List PU)(l:Int):AK:=
 if x.eY=true then sS X c r t x ws l else
 if(cT X c r t x l).e≠0 then⟨(cT X c r t x l).x,(cT X c r t x l).r,ws,(cT X c r t x l).l,(cT X c r t x l).e⟩else
 sS (cT X c r t x l).x c r t (cT X c r t x l).r ws (cT X c r t x l).l
structure Uk where
 x:eu
 c:bq
 b:LI
 e:Int
def bq.bR(C:bq)(k:Nat)(y:AK):bq:={C with r:=aJ C.r k y.r,wr:=y.ws}
def lG(X:eu)(c:Int)(C:bq)(r l:Int):AK:=cY X c r (C.tok r) (C.r r.toNat) C.wr l
def An(y:AK)(c:Int)(C:bq)(r i:Int):Uk:=
 if y.e≠0 then⟨y.x,C.bR r.toNat y,[],y.e⟩else
 if(y.x.ask c (eL r i (C.tok r)) (y.l%4)).e≠0 then⟨(y.x.ask c (eL r i (C.tok r)) (y.l%4)).x,C.bR r.toNat y,[],(y.x.ask c (eL r i (C.tok r)) (y.l%4)).e⟩else
 ⟨(y.x.ask c (eL r i (C.tok r)) (y.l%4)).x,{C.bR r.toNat y with bl:=oX C.bl y.ws ⟨r,i,(y.x.ask c (eL r i (C.tok r)) (y.l%4)).l.headD []⟩},(y.x.ask c (eL r i (C.tok r)) (y.l%4)).l.headD [],0⟩
def gX(X:eu)(c:Int)(C:bq)(r i n:Int):Uk:=
 if C.iQ r i≠0 then⟨X,C,[],C.iQ r i⟩else
 if 0<=fW (cC r i) 0 C.bl then⟨X,{C with bl:=l8 C.bl r i},rh C.bl r i,0⟩else An (lG X c C r n) c C r i
def oI(y:AK)(c:Int)(C:bq)(r:Int):Uk:=
 if y.e≠0 then⟨y.x,C.bR r.toNat y,[],y.e⟩else
 if y.ws.filter (ao r)=[]then⟨y.x,C.bR r.toNat y,[],0⟩else
 if nV r (y.ws.filter (ao r))≠0 then⟨y.x,C.bR r.toNat y,[],nV r (y.ws.filter (ao r))⟩else
 let z:=cY y.x c r (C.tok r) {y.r with au:=di r (C.tok r) y.r.seq (y.ws.filter (ao r)),bS:=((y.ws.filter (ao r)).length:Nat),seq:=IntKind.u32.wrap (y.r.seq+((di r (C.tok r) y.r.seq (y.ws.filter (ao r))).length:Nat))} y.ws y.l
 ⟨z.x,C.bR r.toNat z,[],z.e⟩
def eJ(X:eu)(c:Int)(C:bq)(r n:Int):Uk:=if C.iQ r 0≠0 then⟨X,C,[],C.iQ r 0⟩else oI (lG X c C r n) c C r
def dO(C:bq)(r i:Int)(b:LI):bq×Int:=
 if C.iQ r i≠0 then(C,C.iQ r i)else({C with bl:=za C.bl C.wr ⟨r,i,b⟩,wr:=AL C.bl C.wr ⟨r,i,b⟩},Dy C.bl C.wr ⟨r,i,b⟩)
structure dD where
 op:Int
 c:Int
 seq:Int
 r:Int
 m:Int
 t:Int
 tm:Int
structure gy where
 bi:List (Int×Int)
 bB:aI
def aQ(l:List (Int×Int))(c:Int):Option (Int×Int):=l.find? (λx=>x.1==c)
def bR:List (Int×Int)->Int->Int->List (Int×Int)
 |[],_,_=>[]
 |x::l,c,n=>if(x.1==c)=true then(x.1,n)::l else x::bR l c n
def kB(l:List (Int×Int))(c:Int):List (Int×Int):=l.eraseP (λx=>x.1==c)
def ie(c:Int)(T:aI)(r:Int):aI:=(((T.ly r).foldl (λT h=>if h.c==c then(T.release c r h.t).1 else T) T).cancel c r).1
def pT(T:aI)(c:Int):aI:=ie c (ie c (ie c (ie c T 0) 1) 2) 3
def FJ(T:aI)(q:dD):aI×Int×Int:=
 if q.op=3 then T.acquire q.c q.r q.m else if q.op=4 then((T.release q.c q.r q.t).1,0,(T.release q.c q.r q.t).2)else if q.op=5 then T.renew q.c q.r q.t else((T.cancel q.c q.r).1,0,(T.cancel q.c q.r).2)
structure wH where
 s:gy
 e:Int
 v:Int
def gy.apply(S:gy)(q:dD):wH:=
 if q.op=7 then⟨⟨S.bi,S.bB.time q.tm⟩,0,(S.bB.time q.tm).now⟩else
 if q.op=1 then(if(aQ S.bi q.c).isSome then⟨S,1,0⟩else if 6<=S.bi.length then⟨S,42,0⟩else⟨⟨S.bi++[(q.c,0)],S.bB⟩,0,0⟩)else
 if q.op=2 then(if(aQ S.bi q.c).isSome then⟨⟨kB S.bi q.c,pT S.bB q.c⟩,0,0⟩else⟨S,81,0⟩)else
 if(aQ S.bi q.c).isSome then⟨⟨bR S.bi q.c q.seq,(FJ S.bB q).1⟩,(FJ S.bB q).2.2,(FJ S.bB q).2.1⟩else⟨S,81,0⟩
def dX(n:Int):Int:=IntKind.u32.wrap (n+1)
structure sZ where
 s:gy
 c:bq
 e:Int
def gH(S:gy)(c:Int)(C:bq)(r t:Int):sZ:=
 let a:=S.apply ⟨5,c,dX C.seq,r,0,t,0⟩
 if a.e≠0 then⟨a.s,{C with seq:=dX C.seq},a.e⟩else⟨a.s,({C with seq:=dX C.seq}:bq).nT r t a.v,C.mF r t⟩
def iV(S:gy)(c:Int)(C:bq):sZ:=
 if C.bi=true then⟨S,C,0⟩else
 let b:=(S.apply ⟨2,c,0,0,0,0,0⟩).s.apply ⟨1,c,0,0,0,0,0⟩
 if b.e≠0 then⟨b.s,C,b.e⟩else⟨b.s,{C with bi:=true,seq:=0},0⟩
def mI(S:gy)(c:Int)(C:bq)(r:Int):sZ:=
 let a:=S.apply ⟨3,c,dX C.seq,r,2,0,0⟩
 let b:={C with seq:=dX C.seq}
 if a.e≠0 then⟨a.s,b,a.e⟩else
 if a.v=C.tok r then gH a.s c b r a.v else gH a.s c ((b.drop r).tQ r.toNat jc.zero) r a.v
def ji(S:gy)(c:Int)(C:bq)(r:Int):sZ:=
 if cD r=false then⟨S,C,93⟩else
 if(iV S c C).e≠0 then iV S c C else mI (iV S c C).s c (iV S c C).c r
def dI(S:gy)(c:Int)(C:bq)(r:Int):sZ:=if C.tok r=0 then⟨S,C,110⟩else gH S c C r (C.tok r)
def jJ(S:gy)(c:Int)(C:bq)(r:Int):sZ:=
 if C.tok r=0 then⟨S,C,110⟩else
 let a:=S.apply ⟨4,c,dX C.seq,r,0,C.tok r,0⟩
 ⟨a.s,(({C with seq:=dX C.seq}:bq).gone r).drop r,a.e⟩
structure jd where
 d:Int
 c:Int
 r:Int
 i:Int
 n:Int
 b:LI
 p:LI
structure WM where
 sv:gy
 st:eu
 c:Nat->bq
 ev:List eW
structure Xi where
 sv:gy
 st:eu
 c:bq
 b:LI
 e:Int
def gR(M:gy)(p:eu)(C:bq)(o:jd):Xi:=
 if o.d=1 then(if o.n<0 then⟨M,p,C,[],1⟩else⟨(M.apply ⟨7,0,0,0,0,0,IntKind.u64.wrap (M.bB.now+o.n)⟩).s,p,C,[],0⟩)else
 if o.d=2 then(if o.n<0 then⟨M,p,C,[],1⟩else⟨M,p,{C with jg:=IntKind.u64.wrap (C.jg+o.n)},[],0⟩)else
 if o.d=3 then⟨(ji M o.c C o.r).s,p,(ji M o.c C o.r).c,[],(ji M o.c C o.r).e⟩else
 if o.d=4 then⟨(dI M o.c C o.r).s,p,(dI M o.c C o.r).c,[],(dI M o.c C o.r).e⟩else
 if o.d=5 then⟨M,p,(dO C o.r o.i o.b).1,[],(dO C o.r o.i o.b).2⟩else
 if o.d=6 then⟨M,(gX p o.c C o.r o.i o.n).x,(gX p o.c C o.r o.i o.n).c,(gX p o.c C o.r o.i o.n).b,(gX p o.c C o.r o.i o.n).e⟩else
 if o.d=7 then⟨M,(eJ p o.c C o.r o.n).x,(eJ p o.c C o.r o.n).c,[],(eJ p o.c C o.r o.n).e⟩else
 if o.d=8 then⟨(jJ M o.c C o.r).s,p,(jJ M o.c C o.r).c,[],(jJ M o.c C o.r).e⟩else
 if o.d=9 then⟨M,p,bq.zero C.jg,[],0⟩else
 if o.d=10 then(if o.n<0\/(p.az.length:Int)<=o.n then⟨M,p,C,[],1⟩else⟨M,p.df ((p.az.getD o.n.toNat (0,mZ 0 0)).2),C,[],0⟩)else
 if o.i≠0 then⟨M,p.gG o.n,C,[],0⟩else⟨M,p.bz o.p,C,[],0⟩
def jd.fit(o:jd):Bool:=decide (1<=o.d)&&decide (o.d<=11)&&decide (0<=o.c)&&decide (o.c<3)
def jd.out(o:jd)(C:bq)(y:Xi):eW:=
 ⟨o.d,o.c,o.r,o.i,if o.d=3/\y.e=0 then y.c.tok o.r else C.tok o.r,if o.d=5/\y.e=0 then o.b else y.b,y.e⟩
def WM.one(X:WM)(o:jd):Xi:=gR X.sv X.st (X.c o.c.toNat) o
def WM.eA(X:WM)(o:jd):eW:=if o.fit=true then o.out (X.c o.c.toNat) (X.one o)else⟨o.d,o.c,o.r,o.i,0,[],1⟩
def WM.step(X:WM)(o:jd):WM:=
 if o.fit=true then⟨(X.one o).sv,(X.one o).st,aJ X.c o.c.toNat (X.one o).c,X.ev++[X.eA o]⟩else⟨X.sv,X.st,X.c,X.ev++[X.eA o]⟩
def WM.new(s:SM):WM:=⟨⟨[],⟨0,0,λ_=>⟨[],[]⟩⟩⟩,⟨s,true,[]⟩,λ_=>bq.zero 0,[]⟩
section
def qN(p:fj):LI:=p.i::p.d
def XJ(b:LI):fj:=⟨b.headD 0,b.tail⟩
def OZ(p:fj):Prop:=0<=p.i/\p.i<4/\p.d.length<=23
def iC(p:PU):fj:=⟨p.index,p.data⟩
structure fE(q:RQ):Prop where
 ok:q.ok
 w:q.b9=0
 b:Bytes q.data
 i:¬(q.op<=2/\4<=q.index)
 r:q.region<4
theorem wZ(b:kZ)(l r:List fj):dq b (l++r)=dq (dq b l) r:=XU
theorem uL(b:kZ)(l:List fj)(p:fj):dq b (l++[p])=kT (dq b l) p:=wZ b l [p]
theorem Vk(h:OZ p):kT b p=aJ b p.i.toNat p.d:=iP ⟨h.1,h.2.1⟩
theorem Mj(l:List fj):∀(b c:kZ) (j:Nat),(b j=c j\/∃p∈l,OZ p/\p.i.toNat=j)->dq b l j=dq c l j:=by
 induction l with
 |nil=>
  intro b c j h;rcases h with h|⟨p,o,_⟩
  ·exact h
  ·cases o
 |cons p r K=>
  intro b c j h;show dq (kT b p) r j=dq (kT c p) r j;refine K _ _ j ?_;unfold kT;by_cases o:0<=p.i/\p.i<4
  ·rw[iP o,iP o]
   by_cases Y:j=p.i.toNat
   ·subst Y
    exact .inl (by rw[aW,aW])
   ·rcases h with h|⟨q,d,D,a⟩
    ·exact .inl (by rw[cm _ _ _ _ Y,cm _ _ _ _ Y];exact h)
    ·rcases nO.1 d with rfl|d
     ·exact absurd a.symm Y
     ·exact .inr ⟨q,d,D,a⟩
  ·rw[iN o,iN o]
   rcases h with h|⟨q,d,D,a⟩
   ·exact .inl h
   ·rcases nO.1 d with rfl|d
    ·exact absurd ⟨D.1,D.2.1⟩ o
    ·exact .inr ⟨q,d,D,a⟩
theorem rL(l:List fj):∀(b:kZ) (j:Nat),(∀p∈l,0<=p.i->p.i<4->p.i.toNat≠j)->dq b l j=b j:=by
 induction l with
 |nil=>intro b j _;rfl
 |cons p r K=>
  intro b j h;show dq (kT b p) r j=b j;rw[K _ j (λq d=>h q (Dl _ d))];unfold kT
  split
  ·rename_i o
   exact cm _ _ _ _ (VS (h p Je o.1 o.2))
  ·rfl
theorem JN(b:kZ)(l:List fj)(h:∀p∈l,OZ p)(k:Nat):dq (dq b (l.take k)) l=dq b l:=by
 funext j
 refine Mj l _ _ j ?_;by_cases J:∃p∈l,p.i.toNat=j
 ·obtain⟨p,o,e⟩:=J
  exact .inr ⟨p,o,h p o,e⟩
 ·exact .inl (rL _ _ _ (λp o _ _ Y=>J ⟨p,Hn o,Y⟩))
structure sX(x:Rg)(L:List fj)(w:Nat)(b0:kZ):Prop where
 lg:x.log=L.map qN
 bl:x.b=dq b0 (L.take w)
 ok:∀p∈L,OZ p
def We(x:Rg):kZ:=dq x.b (x.log.map XJ)
theorem Qy(L:List fj):(L.map qN).map XJ=L:=by
 rw[UW];exact(Yk (λ_ _=>rfl)).trans (List.map_id L)
theorem sX.v{x:Rg}{L:List fj}{w:Nat}{i:kZ}(h:sX x L w i):We x=dq i L:=by
 unfold We;rw[h.lg,h.bl,Qy];exact JN _ _ h.ok _
def pG:List fj->Nat->List RQ->List fj->Prop
 |L,w,[],a=>L=[]/\w=0/\a=[]
 |L,w,q::n,a=>
  (q.op=4/\q.index=0/\w=0/\L.length<4/\∃p g,a=p::g/\OZ p/\q.data=qN p/\pG (L++[p]) 0 n g)\/
  (q.op=2/\(∃p,L[w]? =some p/\q.index=p.i/\q.data=p.d)/\pG L (w+1) n a)\/
  (q.op=5/\w=L.length/\q.index=(L.length:Nat)/\pG [] 0 n a)
theorem zP{l:List α}{k:Nat}{x:α}(h:l[k]? =some x):l.take (k+1)=l.take k++[x]:=by rw[Et,h];rfl
theorem Cq{x:Rg}{L:List fj}{w:Nat}{i:kZ}{q:RQ}{n:List RQ}{a:List fj}(h:sX x L w i)(ht:pG L w (q::n) a):
 ∃t O X g,sX (x.act q) t O X/\pG t O n g/\Rg.j5 x.log.length q=(true,0)/\q.bJ=true/\¬(q.op<=2/\4<=q.index)/\
  ((g=a/\We (x.act q)=We x)\/∃p,a=p::g/\We (x.act q)=kT (We x) p):=by
 have C:x.log.length=L.length:=by rw[h.lg,nL]
 rcases ht with⟨Q,S,rfl,B,p,g,rfl,o,y,ht⟩|⟨V,⟨p,o,S,y⟩,ht⟩|⟨F,rfl,S,ht⟩
 ·have G:sX (x.act q) (L++[p]) 0 i:=by
   refine⟨?_,?_,λz H=> ?_⟩
   ·show(if q.op=4 then x.log++[q.data]else if q.op=5 then x.log.drop q.index.toNat else x.log)=_
    rw[iP Q,h.lg,y,xd]
    rfl
   ·show(if q.op=2 then aJ x.b q.index.toNat q.data else x.b)=_
    rw[iN oM,h.bl,Hm,Hm]
   ·rcases lU.1 H with H|H
    ·exact h.ok z H
    ·rw[lA.1 H]
     exact o
  refine⟨_,_,_,g,G,ht,?_,?_,oM,.inr ⟨p,rfl,?_⟩⟩
  ·unfold Rg.j5
   rw[iN oM,iN oM]
  ·unfold RQ.bJ
   rw[Q]
   rfl
  ·rw[G.v,h.v,uL]
 ·have P:=h.ok p (pJ o)
  have G:sX (x.act q) L (w+1) i:=by
   refine⟨?_,?_,h.ok⟩
   ·show(if q.op=4 then x.log++[q.data]else if q.op=5 then x.log.drop q.index.toNat else x.log)=_
    rw[iN oM,iN oM];exact h.lg
   ·show(if q.op=2 then aJ x.b q.index.toNat q.data else x.b)=_
    rw[iP V,h.bl,zP o,uL,Vk P,S,y]
  refine⟨_,_,_,a,G,ht,?_,?_,?_,.inl ⟨rfl,?_⟩⟩
  ·unfold Rg.j5
   rw[iN oM,iN oM]
  ·unfold RQ.bJ
   rw[V]
   rfl
  ·have:=P.2.1
   omega
  ·rw[G.v,h.v]
 ·have G:sX (x.act q) [] 0 (dq i L):=by
   refine⟨?_,?_,λz H=>by cases H⟩
   ·show(if q.op=4 then x.log++[q.data]else if q.op=5 then x.log.drop q.index.toNat else x.log)=_
    rw[iN oM,iP F,S,qG,<-C];exact zcM
   ·show(if q.op=2 then aJ x.b q.index.toNat q.data else x.b)=_
    rw[iN oM,h.bl,MS]
    rfl
  refine⟨_,_,_,a,G,ht,?_,?_,oM,.inl ⟨rfl,?_⟩⟩
  ·unfold Rg.j5
   rw[iN oM,iN oM]
  ·unfold RQ.bJ
   rw[F]
   rfl
  ·rw[G.v,h.v]
   rfl
theorem uV{R:List RQ}{g:List fj}(c:pG [] 0 R g):∀(Q:List RQ) (L:List fj) (w:Nat) (a:List fj),pG L w Q a->pG L w (Q++R) (a++g)
 |[],L,w,a,h=>by
  obtain⟨rfl,rfl,rfl⟩:=h;exact c
 |q::Q,L,w,a,h=>by
  rcases h with⟨S,z,rfl,B,p,b,rfl,o,y,ht⟩|⟨V,o,ht⟩|⟨F,P,z,ht⟩
  ·exact .inl ⟨S,z,rfl,B,p,b++g,rfl,o,y,uV c Q _ _ _ ht⟩
  ·exact .inr (.inl ⟨V,o,uV c Q _ _ _ ht⟩)
  ·exact .inr (.inr ⟨F,P,z,uV c Q _ _ _ ht⟩)
def KM(r:Int)(p:PU):Prop:=p.region=r/\OZ (iC p)
theorem GW{r:Int}{p:PU}(h:KM r p):jL p=0:=by
 obtain⟨_,Z,V,M⟩:=h;have Z:0<=p.index:=Z;have V:p.index<4:=V;have M:p.data.length<=23:=M;unfold jL;rw[iN oM,iN oM]
theorem Eu{r:Int}{p:PU}(h:KM r p):Dn p=qN (iC p):=MW p (GW h)
theorem Ha(r t s:Int){R:List RQ}{a:List fj}:∀(l:List PU) (i:Nat) (L:List fj),(∀p∈l,KM r p)->L.length+l.length<=4->pG (L++l.map iC) 0 R a->pG L 0 (wl (eQ r t s) i l++R) (l.map iC++a)
 |[],i,L,_,_,h=>by rw[BQ,rX]at h;exact h
 |p::l,i,L,P,C,h=>by
  have o:=P p acy;rw[oO]at C;refine .inl ⟨rfl,rfl,rfl,oM,iC p,l.map iC++a,rfl,o.2,Eu o,?_⟩;exact Ha r t s l (i+1) (L++[iC p]) (λx J=>P x (by simp[J])) (by rw[eG];simp;omega) (by rw[nX];exact h)
theorem Lo(r t s:Int){R:List RQ}{a:List fj}:∀(l:List PU) (i:Nat) (A:List fj),pG (A++l.map iC) (A++l.map iC).length R a->pG (A++l.map iC) A.length (wl (wQ r t s) i l++R) a
 |[],i,A,h=>by rw[BQ,rX]at h⊢;exact h
 |p::l,i,A,h=>by
  refine .inr (.inl ⟨rfl,⟨iC p,?_,rfl,rfl⟩,?_⟩)
  ·rw[li,OU (g9 _),UC]
   rfl
  ·have e:A++(p::l).map iC=(A++[iC p])++l.map iC:=by rw[nX];rfl
   rw[e]at h⊢;have:=Lo r t s l (i+1) (A++[iC p]) h;rwa[eG]at this
theorem Be(r t s:Int)(l:List PU):pG (l.map iC) 0 (uo r t s l) []:=by
 unfold uo;by_cases h:0<l.length
 ·rw[iP h]
  exact Lo r t s l 0 [] (.inr (.inr ⟨rfl,rfl,by rw[xL,nL],rfl,rfl,rfl⟩))
 ·have:l=[]:=Yl.1 oM
  subst this;exact⟨rfl,rfl,rfl⟩
theorem NU(r t s:Int)(l:List PU)(P:∀p∈l,KM r p)(Q:l.length<=4):pG [] 0 (rI r t s l).2 (l.map iC):=by
 have:=Ha r t s l 0 [] P (by simpa using Q) (Be r t (IntKind.u32.wrap (s+l.length)) l);rwa[rX]at this
theorem LZ(r t s:Int)(l:List PU)(P:∀p∈l,KM r p):∀j,pG [] 0 (pQ r t s l j).2 ((l.take (4*j)).map iC)
 |0=>⟨rfl,rfl,rfl⟩
 |j+1=>by
  have h:=uV (NU r t (pQ r t s l j).1 ((l.drop (4*j)).take 4) (λp o=>P p (Ud (Hn o))) acT) _ _ _ _ (LZ r t s l P j);rw[<-xd,show l.take (4*j)++(l.drop (4*j)).take 4=l.take (4*(j+1))by rw[Nat.mul_add,UF,List.take_add]]at h;exact h
theorem uG{r:Int}{l:List PU}(P:∀p∈l,KM r p):nV r l=0:=by
 have Z:jt l=0:=by
  induction l with
  |nil=>rfl
  |cons p l K=>
   unfold jt;rw[iP (GW (P p acy))];exact K (λx J=>P x (by simp[J]))
 unfold nV;rw[iP Z,iN];rw[zdm];rintro⟨x,J,h⟩;rw[(P x J).1]at h;simp at h
theorem Oz(r t s:Int)(l:List PU)(P:∀p∈l,KM r p):pG [] 0 (di r t s l) (l.map iC):=by
 unfold di;rw[iP (uG P)];have:=LZ r t s l P ((l.length+3)/4);rwa[nS oM]at this
theorem BP{r:Int}(h:OZ p):jk (qN p)=0/\ue r (qN p)=⟨r,p.i,p.d⟩:=by
 have e:jk (qN p)=0:=by
  show(if 4<=p.i then 101 else if 23<p.d.length then 2 else(0:Int))=0;obtain⟨Z,V,M⟩:=h;rw[iN oM,iN oM]
 exact⟨e,iP e⟩
theorem DE{r t s:Int}{L:List fj}(h:∀p∈L,OZ p):l7 (L.map qN)=0/\gu r t s (L.map qN)=uo r t s (L.map (λp=>⟨r,p.i,p.d⟩)):=by
 have Z:l7 (L.map qN)=0:=by
  induction L with
  |nil=>rfl
  |cons p L K=>
   show(if jk (qN p)=0 then l7 (L.map qN)else jk (qN p))=0;rw[iP (BP (r:=r) (h p acy)).1];exact K (λx J=>h x (by simp[J]))
 refine⟨Z,?_⟩;unfold gu;rw[iP Z,UW]
 congr 1
 exact Yk (λp o=>(BP (h p o)).2)
theorem Qk{r t s:Int}{L:List fj}(h:∀p∈L,OZ p):pG L 0 (gu r t s (L.map qN)) []:=by
 rw[(DE h).2];have:=Be r t s (L.map (λp=>⟨r,p.i,p.d⟩));rwa[UW,(Yk (λ_ _=>rfl):L.map (iC∘λp=>(⟨r,p.i,p.d⟩:PU))=L.map id),List.map_id]at this
theorem ZO(f:Nat->PU->RQ)(l:List PU):∀i k,(wl f i l)[k]? =(l[k]?).map (f (i+k)):=by
 induction l with
 |nil=>intro i k;rfl
 |cons p r K=>
  intro i k
  cases k with
  |zero=>rfl
  |succ k=>
   show(wl f (i+1) r)[k]? =(r[k]?).map (f (i+(k+1)));rw[K,show i+1+k=i+(k+1)by omega]
def lu(r t s:Int)(Q:List RQ):Prop:=∀k q,Q[k]? =some q->q.region=r/\q.token=t/\q.seq=s+(k:Nat)/\fE q/\q.bJ=true
theorem lu.nil(r t s:Int):lu r t s []:=λk q h=>by simp at h
theorem lu.oU{r t s:Int}{Q R:List RQ}(h:lu r t s Q)(k:lu r t (s+(Q.length:Nat)) R):lu r t s (Q++R):=by
 intro j q N;by_cases B:j<Q.length
 ·rw[Uu B]at N
  exact h j q N
 ·rw[OU oM]at N
  obtain⟨a,b,c,d⟩:=k _ q N;exact afN
theorem lu.tail{r t s:Int}{q:RQ}{Q:List RQ}(h:lu r t s (q::Q)):lu r t (s+1) Q:=by
 intro j x N;obtain⟨a,b,c,d⟩:=h (j+1) x (by simpa using N);exact afN
theorem RN{r t s:Int}{f:Int->Nat->PU->RQ}{l:List PU}(P:∀(s:Int) (i:Nat) (p:PU),p∈l->0<=s->s+(i:Nat)<=4294967295->(f s i p).region=r/\(f s i p).token=t/\(f s i p).seq=s+(i:Nat)/\fE (f s i p)/\(f s i p).bJ=true)(K:0<=s)(i:Nat)(U:s+(i:Nat)+(l.length:Nat)<=4294967296):lu r t (s+(i:Nat)) (wl (f s) i l):=by
 intro k q F;rw[ZO]at F;obtain⟨p,o,rfl⟩:=zcg.1 F;have B:=(lQ.1 o).1;obtain⟨a,b,c,d⟩:=P s (i+k) p (pJ o) K oM;exact afN
section
variable {r t s:Int} (G:0<=r/\r<4) (a:0<=t/\t<18446744073709551616)
include G a
theorem uF{op i n:Int}{b:LI}(X:op=2\/op=4\/op=5)(z:0<=i/\i<=255/\(op=2->i<4))(W:0<=n/\n<4294967296)(B:Bytes b)(C:b.length<=24):fE ⟨op,r,i,t,n,b⟩/\RQ.bJ ⟨op,r,i,t,n,b⟩=true:=by
 refine⟨⟨⟨a.1,a.2,W.1,W.2⟩,?_,B,by show¬(op<=2/\4<=i);omega,G.2⟩,?_⟩
 ·unfold RQ.b9
  rw[iN (by show¬(op<1\/5<op\/r<0\/255<r\/i<0\/255<i);omega),iN (by show¬24<b.length;omega)]
 ·rcases X with rfl|rfl|rfl<;>rfl
theorem Gf{l:List PU}(P:∀p∈l,KM r p/\Bytes p.data)(Q:l.length<=255)(K:0<=s)(W:s+(l.length:Nat)+1<=4294967296):lu r t s (uo r t s l):=by
 unfold uo;have Z:=RN (f:=wQ r t) (l:=l) (λs i p o B N=>by
  have U:IntKind.u32.wrap (s+(i:Nat))=s+(i:Nat):=IntWalk.u32_in _ oM;obtain⟨⟨Z,V⟩,M⟩:=P p o;have u:=uF G a (op:=2) (i:=p.index) (n:=s+(i:Nat)) (b:=p.data) (.inl rfl) ⟨V.1,by have:=V.2.1;show p.index<=255;have h:(iC p).i=p.index:=rfl;omega,λ_=>V.2.1⟩ oM M (by have:=V.2.2;have h:(iC p).d=p.data:=rfl;rw[h]at this;omega);unfold wQ;rw[U];exact⟨rfl,rfl,rfl,u⟩) K 0 oM
 refine lu.oU (by simpa using Z) ?_
 split
 ·intro k q F
  have A:k=0:=by
   have:=(lQ.1 F).1;simp at this;exact this
  subst A;obtain rfl:=(by simpa using F:_=q);have U:IntKind.u32.wrap (s+(l.length:Nat))=s+(l.length:Nat):=IntWalk.u32_in _ oM;rw[U,gB];exact⟨rfl,rfl,by show s+(l.length:Nat)=s+(l.length:Nat)+(0:Nat);omega,uF G a (.inr (.inr rfl)) oM oM (λ_ h=>by cases h) acy⟩
 ·exact lu.nil _ _ _
theorem PN{l:List PU}(P:∀p∈l,KM r p/\Bytes p.data)(Q:l.length<=255)(K:0<=s)(W:s+2*(l.length:Nat)+1<=4294967295):lu r t s (rI r t s l).2/\(rI r t s l).1=s+((rI r t s l).2.length:Nat):=by
 have U:IntKind.u32.wrap (s+(l.length:Nat))=s+(l.length:Nat):=IntWalk.u32_in _ oM;have Z:=RN (f:=eQ r t) (l:=l) (λs i p o B N=>by
  have U:IntKind.u32.wrap (s+(i:Nat))=s+(i:Nat):=IntWalk.u32_in _ oM;obtain⟨Z,M⟩:=P p o;have V:=Z.2;have e:=Eu Z;have u:=uF G a (op:=4) (i:=0) (n:=s+(i:Nat)) (b:=Dn p) (.inr (.inl rfl)) oM oM (by
   rw[e];intro x J;rcases nO.1 J with rfl|J
   ·exact⟨V.1,by have:=V.2.1;omega⟩
   ·exact M x J) (by rw[e];have:=V.2.2;unfold qN;rw[oO];omega)
  unfold eQ;rw[U];exact⟨rfl,rfl,rfl,u⟩) K 0 oM
 have V:=Gf G a (s:=s+(l.length:Nat)) P Q oM oM;unfold rI;rw[U];refine⟨lu.oU (by simpa using Z) (by rw[gB];exact V),?_⟩;show GF (s+(l.length:Nat)) l=_;rw[eG,gB];unfold GF uo
 split
 ·rw[eG,gB]
  rw[show s+(l.length:Nat)+(l.length:Nat)+1=s+2*(l.length:Nat)+1 by omega,IntWalk.u32_in _ oM];exact acC
 ·have:l.length=0:=oM
  rw[eG,gB];exact acC
theorem Ro{l:List PU}(P:∀p∈l,KM r p/\Bytes p.data)(K:0<=s):∀j:Nat,s+9*(j:Nat)<=4294967295->lu r t s (pQ r t s l j).2/\(pQ r t s l j).1=s+((pQ r t s l j).2.length:Nat)
 |0,_=>⟨lu.nil _ _ _,by show s=s+(0:Nat);omega⟩
 |j+1,N=>by
  obtain⟨Z,V⟩:=Ro P K j oM;have C:=o7 r t s l j;have Q:((l.drop (4*j)).take 4).length<=4:=by rw[fJ];omega
  obtain⟨F,U⟩:=PN G a (s:=(pQ r t s l j).1) (l:=(l.drop (4*j)).take 4) (λp o=>P p (Ud (Hn o))) oM oM oM;refine⟨lu.oU Z (by rw[<-V];exact F),?_⟩;show(rI r t (pQ r t s l j).1 ((l.drop (4*j)).take 4)).1=s+(((pQ r t s l j).2++(rI r t (pQ r t s l j).1 ((l.drop (4*j)).take 4)).2).length:Nat);rw[U,eG];omega
theorem Er{l:List PU}(P:∀p∈l,KM r p/\Bytes p.data)(K:0<=s)(C:l.length<=1000)(U:s<=4000000000):lu r t s (di r t s l):=by
 unfold di;rw[iP (uG (λp o=>(P p o).1))];exact(Ro G a P K _ oM).1
theorem TL{L:List fj}(P:∀p∈L,OZ p/\Bytes p.d)(C:L.length<=255)(K:0<=s)(U:s<=4000000000):lu r t s (gu r t s (L.map qN)):=by
 rw[(DE (λp o=>(P p o).1)).2];refine Gf G a (λp o=> ?_) (by rw[nL];exact C) K (by rw[nL];omega);obtain⟨x,J,rfl⟩:=oK.1 o;exact⟨⟨rfl,(P x J).1⟩,(P x J).2⟩
end
end
section
structure Vw where
 x:jc
 f:Nat
 ca:List PU
def Vw.zero:Vw:=⟨jc.zero,0,[]⟩
def Vw.g(v:Vw):Nat:=v.f+v.x.bS.toNat
def Vw.s0(v:Vw):Int:=v.x.seq-(v.x.au.length:Nat)
structure QS(r t:Int)(s:bp)(v:Vw):Prop where
 nr:v.x.eY=false->v.x.au=[]/\v.x.bS=0/\v.f=0
 rf:v.x.eY=true->v.x.iy=true
 p0:0<=v.x.bS
 fp:v.g<=s.p.length
 sq:lu r t v.s0 v.x.au
 s2:v.x.eY=true->2<=v.s0
theorem QS.zero(r t:Int)(s:bp):QS r t s Vw.zero:=⟨λ_=>⟨rfl,rfl,rfl⟩,λh=>(by cases h),ef _,jG _,lu.nil _ _ _,λh=>(by cases h)⟩
def sL(S:Int->bp)(k:Int->Nat):Nat->kZ
 |0=>PZ
 |n+1=>dq (sL S k n) ((S ((n+1:Nat):Int)).p.take (k ((n+1:Nat):Int)))
def qL(S:Int->bp)(k:Int->Nat)(t:Int):kZ:=sL S k (t-1).toNat
def GC(S:Int->bp)(k:Int->Nat)(t:Int):kZ:=sL S k t.toNat
theorem yj(S:Int->bp)(k:Int->Nat){t:Int}(h:1<=t):GC S k t=dq (qL S k t) ((S t).p.take (k t)):=by
 unfold GC qL;obtain⟨n,rfl⟩:∃n:Nat,t=((n+1:Nat):Int):=⟨(t-1).toNat,oM⟩;rw[show(((n+1:Nat):Int)-1).toNat=n by omega,qG]
 rfl
theorem tE{S W:Int->bp}{k b:Int->Nat}:∀n:Nat,(∀t:Int,1<=t->t<=(n:Nat)->(S t).p.take (k t)=(W t).p.take (b t))->sL S k n=sL W b n
 |0,_=>rfl
 |n+1,h=>by
  unfold sL;rw[tE n (λt Z V=>h t Z oM),h _ oM (ef _)]
theorem AB{S W:Int->bp}{k b:Int->Nat}{t:Int}(h:∀j:Int,1<=j->j<t->(S j).p.take (k j)=(W j).p.take (b j)):qL S k t=qL W b t:=
 tE _ (λj Z V=>h j Z oM)
theorem BO{S:Int->bp}{k:Int->Nat}(n:Nat):∀m:Nat,(∀t:Int,(n:Nat)<t->t<=(n+m:Nat)->k t=0)->sL S k (n+m)=sL S k n
 |0,_=>rfl
 |m+1,h=>by
  show dq (sL S k (n+m)) ((S ((n+m+1:Nat):Int)).p.take (k ((n+m+1:Nat):Int)))=_;rw[h ((n+m+1:Nat):Int) oM oM,Hm,BO n m (λt Z V=>h t Z oM)]
  rfl
theorem Oa{S:Int->bp}{k:Int->Nat}{h t:Int}(K:0<=h)(ht:h<=t)(F:∀j,h<j->k j=0):GC S k t=GC S k h:=by
 unfold GC;have:=BO (S:=S) (k:=k) h.toNat (t-h).toNat (λj Z _=>F j oM);rwa[show h.toNat+(t-h).toNat=t.toNat by omega]at this
def mH(S:Int->bp)(k:Int->Nat)(h t:Int)(y:mG):Prop:=(t<=h->iT (S t) (qL S k t) y=true)/\(h<t->∀b,iT (S t) b y=true)
theorem mH.up{S:Int->bp}{k:Int->Nat}{h E t:Int}{y:mG}(c:mH S k h t y)(H:h<=E):mH S k E t y:=by
 refine⟨λZ=> ?_,λZ b=>c.2 oM b⟩;by_cases V:t<=h
 ·exact c.1 V
 ·exact c.2 oM _
def Pz(s:bp)(v:Vw)(x:Rg)(k:Nat):Prop:=
 ∃L w i,sX x L w i/\k<=v.g/\((x.seq=v.s0-1/\pG L w v.x.au ((s.p.take v.g).drop k))\/∃q n,v.x.au=q::n/\x.seq=v.s0/\pG L w n ((s.p.take v.g).drop k))
structure dw(S:Int->bp)(gv:Int->Vw)(x:Rg)(k:Int->Nat):Prop where
 h0:0<=x.aE
 s1:1<=x.aE->1<=x.seq
 kh:∀t,x.aE<t->k t=0
 kp:∀t,1<=t->k t<=(S t).p.length
 ks:∀t,1<=t->(S t).s<=(k t:Nat)
 v:We x=GC S k x.aE
 lg:∃L w b0,sX x L w b0
 lk:∀t,1<=t->∀y∈(S t).k,mH S k x.aE t y
 ca:∀t,1<=t->∀y∈(gv t).ca,mH S k x.aE t ⟨((S t).p.length:Nat),y.index,y.data⟩
 fe:∀t,1<=t->(gv t).x.iy=true->t<=x.aE
 vr:∀t,1<=t->t<x.aE->(gv t).x.eY=true->(gv t).f<=k t/\((gv t).x.au=[]->(gv t).g<=k t)
 Xa:1<=x.aE->(gv x.aE).x.eY=false->x.seq=1/\k x.aE=0
 fD:1<=x.aE->(gv x.aE).x.eY=true->(gv x.aE).f<=k x.aE/\Pz (S x.aE) (gv x.aE) x (k x.aE)
theorem Pz.done{s:bp}{v:Vw}{x:Rg}{k:Nat}(h:Pz s v x k)(u:v.g<=s.p.length)(o:v.x.au=[]):v.g=k/\x.log=[]/\x.seq=v.s0-1:=by
 obtain⟨L,w,i,G,W,h|⟨q,n,h,_⟩⟩:=h
 ·obtain⟨Z,ht⟩:=h
  rw[o]at ht;obtain⟨rfl,rfl,M⟩:=ht;have Q:=congrArg List.length M;rw[km,fJ]at Q;have F:min v.g s.p.length-k=0:=Q;exact⟨oM,G.lg,Z⟩
 ·rw[o]at h
  cases h
theorem dw.kept{S:Int->bp}{gv:Int->Vw}{x:Rg}{k:Int->Nat}(h:dw S gv x k){t:Int}(ht:1<=t)(G:(gv t).x.eY=true)(a:(gv t).x.iy=true):(gv t).f<=k t:=by
 have Z:=h.fe t ht a;by_cases V:t<x.aE
 ·exact(h.vr t ht V G).1
 ·obtain rfl:t=x.aE:=oM
  exact(h.fD ht G).1
def tB(r:Int)(gv:Int->Vw)(q:RQ):Prop:=
 q.region=r->q.bJ=true->1<=q.token/\(q=mZ r q.token\/((gv q.token).x.eY=true/\(q.seq<(gv q.token).s0\/(gv q.token).x.au.head? =some q)))
theorem xD{m:Nat->Rg}{q:RQ}(h:(aC m q).2=0/\(aC m q).1=true):
 q.bJ=true/\(((m q.region.toNat).aE<q.token/\q.seq=1)\/((m q.region.toNat).aE=q.token/\q.seq=(m q.region.toNat).seq+1)):=by
 unfold aC at h
 split at h;· exact absurd h.2 gV
 split at h;· exact absurd h.2 gV
 split at h;· exact absurd h.2 gV
 split at h;· exact absurd h.2 gV
 rename_i Q
 split at h
 ·rename_i D
  refine⟨D,?_⟩;unfold Rg.next Rg.pE at h
  split at h
  ·rename_i F
   split at h
   ·exact absurd h.2 gV
   ·rename_i P
    exact .inl ⟨F,oM⟩
  ·rename_i F
   split at h;· exact absurd h.2 gV
   split at h;· exact absurd h.2 gV
   split at h;· exact absurd h.2 gV
   rename_i P;exact .inr ⟨oM,oM⟩
 ·exact absurd h.2 gV
theorem Oo{m:Nat->Rg}{q:RQ}{j:Nat}(h:j≠q.region.toNat):gJ m q j=m j:=by
 unfold gJ
 split
 ·exact cm _ _ _ _ h
 ·rfl
theorem dw.Zd{S:Int->bp}{gv:Int->Vw}{x:Rg}{k:Int->Nat}(h:dw S gv x k)(d:∀t,1<=t->(gv t).x.eY=true->(gv t).x.iy=true)(u:∀t,1<=t->(gv t).g<=(S t).p.length){r t:Int}(ht:x.aE<t):dw S gv (x.act (mZ r t)) k:=by
 have K:=h.h0;have H:(x.act (mZ r t)).aE=t:=rfl;have B:(x.act (mZ r t)).b=x.b:=rfl;have C:(x.act (mZ r t)).log=x.log:=rfl;refine⟨by rw[H];omega,λ_=>ef _,λj N=>h.kh j (by rw[H]at N;omega),h.kp,h.ks,?_,?_,λj N y E=>(h.lk j N y E).up (by rw[H];omega),λj N y E=>(h.ca j N y E).up (by rw[H];omega),λj N a=> ?_,λj N Z V=> ?_,λ_ _=>⟨rfl,?_⟩,λZ V=> ?_⟩
 ·show dq x.b (x.log.map XJ)=GC S k t
  rw[Oa K oM h.kh];exact h.v
 ·obtain⟨L,w,i,G⟩:=h.lg
  exact⟨L,w,i,G.lg,G.bl,G.ok⟩
 ·have:=h.fe j N a
  rw[H];omega
 ·have M:=h.fe j N (d j N V)
  by_cases Q:j<x.aE
  ·exact h.vr j N Q V
  ·obtain rfl:j=x.aE:=oM
   obtain⟨F,P⟩:=h.fD N V;exact⟨F,λo=>by have:=(P.done (u _ N) o).1;omega⟩
 ·rw[H]
  exact h.kh t ht
 ·rw[H]at V
  have:=h.fe t oM (d t oM V);omega
theorem dw.au{S:Int->bp}{gv:Int->Vw}{x:Rg}{k:Int->Nat}(h:dw S gv x k)(ht:1<=x.aE)(G:(gv x.aE).x.eY=true){r:Int}(I:lu r x.aE (gv x.aE).s0 (gv x.aE).x.au){q:RQ}{n:List RQ}(o:(gv x.aE).x.au=q::n)(hs:x.seq=(gv x.aE).s0-1)(C0:2<=(gv x.aE).s0):
 ∃b,dw S gv (x.act q) b:=by
 obtain⟨M,B0,w,b0,u,R,Z|⟨q',D0,_,Z,_⟩⟩:=h.fD ht G
 case inr=>omega
 obtain⟨_,A⟩:=Z;obtain⟨_,U,L,_⟩:=I 0 q (by rw[o];rfl);rw[o]at A;obtain⟨t,O,X,A0,T,a,_,_,_,P⟩:=Cq u A;have H:(x.act q).aE=x.aE:=U;have d:(x.act q).seq=(gv x.aE).s0:=by
  show q.seq=_;rw[L];omega
 rcases P with⟨rfl,K⟩|⟨p,Y,K⟩
 ·refine⟨k,by rw[H];exact h.h0,λ_=>by rw[d];omega,by rw[H];exact h.kh,h.kp,h.ks,by rw[K,H];exact h.v,⟨_,_,_,T⟩,by rw[H];exact h.lk,by rw[H];exact h.ca,by rw[H];exact h.fe,by rw[H];exact h.vr,λ_ V=> ?_,λ_ _=> ?_⟩
  ·rw[H,G]at V
   cases V
  ·rw[H]
   exact⟨M,t,O,X,T,R,.inr ⟨q,n,o,d,a⟩⟩
 ·have B:k x.aE<(S x.aE).p.length/\k x.aE<(gv x.aE).g/\(S x.aE).p[k x.aE]? =some p:=by
   have Q:=congrArg List.length Y;rw[km,fJ,oO]at Q;have F:=congrArg (λl=>l[0]?) Y;simp only[xV,vt,zdp]at F;rw[AH,iP oM]at F;exact⟨oM,oM,F⟩
  have z:A0=((S x.aE).p.take (gv x.aE).g).drop (k x.aE+1):=by
   rw[<-Fj,Y]
   rfl
  obtain⟨b,C⟩:∃b:Int->Nat,b=λj=>if j=x.aE then k x.aE+1 else k j:=⟨_,rfl⟩;have W:b x.aE=k x.aE+1:=by rw[C];exact iP rfl
  have J:∀j,j≠x.aE->b j=k j:=λj N=>by rw[C];exact iN N
  have c:∀j,j<=x.aE->qL S b j=qL S k j:=λj N=>AB (λi _ hi=>by rw[J i oM]);have g:∀j y,mH S k x.aE j y->mH S b x.aE j y:=λj y D=>⟨λZ=>by rw[c j Z];exact D.1 Z,D.2⟩;refine⟨b,by rw[H];exact h.h0,λ_=>by rw[d];omega,λj N=> ?_,λj N=> ?_,λj N=> ?_,?_,⟨_,_,_,T⟩,by rw[H];exact λj N y E=>g j y (h.lk j N y E),by rw[H];exact λj N y E=>g j _ (h.ca j N y E),by rw[H];exact h.fe,λj N Z V=> ?_,λ_ V=> ?_,λ_ _=> ?_⟩
  ·rw[H]at N
   rw[J j oM];exact h.kh j N
  ·by_cases e:j=x.aE
   ·rw[e,W]
    omega
   ·rw[J j e]
    exact h.kp j N
  ·have:=h.ks j N
   by_cases e:j=x.aE
   ·rw[e]at this⊢
    rw[W];omega
   ·rw[J j e]
    exact this
  ·rw[K,H,h.v,yj S k ht,yj S b ht,c _ (ef _),W,zP B.2.2,uL]
  ·rw[H]at Z
   rw[J j oM];exact h.vr j N Z V
  ·rw[H,G]at V
   cases V
  ·rw[H,W]
   refine⟨oM,t,O,X,T,oM,.inr ⟨q,n,o,d,?_⟩⟩;rw[<-z];exact a
section
variable {S:Int->bp} {g:Int->Vw} {m:Nat->Rg} {k:Int->Nat} {r:Int} {q:RQ}
theorem IN(h:dw S g (m r.toNat) k)(d:∀t,1<=t->QS r t (S t) (g t))(U:tB r g q)(c:q.region=r):
 gJ m q=m\/(gJ m q=aJ m r.toNat ((m r.toNat).act q)/\(aC m q).2=0/\(aC m q).1=true/\
  (((m r.toNat).aE<q.token/\q=mZ r q.token)\/(1<=(m r.toNat).aE/\(m r.toNat).aE=q.token/\(g q.token).x.eY=true/\(∃n,(g q.token).x.au=q::n)/\(m r.toNat).seq=(g q.token).s0-1))):=by
 by_cases P:(aC m q).2=0/\(aC m q).1=true
 ·obtain⟨D,Y⟩:=xD P
  rw[c]at Y;obtain⟨ht,U⟩:=U c D;refine .inr ⟨by unfold gJ;rw[iP P,c],P.1,P.2,?_⟩;rcases Y with⟨Z,V⟩|⟨Z,V⟩
  ·refine .inl ⟨Z,?_⟩
   rcases U with U|⟨U,_⟩
   ·exact U
   ·have:=h.fe q.token ht ((d _ ht).rf U)
    omega
  ·right
   have H:1<=(m r.toNat).aE:=oM
   have N:=h.s1 H;refine⟨H,Z,?_⟩;rcases U with U|⟨G,U⟩
   ·have:q.seq=1:=by rw[U];rfl
    omega
   ·have y:(g (m r.toNat).aE).x.eY=true:=by rw[Z];exact G
    obtain⟨_,L,w,i,_,_,K⟩:=h.fD H y;rw[Z]at K;have X:(g q.token).s0-1<=(m r.toNat).seq:=by
     rcases K with⟨e,_⟩|⟨_,_,_,e,_⟩<;>omega
    rcases U with U|U
    ·omega
    ·obtain⟨n,l⟩:∃n,(g q.token).x.au=q::n:=by
      cases o:(g q.token).x.au with
      |nil=>rw[o]at U;cases U
      |cons a b=>rw[o]at U;injection U with U;exact⟨b,by rw[U]⟩
     have p:=((d _ ht).sq 0 q (by rw[l];rfl)).2.2.1;exact⟨G,⟨n,l⟩,oM⟩
 ·exact .inl (iN P)
theorem dw.late(h:dw S g (m r.toNat) k)(d:∀t,1<=t->QS r t (S t) (g t))(U:tB r g q)(c:q.region=r):∃b,dw S g (gJ m q r.toNat) b:=by
 rcases IN h d U c with e|⟨e,_,_,⟨Z,V⟩|⟨Z,V,M,⟨n,Q⟩,F⟩⟩
 ·rw[e]
  exact⟨k,h⟩
 ·rw[e,aW,V]
  exact⟨k,h.Zd (λt ht=>(d t ht).rf) (λt ht=>(d t ht).fp) Z⟩
 ·rw[e,aW]
  rw[<-V]at M Q F;exact h.au Z M (d _ Z).sq Q F ((d _ Z).s2 M)
theorem KG(D:q.bJ=true)(c:q.region=r)(K:(aC m q).2=0):q.token<=(gJ m q r.toNat).aE/\(m r.toNat).aE<=q.token:=by
 have X:(m r.toNat).aE<=q.token:=by
  exact aeu
 refine⟨?_,X⟩;by_cases a:(aC m q).1=true
 ·unfold gJ
  rw[iP ⟨K,a⟩,c,aW];exact ef _
 ·unfold gJ
  rw[iN (λh=>a h.2)];by_cases B:(m r.toNat).aE<q.token
  ·exfalso
   apply a;unfold aC at K⊢
   split at K;· rename_i h;exact absurd K h
   split at K;· cases K
   split at K;· cases K
   split at K;· cases K
   rename_i Z V M Q;rw[iN Z,iN V,iN M,iN Q,iP D]
   try rw[iP D]at K
   unfold Rg.next Rg.pE at K⊢;rw[c]at K⊢;rw[iP B]at K⊢
   split at K
   ·cases K
   ·rename_i F
    rw[iN F];unfold Rg.j5 at K⊢
    split at K
    ·cases K
    ·split at K
     ·cases K
     ·rename_i P j
      rw[iN P,iN j]
  ·omega
end
end
section
def j9{α:Type}(f:Int->α)(t:Int)(v:α):Int->α:=λj=>if j=t then v else f j
theorem fA(f:Int->α)(t:Int)(v:α):j9 f t v t=v:=iP rfl
theorem fy(f:Int->α){t j:Int}(v:α)(h:j≠t):j9 f t v j=f j:=iN h
theorem sk(f:Int->α)(t:Int):j9 f t (f t)=f:=by
 funext j
 unfold j9
 split
 ·exact aep
 ·rfl
section
variable {m:Nat->Rg} {r t i:Int} {q:RQ}
theorem FY(D:q.bJ=true)(c:q.region=r)(K:(aC m q).2=0):(gJ m q r.toNat).aE=q.token/\(gJ m q r.toNat).seq=q.seq/\(m r.toNat).aE<=q.token:=by
 have X:=(KG D c K).2;by_cases a:(aC m q).1=true
 ·have e:gJ m q r.toNat=(m r.toNat).act q:=by
   unfold gJ;rw[iP ⟨K,a⟩,c,aW]
  rw[e];exact⟨rfl,rfl,X⟩
 ·have e:gJ m q=m:=iN (λh=>a h.2)
  have H:=(KG D c K).1;rw[e]at H⊢;refine⟨oM,?_,X⟩;have V:∀n,(Rg.j5 n q).2=0->(Rg.j5 n q).1=true:=by
   intro n;unfold Rg.j5
   split
   ·exact λh=>by cases h
   ·split
    ·exact λh=>by cases h
    ·exact λ_=>rfl
  unfold aC at K a
  split at K;· rename_i h;exact absurd K h
  split at K;· cases K
  split at K;· cases K
  split at K;· cases K
  rename_i Z M Q F;rw[iN Z,iN M,iN Q,iN F,iP D]at a
  try rw[iP D]at K
  unfold Rg.next Rg.pE at K a;rw[c]at K a;rw[iN oM]at K a
  split at K
  ·rename_i h;exact h.symm
  ·rename_i P
   rw[iN P]at a
   split at K
   ·cases K
   ·rename_i j
    rw[iN j]at a
    split at K
    ·cases K
    ·rename_i S
     rw[iN S]at a;exact absurd (V _ K) a
theorem sB(D:q.bJ=false):gJ m q=m:=by
 refine iN (λh=> ?_);have:=(xD h).1;rw[D]at this
 cases this
theorem Fz(c:q.region=r)(K:(aC m q).2=0):(m r.toNat).aE<=q.token:=by
 exact aeu
theorem Sa(K:(aC m (eL r i t)).2=0):mR m (eL r i t)=[(m r.toNat).b i.toNat]:=by
 unfold mR;rw[iP K,sB rfl]
 rfl
theorem Tl(K:(aC m (oL r t)).2=0):mR m (oL r t)=(m r.toNat).log:=by
 unfold mR;rw[iP K,sB rfl]
 rfl
end
structure GR(s:bp):Prop where
 s0:0<=s.s
 s1:s.s<=(s.p.length:Nat)
 ka:∀y∈s.k,0<=y.a/\y.a<=(s.p.length:Nat)
theorem GR.step{s:bp}(h:GR s)(e:eW):GR (bH s e):=by
 obtain⟨Z,V,M⟩:=h;unfold bH
 split
 ·exact⟨Z,by simp;omega,λy E=>⟨(M y E).1,by have:=(M y E).2;simp;omega⟩⟩
 ·split
  ·refine⟨Z,V,λy E=> ?_⟩
   rcases lU.1 E with E|E
   ·exact M y E
   ·rw[lA.1 E]
    exact⟨by show(0:Int)<=(s.p.length:Nat);omega,by show(s.p.length:Int)<=(s.p.length:Nat);omega⟩
  ·exact⟨by show(0:Int)<=(s.p.length:Nat);omega,by show(s.p.length:Int)<=(s.p.length:Nat);omega,M⟩
theorem Es(r t:Int)(l:List eW):GR (aG r t l):=by
 unfold aG;have:∀(l:List eW) (s:bp),GR s->GR (l.foldl bH s):=by
  intro l
  induction l with
  |nil=>exact λs h=>h
  |cons e l K=>exact λs h=>K _ (h.step e)
 exact this _ _ ⟨ef _,ef _,λy E=>by cases E⟩
theorem Bd(r:Int)(l:List eW)(e:eW):(λt=>aG r t (l++[e]))=if e.cX r=true then j9 (λt=>aG r t l) e.t (bH (aG r e.t l) e)else λt=>aG r t l:=by
 funext t
 rw[jH];unfold mC
 cases u:e.cX r with
 |false=>rw[iN acy,iN gV]
 |true=>
  rw[iP rfl];by_cases ht:e.t=t
  ·subst ht
   rw[iP acy,fA]
  ·rw[iN (by simp[ht]),fy _ _ (λh=>ht h.symm)]
section
variable {S:Int->bp} {I:Int->Vw} {x:Rg} {k:Int->Nat} {t:Int}
def QZ(s:bp)(b:kZ)(i t:Int)(y:mG):Prop:=(t<=i->iT s b y=true)/\(i<t->∀b,iT s b y=true)
theorem dw.set(h:dw S I x k)(b:bp)(g:Vw)(o:b.p.take (k t)=(S t).p.take (k t))(c:k t<=b.p.length)(T:b.s<=(k t:Nat))(Q:∀y∈b.k,QZ b (qL S k t) x.aE t y)
 (l:∀y∈g.ca,QZ b (qL S k t) x.aE t ⟨(b.p.length:Nat),y.index,y.data⟩) (M:g.x.iy=true->t<=x.aE) (w:t<x.aE->g.x.eY=true->g.f<=k t/\(g.x.au=[]->g.g<=k t))
 (n:x.aE=t->g.x.eY=false->x.seq=1/\k t=0) (d:x.aE=t->g.x.eY=true->g.f<=k t/\Pz b g x (k t)):dw (j9 S t b) (j9 I t g) x k:=by
 have U:∀j,((j9 S t b) j).p.take (k j)=(S j).p.take (k j):=λj=>by
  by_cases e:j=t
  ·subst e
   rw[fA];exact o
  ·rw[fy _ _ e]
 have B:∀j,qL (j9 S t b) k j=qL S k j:=λj=>AB (λi _ _=>U i);have C:∀j y,j≠t->mH S k x.aE j y->mH (j9 S t b) k x.aE j y:=λj y N D=>by
  unfold mH;rw[B,fy _ _ N];exact D
 have p:∀y,QZ b (qL S k t) x.aE t y->mH (j9 S t b) k x.aE t y:=λy D=>by
  unfold mH;rw[B,fA];exact D
 refine⟨h.h0,h.s1,h.kh,λj N=> ?_,λj N=> ?_,?_,h.lg,λj N y E=> ?_,λj N y E=> ?_,λj N a=> ?_,λj N Z V=> ?_,λZ V=> ?_,λZ V=> ?_⟩
 ·by_cases e:j=t
  ·subst e;rw[fA];exact c
  ·rw[fy _ _ e];exact h.kp j N
 ·by_cases e:j=t
  ·subst e;rw[fA];exact T
  ·rw[fy _ _ e];exact h.ks j N
 ·rw[h.v]
  exact tE _ (λj _ _=>(U j).symm)
 ·by_cases e:j=t
  ·subst e;rw[fA]at E;exact p y (Q y E)
  ·rw[fy _ _ e]at E;exact C j y e (h.lk j N y E)
 ·by_cases e:j=t
  ·subst e;rw[fA]at E⊢;exact p _ (l y E)
  ·rw[fy _ _ e]at E⊢;exact C j _ e (h.ca j N y E)
 ·by_cases e:j=t
  ·subst e;rw[fA]at a;exact M a
  ·rw[fy _ _ e]at a;exact h.fe j N a
 ·by_cases e:j=t
  ·subst e;rw[fA]at V⊢;exact w Z V
  ·rw[fy _ _ e]at V⊢;exact h.vr j N Z V
 ·by_cases e:x.aE=t
  ·rw[e]at V⊢;rw[fA]at V;exact n e V
  ·rw[fy _ _ e]at V;exact h.Xa Z V
 ·by_cases e:x.aE=t
  ·rw[e]at V⊢;rw[fA]at V⊢;rw[fA];exact d e V
  ·rw[fy _ _ e]at V⊢;rw[fy _ _ e];exact h.fD Z V
theorem dw.xI(h:dw S I x k)(ht:1<=t)(g:Vw)(l:∀y∈g.ca,mH S k x.aE t ⟨((S t).p.length:Nat),y.index,y.data⟩)(M:g.x.iy=true->t<=x.aE)(w:t<x.aE->g.x.eY=true->g.f<=k t/\(g.x.au=[]->g.g<=k t))
 (n:x.aE=t->g.x.eY=false->x.seq=1/\k t=0) (d:x.aE=t->g.x.eY=true->g.f<=k t/\Pz (S t) g x (k t)):dw S (j9 I t g) x k:=by
 have:=h.set (t:=t) (S t) g rfl (h.kp t ht) (h.ks t ht) (h.lk t ht) l M w n d;rwa[sk]at this
theorem dw.ack(h:dw S I x k)(ht:1<=t){q:RQ}{qs:List RQ}(G:(I t).x.eY=true)(b:(I t).x.iy=true)(o:(I t).x.au=q::qs)(d:q.seq=(I t).s0)(g:(I t).g<=(S t).p.length)(Z:x.aE=t)(V:x.seq=q.seq):
 dw S (j9 I t ⟨{(I t).x with au:=qs},(I t).f,(I t).ca⟩) x k:=by
 refine h.xI ht _ (h.ca t ht) (λ_=>oM) (λH=>oM) (λ_ J=> ?_) (λ_ _=> ?_)
 ·exact ae2
 ·subst Z
  obtain⟨a,L,w,i,c,F,D⟩:=h.fD ht G;refine⟨a,L,w,i,c,F,.inl ?_⟩;rcases D with⟨e,_⟩|⟨M,l,Y,P,A⟩
  ·omega
  ·rw[o]at Y
   injection Y with Y j;subst Y;subst j;refine⟨?_,A⟩;have p:(I x.aE).s0=(I x.aE).x.seq-((qs.length+1:Nat):Int):=by unfold Vw.s0;rw[o,oO]
   show x.seq=(I x.aE).x.seq-(qs.length:Nat)-1;omega
theorem dw.fenced(h:dw S I x k)(ht:1<=t)(G:(I t).x.eY=false)(Z:t<=x.aE):dw S (j9 I t ⟨{(I t).x with iy:=true},(I t).f,(I t).ca⟩) x k:=by
 refine h.xI ht _ (h.ca t ht) (λ_=>Z) (λ_ J=> ?_) (λH _=> ?_) (λ_ J=> ?_)
 ·rw[show(I t).x.eY=true from J]at G
  cases G
 ·subst H
  exact h.Xa ht G
 ·rw[show(I t).x.eY=true from J]at G
  cases G
theorem dw.ready(h:dw S I x k)(ht:1<=t)(G:(I t).x.eY=false)(C:(I t).f=0){r n:Int}(Z:x.aE=t)(W:n=2+((gu r t 2 x.log).length:Nat)):
 dw S (j9 I t ⟨⟨n,true,true,gu r t 2 x.log,0⟩,0,(I t).ca⟩) x k:=by
 refine h.xI ht _ (h.ca t ht) (λ_=>oM) (λH=>oM) (λ_ J=>by cases J) (λ_ _=> ?_);subst Z;obtain⟨V,M⟩:=h.Xa ht G;obtain⟨L,w,i,c⟩:=h.lg;refine⟨by show 0<=_;omega,L,0,x.b,⟨c.lg,rfl,c.ok⟩,by rw[M];exact jG _,.inl ⟨?_,?_⟩⟩
 ·show x.seq=n-((gu r x.aE 2 x.log).length:Nat)-1
  omega
 ·have e:((S x.aE).p.take (Vw.g ⟨⟨n,true,true,gu r x.aE 2 x.log,0⟩,0,(I x.aE).ca⟩)).drop (k x.aE)=[]:=by
   show((S x.aE).p.take 0).drop _=[];exact acy
  rw[e];show pG L 0 (gu r x.aE 2 x.log) [];rw[c.lg];exact Qk c.ok
theorem dw.SG(h:dw S I x k)(ht:1<=t)(G:(I t).x.eY=true)(o:(I t).x.au=[])(j:(I t).g<=(S t).p.length):dw S (j9 I t ⟨{(I t).x with bS:=0,au:=[]},(I t).g,(I t).ca⟩) x k:=by
 have u:Vw.g ⟨{(I t).x with bS:=0,au:=[]},(I t).g,(I t).ca⟩=(I t).g:=vt _;refine h.xI ht _ (h.ca t ht) (h.fe t ht) (λH _=> ?_) (λH J=> ?_) (λH _=> ?_)
 ·have:=(h.vr t ht H G).2 o
  exact⟨this,λ_=>by rw[u];exact this⟩
 ·exact ae2
 ·subst H
  obtain⟨a,D⟩:=h.fD ht G;have q:=D.done j o;obtain⟨L,w,i,c,F,D⟩:=D;refine⟨ZG q.1,L,w,i,c,by rw[u];exact F,.inl ?_⟩;rcases D with⟨e,A⟩|⟨M,g,Y,_⟩
  ·rw[u]
   rw[o]at A;refine⟨?_,A⟩;have p:(I x.aE).s0=(I x.aE).x.seq-(0:Nat):=by unfold Vw.s0;rw[o];rfl
   show x.seq=(I x.aE).x.seq-(0:Nat)-1;omega
  ·rw[o]at Y
   cases Y
theorem dw.Kz(h:dw S I x k)(ht:1<=t)(G:(I t).x.eY=true)(o:(I t).x.au=[])(g:(I t).x.bS=0){r n:Int}{l:List PU}(C:l.map iC=(S t).p.drop (I t).f)(P:∀p∈l,KM r p)(j:(I t).f<=(S t).p.length)
 (d:n=(I t).x.seq+((di r t (I t).x.seq l).length:Nat)):dw S (j9 I t ⟨{(I t).x with au:=di r t (I t).x.seq l,bS:=(l.length:Nat),seq:=n},(I t).f,(I t).ca⟩) x k:=by
 have F:l.length=(S t).p.length-(I t).f:=by
  have:=congrArg List.length C;rwa[nL,km]at this
 have u:Vw.g ⟨{(I t).x with au:=di r t (I t).x.seq l,bS:=(l.length:Nat),seq:=n},(I t).f,(I t).ca⟩=(S t).p.length:=by
  show(I t).f+((l.length:Nat):Int).toNat=_;rw[qG];omega
 have Q:(I t).g=(I t).f:=by unfold Vw.g;rw[g];rfl
 have A:=Oz r t (I t).x.seq l P;refine h.xI ht _ (h.ca t ht) (h.fe t ht) (λH _=> ?_) (λH J=> ?_) (λH _=> ?_)
 ·have:=(h.vr t ht H G).1
  refine⟨this,λY=> ?_⟩;have Y:di r t (I t).x.seq l=[]:=Y;rw[Y]at A;have K:l=[]:=List.map_eq_nil_iff.1 A.2.2;rw[u];subst K;have K:([]:List PU).length=0:=rfl;rw[K]at F;omega
 ·exact ae2
 ·subst H
  obtain⟨a,D⟩:=h.fD ht G;have q:=D.done oM o;obtain⟨L,w,i,c,W,D⟩:=D;have b:sX x [] 0 x.b:=⟨q.2.1,rfl,λp o=>by cases o⟩;refine⟨a,[],0,x.b,b,by rw[u];exact h.kp _ ht,.inl ⟨?_,?_⟩⟩
  ·have X:(I x.aE).s0=(I x.aE).x.seq-(0:Nat):=by unfold Vw.s0;rw[o];rfl
   show x.seq=n-((di r x.aE (I x.aE).x.seq l).length:Nat)-1;omega
  ·rw[u,MS,<-q.1,Q,<-C]
   exact A
theorem dw.looked(h:dw S I x k)(ht:1<=t)(G:(I t).x.eY=true)(b:(I t).x.iy=true)(o:(I t).x.au=[])(L:(I t).x.bS=0)(j:(I t).f<=(S t).p.length)(Z:x.aE<=t){i:Int}(z:0<=i/\i<4)(A:∀p∈(S t).p.drop (I t).f,p.i≠i):
 mH S k x.aE t ⟨((S t).p.length:Nat),i,x.b i.toNat⟩:=by
 have Q:(I t).g=(I t).f:=by unfold Vw.g;rw[L];rfl
 obtain rfl:t=x.aE:=by have:=h.fe t ht b;omega
 obtain⟨a,D⟩:=h.fD ht G;have q:=D.done oM o;refine⟨λ_=>dZ ?_,λB=>oM⟩;show xM (dq (qL S k x.aE) ((S x.aE).p.take ((((S x.aE).p.length:Nat):Int).toNat))) i=x.b i.toNat;rw[qG,MS];have K:=h.v;unfold We at K;rw[q.2.1]at K;have K:x.b=GC S k x.aE:=K;rw[K,yj S k ht];unfold xM;rw[iP z]
 conv=>lhs;rw[<-IY (k x.aE) (S x.aE).p]
 rw[wZ];refine rL _ _ _ (λp o V M Y=> ?_);rw[<-q.1,Q]at o;exact A p o oM
end
theorem Vm{i:Int}(o:0<=p.i/\p.i<4):xM (kT b p) i=if i=p.i then p.d else xM b i:=by
 unfold xM kT;rw[iP o];by_cases h:i=p.i
 ·subst h
  rw[iP o,iP rfl,aW]
 ·rw[iN h]
  split
  ·rename_i z
   exact cm _ _ _ _ oM
  ·rfl
theorem uy{s:bp}{i:Int}{d:LI}(o:0<=p.i/\p.i<4)(h:(i=p.i/\d=p.d)\/(i≠p.i/\iT s b ⟨(s.p.length:Nat),i,d⟩=true)):
 iT ⟨s.t,s.p++[p],s.s,s.k⟩ b ⟨((s.p++[p]).length:Nat),i,d⟩=true:=by
 refine dZ ?_;show xM (dq b ((s.p++[p]).take ((((s.p++[p]).length:Nat):Int).toNat))) i=d;rw[qG,MS,uL,Vm o];rcases h with⟨rfl,rfl⟩|⟨Z,V⟩
 ·rw[iP rfl]
 ·rw[iN Z]
  have V:xM (dq b (s.p.take (((s.p.length:Nat):Int).toNat))) i=d:=of_decide_eq_true V;rw[qG,MS]at V;exact V
theorem Ca{s:bp}(U:GR s){y:mG}(E:y∈s.k):iT ⟨s.t,s.p++[p],s.s,s.k⟩ b y=iT s b y:=by
 unfold iT;have:=U.ka y E;rw[show(s.p++[p]).take y.a.toNat=s.p.take y.a.toNat from VQ oM]
section
variable {S:Int->bp} {g:Int->Vw} {x:Rg} {k:Int->Nat} {t:Int}
theorem dw.put(h:dw S g x k)(ht:1<=t)(U:GR (S t))(j:(g t).g<=(S t).p.length)(o:0<=p.i/\p.i<4){ca:List PU}(l:∀y∈ca,(y.index=p.i/\y.data=p.d)\/(y.index≠p.i/\y∈(g t).ca)):
 dw (j9 S t ⟨(S t).t,(S t).p++[p],(S t).s,(S t).k⟩) (j9 g t ⟨(g t).x,(g t).f,ca⟩) x k:=by
 have F:=h.kp t ht;refine h.set _ _ (VQ F) acC (h.ks t ht) (λy E=> ?_) (λy E=> ?_) (h.fe t ht) (λH G=>h.vr t ht H G) (λH G=> ?_) (λH G=> ?_)
 ·have C:=h.lk t ht y E
  exact⟨λZ=>by rw[Ca U E];exact C.1 Z,λZ b=>by rw[Ca U E];exact C.2 Z b⟩
 ·rcases l y E with D|⟨Z,V⟩
  ·exact⟨λ_=>uy o (.inl D),λ_ b=>uy o (.inl D)⟩
  ·have C:=h.ca t ht y V
   exact⟨λM=>uy o (.inr ⟨Z,C.1 M⟩),λM b=>uy o (.inr ⟨Z,C.2 M b⟩)⟩
 ·subst H
  exact h.Xa ht G
 ·subst H
  obtain⟨a,L,w,i,c,F,D⟩:=h.fD ht G;refine⟨a,L,w,i,c,F,?_⟩;have e:((S x.aE).p++[p]).take (g x.aE).g=(S x.aE).p.take (g x.aE).g:=VQ j;show _\/_;rw[show((bp.mk (S x.aE).t ((S x.aE).p++[p]) (S x.aE).s (S x.aE).k).p.take (Vw.g ⟨(g x.aE).x,(g x.aE).f,ca⟩))=(S x.aE).p.take (g x.aE).g from e];exact D
theorem dw.look(h:dw S g x k)(ht:1<=t){i:Int}{d:LI}(C:mH S k x.aE t ⟨((S t).p.length:Nat),i,d⟩){ca:List PU}(l:∀y∈ca,(y.index=i/\y.data=d)\/y∈(g t).ca):
 dw (j9 S t ⟨(S t).t,(S t).p,(S t).s,(S t).k++[⟨((S t).p.length:Nat),i,d⟩]⟩) (j9 g t ⟨(g t).x,(g t).f,ca⟩) x k:=by
 refine h.set _ _ rfl (h.kp t ht) (h.ks t ht) (λy E=> ?_) (λy E=> ?_) (h.fe t ht) (λH G=>h.vr t ht H G) (λH G=> ?_) (λH G=> ?_)
 ·rcases lU.1 E with E|E
  ·exact h.lk t ht y E
  ·rw[lA.1 E]
   exact C
 ·rcases l y E with⟨rfl,rfl⟩|E
  ·exact C
  ·exact h.ca t ht y E
 ·subst H
  exact h.Xa ht G
 ·subst H
  exact h.fD ht G
theorem dw.sure(h:dw S g x k)(ht:1<=t)(G:(g t).x.eY=true)(b:(g t).x.iy=true)(a:(g t).f=(S t).p.length):dw (j9 S t ⟨(S t).t,(S t).p,((S t).p.length:Nat),(S t).k⟩) g x k:=by
 have F:=h.kept ht G b;have:=h.set (t:=t) ⟨(S t).t,(S t).p,((S t).p.length:Nat),(S t).k⟩ (g t) rfl (h.kp t ht) (by show((S t).p.length:Int)<=_;omega) (λy E=>h.lk t ht y E) (λy E=>h.ca t ht y E) (h.fe t ht) (λH G=>h.vr t ht H G) (λH G=>by subst H;exact h.Xa ht G) (λH G=>by subst H;exact h.fD ht G);rwa[sk]at this
end
end
section
def qW(X:eu)(N:Nat->Rg)(n:Nat)(T:Int):Prop:=(X.up=true/\N=X.s.M/\Up X.s 0 8 (10+3*(n:Int)) T)\/(X.up=false/\Down X.s 0 8 N (10+3*(n:Int)) T)
structure fM(X:eu)(N:Nat->Rg)(n:Nat)(T:Int):Prop where
 c:qW X N n T
 l:X.az.length<=n
 g:∀p∈X.az,fE p.2
section
variable {X:eu} {N:Nat->Rg} {n m:Nat} {T T':Int} {q:RQ}
theorem qW.mono(h:qW X N n T)(y:n<=m)(A:T<=T'):qW X N m T':=by
 rcases h with⟨a,b,c⟩|⟨a,c⟩
 ·exact .inl ⟨a,b,c.mono oM A⟩
 ·exact .inr ⟨a,c.mono oM A⟩
theorem fM.mono(h:fM X N n T)(y:n<=m)(A:T<=T'):fM X N m T':=⟨h.c.mono y A,qJ h.l y,h.g⟩
theorem qW.same(h:qW X N n T)(E:X.up=true):N=X.s.M/\Up X.s 0 8 (10+3*(n:Int)) T:=by
 rcases h with⟨_,e,h⟩|⟨e,_⟩
 ·exact⟨e,h⟩
 ·rw[e]at E;cases E
theorem qW.df(h:qW X N n T)(W:n<=900000)(A:T<256)(d:fE q):
 ∃N',qW (X.df q) N' (n+1) T/\(X.df q).az=X.az/\
  (
   (X.ii q=true/\X.up=true/\(X.df q).up=true/\(X.df q).s.M=gJ X.s.M q/\N'=gJ X.s.M q/\X.s.nH 0 8 q=(aC X.s.M q).2)\/
   (X.ii q=false/\X.up=true/\(X.df q).up=false/\(X.df q).s.M=X.s.M/\N'=gJ X.s.M q/\X.s.nH 0 8 q=43)\/(X.ii q=false/\X.up=false/\X.df q=X/\N'=N)):=by
 have K:=h;rcases h with⟨E,u,b⟩|⟨E,y⟩
 ·have S:X.df q=⟨X.s.kd 0 8 q,(X.s.nH 0 8 q !=43),X.az⟩:=iP E
  rcases b.kd oM A d.ok d.b with⟨d1,d2,d3,_⟩|⟨d1,d2,d3,d4,_⟩
  ·have B:(X.s.nH 0 8 q !=43)=true:=by rw[d1];exact bne_iff_ne.2 (nY _ _).2.2
   have H:(X.s.kd 0 8 q).M=gJ X.s.M q:=by
    rw[d3]
    split
    ·rfl
    ·rename_i K
     exact(iN (λh=>K h.1)).symm
   refine⟨gJ X.s.M q,.inl ⟨by rw[S];exact B,by rw[S];exact H.symm,by rw[S];exact d2.mono oM (ef _)⟩,by rw[S],.inl ⟨?_,E,by rw[S];exact B,by rw[S];exact H,rfl,d1⟩⟩;unfold eu.ii;rw[E,B]
   rfl
  ·have B:(X.s.nH 0 8 q !=43)=false:=by rw[d1];rfl
   refine⟨gJ X.s.M q,.inr ⟨by rw[S];exact B,by rw[S];exact d3.mono oM (ef _)⟩,by rw[S],.inr (.inl ⟨?_,E,by rw[S];exact B,by rw[S];exact d4,rfl,d1⟩)⟩;unfold eu.ii;rw[B,zds]
 ·have S:X.df q=X:=iN (by rw[E];exact gV)
  refine⟨N,by rw[S];exact K.mono oM (ef _),by rw[S],.inr (.inr ⟨?_,E,S,rfl⟩)⟩;unfold eu.ii;rw[E]
  rfl
def zG(M N M' N':Nat->Rg)(q:RQ):Prop:=(M'=M/\N'=N)\/(N=M/\N'=gJ M q/\(M'=M\/M'=gJ M q))
theorem fM.df(h:fM X N n T)(W:n<=900000)(A:T<256)(d:fE q):∃N',fM (X.df q) N' (n+1) T/\zG X.s.M N (X.df q).s.M N' q/\(X.df q).az=X.az:=by
 obtain⟨N',Z,V,M⟩:=h.c.df W A d;refine⟨N',⟨Z,by rw[V];exact zc9 h.l,by rw[V];exact h.g⟩,?_,V⟩;rcases M with⟨_,E,_,S,P,_⟩|⟨_,E,_,S,P,_⟩|⟨_,_,S,P⟩
 ·exact .inr ⟨(h.c.same E).1,P,.inr S⟩
 ·exact .inr ⟨(h.c.same E).1,P,.inl S⟩
 ·exact .inl ⟨by rw[S],P⟩
structure VW(X:eu)(N N':Nat->Rg)(q:RQ)(a:Zk):Prop where
 u:X.up=true
 n:N=X.s.M
 u':a.x.up=true
 c:(aC X.s.M q).2=0
 m:a.x.s.M=gJ X.s.M q
 n':N'=gJ X.s.M q
 l:a.l=mR X.s.M q
theorem fM.ask(h:fM X N n T)(W:n<=800000)(A:T<256)(c:Int)(d:fE q)(i:Int):
 ∃N',fM (X.ask c q i).x N' (n+1) T/\(((X.ask c q i).x=X/\N'=N)\/(X.ask c q i).x=(X.send c q).df q/\(X.ask c q i).x.az=X.az++[(c,q)])/\zG X.s.M N (X.ask c q i).x.s.M N' q/\((X.ask c q i).e=0->VW X N N' q (X.ask c q i)):=by
 unfold eu.ask;by_cases C:i%2=1
 ·rw[iP C]
  exact⟨N,h.mono oM (ef _),.inl ⟨rfl,rfl⟩,.inl ⟨rfl,rfl⟩,λY=>by cases Y⟩
 ·rw[iN C,iN (by rw[d.w];simp)]
  have D:qW (X.send c q) N n T:=h.c;obtain⟨N',V,M,Q⟩:=D.df (q:=q) oM A d;have U:(X.send c q).az=X.az++[(c,q)]:=rfl;have B:fM ((X.send c q).df q) N' (n+1) T:=by
   refine⟨V,by rw[M,U,eG];exact zdn h.l,λp o=> ?_⟩;rw[M,U]at o;rcases lU.1 o with o|o
   ·exact h.g p o
   ·rw[lA.1 o]
    exact d
  have H:zG X.s.M N ((X.send c q).df q).s.M N' q:=by
   rcases Q with⟨_,E,_,S,P,_⟩|⟨_,E,_,S,P,_⟩|⟨_,_,S,P⟩
   ·exact .inr ⟨(h.c.same E).1,P,.inr S⟩
   ·exact .inr ⟨(h.c.same E).1,P,.inl S⟩
   ·exact .inl ⟨by rw[S];rfl,P⟩
  by_cases J:(X.send c q).ii q=false\/2<=i
  ·rw[iP J]
   exact⟨N',B,.inr ⟨rfl,M.trans U⟩,H,λY=>by cases Y⟩
  ·rw[iN J]
   refine⟨N',B,.inr ⟨rfl,M.trans U⟩,H,λY=> ?_⟩;rcases Q with⟨_,E,g,S,P,_⟩|⟨e,_⟩|⟨e,_⟩
   ·exact⟨E,(h.c.same E).1,g,Y,S,P,rfl⟩
   ·exact absurd (.inl e) J
   ·exact absurd (.inl e) J
theorem fM.live(h:fM X N n T)(W:n<=900000)(A:T<256)(E:X.up=true)(u:NF X.s.D)(d:fE q):(X.df q).up=true/\NF (X.df q).s.D/\(X.df q).s.M=gJ X.s.M q/\X.ii q=true:=by
 obtain⟨_,b⟩:=h.c.same E;obtain⟨d1,d2,d3,d4⟩:=b.live u oM A d.ok d.b;have B:(X.s.nH 0 8 q !=43)=true:=by rw[d1];exact bne_iff_ne.2 (nY _ _).2.2
 have e:X.df q=⟨X.s.kd 0 8 q,(X.s.nH 0 8 q !=43),X.az⟩:=iP E;rw[e];exact⟨B,d3,d4,by unfold eu.ii;rw[E,B];rfl⟩
theorem fM.bz(h:fM X N n T)(W:n<=900000)(A:T<=250)(V:LI):
 dB X.s.D 900000/\yD (X.s.D.bz V) 0 8/\dB (X.s.D.bz V) 10/\fM (X.bz V) (X.bz V).s.M (n+1) (T+1)/\NF (X.bz V).s.D/\((X.bz V).s.M=X.s.M\/(X.bz V).s.M=N):=by
 have key:∀{M:Nat->Rg},Rest (X.s.D.bz V) 0 8 M (10+3*(n:Int)) T->Calm (X.s.D.bz V)->Live (X.s.D.bz V)->yD (X.s.D.bz V) 0 8/\dB (X.s.D.bz V) 10/\fM (X.bz V) (X.bz V).s.M (n+1) (T+1)/\NF (X.bz V).s.D/\(X.bz V).s.M=M:=by
  intro M g D p;obtain⟨l,G,t,y,_⟩:=g.open_ D p oM A;exact⟨l,D.MH _,⟨.inl ⟨rfl,rfl,t.mono oM (ef _)⟩,zc9 h.l,h.g⟩,y.nf,G⟩
 rcases h.c with⟨E,_,Z⟩|⟨E,Z⟩
 ·obtain⟨D,p,_,g⟩:=Z.bz V
  obtain⟨a,b,c,d,e⟩:=key g D p;exact⟨Z.c.MH _,a,b,c,d,.inl e⟩
 ·obtain⟨D,p,_,g⟩:=Z.bz V
  have q:dB X.s.D 900000:=Z.ok.d.mono oM;rcases g with g|g
  ·obtain⟨a,b,c,d,e⟩:=key g D p
   exact⟨q,a,b,c,d,.inl e⟩
  ·obtain⟨a,b,c,d,e⟩:=key g D p
   exact⟨q,a,b,c,d,.inr e⟩
theorem fM.gG(h:fM X N n T){f:Int}(a: -9223372036854775808<=f/\f<=9223372036854775807):fM (X.gG f) N n T:=by
 refine⟨?_,h.l,h.g⟩;rcases h.c with⟨E,e,Z⟩|⟨E,Z⟩
 ·exact .inl ⟨E,e,Z.gG a⟩
 ·exact .inr ⟨E,Z.gG a⟩
end
end
section
def gg(gv:Nat->Int->Vw)(r t:Int)(v:Vw):Nat->Int->Vw:=aJ gv r.toNat (j9 (gv r.toNat) t v)
theorem oV(gv:Nat->Int->Vw)(r t:Int):gg gv r t (gv r.toNat t)=gv:=by
 unfold gg;rw[sk]
 funext j
 unfold aJ
 split
 ·exact aep
 ·rfl
theorem jx(gv:Nat->Int->Vw)(r t:Int)(v:Vw):gg gv r t v r.toNat=j9 (gv r.toNat) t v:=aW _ _ _
theorem aV(gv:Nat->Int->Vw)(r t:Int)(v:Vw):gg gv r t v r.toNat t=v:=by rw[jx,fA]
theorem kD(gv:Nat->Int->Vw){r t:Int}(v:Vw){j:Nat}(h:j≠r.toNat):gg gv r t v j=gv j:=cm _ _ _ _ h
theorem kJ(gv:Nat->Int->Vw)(r t:Int)(v u:Vw):gg (gg gv r t v) r t u=gg gv r t u:=by
 unfold gg;rw[aW]
 funext j
 unfold aJ
 split
 ·funext i
  unfold j9
  split
  ·rfl
  ·rfl
 ·rfl
structure JT(M N:Nat->Rg)(az:List (Int×RQ))(ev:List eW)(gv:Nat->Int->Vw):Prop where
 rm:∀r:Int,0<=r->r<4->∃k,dw (λt=>aG r t ev) (gv r.toNat) (M r.toNat) k
 rn:∀r:Int,0<=r->r<4->∃k,dw (λt=>aG r t ev) (gv r.toNat) (N r.toNat) k
 vw:∀r t:Int,0<=r->r<4->1<=t->QS r t (aG r t ev) (gv r.toNat t)
 st:∀p∈az,∀r:Int,0<=r->r<4->tB r (gv r.toNat) p.2
def Cj(gv:Nat->Int->Vw)(q:RQ):Prop:=∀r:Int,0<=r->r<4->tB r (gv r.toNat) q
theorem mf{q:RQ}(d:fE q):0<=q.region:=(RQ.gO d.w).2.2.1
section
variable {M N w u:Nat->Rg} {n:List (Int×RQ)} {ev:List eW} {l:Nat->Int->Vw} {q:RQ}
theorem It(G:∀r:Int,0<=r->r<4->∃k,dw (λt=>aG r t ev) (l r.toNat) (M r.toNat) k)(S:∀r t:Int,0<=r->r<4->1<=t->QS r t (aG r t ev) (l r.toNat t))(d:fE q)(U:Cj l q):
 ∀r:Int,0<=r->r<4->∃k,dw (λt=>aG r t ev) (l r.toNat) (gJ M q r.toNat) k:=by
 intro r K Q;obtain⟨k,h⟩:=G r K Q;by_cases Y:q.region=r
 ·exact h.late (S r · K Q) (U r K Q) Y
 ·rw[Oo (by have:=mf d;omega)]
  exact⟨k,h⟩
theorem JT.heard(h:JT M N n ev l)(d:fE q)(U:Cj l q)(H:zG M N w u q):JT w u n ev l:=by
 rcases H with⟨rfl,rfl⟩|⟨rfl,rfl,rfl|rfl⟩
 ·exact h
 ·exact⟨h.rm,It h.rm h.vw d U,h.vw,h.st⟩
 ·exact⟨It h.rm h.vw d U,It h.rm h.vw d U,h.vw,h.st⟩
def Ba(v g:Vw):Prop:=v.x.eY=true->g.x.eY=true/\v.s0<=g.s0/\∀q,v.x.au.head? =some q->q.seq<g.s0\/g.x.au.head? =some q
theorem Ba.refl(v:Vw):Ba v v:=λh=>⟨h,ef _,λ_ h=> .inr h⟩
theorem Ba.toS{g:Int->Vw}{r t:Int}{d:Vw}(h:Ba (g t) d)(U:tB r g q):tB r (j9 g t d) q:=by
 intro G D;obtain⟨Z,V⟩:=U G D;refine⟨Z,?_⟩;by_cases e:q.token=t
 ·rw[e,fA]
  rw[e]at V;rcases V with V|⟨V,M⟩
  ·exact .inl V
  ·obtain⟨a,b,c⟩:=h V
   refine .inr ⟨a,?_⟩;rcases M with M|M
   ·exact .inl oM
   ·exact c q M
 ·rw[fy _ _ e]
  exact V
theorem JT.xI(h:JT M N n ev l){r t:Int}(W:0<=r)(Q:r<4)(g:Vw)(K:QS r t (aG r t ev) g)(C:Ba (l r.toNat t) g)
 (c:∀x k,x=M r.toNat\/x=N r.toNat->dw (λt=>aG r t ev) (l r.toNat) x k->dw (λt=>aG r t ev) (j9 (l r.toNat) t g) x k):JT M N n ev (gg l r t g):=by
 have I:∀j:Int,0<=j->j≠r->j.toNat≠r.toNat:=λj Z V=>oM
 refine⟨λj q O=> ?_,λj q O=> ?_,λj i q O z=> ?_,λp o j q O=> ?_⟩
 ·by_cases e:j=r
  ·subst e
   obtain⟨k,F⟩:=h.rm j q O;rw[jx];exact⟨k,c _ _ (.inl rfl) F⟩
  ·rw[kD _ _ (I j q e)]
   exact h.rm j q O
 ·by_cases e:j=r
  ·subst e
   obtain⟨k,F⟩:=h.rn j q O;rw[jx];exact⟨k,c _ _ (.inr rfl) F⟩
  ·rw[kD _ _ (I j q e)]
   exact h.rn j q O
 ·by_cases e:j=r
  ·subst e
   rw[jx];by_cases P:i=t
   ·subst P
    rw[fA];exact K
   ·rw[fy _ _ P]
    exact h.vw j i q O z
  ·rw[kD _ _ (I j q e)]
   exact h.vw j i q O z
 ·by_cases e:j=r
  ·subst e
   rw[jx];exact C.toS (h.st p o j q O)
  ·rw[kD _ _ (I j q e)]
   exact h.st p o j q O
end
theorem TH{S:Int->bp}{g:Int->Vw}{m:Nat->Rg}{k:Int->Nat}{r t:Int}{q:RQ}{n:List RQ}(h:dw S g (m r.toNat) k)(j:∀t,1<=t->QS r t (S t) (g t))(ht:1<=t)(G:0<=r/\r<4)(M:(g t).x.eY=true)(o:(g t).x.au=q::n)(l:(m r.toNat).aE=t):(aC m q).2=0/\((m r.toNat).seq=(g t).s0-1->(aC m q).1=true):=by
 subst l;obtain⟨d,O,Q,C,H⟩:=(j _ ht).sq 0 q (by rw[o];rfl);have U:=C.w;obtain⟨_,L,w,i,c,_,K⟩:=h.fD ht M;have W:Rg.next (m r.toNat) q=(false,0)/\(m r.toNat).seq≠(g (m r.toNat).aE).s0-1\/Rg.next (m r.toNat) q=(true,0)/\¬(q.op<=2/\4<=q.index):=by
  unfold Rg.next Rg.pE;rw[iN oM];rcases K with⟨e,A⟩|⟨_,_,_,e,_⟩
  ·rw[o]at A
   obtain⟨_,_,_,_,_,_,J,_,z,_⟩:=Cq c A;rw[iN oM,iN oM,iN oM];exact .inr ⟨J,z⟩
  ·rw[iP oM]
   exact .inl ⟨rfl,oM⟩
 have z:=C.i;unfold aC;rw[iN (by rw[U];simp),iN oM,iN z,iN (by rw[d];omega),iP H,d];rcases W with⟨e,J⟩|⟨e,_⟩
 ·rw[e];exact⟨rfl,λh=>absurd h J⟩
 ·rw[e];exact⟨rfl,λ_=>rfl⟩
theorem PV{S:Int->bp}{g:Int->Vw}{m:Nat->Rg}{k:Int->Nat}{r:Int}{q:RQ}(h:dw S g (m r.toNat) k)(d:∀t,1<=t->QS r t (S t) (g t))(G:0<=r/\r<4)(U:tB r g q)(c:q.region=r)(D:q.bJ=true)(u:fE q):Fx (gJ m q) q:=by
 by_cases P:(aC m q).2=0/\(aC m q).1=true
 ·exact GY P.1 P.2
 ·rw[show gJ m q=m from iN P]
  unfold Fx;rw[c];obtain⟨Z,V⟩:=U c D;by_cases C:q.token<(m r.toNat).aE
  ·exact .inl C
  right
  rcases V with V|⟨M,V⟩
  ·have z:q.seq=1:=by rw[V];rfl
   by_cases Y:q.token=(m r.toNat).aE
   ·exact⟨Y,by have:=h.s1 oM;omega⟩
   ·exfalso
    refine P ?_;have W:Rg.next (m r.toNat) q=(true,0):=by
     have F:q.op=5:=by rw[V];rfl
     have j:q.index=0:=by rw[V];rfl
     unfold Rg.next Rg.pE Rg.j5;rw[iP oM,iN oM,iN oM,iN oM]
    unfold aC;rw[iN (by rw[u.w];simp),iN oM,iN u.i,iN (by rw[c];omega),iP D,c,W];exact adZ
  ·have X:=h.fe q.token Z ((d _ Z).rf M)
   have Y:(m r.toNat).aE=q.token:=oM
   refine⟨Y.symm,?_⟩;obtain⟨_,L,w,i,_,_,K⟩:=h.fD oM (by rw[Y];exact M);rw[Y]at K;have x:(g q.token).s0-1<=(m r.toNat).seq:=by
    rcases K with⟨e,_⟩|⟨_,_,_,e,_⟩<;>omega
   rcases V with V|V
   ·omega
   ·obtain⟨n,l⟩:∃n,(g q.token).x.au=q::n:=by
     cases o:(g q.token).x.au with
     |nil=>rw[o]at V;cases V
     |cons a b=>rw[o]at V;injection V with V;exact⟨b,by rw[V]⟩
    have p:=((d _ Z).sq 0 q (by rw[l];rfl)).2.2.1;obtain⟨O,J⟩:=TH h d Z G M l Y;by_cases y:(m r.toNat).seq=(g q.token).s0-1
    ·exact absurd ⟨O,J y⟩ P
    ·omega
theorem RD(m:Nat->Rg)(q:RQ)(k:Nat):gJ m q k=m k\/(k=q.region.toNat/\(gJ m q k).aE=q.token):=by
 unfold gJ
 split
 ·by_cases e:k=q.region.toNat
  ·rw[e,aW];exact .inr ⟨rfl,rfl⟩
  ·rw[cm _ _ _ _ e];exact aes
 ·exact aes
def Ma(M:Nat->Rg)(az:List (Int×RQ)):Prop:=∀k,(M k).aE=0\/∃p∈az,p.2.region.toNat=k/\p.2.token=(M k).aE
theorem Ma.do_{M:Nat->Rg}{az:List (Int×RQ)}(h:Ma M az){c:Int}{q:RQ}(d:(c,q)∈az):Ma (gJ M q) az:=λk=>by
 rcases RD M q k with e|⟨S,P⟩
 ·rw[e];exact h k
 ·exact .inr ⟨_,d,S.symm,P.symm⟩
theorem Ma.more{M:Nat->Rg}{s b:List (Int×RQ)}(h:Ma M s)(U:∀p∈s,p∈b):Ma M b:=λk=>(h k).imp (λx=>x) (λ⟨p,o,e⟩=>⟨p,U p o,e⟩)
theorem Ma.held{M N M' N':Nat->Rg}{s:List (Int×RQ)}{c:Int}{q:RQ}(h:Ma M s)(W:Ma N s)(d:(c,q)∈s)(H:zG M N M' N' q):Ma M' s/\Ma N' s:=by
 rcases H with⟨rfl,rfl⟩|⟨rfl,rfl,rfl|rfl⟩
 ·exact⟨h,W⟩
 ·exact⟨h,h.do_ d⟩
 ·exact⟨h.do_ d,h.do_ d⟩
structure qA(X:eu)(N:Nat->Rg)(T:Int):Prop where
 t1:1<=T
 nf:T=1->X.up=true/\NF X.s.D/\∀p∈X.az,p.2.bJ=true->Fx X.s.M p.2
 hm:Ma X.s.M X.az
 hn:Ma N X.az
theorem qA.mono{X:eu}{N:Nat->Rg}{T T':Int}(h:qA X N T)(A:T<=T'):qA X N T':=⟨xK h.t1 A,λe=>h.nf (by have:=h.t1;omega),h.hm,h.hn⟩
theorem qA.df{X:eu}{N N':Nat->Rg}{n:Nat}{T:Int}{q:RQ}{c:Int}(h:qA X N T)(D:fM X N n T)(W:n<=900000)(A:T<256)(u:fE q)(P:(c,q)∈X.az)(H:zG X.s.M N (X.df q).s.M N' q)(U:(X.df q).az=X.az):qA (X.df q) N' T:=by
 obtain⟨d,g⟩:=h.hm.held h.hn P H;refine⟨h.t1,λe=> ?_,by rw[U];exact d,by rw[U];exact g⟩;obtain⟨O,J,E⟩:=h.nf e;obtain⟨d1,d2,d3,_⟩:=D.live W A O J u;refine⟨d1,d2,λp o a=> ?_⟩;rw[U]at o;rw[d3];exact zq (E p o a)
theorem qA.ask{X:eu}{N N':Nat->Rg}{n:Nat}{T:Int}{q:RQ}{c:Int}(h:qA X N T)(D:fM X N n T)(W:n<=900000)(A:T<256)(u:fE q)(Q:q.bJ=true->Fx (gJ X.s.M q) q)(H:zG X.s.M N ((X.send c q).df q).s.M N' q)(U:((X.send c q).df q).az=X.az++[(c,q)]):qA ((X.send c q).df q) N' T:=by
 have y:(c,q)∈X.az++[(c,q)]:=by simp
 have w:∀p∈X.az,p∈X.az++[(c,q)]:=λp o=>Wd _ o;obtain⟨d,g⟩:=(h.hm.more w).held (h.hn.more w) y H;refine⟨h.t1,λe=> ?_,by rw[U];exact d,by rw[U];exact g⟩;obtain⟨O,J,E⟩:=h.nf e;have G:qW (X.send c q) N n T:=D.c;have b:=(G.same O).2;obtain⟨d1,d2,d3,d4⟩:=b.live J oM A u.ok u.b;have B:((X.send c q).s.nH 0 8 q !=43)=true:=by rw[d1];exact bne_iff_ne.2 (nY _ _).2.2
 have e:(X.send c q).df q=⟨(X.send c q).s.kd 0 8 q,((X.send c q).s.nH 0 8 q !=43),(X.send c q).az⟩:=iP O;rw[e];refine⟨B,d3,λp o a=> ?_⟩;show Fx ((X.send c q).s.kd 0 8 q).M p.2;rw[d4];rcases lU.1 o with o|o
 ·exact zq (E p o a)
 ·rw[lA.1 o]at a⊢
  exact Q a
structure WI(X:eu)(ev:List eW)(gv:Nat->Int->Vw)(N:Nat->Rg)(n:Nat)(T:Int):Prop where
 s:fM X N n T
 z:qA X N T
 p:JT X.s.M N X.az ev gv
section
variable {X:eu} {ev:List eW} {u:Nat->Int->Vw} {N:Nat->Rg} {n:Nat} {T:Int} {q:RQ} {r t:Int} {x:jc} {f:Nat} {ca:List PU}
theorem WI.mono{m:Nat}{T':Int}(h:WI X ev u N n T)(y:n<=m)(A:T<=T'):WI X ev u N m T':=⟨h.s.mono y A,h.z.mono A,h.p⟩
theorem WI.ask(h:WI X ev u N n T)(y:n<=800000)(A:T<256)(c:Int)(d:fE q)(U:Cj u q)(i:Int):
 ∃N',WI (X.ask c q i).x ev u N' (n+1) T/\((X.ask c q i).e=0->VW X N N' q (X.ask c q i)):=by
 obtain⟨N',Z,V,M,Q⟩:=h.s.ask y A c d i;have F:=h.p.heard d U M;have G:qA (X.ask c q i).x N' T:=by
  rcases V with⟨S,P⟩|⟨S,P⟩
  ·rw[S,P];exact h.z
  ·rw[S]at M P⊢
   refine h.z.ask h.s oM A d (λD=> ?_) M P;obtain⟨k,W⟩:=h.p.rm q.region (mf d) d.r;exact PV W (h.p.vw q.region · (mf d) d.r) ⟨mf d,d.r⟩ (U q.region (mf d) d.r) rfl D d
 refine⟨N',⟨Z,G,F.rm,F.rn,F.vw,λp o=> ?_⟩,Q⟩;rcases V with⟨e,_⟩|⟨_,e⟩
 ·rw[e]at o
  exact F.st p o
 ·rw[e]at o
  rcases lU.1 o with o|o
  ·exact F.st p o
  ·rw[lA.1 o]
   exact U
theorem xh(D:q.bJ=false):Cj u q:=λr _ _ _ h=>by rw[D]at h;cases h
theorem Mu(ht:1<=t):Cj u (mZ r t):=λj _ _ N _=>by
 have N:r=j:=N;subst N;exact⟨ht,.inl rfl⟩
theorem Gw(G:0<=r/\r<4)(ht:0<=t/\t<18446744073709551616):fE (mZ r t):=(uF G ht (.inr (.inr rfl)) oM oM (λ_ h=>by cases h) acy).1
theorem GH(G:0<=r/\r<4)(ht:0<=t/\t<18446744073709551616):fE (oL r t):=by
 refine⟨⟨ht.1,ht.2,ef _,(by show(0:Int)<4294967296;decide)⟩,?_,(λ_ h=>by cases h),(by show¬((3:Int)<=2/\_);omega),G.2⟩;unfold RQ.b9 oL;rw[iN (by show¬((3:Int)<1\/(5:Int)<3\/r<0\/255<r\/(0:Int)<0\/(255:Int)<0);omega),iN (by show¬24<([]:LI).length;decide)]
theorem BT{i:Int}(G:0<=r/\r<4)(z:0<=i/\i<4)(ht:0<=t/\t<18446744073709551616):fE (eL r i t):=by
 refine⟨⟨ht.1,ht.2,ef _,(by show(0:Int)<4294967296;decide)⟩,?_,(λ_ h=>by cases h),(by show¬((1:Int)<=2/\4<=i);omega),G.2⟩;unfold RQ.b9 eL;rw[iN (by show¬((1:Int)<1\/(5:Int)<1\/r<0\/255<r\/i<0\/255<i);omega),iN (by show¬24<([]:LI).length;decide)]
theorem WI.iy(h:WI X ev u N n T)(W:n<=800000)(A:T<256)(c:Int)(G:0<=r/\r<4)(ht:1<=t/\t<18446744073709551616)(J:u r.toNat t=⟨x,f,ca⟩)(j:x.eY=false)(l:Int):
 ∃N',WI (pC X c r t x l).x ev (gg u r t ⟨(pC X c r t x l).r,f,ca⟩) N' (n+1) T/\(pC X c r t x l).r={x with iy:=(pC X c r t x l).r.iy}/\((pC X c r t x l).e=0->(pC X c r t x l).r.iy=true):=by
 have O:gg u r t ⟨x,f,ca⟩=u:=by rw[<-J];exact oV u r t
 unfold pC;by_cases a:x.iy=true
 ·rw[iP a]
  exact⟨N,by rw[O];exact h.mono oM (ef _),rfl,λ_=>a⟩
 ·rw[iN a]
  obtain⟨N',Z,V⟩:=h.ask W A c (Gw G oM) (Mu (r:=r) ht.1) (l%4)
  split
  ·rename_i Y
   obtain⟨d,g,Q,C,H,I,B⟩:=V Y;have U:=FY (m:=X.s.M) (q:=mZ r t) (r:=r) rfl rfl C;have K:=Z.p.vw r t G.1 G.2 ht.1;rw[J]at K;refine⟨N',⟨Z.s,Z.z,Z.p.xI G.1 G.2 _ ⟨K.nr,λ_=>rfl,K.p0,K.fp,K.sq,K.s2⟩ (λh=> ?_) (λy k E F=> ?_)⟩,rfl,λ_=>rfl⟩
   ·rw[J,show(Vw.mk x f ca).x.eY=x.eY from rfl,j]at h
    cases h
   ·have:=F.fenced ht.1 (by rw[J];exact j) (by
     rcases E with rfl|rfl
     ·rw[H,U.1];exact ef _
     ·rw[I,U.1];exact ef _)
    rw[J]at this;exact this
  ·rename_i Y
   exact⟨N',by rw[O];exact Z,rfl,λh=>absurd h Y⟩
theorem TX{L:List fj}(h:∀p∈L,OZ p):(gu r t 2 (L.map qN)).length<=L.length+1:=by
 rw[(DE h).2];have:=wR r t 2 (L.map (λp=>(⟨r,p.i,p.d⟩:PU)));rwa[nL]at this
theorem WI.log(h:WI X ev u N n T)(W:n<=800000)(j:T<256)(c:Int)(G:0<=r/\r<4)(ht:1<=t/\t<18446744073709551616)(J:u r.toNat t=⟨x,f,ca⟩)(y:x.eY=false)(a:x.iy=true)(l:Int):
 ∃N',WI (tV X c r t x l).x ev (gg u r t ⟨(tV X c r t x l).r,f,ca⟩) N' (n+1) T/\(((tV X c r t x l).e=0/\(tV X c r t x l).r.eY=true/\(tV X c r t x l).r.bS=x.bS/\(tV X c r t x l).r.au.length<=5/\(tV X c r t x l).r.iy=true/\(tV X c r t x l).r.seq<=7)\/((tV X c r t x l).e≠0/\(tV X c r t x l).r=x/\(X.ask c (oL r t) (l%4)).e≠0)):=by
 have E:gg u r t ⟨x,f,ca⟩=u:=by rw[<-J];exact oV u r t
 obtain⟨N',Z,V⟩:=h.ask W j c (GH (r:=r) (t:=t) G oM) (xh rfl) (l%4);unfold tV;by_cases Y:(X.ask c (oL r t) (l%4)).e=0
 ·obtain⟨d,a2,a3,C,H,I,B⟩:=V Y
  rw[iN (λh=>h Y)];rw[sB rfl]at H I;have Q:=Tl C;rw[B,Q];obtain⟨hN,b⟩:=h.s.c.same d;have A:=b.mi;obtain⟨k,F⟩:=h.p.rm r G.1 G.2;obtain⟨L,w,b0,g⟩:=F.lg;obtain⟨S,P⟩:=DE (r:=r) (t:=t) (s:=2) g.ok;rw[<-g.lg]at S P;rw[iN (by rw[S];simp)];have D0:L.length<=4:=by
   have:=(A.ok r.toNat).ll;rw[g.lg,nL]at this;exact this
  have O:(gu r t 2 (X.s.M r.toNat).log).length<=5:=by
   have:=TX (r:=r) (t:=t) g.ok;rw[<-g.lg]at this;omega
  have R:IntKind.u32.wrap (2+((gu r t 2 (X.s.M r.toNat).log).length:Nat))=2+((gu r t 2 (X.s.M r.toNat).log).length:Nat):=IntWalk.u32_in _ oM;rw[R];have K:=h.p.vw r t G.1 G.2 ht.1;rw[J]at K;obtain⟨v1,i,q⟩:=K.nr y;have q:f=0:=q;have i:x.bS=0:=i;have z:=Fz (r:=r) rfl C;have E0:=F.fe t ht.1 (by rw[J];exact a);have D:(X.s.M r.toNat).aE=t:=by
   have z:(X.s.M r.toNat).aE<=t:=z;omega
  have U:lu r t 2 (gu r t 2 (X.s.M r.toNat).log):=by
   rw[g.lg];refine TL G oM (λp o=>⟨g.ok p o,λC0 hz=> ?_⟩) oM oM oM;refine A.mb.l r.toNat (qN p) ?_ C0 ?_
   ·rw[g.lg]
    exact oK.2 ⟨p,o,rfl⟩
   ·exact Dl _ hz
  refine⟨N',⟨Z.s,Z.z,?_⟩,.inl ⟨rfl,rfl,rfl,O,a,by show 2+((gu r t 2 (X.s.M r.toNat).log).length:Int)<=7;omega⟩⟩;refine Z.p.xI G.1 G.2 _ ⟨λh=>(by cases h),λ_=>a,K.p0,K.fp,?_,λ_=> ?_⟩ (λh=> ?_) (λB0 k' hy M=> ?_)
  ·have e:Vw.s0 ⟨⟨2+((gu r t 2 (X.s.M r.toNat).log).length:Nat),x.iy,true,gu r t 2 (X.s.M r.toNat).log,x.bS⟩,f,ca⟩=2:=by
    show 2+((gu r t 2 (X.s.M r.toNat).log).length:Int)-((gu r t 2 (X.s.M r.toNat).log).length:Nat)=2;omega
   rw[e];exact U
  ·show 2<=2+((gu r t 2 (X.s.M r.toNat).log).length:Int)-((gu r t 2 (X.s.M r.toNat).log).length:Nat)
   omega
  ·rw[J]at h
   rw[show(Vw.mk x f ca).x.eY=x.eY from rfl,y]at h
   cases h
  ·have A0:B0=X.s.M r.toNat:=by
    rcases hy with rfl|rfl
    ·rw[H]
    ·rw[I]
   subst A0;have:=M.ready ht.1 (by rw[J];exact y) (by rw[J];exact q) (r:=r) (n:=2+((gu r t 2 (X.s.M r.toNat).log).length:Nat)) D rfl;rw[J]at this;rw[a,i,q];exact this
 ·rw[iP Y]
  exact⟨N',by rw[E];exact Z,.inr ⟨Y,rfl,Y⟩⟩
theorem WI.YW(h:WI X ev u N n T)(W:n<=700000)(A:T<256)(c:Int)(G:0<=r/\r<4)(ht:1<=t/\t<18446744073709551616)(J:u r.toNat t=⟨x,f,ca⟩)(q:x.eY=false)(l:Int):
 ∃N',WI (cT X c r t x l).x ev (gg u r t ⟨(cT X c r t x l).r,f,ca⟩) N' (n+2) T/\(cT X c r t x l).r.au.length<=5/\((cT X c r t x l).r.seq<=x.seq\/(cT X c r t x l).r.seq<=7)/\((cT X c r t x l).e=0->(cT X c r t x l).r.eY=true/\(cT X c r t x l).r.iy=true/\(cT X c r t x l).r.bS=x.bS):=by
 obtain⟨i,Z,V,M⟩:=h.iy oM A c G ht J q l;have K:=h.p.vw r t G.1 G.2 ht.1;rw[J]at K;have B:x.au=[]:=(K.nr q).1;unfold cT;by_cases Y:(pC X c r t x l).e=0
 ·rw[iN (λh=>h Y)]
  have D:(pC X c r t x l).r.eY=false:=by rw[V];exact q
  have O:(pC X c r t x l).r.bS=x.bS:=by rw[V]
  have g:(pC X c r t x l).r.au=[]:=by rw[V];exact B
  obtain⟨j,Q,F⟩:=Z.log oM A c G ht (aV _ _ _ _) D (M Y) (pC X c r t x l).l;rw[kJ]at Q;refine⟨j,Q,?_,?_,λy=> ?_⟩
  ·rcases F with F|F
   ·exact F.2.2.2.1
   ·rw[F.2.1,g]
    exact jG _
  ·rcases F with F|F
   ·exact .inr F.2.2.2.2.2
   ·rw[F.2.1,V]
    exact .inl (ef _)
  ·rcases F with⟨_,a,b,_,d,_⟩|⟨F,_⟩
   ·exact⟨a,d,b.trans O⟩
   ·exact absurd y F
 ·rw[iP Y]
  exact⟨i,Z.mono oM (ef _),by rw[V,show({x with iy:=(pC X c r t x l).r.iy}:jc).au=x.au from rfl,B];exact jG _,.inl (by rw[V];exact ef _),λh=>absurd h Y⟩
theorem WI.Zt(h:WI X ev u N n T)(W:n<=700000)(A:T<256)(c:Int)(G:0<=r/\r<4)(ht:1<=t/\t<18446744073709551616)(H:x.eY=true)(a:x.iy=true){p:List RQ}(J:u r.toNat t=⟨{x with au:=q::p},f,ca⟩)(l:Int):
 ∃i,WI (X.ask c q l).x ev u i (n+1) T/\((X.ask c q l).e=0->WI (X.ask c q l).x ev (gg u r t ⟨{x with au:=p},f,ca⟩) i (n+1) T/\(X.ask c q l).x.s.M=gJ X.s.M q):=by
 have K:=h.p.vw r t G.1 G.2 ht.1;rw[J]at K;obtain⟨P,o,D,e,L⟩:=K.sq 0 q rfl;have w:Cj u q:=λj j0 j4 S _=>by
  have:j=r:=S.symm.trans P;subst this;rw[o,J];exact⟨ht.1,.inr ⟨H,.inr rfl⟩⟩
 obtain⟨i,Z,M⟩:=h.ask oM A c e w l;refine⟨i,Z,λY=> ?_⟩;obtain⟨d,g,Q,C,I,b,R⟩:=M Y;have U:=FY (m:=X.s.M) (q:=q) (r:=r) L P C;have B:(Vw.mk {x with au:=q::p} f ca).s0+1=(Vw.mk {x with au:=p} f ca).s0:=by
  show x.seq-((p.length+1:Nat):Int)+1=x.seq-(p.length:Nat);omega
 refine⟨?_,I⟩;refine⟨Z.s,Z.z,Z.p.xI G.1 G.2 _ ⟨λh=>absurd (H.symm.trans h) dC,λ_=>a,K.p0,K.fp,?_,λ_=> ?_⟩ (λ_=> ?_) (λy k E F=> ?_)⟩
 ·rw[<-B]
  exact K.sq.tail
 ·rw[<-B]
  have:=K.s2 H;omega
 ·rw[J]
  refine⟨H,oM,λz O=> .inl ?_⟩;obtain rfl:q=z:=by simpa using O
  omega
 ·have V:y.aE=t/\y.seq=q.seq:=by
   rcases E with rfl|rfl
   ·rw[I];exact⟨U.1.trans o,U.2.1⟩
   ·rw[b];exact⟨U.1.trans o,U.2.1⟩
  have:=F.ack ht.1 (q:=q) (qs:=p) (by rw[J];exact H) (by rw[J];exact a) (by rw[J]) (by rw[J,D];omega) (by rw[J];exact K.fp) V.1 V.2;rw[J]at this;exact this
theorem WI.au(A:T<256)(c:Int)(G:0<=r/\r<4)(ht:1<=t/\t<18446744073709551616)(y:x.eY=true)(a:x.iy=true):∀(p:List RQ) (X:eu) (u:Nat->Int->Vw) (N:Nat->Rg) (n:Nat) (l:Int),n+p.length<=700000->WI X ev u N n T->u r.toNat t=⟨{x with au:=p},f,ca⟩->
 ∃N',WI (jp c p X l).x ev (gg u r t ⟨{x with au:=(jp c p X l).p},f,ca⟩) N' (n+p.length) T/\((jp c p X l).e=0->(jp c p X l).p=[])/\(jp c p X l).p.length<=p.length
 |[],X,u,N,n,l,_,h,J=>⟨N,by
  show WI X ev (gg u r t ⟨{x with au:=[]},f,ca⟩) N n T;rw[<-J,oV];exact h,λ_=>rfl,g9 _⟩
 |q::p,X,u,N,n,l,W,h,J=>by
  rw[oO]at W;obtain⟨i,Z,V⟩:=h.Zt oM A c G ht y a J (l%4);unfold jp;by_cases Y:(X.ask c q (l%4)).e=0
  ·rw[iN (λh=>h Y)]
   obtain⟨R,_⟩:=V Y;obtain⟨j,M,Q,F⟩:=WI.au A c G ht y a p (X.ask c q (l%4)).x (gg u r t ⟨{x with au:=p},f,ca⟩) i (n+1) (l/4) oM R (aV _ _ _ _);rw[kJ]at M;exact⟨j,by rw[oO,show n+(p.length+1)=n+1+p.length by omega];exact M,Q,zc9 F⟩
  ·rw[iP Y]
   refine⟨i,?_,λh=>absurd h Y,g9 _⟩;show WI (X.ask c q (l%4)).x ev (gg u r t ⟨{x with au:=q::p},f,ca⟩) i _ T;rw[<-J,oV];exact Z.mono (by rw[oO];omega) (ef _)
end
end
section
theorem UK(r:Int)(ws:List PU):∀n,(eI (gN r) n ws).filter (ao r)=(ws.filter (ao r)).drop n:=by
 induction ws with
 |nil=>intro n;simp[eI]
 |cons x q K=>
  intro n
  cases G:ao r x with
  |false=>
   have Z:gN r n x=(false,n):=by unfold gN;rw[show(x.region==r)=false from G];rfl
   unfold eI;rw[Z,iN gV,Ea,Ea,G,iN gV,iN gV];exact K n
  |true=>
   cases n with
   |zero=>
    have Z:gN r 0 x=(false,0):=by simp[gN]
    unfold eI;rw[Z,iN gV,Ea,Ea,G,iP rfl,iP rfl,AW];rw[K 0,AW]
   |succ n=>
    have Z:gN r (n+1) x=(true,n):=by unfold gN;rw[show(x.region==r)=true from G];rfl
    unfold eI;rw[Z,iP rfl,Ea,G,iP rfl,Nl];exact K n
theorem keep_other{r s:Int}(I:r≠s)(ws:List PU):∀n,(eI (gN r) n ws).filter (ao s)=ws.filter (ao s):=by
 induction ws with
 |nil=>intro n;rfl
 |cons x q K=>
  intro n;unfold eI
  split
  ·rename_i h
   have J:x.region=r:=by
    unfold gN at h
    split at h
    ·rename_i V
     simp at V;exact V.1
    ·cases h
   rw[Ea,iN (by simp[ao,J,I])];exact K _
  ·rename_i h
   have V:(gN r n x).2=n:=by
    unfold gN at h⊢
    split
    ·rename_i M
     rw[iP M]at h;exact absurd rfl h
    ·rfl
   rw[Ea,Ea,V,K n]
theorem zU{D:List PU}{r i:Int}{y:PU}(h:y∈l8 D r i):y∈D:=by
 rcases jU (cC r i) D 0 with⟨Z,V⟩|⟨k,x,Z,V,M⟩
 ·unfold l8 at h
  rw[Z,iN oM]at h;exact h
 ·rw[s7]at Z
  unfold l8 at h;rw[Z,iP oM,qG,V]at h;rcases mem_erase h with h|rfl
  ·exact h
  ·exact pJ V
theorem LY{n:Nat}{D ws:List PU}{p y:PU}(j:io n D ws)(h:y∈mz D ws p):y=p/\lh D ws p.region p.index=0\/y∈D/\(keyOf y≠keyOf p\/lh D ws p.region p.index≠0):=by
 rcases sc D ws p with⟨K,k,x,Z,V,M⟩|⟨K,⟨Q,Z,V⟩|⟨Q,_,k,x,Z,V,M⟩|⟨Q,_,Z⟩⟩
 ·rw[M]at h
  rcases lU.1 h with h|h
  ·refine .inr ⟨Xj h,.inl λe=> ?_⟩
   have W:=j.nd;rw[Af Z,xd,li]at W;rw[VD]at h;have J:=(Wo.1 W);rcases lU.1 h with h|h
   ·exact J.2.2 _ (oK.2 ⟨y,h,rfl⟩) (keyOf x) acy (e.trans V.symm)
   ·exact(XZ.1 J.2.1).1 (by rw[V,<-e];exact oK.2 ⟨y,h,rfl⟩)
  ·exact .inl ⟨by simpa using h,K⟩
 ·rw[V]at h
  rcases lU.1 h with h|h
  ·exact .inr ⟨h,.inl (K y h)⟩
  ·exact .inl ⟨by simpa using h,Q⟩
 ·rw[M]at h
  rcases lU.1 h with h|h
  ·exact .inr ⟨Xj h,.inl (K y (Xj h))⟩
  ·exact .inl ⟨by simpa using h,Q⟩
 ·rw[Z]at h
  exact .inr ⟨h,.inr (by rw[Q];decide)⟩
structure nw(C:bq)(m:Nat):Prop where
 i:io m C.bl C.wr
 w:∀p∈C.wr,0<=p.region/\p.region<4/\OZ (iC p)/\Bytes p.data
 b:∀p∈C.bl,Bytes p.data/\p.data.length<=24
 q:∀k,(C.r k).seq<=300*(m:Int)+10
 p:∀k,(C.r k).au.length<=300
section
variable {X:eu} {ev:List eW} {D:Nat->Int->Vw} {N:Nat->Rg} {n m:Nat} {T:Int} {q:RQ} {r t:Int} {x:jc} {f:Nat} {ca ws:List PU}
structure vf(X:eu)(ev:List eW)(D:Nat->Int->Vw)(n:Nat)(T:Int)(r t:Int)(ca ws:List PU)(b:Int)(y:AK)(N':Nat->Rg)(f':Nat):Prop where
 w:WI y.x ev (gg D r t ⟨y.r,f',ca⟩) N' n T
 l:(y.ws.filter (ao r)).map iC=(aG r t ev).p.drop f'
 s:y.ws.Sublist ws
 o:∀j,j≠r->y.ws.filter (ao j)=ws.filter (ao j)
 q:y.r.seq<=b
 p:y.r.au.length<=300
 e:y.e=0->y.r.eY=true/\y.r.iy=true/\y.r.au=[]/\y.r.bS=0
theorem Jv(h:0<=x.bS)(C:(ws.filter (ao r)).map iC=(aG r t ev).p.drop f)(u:f+x.bS.toNat<=(aG r t ev).p.length):
 Yz ws r x.bS=0/\OX ws r x.bS=eI (gN r) x.bS.toNat ws/\((OX ws r x.bS).filter (ao r)).map iC=(aG r t ev).p.drop (f+x.bS.toNat):=by
 have Z:=congrArg List.length C;rw[nL,km]at Z;have W:¬ZK ws r x.bS:=by
  unfold ZK;omega
 have e:OX ws r x.bS=eI (gN r) x.bS.toNat ws:=iN W;refine⟨iN W,e,?_⟩;rw[e,UK,WT,C,Fj]
theorem WI.sS(h:WI X ev D N n T)(W:n<=600000)(A:T<256)(c:Int)(G:0<=r/\r<4)(ht:1<=t/\t<18446744073709551616)(B:D r.toNat t=⟨x,f,ca⟩)(q:x.eY=true)(a:x.iy=true)(o:x.au.length<=300)(C:(ws.filter (ao r)).map iC=(aG r t ev).p.drop f)(l:Int):
 ∃N' E,vf X ev D (n+300) T r t ca ws x.seq (sS X c r t x ws l) N' E:=by
 have K:=h.p.vw r t G.1 G.2 ht.1;rw[B]at K;obtain⟨i,Z,V,M⟩:=WI.au A c G ht q a x.au X D N n l oM h B;unfold Go.Proofs.YtblpaldggenbaaaGreatDoor.sS;by_cases Y:(jp c x.au X l).e=0
 ·rw[iN (λh=>h Y)]
  have g:=V Y;rw[g]at Z;obtain⟨f1,f2,f3⟩:=Jv (ev:=ev) (t:=t) K.p0 C K.fp;have p:=Z.p.vw r t G.1 G.2 ht.1;rw[aV]at p;refine⟨i,f+x.bS.toNat,?_,f3,LS _ _ _,λj S=>by rw[f2];exact keep_other (λe=>S e.symm) _ _,ef _,jG _,λ_=>⟨q,a,rfl,rfl⟩⟩;have J:WI (jp c x.au X l).x ev (gg (gg D r t ⟨{x with au:=[]},f,ca⟩) r t ⟨{x with au:=[],bS:=0},f+x.bS.toNat,ca⟩) i (n+300) T:=by
   refine⟨(Z.s).mono oM (ef _),Z.z,Z.p.xI G.1 G.2 _ ⟨λh=>absurd (q.symm.trans h) dC,λ_=>a,ef _,K.fp,lu.nil _ _ _,p.s2⟩ (λ_=> ?_) (λy k d F=> ?_)⟩
   ·rw[aV]
    exact⟨q,ef _,λz H=>by cases H⟩
   ·have:=F.SG ht.1 (by rw[aV];exact q) (by rw[aV]) (by rw[aV];exact p.fp)
    rw[aV]at this;exact this
  rw[kJ]at J;exact J
 ·rw[iP Y]
  exact⟨i,f,Z.mono oM (ef _),C,KL _,λ_ _=>rfl,ef _,qJ M o,λh=>absurd h Y⟩
theorem WI.cY(h:WI X ev D N n T)(W:n<=500000)(A:T<256)(c:Int)(G:0<=r/\r<4)(ht:1<=t/\t<18446744073709551616)(J:D r.toNat t=⟨x,f,ca⟩)(o:x.au.length<=300)(C:(ws.filter (ao r)).map iC=(aG r t ev).p.drop f){b:Int}(B:x.seq<=b)(H:10<=b)(l:Int):
 ∃N' E,vf X ev D (n+302) T r t ca ws b (cY X c r t x ws l) N' E:=by
 have K:=h.p.vw r t G.1 G.2 ht.1;rw[J]at K;unfold Go.Proofs.YtblpaldggenbaaaGreatDoor.cY;by_cases q:x.eY=true
 ·rw[iP q]
  obtain⟨N',E,a⟩:=h.sS oM A c G ht J q (K.rf q) o C l;exact⟨N',E,a.w.mono oM (ef _),a.l,a.s,a.o,by have:=a.q;omega,a.p,a.e⟩
 ·have q:x.eY=false:=by simpa using q
  rw[iN (by rw[q];exact gV)];obtain⟨i,Z,V,I,M⟩:=h.YW oM A c G ht J q l;have p:=Z.p.vw r t G.1 G.2 ht.1;rw[aV]at p;have j:(cT X c r t x l).r.seq<=b:=oM
  by_cases Y:(cT X c r t x l).e=0
  ·rw[iN (λh=>h Y)]
   obtain⟨d,g,Q⟩:=M Y;obtain⟨N',E,a⟩:=Z.sS oM A c G ht (aV _ _ _ _) d g oM C (cT X c r t x l).l;refine⟨N',E,?_,a.l,a.s,a.o,xK a.q j,a.p,a.e⟩;have:=a.w.mono (m:=n+302) (T':=T) oM (ef _);rwa[kJ]at this
  ·rw[iP Y]
   exact⟨i,f,Z.mono oM (ef _),C,KL _,λ_ _=>rfl,j,(by show(cT X c r t x l).r.au.length<=300;omega),λh=>absurd h Y⟩
end
end
end Go.Proofs.YtblpaldggenbaaaGreatDoor
