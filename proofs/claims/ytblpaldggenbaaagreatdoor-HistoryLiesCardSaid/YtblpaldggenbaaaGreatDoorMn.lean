/- A part. -/
import Derived.Test.YtblpaldggenbaaaGreatDoorMm
namespace Go.Proofs.YtblpaldggenbaaaGreatDoor
open Go.RowKit Go.Proofs.Tryz
set_option maxRecDepth 100000
set_option maxHeartbeats 64000000
variable{ring:Nat}{a:Int}{K T:Int}{D:DS}{m:Nat->Rg}{L:List aw}{J:JM}{s:SM}{r:RQ}{M:Nat->Rg}{I:aH}{n:Nat}{O:Nat->Rg}{N:Nat->Rg}{k:Nat}{b:LI}
structure MI(m:Nat->Rg):Prop where
 ok:∀k,(m k).ok
 mb:MB m
 VZ:∀k,4<=k->m k=Rg.zero
 bf:∀k j,4<=j->(m k).b j=[]
 hs:∀k,0<(m k).aE\/(m k).seq=0
theorem MI.tA:MI tA:=⟨λ_=>Rg.CJ,MB.tA,λ_ _=>rfl,λ_ _ _=>rfl,λ_=> .inr rfl⟩
theorem MI.gJ(h:MI m)(G:r.ok)(B:Bytes r.data):MI (gJ m r):=by
 refine⟨Ap h.ok G,h.mb.gJ B,λk F=> ?_,λk j N=> ?_,λk=> ?_⟩
 ·unfold Go.Proofs.YtblpaldggenbaaaGreatDoor.gJ
  split
  ·rename_i D
   have u:=oW D.1;have:=u.k;have:=(RQ.gO u.w).2.2.1;rw[cm _ _ _ _ oM];exact h.VZ k F
  ·exact h.VZ k F
 ·unfold Go.Proofs.YtblpaldggenbaaaGreatDoor.gJ
  split
  ·rename_i D
   have u:=oW D.1;unfold aJ
   split
   ·show(if r.op=2 then aJ _ r.index.toNat r.data else _) j=[]
    split
    ·rename_i V
     have:=u.i oM;have:=(RQ.gO u.w).2.2.2.2.1;rw[cm _ _ _ _ oM];exact h.bf _ j N
    ·exact h.bf _ j N
   ·exact h.bf k j N
  ·exact h.bf k j N
 ·unfold Go.Proofs.YtblpaldggenbaaaGreatDoor.gJ
  split
  ·rename_i D
   have a:=rM D.2;unfold aJ
   split
   ·refine .inl ?_
    show 0<r.token;have:=G.t0;have:=a.2.1;omega
   ·exact h.hs k
  ·exact h.hs k
theorem MI.Uo(h:MI m):Yu m:=h.mb.Uo h.ok
theorem ei{x:Int}(K:0<=x)(Z:x<256^k)(V:1<=k)(y:k<=8)(rest:LI):Rd.num ⟨aT x k++rest,false⟩ (k:Int)=(x,⟨rest,false⟩):=by
 obtain⟨n,rfl⟩:=zY K;rw[Rd.pR n k V y];have M:((256^k:Nat):Int)=(256:Int)^k:=Int.natCast_pow 256 k;rw[<-M]at Z;rw[Wg (Int.ofNat_lt.1 Z)]
theorem wI(l:List (LI))(rest:LI)(C:∀x∈l,x.length<=24):∀n,n<=l.length->Rd.dv ⟨l.flatMap bE++rest,false⟩ n=(l.take n,⟨(l.drop n).flatMap bE++rest,false⟩)
 |0,_=>rfl
 |n+1,h=>by
  have K:=wI l rest C n oM;show((Rd.dv _ n).1++[(Rd.dv _ n).2.gE.1],(Rd.dv _ n).2.gE.2)=_;rw[K];have e:l.drop n=l[n]::l.drop (n+1):=Eb oM;have a:Rd.gE ⟨(l.drop n).flatMap bE++rest,false⟩=(l[n],⟨(l.drop (n+1)).flatMap bE++rest,false⟩):=by
   rw[e,Bo,nX];exact oY _ (by have:=C _ (Sp (show n<l.length by omega));omega) _
  show(l.take n++[(Rd.gE ⟨(l.drop n).flatMap bE++rest,false⟩).1],(Rd.gE ⟨(l.drop n).flatMap bE++rest,false⟩).2)=_;rw[a,Et,gP oM]
  rfl
theorem RR(b:Nat->LI)(rest:LI)(B:∀j,(b j).length<=24)(a:∀j,4<=j->b j=[]):Rd.ah ⟨bE (b 0)++(bE (b 1)++(bE (b 2)++(bE (b 3)++rest))),false⟩ 4=(b,⟨rest,false⟩):=by
 have c:∀j,(b j).length<=1000:=λj=>by have:=B j;omega
 obtain⟨s,U⟩:∃s:Rd,s=⟨bE (b 0)++(bE (b 1)++(bE (b 2)++(bE (b 3)++rest))),false⟩:=⟨_,rfl⟩;rw[<-U];have S:s.ah 1=(aJ (λ_=>[]) 0 (b 0),⟨bE (b 1)++(bE (b 2)++(bE (b 3)++rest)),false⟩):=by
  show(aJ (λ_=>[]) 0 (Rd.gE s).1,(Rd.gE s).2)=_;rw[U,oY _ (c 0)]
 have P:s.ah 2=(aJ (aJ (λ_=>[]) 0 (b 0)) 1 (b 1),⟨bE (b 2)++(bE (b 3)++rest),false⟩):=by
  show(aJ (s.ah 1).1 1 (s.ah 1).2.gE.1,(s.ah 1).2.gE.2)=_;rw[S];show(aJ _ 1 (Rd.gE _).1,(Rd.gE _).2)=_;rw[oY _ (c 1)]
 have t:s.ah 3=(aJ (aJ (aJ (λ_=>[]) 0 (b 0)) 1 (b 1)) 2 (b 2),⟨bE (b 3)++rest,false⟩):=by
  show(aJ (s.ah 2).1 2 (s.ah 2).2.gE.1,(s.ah 2).2.gE.2)=_;rw[P];show(aJ _ 2 (Rd.gE _).1,(Rd.gE _).2)=_;rw[oY _ (c 2)]
 show(aJ (s.ah 3).1 3 (s.ah 3).2.gE.1,(s.ah 3).2.gE.2)=_;rw[t];show(aJ _ 3 (Rd.gE _).1,(Rd.gE _).2)=_;rw[oY _ (c 3)];refine Prod.ext (funext λj=> ?_) rfl;show(if j=3 then b 3 else if j=2 then b 2 else if j=1 then b 1 else if j=0 then b 0 else [])=b j
 split
 ·exact aep
 ·split
  ·exact aep
  ·split
   ·exact aep
   ·split
    ·exact aep
    ·exact(a j oM).symm
theorem yt(x:Rg)(J:x.ok)(a:∀j,4<=j->x.b j=[])(rest:LI):Rd.rg ⟨gF x++rest,false⟩=x/\(Rd.h5 ⟨gF x++rest,false⟩).2=⟨rest,false⟩:=by
 obtain⟨s,U⟩:∃s:Rd,s=⟨gF x++rest,false⟩:=⟨_,rfl⟩;have M:gF x++rest=aT x.aE 8++(aT x.seq 4++(bE (x.b 0)++(bE (x.b 1)++(bE (x.b 2)++(bE (x.b 3)++(aT (x.log.length:Nat) 1++(x.log.flatMap bE++rest))))))):=by
  unfold gF;rw[show bL x.aE 8=aT x.aE 8 from rfl,show bL x.seq 4=aT x.seq 4 from rfl,show bL (x.log.length:Nat) 1=aT (x.log.length:Nat) 1 from rfl];simp only[nX]
 rw[<-U];rw[M]at U;have S:s.h1=(x.aE,⟨aT x.seq 4++(bE (x.b 0)++(bE (x.b 1)++(bE (x.b 2)++(bE (x.b 3)++(aT (x.log.length:Nat) 1++(x.log.flatMap bE++rest)))))),false⟩):=by
  show s.num ((8:Nat):Int)=_;rw[U];exact ei J.h0 (by rw[show(256:Int)^8=18446744073709551616 by decide];exact J.h1) oM oM _
 have P:s.h2=(x.seq,⟨bE (x.b 0)++(bE (x.b 1)++(bE (x.b 2)++(bE (x.b 3)++(aT (x.log.length:Nat) 1++(x.log.flatMap bE++rest))))),false⟩):=by
  show s.h1.2.num ((4:Nat):Int)=_;rw[S];exact ei J.s0 (by rw[show(256:Int)^4=4294967296 by decide];exact J.s1) oM oM _
 have t:s.h3=(x.b,⟨aT (x.log.length:Nat) 1++(x.log.flatMap bE++rest),false⟩):=by
  show s.h2.2.ah 4=_;rw[P];exact RR x.b _ J.bb a
 have p:s.h4=(((x.log.length:Nat):Int),⟨x.log.flatMap bE++rest,false⟩):=by
  show s.h3.2.num ((1:Nat):Int)=_;rw[t];have:=J.ll;exact ei oM acQ oM oM _
 have u:s.h5=(x.log,⟨rest,false⟩):=by
  show s.h4.2.dv s.h4.1.toNat=_;rw[p];show Rd.dv ⟨x.log.flatMap bE++rest,false⟩ ((x.log.length:Int).toNat)=_;rw[qG,wI _ _ J.lb _ (g9 _),MS,zcM]
  rfl
 refine⟨?_,by rw[u]⟩;show Rg.mk s.h1.1 s.h2.1 s.h3.1 s.h5.1=x;rw[S,P,t,u]
theorem Eo(h:MI m):Rd.gz ⟨bj m,false⟩ 4=(m,⟨[],false⟩):=by
 have e:bj m=gF (m 0)++(gF (m 1)++(gF (m 2)++(gF (m 3)++[]))):=by
  show iX m 4=_;rw[cR,cR,cR,cR,rX];show((([]++gF (m 0))++gF (m 1))++gF (m 2))++gF (m 3)=_;simp only[nX,xL]
 obtain⟨s,U⟩:∃s:Rd,s=⟨bj m,false⟩:=⟨_,rfl⟩;rw[<-U];rw[e]at U;have S:s.gz 1=(aJ tA 0 (m 0),⟨gF (m 1)++(gF (m 2)++(gF (m 3)++[])),false⟩):=by
  show(aJ tA 0 (Rd.rg s),(Rd.h5 s).2)=_;obtain⟨d,g⟩:=yt (m 0) (h.ok 0) (h.bf 0) (gF (m 1)++(gF (m 2)++(gF (m 3)++[])));rw[U,d,g]
 have P:s.gz 2=(aJ (aJ tA 0 (m 0)) 1 (m 1),⟨gF (m 2)++(gF (m 3)++[]),false⟩):=by
  show(aJ (s.gz 1).1 1 (s.gz 1).2.rg,(s.gz 1).2.h5.2)=_;rw[S];obtain⟨d,g⟩:=yt (m 1) (h.ok 1) (h.bf 1) (gF (m 2)++(gF (m 3)++[]));show(aJ _ 1 (Rd.rg _),(Rd.h5 _).2)=_;rw[d,g]
 have t:s.gz 3=(aJ (aJ (aJ tA 0 (m 0)) 1 (m 1)) 2 (m 2),⟨gF (m 3)++[],false⟩):=by
  show(aJ (s.gz 2).1 2 (s.gz 2).2.rg,(s.gz 2).2.h5.2)=_;rw[P];obtain⟨d,g⟩:=yt (m 2) (h.ok 2) (h.bf 2) (gF (m 3)++[]);show(aJ _ 2 (Rd.rg _),(Rd.h5 _).2)=_;rw[d,g]
 show(aJ (s.gz 3).1 3 (s.gz 3).2.rg,(s.gz 3).2.h5.2)=_;rw[t];obtain⟨d,g⟩:=yt (m 3) (h.ok 3) (h.bf 3) [];show(aJ _ 3 (Rd.rg _),(Rd.h5 _).2)=_;rw[d,g];refine Prod.ext (funext λj=> ?_) rfl;show(if j=3 then m 3 else if j=2 then m 2 else if j=1 then m 1 else if j=0 then m 0 else tA j)=m j
 split
 ·exact aep
 ·split
  ·exact aep
  ·split
   ·exact aep
   ·split
    ·exact aep
    ·exact(h.VZ j oM).symm
theorem Qv(h:MI m):uZ (bj m)=0:=by
 have z:lI m 4=true:=by
  unfold lI;rw[yT];intro k _;have H:=h.ok k;unfold Qo mj;simp only[mq,yT,decide_eq_true_eq,Mo,beq_iff_eq];exact⟨⟨⟨λi _=>dZ (H.bb i),λx J=>dZ (H.lb x J)⟩,H.ll⟩,h.hs k⟩
 unfold uZ;rw[Eo h,iN (show¬(Rd.kx ⟨[],false⟩≠0)by decide),iP z]
def Fx(m:Nat->Rg)(r:RQ):Prop:=r.token<(m r.region.toNat).aE\/r.token=(m r.region.toNat).aE/\r.seq<=(m r.region.toNat).seq
theorem GX(K:(aC m r).2=0)(h:(aC m r).1=true):(m r.region.toNat).aE<r.token\/r.token=(m r.region.toNat).aE/\r.seq=(m r.region.toNat).seq+1:=by
 have u:=(oW K).t;unfold aC at h
 split at h
 ·cases h
 ·split at h
  ·cases h
  ·split at h
   ·cases h
   ·split at h
    ·cases h
    ·split at h
     ·unfold Rg.next Rg.pE at h
      split at h
      ·rename_i Z;exact .inl Z
      ·split at h
       ·cases h
       ·split at h
        ·cases h
        ·split at h
         ·cases h
         ·rename_i Z _ _ Q
          exact .inr ⟨oM,ZW.1 Q⟩
     ·cases h
theorem SO(h:Fx m r):gJ m r=m:=by
 unfold gJ;refine iN (λD=> ?_);have Z:=GX D.1 D.2;unfold Fx at h;omega
theorem GY(K:(aC m r).2=0)(h:(aC m r).1=true):Fx (gJ m r) r:=by
 unfold Fx gJ;rw[iP ⟨K,h⟩,aW];exact .inr ⟨rfl,ef _⟩
theorem zq{r x:RQ}(h:Fx m r):Fx (gJ m x) r:=by
 unfold gJ
 split
 ·rename_i D
  have Z:=GX D.1 D.2;unfold Fx aJ at*;by_cases F:r.region.toNat=x.region.toNat
  ·rw[iP F]
   rw[F]at h;show r.token<x.token\/r.token=x.token/\r.seq<=x.seq;omega
  ·rw[iN F]
   exact h
 ·exact h
structure Vt(D:DS)(a:Int)(O:Nat->Rg)(K:Int):Prop where
 r:0<=a/\a+44<=(D.n:Int)
 s:jm D a
 q:(aK D a).q<=K
 nu:(cJ D a).nu<=K
 bg:mu D a=O
 un:ic D a=0->uZ (fV D a)=0
theorem Vt.mono{K b:Int}(h:Vt D a O K)(F:K<=b):Vt D a O b:=⟨h.r,h.s,xK h.q F,xK h.nu F,h.bg,h.un⟩
theorem Cn{D E:DS}{a d nu sz:Int}(h:∀i:Nat,i<21->E.read (a+2+d*21+(i:Nat))=D.read (a+2+d*21+(i:Nat))):∀j,j<=21->mw E a d nu sz j=mw D a d nu sz j
 |0,_=>rfl
 |j+1,N=>by
  have K:=Cn (nu:=nu) (sz:=sz) h j oM;have e:SA E a d j=SA D a d j:=nW (h j oM);show(mw E a d nu sz j).bind _=(mw D a d nu sz j).bind _;rw[K];simp only[e]
theorem Vt.same{D E:DS}{K:Int}(h:Vt D a O K)(W:E.n=D.n)(U:jm E a)(C:aK E a=aK D a)
 (G:∀i:Nat,i<21->E.read (a+2+(cJ D a).ar*21+(i:Nat))=D.read (a+2+(cJ D a).ar*21+(i:Nat))):Vt E a O K:=by
 have y:=IU C;have S:iZ E a=iZ D a:=by
  unfold iZ;rw[y,Cn G 21 (g9 _)]
 have B:fV E a=fV D a:=by unfold fV;rw[S]
 have Y:ic E a=ic D a:=by unfold ic;rw[S]
 refine⟨by rw[W];exact h.r,U,by rw[C];exact h.q,by rw[y];exact h.nu,?_,?_⟩
 ·unfold mu
  rw[Y,B];exact h.bg
 ·rw[Y,B];exact h.un
theorem Vt.alike{D E:DS}{K:Int}(h:Vt D a O K)(B:Bytes D.seen)(W:E.n=D.n)(G:∀j,a<=j->j<a+44->E.read j=D.read j):Vt E a O K:=by
 have y:=iz B a;exact h.same W (h.s.same (G a oM oM) (G (a+1) oM oM)) (fS (G a oM oM) (G (a+1) oM oM)) (λi z=>G _ oM oM)
theorem wo(b:LI)(j:Nat):(iF b j).length=min 43 (b.length-43*j):=by unfold iF;rw[fJ,km]
theorem zI{E:DS}{a ar nu:Int}{b:LI}(c:0<=nu/\nu<4294967296)(G:∀i:Nat,i<(b.length+42)/43->E.read (If a ar i)=aP (((i:Nat):Int)+1) nu (iF b i)):∀j,j<=21->mw E a ar nu (b.length:Nat) j=some (b.take (43*j))
 |0,_=>rfl
 |j+1,N=>by
  have K:=zI c G j oM;show(mw E a ar nu (b.length:Nat) j).bind _=_;rw[K];show(if((j:Nat):Int)*43<((b.length:Nat):Int)then _ else _)=_;by_cases D:((j:Nat):Int)*43<((b.length:Nat):Int)
  ·rw[iP D]
   have L:(iF b j).length<=43:=by rw[wo];omega
   have e:SA E a ar j=⟨((j:Nat):Int)+1,nu,iF b j,true⟩:=by
    show cQ (E.read (If a ar j))=_;rw[G j oM];exact lW oM c L
   have R:(b.take (43*j)).length=43*j:=by rw[fJ];omega
   have P:SN (SA E a ar j) j nu (b.length:Nat) (b.take (43*j)).length=true:=by
    rw[e,R];unfold SN;have Z:((((j:Nat):Int)+1) !=((j:Nat):Int)+1)=false:=by simp
    have V:(nu !=nu)=false:=by simp
    have M:(((iF b j).length:Int) !=min 43 (((b.length:Nat):Int)-((43*j:Nat):Int)))=false:=by
     rw[bne_eq_false_iff_eq,wo];omega
    show(true&& !((((j:Nat):Int)+1) !=((j:Nat):Int)+1)&& !(nu !=nu)&& !(((iF b j).length:Int) !=min 43 (((b.length:Nat):Int)-((43*j:Nat):Int))))=true;rw[Z,V,M]
    rfl
   rw[iP P,e];show some (b.take (43*j)++(b.drop (43*j)).take 43)=_;rw[<-List.take_add,Nat.mul_succ]
  ·rw[iN D,nS oM,nS oM]
def kP(a d:Int)(k:Nat):Prop:=a+2+d*21<=(k:Int)/\(k:Int)<a+2+d*21+21
theorem Calm.Xg{D:DS}(h:Calm D){a ar nu:Int}{b:LI}(Q:0<=a/\a+44<=(D.n:Int))(d:0<=ar/\ar<=1)(B:Bytes b):∀j,j<=21->
 ((fC D a ar nu b j).2=0/\OS D (fC D a ar nu b j).1 (kP a ar)/\∀i:Nat,i<j->(fC D a ar nu b j).1.read (If a ar i)=aP (((i:Nat):Int)+1) nu (iF b i))\/
 ((fC D a ar nu b j).2=43/\kN (fC D a ar nu b j).1 (λE=>E.n=D.n/\∀j:Int,0<=j->¬kP a ar j.toNat->E.read j=D.read j))
 |0,_=> .inl ⟨rfl,h.mid _,λi z=>absurd z (Nat.not_lt_zero _)⟩
 |j+1,N=>by
  rcases Calm.Xg h (nu:=nu) Q d B j oM with⟨Z,V,M⟩|⟨Z,V⟩
  ·rw[Dq Z]
   have z:If a ar j=a+2+ar*21+(j:Nat):=rfl;have C:(iF b j).length<=43:=by rw[wo];omega
   have P:(aP (((j:Nat):Int)+1) nu (iF b j)).length=64:=dE _ _ C;rcases V.write (i:=If a ar j) (b:=aP (((j:Nat):Int)+1) nu (iF b j)) oM oM acP oM (er _ _ (ru B j))with⟨l,X,_,t⟩|⟨l,X⟩
   ·refine .inl ⟨l,X,λi c=> ?_⟩
    have g:If a ar i=a+2+ar*21+(i:Nat):=rfl;show(DS.write _ _ _).read _=_;rw[t _ oM];by_cases S:i=j
    ·rw[S,iP rfl,xR P]
    ·rw[iN oM]
     exact M i oM
   ·exact .inr ⟨l,X⟩
  ·have I:(fC D a ar nu b j).2≠0:=by rw[Z];decide
   rw[sy I 1];exact .inr ⟨Z,V⟩
theorem Xb{D E:DS}{a p:Int}{K:Int}(B:Bytes D.seen)(H:MI M)(d:0<=a/\a+44<=(D.n:Int))(W:E.n=D.n)(U:jm E a)(k:0<=(aK D a).q)(P:(aK D a).q<=K)(c:(cJ D a).nu<=K)(l:K<4294967290)
 (C:aK E a=⟨p,(aK D a).q+1,eX (cP D a (bj M))⟩)
 (G:∀i:Nat,i<((bj M).length+42)/43->E.read (If a (cP D a (bj M)).ar i)=aP (((i:Nat):Int)+1) (cP D a (bj M)).nu (iF (bj M) i)):Vt E a M (K+1):=by
 have y:=iz B a;have L:=H.Uo.pl;obtain⟨mk,t⟩:=nM (cP D a (bj M));have x:mk.nu=(cJ D a).nu+1:=by rw[t];rfl
 have r:mk.ar=1-(cJ D a).ar:=by rw[t];rfl
 have u:mk.sz=((bj M).length:Nat):=by rw[t];rfl
 have Q:mk.ok=true:=by rw[t];rfl
 rw[<-t]at C G;have J:nU (eX mk)=mk:=TE oM oM oM Q;have j:¬(aK E a).q=0:=by rw[C];show¬(aK D a).q+1=0;omega
 have g:cJ E a=mk:=by
  unfold cJ;rw[show j8 E a=0 from iN j,iP rfl,show gZ E a=_ from iN j,C];exact J
 have e:=zI (E:=E) (a:=a) (ar:=mk.ar) (nu:=mk.nu) (b:=bj M) oM G 21 (g9 _);have S:iZ E a=some (bj M):=by
  unfold iZ;rw[g,u,Q,iN (by rintro (h|h);cases h;omega),e,nS oM]
 have Y:ic E a=0:=by unfold ic;rw[S];rfl
 have A:fV E a=bj M:=by unfold fV;rw[S];rfl
 refine⟨by rw[W];exact d,U,?_,?_,?_,?_⟩
 ·rw[C];show(aK D a).q+1<=_;omega
 ·rw[g,x];omega
 ·unfold mu
  rw[Y,iP rfl,A,Eo H]
 ·intro _
  rw[A];exact Qv H
theorem Calm.La(h:Calm D){O M:Nat->Rg}{K:Int}(S:Vt D a O K)(hK:K<4294967290)(H:MI M):
 (qj D a (bj M)=0/\Calm (fG D a (bj M))/\(fG D a (bj M)).n=D.n/\Vt (fG D a (bj M)) a M (K+1)/\∀j,(j<a\/a+44<=j)->(fG D a (bj M)).read j=D.read j)\/
 (qj D a (bj M)=43/\kN (fG D a (bj M)) (λE=>E.n=D.n/\(Vt E a M (K+1)\/Vt E a O K)/\∀j,(j<a\/a+44<=j)->E.read j=D.read j)):=by
 have hm:=iz h.db.b a;have M0:=H.Uo.pl;have F0:=H.Uo.pb;have Q:=S.r;have L0:(cP D a (bj M)).ar=1-(cJ D a).ar:=rfl;have N:((bj M).length+42)/43<=21:=oM
 have I:¬(cJ D a).nu=4294967295:=by have:=S.nu;omega
 have G0:=(tY h.db.b a).1;have x:∀(E:DS) (j:Int),j<0->E.n=D.n->E.read j=D.read j:=λE j N W=>by unfold DS.read;rw[iP oM,iP oM]
 have B:=h.Xg (a:=a) (ar:=(cP D a (bj M)).ar) (nu:=(cP D a (bj M)).nu) (b:=bj M) Q oM F0 (((bj M).length+42)/43) N;have Y:(cG D a (bj M)).2=0->qj D a (bj M)=g7 (cG D a (bj M)).1.sync a (eX (cP D a (bj M))):=λZ=>(iN I).trans (iP Z);have P:(cG D a (bj M)).2=0->fG D a (bj M)=cE (cG D a (bj M)).1.sync a (eX (cP D a (bj M))):=λZ=>(iN I).trans (iP Z);have q:¬(cG D a (bj M)).2=0->qj D a (bj M)=(cG D a (bj M)).2:=λZ=>(iN I).trans (iN Z);have g:¬(cG D a (bj M)).2=0->fG D a (bj M)=(cG D a (bj M)).1:=λZ=>(iN I).trans (iN Z);have B:((cG D a (bj M)).2=0/\OS D (cG D a (bj M)).1 (kP a (cP D a (bj M)).ar)/\∀i:Nat,i<((bj M).length+42)/43->(cG D a (bj M)).1.read (If a (cP D a (bj M)).ar i)=aP (((i:Nat):Int)+1) (cP D a (bj M)).nu (iF (bj M) i))\/
  ((cG D a (bj M)).2=43/\kN (cG D a (bj M)).1 (λE=>E.n=D.n/\∀j:Int,0<=j->¬kP a (cP D a (bj M)).ar j.toNat->E.read j=D.read j)):=B
 have vr:∀E:DS,E.n=D.n->(∀j:Int,0<=j->¬kP a (cP D a (bj M)).ar j.toNat->E.read j=D.read j)->E.n=D.n/\(Vt E a M (K+1)\/Vt E a O K)/\∀j,(j<a\/a+44<=j)->E.read j=D.read j:=by
  intro E W G;have F:=G a oM acP;have r:=G (a+1) oM acP;refine⟨W,.inr (S.same W (S.s.same F r) (fS F r) (λi z=>G _ oM acP)),λj N=> ?_⟩;by_cases d:0<=j
  ·exact G j d acP
  ·exact x E j oM W
 generalize cG D a (bj M)=hr at B Y P q g;rcases B with⟨t,A,g3⟩|⟨t,A⟩
 ·have Y:=Y t
  have P:=P t;rw[Y,P];rcases A.sync with⟨U,o,R⟩|A0
  ·
   have G:∀j:Int,0<=j->¬kP a (cP D a (bj M)).ar j.toNat->hr.1.sync.read j=D.read j:=λj d N=>(R j).trans (A.rd j d N);have F:=G a oM acP;have r:=G (a+1) oM acP;have u:=fS F r;have J:=S.s.same F r;have E0:∀i:Nat,i<((bj M).length+42)/43->hr.1.sync.read (If a (cP D a (bj M)).ar i)=aP (((i:Nat):Int)+1) (cP D a (bj M)).nu (iF (bj M) i):=λi z=>(R _).trans (g3 i z);have B0:∀j,(j<a\/a+44<=j)->hr.1.sync.read j=D.read j:=by
    intro j N;by_cases d:0<=j
    ·exact G j d acP
    ·exact x _ j oM o
   have I0:Vt hr.1.sync a O K:=S.same o J u (λi z=>G _ oM acP);have l:∀(E:DS) (p:Int),E.n=hr.1.sync.n->jm E a->aK E a=⟨p,(aK hr.1.sync a).q+1,eX (cP D a (bj M))⟩->(∀j,j≠a->j≠a+1->E.read j=hr.1.sync.read j)->Vt E a M (K+1):=by
    intro E p W hs T H0;rw[u]at T;refine Xb h.db.b H Q (W.trans o) hs G0 S.q S.nu hK T (λi z=> ?_);have J0:If a (cP D a (bj M)).ar i=a+2+(cP D a (bj M)).ar*21+(i:Nat):=rfl;rw[H0 _ oM oM];exact E0 i z
   have e:∀E:DS,(∀j,j≠a->j≠a+1->E.read j=hr.1.sync.read j)->∀j,(j<a\/a+44<=j)->E.read j=D.read j:=λE he j N=>(he j oM oM).trans (B0 j N);rcases U.save (a:=a) (b:=eX (cP D a (bj M))) (by rw[o];omega) (by rw[qi];omega) (rN _) J (by rw[u];have:=S.q;omega)with⟨c,L,n,s4,s5,w⟩|⟨c,L⟩
   ·exact .inl ⟨c,L,n.trans o,l _ _ n s5 s4 w,e _ w⟩
   ·refine .inr ⟨c,L.mono (λE _ _ ⟨t1,t2,t3,t4⟩=>⟨t1.trans o,?_,e _ t4⟩)⟩
    rcases t2 with t2|t2
    ·exact .inl (l _ _ t1 t3 t2 t4)
    ·exact .inr (I0.same t1 t3 t2 (λi _=>t4 _ (by have:=(iz U.db.b a);omega) (by have:=(iz U.db.b a);omega)))
  ·
   have C0:hr.1.sync.n=D.n:=(DS.kI _).trans A.n;have y:kN (cE hr.1.sync a (eX (cP D a (bj M)))) (λE=>E.n=D.n/\∀j:Int,0<=j->¬kP a (cP D a (bj M)).ar j.toNat->E.read j=D.read j)/\g7 hr.1.sync a (eX (cP D a (bj M)))=43:=by
    have X:¬(aK hr.1.sync a).q=4294967295:=by
     have F:hr.1.sync.read a=D.read a:=by
      have:hr.1.sync.read a=hr.1.read a:=by unfold DS.read;rw[DS.kI];unfold DS.at_;rw[DS.vX]
      rw[this];exact A.rd a oM acP
     have r:hr.1.sync.read (a+1)=D.read (a+1):=by
      have:hr.1.sync.read (a+1)=hr.1.read (a+1):=by unfold DS.read;rw[DS.kI];unfold DS.at_;rw[DS.vX]
      rw[this];exact A.rd (a+1) oM acP
     rw[fS F r];have:=S.q;omega
    have hI:=oC hr.1.sync a;have K0:(lL hr.1.sync a (eX (cP D a (bj M)))).length=64:=dE _ _ (by rw[qi];omega);have D0:hr.1.sync.sync.n=D.n:=(DS.kI _).trans C0;obtain⟨w1,w2⟩:=A0.sync.write (i:=dh hr.1.sync a) (b:=lL hr.1.sync a (eX (cP D a (bj M)))) oM (by rw[D0];omega) oM;have C:qb hr.1.sync a (eX (cP D a (bj M)))=43:=(iN X).trans w1;have hD:qn hr.1.sync a (eX (cP D a (bj M)))=_:=iN X;have k:¬qb hr.1.sync a (eX (cP D a (bj M)))=0:=by rw[C];decide
    refine⟨?_,(iN k).trans C⟩;rw[show cE hr.1.sync a (eX (cP D a (bj M)))=_ from(iN k).trans hD];exact w2
   exact .inr ⟨y.2,y.1.mono (λE _ _ ⟨t1,t2⟩=>vr E t1 t2)⟩
 ·have V:¬hr.2=0:=by rw[t];decide
  rw[q V,g V];exact .inr ⟨t,A.mono (λE _ _ ⟨t1,t2⟩=>vr E t1 t2)⟩
def na(c:Int):Int->List lV->Prop
 |low,[]=>low<=c
 |low,x::r=>low<=x.1/\na c x.1 r
theorem na.le{c:Int}:∀{l:List lV} {low:Int},na c low l->low<=c
 |[],_,h=>h
 |_::_,_,h=>xK h.1 h.2.le
theorem na.mono{c a:Int}(Y:c<=a):∀{l:List lV} {low:Int},na c low l->na a low l
 |[],_,h=>xK h Y
 |_::_,_,h=>⟨h.1,h.2.mono Y⟩
theorem na.oU{c:Int}(b:LI):∀{l:List lV} {low:Int},na c low l->na c low (l++[(c,b)])
 |[],_,h=>⟨h,ef _⟩
 |_::_,_,h=>⟨h.1,h.2.oU b⟩
theorem na.last{c:Int}:∀{l:List lV} {low:Int},na c low l->(l.getLast?.map Prod.fst).getD low<=c
 |[],_,h=>h
 |[x],_,h=>h.2
 |_::y::r,_,h=>by
  have:=na.last (l:=y::r) h.2;rw[List.getLast?_cons_cons]
  cases u:(y::r).getLast? with
  |none=>simp at u
  |some z=>rw[u]at this;exact this
theorem OH(Z:0<=J.first/\J.first<4294967296)(V:0<=J.ep/\J.ep<4294967296)(M:0<=J.low/\J.low<4294967296):(kQ J.slot).1=J.first/\(mD J.slot).1=J.ep/\(mB J.slot).1=J.low/\(mB J.slot).2.kx=0:=by
 have i:(256:Int)^4=4294967296:=dC
 have S:kQ J.slot=(J.first,⟨aT J.ep 4++(aT J.low 4++[]),false⟩):=by
  show(Rd.mk J.slot false).num ((4:Nat):Int)=_;rw[show J.slot=aT J.first 4++(aT J.ep 4++(aT J.low 4++[]))by unfold JM.slot;rw[nX,rX]];exact ei Z.1 (by rw[i];exact Z.2) oM oM _
 have P:mD J.slot=(J.ep,⟨aT J.low 4++[],false⟩):=by
  show(kQ J.slot).2.num ((4:Nat):Int)=_;rw[S];exact ei V.1 (by rw[i];exact V.2) oM oM _
 have t:mB J.slot=(J.low,⟨[],false⟩):=by
  show(mD J.slot).2.num ((4:Nat):Int)=_;rw[P];exact ei M.1 (by rw[i];exact M.2) oM oM _
 rw[S,P,t];exact⟨rfl,rfl,rfl,rfl⟩
structure Below(q e:Int)(s:LI):Prop where
 a:kX s<=e
 p:np s<=e
 u:mv s<q
 g:jh s<q
theorem Below.next{q M e:Int}{s:LI}(h:Below q e s)(C:s.length=64)(B:Bytes s)(d:q<=M):nA M e s:=
 ⟨C,B,h.a,h.p,λx=>absurd x (by have Z:=h.g;omega),λx=>by have:=h.u;have:=x.2;omega⟩
theorem Below.mono{q M e A:Int}{s:LI}(h:Below q e s)(d:q<=M)(Y:e<=A):Below M A s:=
 ⟨xK h.a Y,xK h.p Y,Yv h.u d,Yv h.g d⟩
structure Jt(D:DS)(J:JM)(K T d:Int):Prop where
 ok:vR J
 r:J.at_+2+(J.n:Int)<=(D.n:Int)
 s:jm D J.at_
 q:1<=(aK D J.at_).q/\(aK D J.at_).q<=K
 b:(aK D J.at_).b=J.slot
 f:1<=J.first/\J.first+(J.held.length:Nat)<=K
 e:J.ep<=T
 c:na J.ep J.low J.held
 h:∀(k:Nat) (x:lV),J.held[k]? =some x->cn D (J.at_+2+(J.first+(k:Nat))%(J.n:Nat))=⟨J.first+(k:Nat),x.1,x.2,true⟩
 o:∀i:Nat,i<J.n->((i:Nat):Int)≠J.next%(J.n:Nat)->Below J.next J.ep (D.read (J.at_+2+(i:Nat)))
 x:nA J.next (J.ep+d) (D.read (J.sec J.next))
theorem Jt.mono{K b T T' d:Int}(h:Jt D J K T d)(F:K<=b)(R:T<=T'):Jt D J b T' d:=
 ⟨h.ok,h.r,h.s,⟨h.q.1,xK h.q.2 F⟩,h.b,⟨h.f.1,xK h.f.2 F⟩,xK h.e R,h.c,h.h,h.o,h.x⟩
theorem Jt.rest(h:Jt D J K T 0):Jt D J K T 1:=
 ⟨h.ok,h.r,h.s,h.q,h.b,h.f,h.e,h.c,h.h,h.o,h.x.mono oM⟩
theorem iK(h:vR J)(q:Int):0<=q%(J.n:Int)/\q%(J.n:Int)<(J.n:Int):=by
 have:=h.n0;exact⟨Sz _ oM,Uz _ oM⟩
theorem Jt.alike{D E:DS}{K T d:Int}(h:Jt D J K T d)(W:E.n=D.n)(G:∀j,J.at_<=j->j<J.at_+2+(J.n:Int)->E.read j=D.read j):Jt E J K T d:=by
 have u:=h.ok.n0;have F:=G J.at_ oM oM;have N:=G (J.at_+1) oM oM;have C:=fS F N;refine⟨h.ok,by rw[W];exact h.r,h.s.same F N,by rw[C];exact h.q,by rw[C];exact h.b,h.f,h.e,h.c,λk x B=> ?_,λi z I=> ?_,?_⟩
 ·have:=iK h.ok (J.first+(k:Nat))
  rw[nW (G _ oM oM)];exact h.h k x B
 ·rw[G _ oM oM]
  exact h.o i z I
 ·have:=iK h.ok J.next
  have U:J.sec J.next=J.at_+2+J.next%(J.n:Nat):=rfl;rw[G _ oM oM];exact h.x
theorem Fk{D:DS}{a:Int}{n:Nat}{first c:Int}(held:List lV)(H:∀(k:Nat) (x:lV),held[k]? =some x->cn D (a+2+(first+(k:Nat))%(n:Nat))=⟨first+(k:Nat),x.1,x.2,true⟩)
 (J:∀low,qh (kS D a n first held.length) (first+(held.length:Nat)) low c=false):∀(rest b:List lV) (f:Nat) (low:Int),held=b++rest->rest.length<=f->na c low rest->nF D a n first c f low b=held
 |[],b,0,_,Y,_,_=>by rw[Y,rX];rfl
 |[],b,f+1,low,Y,_,_=>by
  rw[rX]at Y;subst Y;exact vg (J low)
 |x::r,b,0,_,_,C,_=>by simp at C
 |x::r,b,f+1,low,Y,C,d=>by
  have F:held[b.length]? =some x:=by rw[Y,OU (g9 _),UC];rfl
  have o:kS D a n first b.length=⟨first+(b.length:Nat),x.1,x.2,true⟩:=H _ _ F;have Z:=d.1;have V:=d.2.le;have U:qh (kS D a n first b.length) (first+(b.length:Nat)) low c=true:=by
   rw[o];unfold qh;show(true&& !((first+(b.length:Nat)) !=(first+(b.length:Nat)))&& !decide (x.1<low)&& !decide (x.1>c))=true;rw[show((first+((b.length:Nat):Int)) !=(first+(b.length:Nat)))=false by simp,decide_eq_false (by omega),decide_eq_false (by omega)]
   rfl
  rw[zS U,o];exact Fk held H J r (b++[x]) f x.1 (by rw[Y,nX];rfl) (by simp at C;omega) d.2
theorem nA.stop{q e low c:Int}{s:LI}(h:nA q e s):qh (cQ s) q low c=false:=by
 unfold qh
 cases a:jS s with
 |false=>rw[mS a];rfl
 |true=>
  rw[pV a];have I:mv s≠q:=λe=>h.n ⟨a,e⟩;show(true&& !(mv s !=q)&&_&&_)=false;rw[show(mv s !=q)=true by simpa using I]
  rfl
def JM.up(J:JM):JM:={J with ep:=J.ep+1}
theorem Jt.found(h:Jt D J K T 1)(_hT:T<=1000):j8 D J.at_=0/\vF (gZ D J.at_)=true/\bZ D J.at_ J.n={J with held:=[]}/\ig D J.at_ J.n=J.up:=by
 have d:¬(aK D J.at_).q=0:=by have:=h.q.1;omega
 have q:j8 D J.at_=0:=iN d;have M:gZ D J.at_=J.slot:=(iN d).trans h.b;have P:=h.ok;have Y:=h.e;obtain⟨x,r,u,Q⟩:=OH (J:=J) (by have:=P.f0;omega) P.e0 P.l0;have H:bZ D J.at_ J.n={J with held:=[]}:=by
  unfold bZ;rw[iP q,M,x,r,u]
 refine⟨q,?_,H,?_⟩
 ·rw[M]
  unfold vF;rw[x,r,u,Q];have:=h.f.1;have:=h.c.le;rw[decide_eq_true (by omega),decide_eq_true (by omega)]
  rfl
 ·have A:({J with held:=[]}:JM).scan D=J.held:=by
   show nF D J.at_ J.n J.first J.ep J.n J.low []=J.held;refine Fk J.held h.h (λlow=> ?_) J.held [] J.n J.low rfl P.h0 h.c;exact h.x.stop
  unfold ig tF;rw[H,A]
  rfl
theorem vR.up(h:vR J)(Y:J.ep<=1000):vR J.up:=⟨h.a0,h.n0,h.f0,by show 0<=J.ep+1/\J.ep+1<_;have:=h.e0;omega,h.l0,h.h0,h.b0⟩
theorem Jt.Pe{D E:DS}{J J':JM}{K T T' d d' p:Int}(h:Jt D J K T d)(b:vR J')(Q:J'.at_=J.at_)(c:J'.n=J.n)(B:J'.next=J.next)(R:J.ep<=J'.ep)(q:J.ep+d<=J'.ep+d')(A:J'.ep<=T')
 (a:1<=J'.first/\J'.first+(J'.held.length:Nat)<=K) (Y:na J'.ep J'.low J'.held)
 (H:∀(k:Nat) (x:lV),J'.held[k]? =some x->cn D (J'.at_+2+(J'.first+(k:Nat))%(J'.n:Nat))=⟨J'.first+(k:Nat),x.1,x.2,true⟩)
 (W:E.n=D.n) (U:jm E J.at_) (C:aK E J.at_=⟨p,(aK D J.at_).q+1,J'.slot⟩) (G:∀j,j≠J.at_->j≠J.at_+1->E.read j=D.read j):Jt E J' (K+1) T' d':=by
 have P:=h.q;refine⟨b,by rw[Q,c,W];exact h.r,by rw[Q];exact U,?_,by rw[Q,C],⟨a.1,oM⟩,A,Y,λk x F=> ?_,λi z I=> ?_,?_⟩
 ·rw[Q,C]
  show 1<=(aK D J.at_).q+1/\(aK D J.at_).q+1<=K+1;omega
 ·have:=iK b (J'.first+(k:Nat))
  rw[nW (G _ oM oM)];exact H k x F
 ·rw[B,c]at I
  rw[c]at z;rw[B,Q,G _ oM oM];exact(h.o i z I).mono (ef _) R
 ·have e:J'.sec J'.next=J.sec J.next:=by unfold JM.sec;rw[B,Q,c]
  have:=iK h.ok J.next;have U:J.sec J.next=J.at_+2+J.next%(J.n:Nat):=rfl;rw[e,B,G _ oM oM];exact h.x.mono q
theorem JM.ME(J:JM):J.trim.next=J.next:=by
 show J.first+(J.held.length:Nat)+((0:Nat):Int)=J.first+(J.held.length:Nat);omega
theorem Jt.ZA(h:Jt D J K T 0)(y:Calm D)(l:K<=4000000000):
 (g7 D J.at_ J.trim.slot=0/\Calm (cE D J.at_ J.trim.slot)/\(cE D J.at_ J.trim.slot).n=D.n/\Jt (cE D J.at_ J.trim.slot) J.trim (K+1) T 0/\∀j,j≠J.at_->j≠J.at_+1->(cE D J.at_ J.trim.slot).read j=D.read j)\/
 (g7 D J.at_ J.trim.slot=43/\kN (cE D J.at_ J.trim.slot) (λE=>E.n=D.n/\(Jt E J.trim (K+1) T 0\/Jt E J K T 0)/\∀j,j≠J.at_->j≠J.at_+1->E.read j=D.read j)):=by
 have u:=h.ok.n0;have r:=h.ok.a0;have H:=h.r;have P:=h.f;have mk:∀(E:DS) (p:Int),E.n=D.n->jm E J.at_->aK E J.at_=⟨p,(aK D J.at_).q+1,J.trim.slot⟩->(∀j,j≠J.at_->j≠J.at_+1->E.read j=D.read j)->Jt E J.trim (K+1) T 0:=λE p W U C G=>
  h.Pe (J':=J.trim) (h.ok.trim oM) rfl rfl J.ME (ef _) (ef _) h.e ⟨by show 1<=J.first+_;omega,by show J.first+(J.held.length:Nat)+((0:Nat):Int)<=K;omega⟩ h.c.last (λk x F=>by simp[JM.trim]at F) W U C G
 rcases y.save (a:=J.at_) (b:=J.trim.slot) oM (by rw[JM.qU];omega) J.trim.pS h.s (by have:=h.q;omega)with⟨O,d,n,w,c,e⟩|⟨O,d⟩
 ·exact .inl ⟨O,d,n,mk _ _ n c w e,e⟩
 ·refine .inr ⟨O,d.mono (λE _ _ ⟨t1,t2,t3,t4⟩=>⟨t1,?_,t4⟩)⟩
  rcases t2 with t2|t2
  ·exact .inl (mk _ _ t1 t3 t2 t4)
  ·refine .inr ⟨h.ok,by rw[t1];exact h.r,t3,by rw[t2];exact h.q,by rw[t2];exact h.b,h.f,h.e,h.c,λk x F=> ?_,λi z I=> ?_,?_⟩
   ·have:=iK h.ok (J.first+(k:Nat))
    rw[nW (t4 _ oM oM)];exact h.h k x F
   ·rw[t4 _ oM oM]
    exact h.o i z I
   ·have:=iK h.ok J.next
    have U:J.sec J.next=J.at_+2+J.next%(J.n:Nat):=rfl;rw[t4 _ oM oM];exact h.x
theorem XO{q:Int}{k m:Nat}(F:k<m)(_hm:m<=n)(_hn:1<=n)(h:(q+(k:Nat))%(n:Int)=(q+(m:Nat))%(n:Int)):k=0/\m=n\/(m-k)%n=0:=by
 refine .inr ?_;have Z:((q+(m:Nat))-(q+(k:Nat)))%(n:Int)=0:=by
  rw[Int.sub_emod,h,Int.sub_self,Int.zero_emod]
 have V:(q+((m:Nat):Int))-(q+(k:Nat))=((m-k:Nat):Int):=oM
 rw[V]at Z;omega
theorem Jt.apart{K T d:Int}(h:Jt D J K T d)(B:J.held.length<J.n)(F:k<J.held.length):(J.first+(k:Nat))%(J.n:Int)≠J.next%(J.n:Int):=by
 intro Y;have u:=h.ok.n0;have Y:(J.first+(k:Nat))%(J.n:Int)=(J.first+(J.held.length:Nat))%(J.n:Int):=Y;rcases XO (q:=J.first) F (Nat.le_of_lt B) oM Y with Z|Z
 ·omega
 ·have:(J.held.length-k)%J.n=J.held.length-k:=Wg oM
  omega
theorem vR.oU(h:vR J)(C:b.length<=43)(Y:Bytes b)(M:J.held.length<J.n):vR (J.oU b):=by
 refine⟨h.a0,h.n0,h.f0,h.e0,h.l0,?_,λx B=> ?_⟩
 ·show(J.held++[(J.ep,b)]).length<=J.n
  rw[eG];exact M
 ·rcases lU.1 B with B|B
  ·exact h.b0 x B
  ·rw[lA.1 B]
   exact⟨C,Y,h.e0⟩
theorem JM.zm(J:JM)(b:LI):(J.oU b).next=J.next+1:=by
 show J.first+((J.held++[(J.ep,b)]).length:Nat)=J.first+(J.held.length:Nat)+1;rw[eG];show J.first+((J.held.length+1:Nat):Int)=_;omega
theorem Jt.Ri{D E:DS}(h:Jt D J K T 0)(y:Calm D)(C:b.length<=43)(B:Bytes b)(M:J.held.length<J.n)(L:K<4294967290)(W:E.n=D.n)
 (G:∀j,0<=j->E.read j=if j=J.sec J.next then aP J.next J.ep b else D.read j):Jt E (J.oU b) (K+1) T 0:=by
 have u:=h.ok.n0;have r:=h.ok.a0;have H:=h.r;have a:=h.f;have n:=h.ok.e0;have X:J.next=J.first+(J.held.length:Nat):=rfl;have z:=iK h.ok J.next;have U:J.sec J.next=J.at_+2+J.next%(J.n:Nat):=rfl;have Q:=(G J.at_ oM).trans (iN oM);have N:=(G (J.at_+1) oM).trans (iN oM);have S:=fS Q N;obtain⟨f0,f1,f2,f3,f4⟩:=qw (q:=J.next) (e:=J.ep) (b:=b) oM n C;have w:∀i:Nat,i<J.n->Below (J.next+1) J.ep (E.read (J.at_+2+(i:Nat))):=by
  intro i c;rw[G _ oM];by_cases Y:J.at_+2+((i:Nat):Int)=J.sec J.next
  ·rw[iP Y]
   exact⟨oM,oM,oM,oM⟩
  ·rw[iN Y]
   exact(h.o i c oM).mono oM (ef _)
 refine⟨h.ok.oU C B M,by rw[W];exact h.r,h.s.same Q N,?_,?_,⟨a.1,?_⟩,h.e,h.c.oU b,λk x F=> ?_,λi c _=> ?_,?_⟩
 ·show 1<=(aK E J.at_).q/\(aK E J.at_).q<=K+1
  rw[S];have:=h.q;omega
 ·show(aK E J.at_).b=J.slot
  rw[S];exact h.b
 ·show J.first+((J.held++[(J.ep,b)]).length:Nat)<=K+1
  rw[eG];show J.first+((J.held.length+1:Nat):Int)<=K+1;omega
 ·have F:(J.held++[(J.ep,b)])[k]? =some x:=F
  show cn E (J.at_+2+(J.first+(k:Nat))%(J.n:Nat))=_;have l:=iK h.ok (J.first+(k:Nat));by_cases o:k<J.held.length
  ·rw[Uu o]at F
   have I:=h.apart M o;rw[nW ((G _ oM).trans (iN oM))];exact h.h k x F
  ·rw[OU oM]at F
   have A:k-J.held.length=0:=by
    rcases Ox (k-J.held.length)with Z|Z
    ·exact Z
    ·rw[KP acC]at F;cases F
   obtain rfl:k=J.held.length:=oM
   rw[UC]at F;obtain rfl:(J.ep,b)=x:=Ps F;unfold cn;rw[G _ oM];rw[iP (by rw[U];rfl)];exact lW oM n C
 ·rw[JM.zm]
  exact w i c
 ·have e:(J.oU b).sec (J.oU b).next=J.at_+2+(J.next+1)%(J.n:Nat):=by unfold JM.sec;rw[JM.zm];rfl
  have l:=iK h.ok (J.next+1);rw[e,JM.zm];obtain⟨i,g⟩:∃i:Nat,((i:Nat):Int)=(J.next+1)%(J.n:Nat):=⟨((J.next+1)%(J.n:Nat)).toNat,oM⟩;rw[<-g];have V:=w i oM;have d:(E.read (J.at_+2+(i:Nat))).length=64/\Bytes (E.read (J.at_+2+(i:Nat))):=by
   rw[G _ oM]
   split
   ·exact⟨dE _ _ C,er _ _ B⟩
   ·exact⟨rH y.db.ok oM oM,DS.fU y.db.b _⟩
  show nA (J.next+1) (J.ep+0) _;rw[WY];exact V.next d.1 d.2 (ef _)
theorem Jt.WW{D E:DS}{t:LI}(h:Jt D J K T 0)(B:J.held.length<J.n)(W:E.n=D.n)(R:nA J.next (J.ep+1) t)
 (G:∀j,0<=j->E.read j=if j=J.sec J.next then t else D.read j):Jt E J K T 1:=by
 have u:=h.ok.n0;have r:=h.ok.a0;have H:=h.r;have z:=iK h.ok J.next;have U:J.sec J.next=J.at_+2+J.next%(J.n:Nat):=rfl;have o:=(G J.at_ oM).trans (iN oM);have N:=(G (J.at_+1) oM).trans (iN oM);have S:=fS o N;refine⟨h.ok,by rw[W];exact h.r,h.s.same o N,by rw[S];exact h.q,by rw[S];exact h.b,h.f,h.e,h.c,λk x F=> ?_,λi c I=> ?_,?_⟩
 ·have Q:=iK h.ok (J.first+(k:Nat))
  have I:=h.apart B (lQ.1 F).1;rw[nW ((G _ oM).trans (iN oM))];exact h.h k x F
 ·rw[G _ oM,iN oM]
  exact h.o i c I
 ·rw[G _ oM,iP rfl]
  exact R
theorem Jt.aaU(h:Jt D J K T 0)(y:Calm D)(C:b.length<=43)(B:Bytes b)(N:J.held.length<J.n)(d:K<4294967290)(U:T<256):
 (CQ D J b=0/\Calm (rY D J b)/\(rY D J b).n=D.n/\Jt (rY D J b) (J.oU b) (K+1) T 0/\∀j,j<J.at_+2->(rY D J b).read j=D.read j)\/
 (CQ D J b=43/\kN (rY D J b) (λE=>E.n=D.n/\(Jt E (J.oU b) (K+1) T 1\/Jt E J K T 1)/\∀j,j<J.at_+2->E.read j=D.read j)):=by
 have u:=h.ok.n0;have Q:=h.ok.a0;have Z:=h.r;have a:=h.f;have n:=h.ok.e0;have F:=h.e;have O:J.next=J.first+(J.held.length:Nat):=rfl;have V:=iK h.ok J.next;have I:J.sec J.next=J.at_+2+J.next%(J.n:Nat):=rfl;have P:(aP J.next J.ep b).length=64:=dE _ _ C;have r:∀(E:DS) (j:Int),j<0->E.n=D.n->E.read j=D.read j:=λE j H W=>by unfold DS.read;rw[iP oM,iP oM]
 have c:∀(E:DS) (t:LI),E.n=D.n->(∀j,0<=j->E.read j=if j=J.sec J.next then t else D.read j)->∀j,j<J.at_+2->E.read j=D.read j:=by
  intro E t W G j H;by_cases z:0<=j
  ·rw[G j z,iN oM]
  ·exact r E j oM W
 rcases y.one (i:=J.sec J.next) (b:=aP J.next J.ep b) oM oM P (er _ _ B)with⟨l,w⟩|⟨l,Y⟩
 ·have M:J.wE D b=0:=l
  have S:rY D J b=(D.write (J.sec J.next) (aP J.next J.ep b)).sync:=iP M;rcases w with⟨L,A,X⟩|g
  ·refine .inl ⟨?_,by rw[S];exact L,by rw[S];exact A,by rw[S];exact h.Ri y C B N d A X,by rw[S];exact c _ _ A X⟩
   unfold CQ;rw[S,L.dn];exact M
  ·refine .inr ⟨?_,?_⟩
   ·unfold CQ
    rw[S,g.dn]
    rfl
   ·rw[S]
    refine g.mono (λE _ _ ⟨t1,p,o,t2⟩=>⟨t1,?_,c _ _ t1 t2⟩);rcases OG (q:=J.next) (e:=J.ep) (b:=b) (s:=D.read (J.sec J.next)) (p:=p) oM oM C B o (by have:=h.x;rw[WY]at this;exact this)with R|R
    ·rw[R]at t2
     exact .inl (h.Ri y C B N d t1 t2).rest
    ·exact .inr (h.WW N t1 R t2)
 ·have M:J.wE D b=43:=l
  have k:¬J.wE D b=0:=by rw[M];decide
  have S:rY D J b=D.write (J.sec J.next) (aP J.next J.ep b):=iN k;refine .inr ⟨?_,?_⟩
  ·unfold CQ
   rw[S,Y.dn]
   rfl
  ·rw[S]
   exact Y.mono (λE _ _ ⟨t1,t2⟩=>⟨t1,.inr (h.alike t1 (λj _ _=>t2 j)).rest,λj _=>t2 j⟩)
structure HzB(D:DS)(a:Int)(ring:Nat)(J:JM)(O M:Nat->Rg)(K T d:Int):Prop where
 v:Vt D a O K
 j:Jt D J K T d
 at_:J.at_=a+44
 g:J.n=ring
 m:MI M
 p:gU O J.all=M
 d:∀b∈J.all,oc b=0/\Fx M (pY b)
def Hz(D:DS)(a:Int)(ring:Nat)(J:JM)(M:Nat->Rg)(K T d:Int):Prop:=∃O,HzB D a ring J O M K T d
theorem Hz.mono{K b T T' d:Int}(h:Hz D a ring J M K T d)(F:K<=b)(R:T<=T'):Hz D a ring J M b T' d:=by
 obtain⟨O,h⟩:=h;exact⟨O,h.v.mono F,h.j.mono F R,h.at_,h.g,h.m,h.p,h.d⟩
theorem Hz.rest(h:Hz D a ring J M K T 0):Hz D a ring J M K T 1:=by
 obtain⟨O,h⟩:=h;exact⟨O,h.v,h.j.rest,h.at_,h.g,h.m,h.p,h.d⟩
theorem Hz.alike{D E:DS}{K T d:Int}(h:Hz D a ring J M K T d)(B:Bytes D.seen)(W:E.n=D.n)(G:∀j,E.read j=D.read j):Hz E a ring J M K T d:=by
 obtain⟨O,h⟩:=h;exact⟨O,h.v.alike B W (λj _ _=>G j),h.j.alike W (λj _ _=>G j),h.at_,h.g,h.m,h.p,h.d⟩
def Rest(D:DS)(a:Int)(ring:Nat)(M:Nat->Rg)(K T:Int):Prop:=∃J,Hz D a ring J M K T 1
theorem Rest.mono{K b T T':Int}(h:Rest D a ring M K T)(F:K<=b)(R:T<=T'):Rest D a ring M b T':=by
 obtain⟨J,h⟩:=h;exact⟨J,h.mono F R⟩
structure Up(s:SM)(a:Int)(ring:Nat)(K T:Int):Prop where
 dn:s.dn=false
 c:Calm s.D
 h:Hz s.D a ring s.J s.M K T 0
theorem Up.mono{K b T T':Int}(h:Up s a ring K T)(F:K<=b)(R:T<=T'):Up s a ring b T':=⟨h.dn,h.c,h.h.mono F R⟩
theorem Up.mi(h:Up s a ring K T):MI s.M:=by
 obtain⟨O,h⟩:=h.h;exact h.m
theorem Up.sok(h:Up s a ring K T)(l:K<=4000000000)(F:Nat):Yr s a ring F:=by
 obtain⟨O,H⟩:=h.h;have Z:=H.v.r;have V:=H.j.r;have M:=H.j.f;have Q:=H.at_;have D:=H.j.ok.n0;exact⟨h.c.MH F,H.m.Uo,H.j.ok,oM,Z,oM,H.g⟩
structure Down(s:SM)(a:Int)(ring:Nat)(N:Nat->Rg)(K T:Int):Prop where
 dn:s.dn=true
 ok:Yr s a ring 60
 c:kN s.D (λE=>E.n=s.D.n/\(Rest E a ring s.M K T\/Rest E a ring N K T))
theorem Down.mono{K b T T':Int}(h:Down s a ring N K T)(F:K<=b)(R:T<=T'):Down s a ring N b T':=
 ⟨h.dn,h.ok,h.c.mono (λ_ _ _ ⟨W,h⟩=>⟨W,h.imp (λx=>x.mono F R) (λx=>x.mono F R)⟩)⟩
theorem Up.bz(h:Up s a ring K T)(V:LI):Calm (s.D.bz V)/\Live (s.D.bz V)/\(s.D.bz V).n=s.D.n/\Rest (s.D.bz V) a ring s.M K T:=by
 obtain⟨Z,J⟩:=h.c.db.bz V;exact⟨Z,J,rfl,s.J,(Hz.alike (E:=s.D.bz V) h.h h.c.db.b rfl (λj=>h.c.zl V j)).rest⟩
theorem Down.bz(h:Down s a ring N K T)(V:LI):Calm (s.D.bz V)/\Live (s.D.bz V)/\(s.D.bz V).n=s.D.n/\(Rest (s.D.bz V) a ring s.M K T\/Rest (s.D.bz V) a ring N K T):=by
 obtain⟨Z,J⟩:=h.c.db.bz V;exact⟨Z,J,rfl,(h.c.cr V).2⟩
def DS.Bv(D:DS)(n:Int):DS:={D with gG:=n}
theorem Up.gG(h:Up s a ring K T){n:Int}(W: -9223372036854775808<=n/\n<=9223372036854775807):Up {s with D:=s.D.Bv n} a ring K T:=by
 have B:=h.c.db;refine⟨h.dn,⟨⟨⟨B.ok.n1,B.ok.n2,B.ok.hs,B.ok.hu,B.ok.hp,W.1,W.2⟩,B.b,B.u,B.p,B.so⟩,h.c.dn,h.c.pn⟩,?_⟩;exact Hz.alike (D:=s.D) (E:=s.D.Bv n) h.h B.b rfl (λ_=>rfl)
theorem Down.gG(h:Down s a ring N K T){n:Int}(W: -9223372036854775808<=n/\n<=9223372036854775807):Down {s with D:=s.D.Bv n} a ring N K T:=by
 have B:=h.c.db;have H:=h.ok;exact⟨h.dn,⟨⟨⟨B.ok.n1,B.ok.n2,B.ok.hs,B.ok.hu,B.ok.hp,W.1,W.2⟩,H.d.b,H.d.p⟩,H.m,H.j,H.f,H.a0,H.j0,H.g⟩,
  ⟨⟨⟨B.ok.n1,B.ok.n2,B.ok.hs,B.ok.hu,B.ok.hp,W.1,W.2⟩,B.b,B.u,B.p,B.so⟩,h.c.dn,h.c.cr⟩⟩
theorem Rest.open_(h:Rest D a ring M K T)(Y:Calm D)(C:Live D)(l:K<=4000000000)(A:T<=250):
 yD D a ring/\mE D a ring=M/\Up ⟨mE D a ring,lO D a ring,jY D a ring,false⟩ a ring (K+1) (T+1)/\Live (lO D a ring)/\(lO D a ring).n=D.n:=by
 obtain⟨J,O,h⟩:=h;have S:=h.v;have N:=h.j;have o:=h.at_;have u:=h.g;have G:=S.r;have P:=N.ok;have c:=P.n0;have I:=N.r;have R:=N.e;have L:=P.e0;have r:=P.a0;obtain⟨f1,f2,f3,f4⟩:=N.found oM;rw[o,u]at f3 f4;rw[o]at f1 f2;have q:jY D a ring=J.up:=f4;have y:lO D a ring=cE D (a+44) J.up.slot:=by show cE D (a+44) (ig D (a+44) ring).slot=_;rw[f4]
 have H:mE D a ring=M:=by
  unfold mE;rw[q,S.bg];exact h.p
 have t:=N.s;have i:=N.q;rw[o]at t i;obtain⟨g,k,_⟩:=C.save Y.db.b (a:=a+44) (b:=J.up.slot) oM (by rw[JM.qU];omega) oM;rcases Y.save (a:=a+44) (b:=J.up.slot) oM (by rw[JM.qU];omega) J.up.pS t oM with⟨W,d,n,w,z,e⟩|⟨W,_⟩
 ·have F:=N.f
  refine⟨⟨G,S.un,⟨oM,by rw[<-u];exact c,λ_=>f2,?_,?_,?_,?_⟩,?_⟩,H,⟨rfl,by rw[y];exact d,O,?_⟩,by rw[y];exact k,by rw[y];exact n⟩
  ·rw[f3];exact P.f0
  ·rw[f3];show 0<=J.ep/\J.ep<_;omega
  ·rw[f3];exact P.l0
  ·rw[f4];exact W
  ·intro b B
   rw[q]at B;exact(h.d b B).1
  ·show HzB (lO D a ring) a ring (jY D a ring) O (mE D a ring) (K+1) (T+1) 0
   rw[y,q,H];refine⟨(S.alike Y.db.b n (λj _ _=>e j oM oM)).mono oM,?_,o,u,h.m,h.p,h.d⟩;have:=N.Pe (J':=J.up) (T':=T+1) (d':=0) (p:=dh D (a+44)) (P.up oM) rfl rfl rfl (by show J.ep<=J.ep+1;omega) (by show J.ep+1<=J.ep+1+0;omega) (by show J.ep+1<=T+1;omega) F (N.c.mono (by show J.ep<=J.ep+1;omega)) N.h (E:=cE D (a+44) J.up.slot) n (by rw[o];exact z) (by rw[o];exact w) (λj Z V=>e j oM oM);exact this
 ·rw[g]at W;cases W
theorem yU{M:Nat->Rg}:∀(l:List (LI)),(∀b∈l,Fx M (pY b))->gU M l=M
 |[],_=>rfl
 |b::r,h=>by
  show gU (gJ M (pY b)) r=M;rw[SO (h b Je)];exact yU r (λx J=>h x (Dl _ J))
theorem Up.cp(h:Up s a ring K T)(hK:K<=3000000000):
 (zZ s.M s.D s.J a=0/\(Bl s.M s.D s.J a).held=[]/\Up (s.YF a) a ring (K+2) T/\(uA s.M s.D s.J a).n=s.D.n)\/
 (zZ s.M s.D s.J a=43/\Down (s.YF a) a ring s.M (K+2) T/\(uA s.M s.D s.J a).n=s.D.n):=by
 obtain⟨M,D,J,t⟩:=s;obtain⟨D0,Q,O,H⟩:=h;have Q:Calm D:=Q;have S:Vt D a O K:=H.v;have N:Jt D J K T 0:=H.j;have y:MI M:=H.m;have o:J.at_=a+44:=H.at_;have F0:=N.f;have F:∀b∈J.all,oc b=0/\Fx M (pY b):=H.d;have X:gU M J.all=M:=yU _ (λb Y=>(F b Y).2);have B0:=S.r;have G0:=N.r;have hN:=N.ok.n0;have r:=Qf (J:=J) (a:=a) (Q.MH 0) y.Uo;have C0:J.trim.all=[]:=rfl;have C:∀(g:JM) (c:kN (uA M D J a) (λE=>E.n=D.n/\(∃L,Hz E a ring L M (K+2) T 1))),vR g->g.first+(g.held.length:Nat)<=4000000000->g.at_=a+44->g.n=ring->Down ⟨M,uA M D J a,g,true⟩ a ring M (K+2) T:=by
  intro g c j1 j2 j3 j4;refine⟨rfl,⟨⟨r.1.ok,r.1.b,qJ r.1.p oM⟩,y.Uo,j1,j2,?_,?_,j4⟩,c.mono (λE _ _ ⟨t1,t2⟩=>⟨t1.trans r.2.symm,.inl t2⟩)⟩
  ·show 0<=a/\a+44<=((uA M D J a).n:Int)
   rw[r.2];exact B0
  ·show 0<=g.at_/\g.at_+1<((uA M D J a).n:Int)
   rw[r.2,j3];omega
 have A0:vR J.trim:=N.ok.trim oM;have w:J.trim.first+(J.trim.held.length:Nat)<=4000000000:=by show J.first+(J.held.length:Nat)+((0:Nat):Int)<=_;omega
 rcases Q.La S oM y with⟨u,p,B,x,v5⟩|⟨u,p⟩
 ·have q:VL M D a=0:=u
  have i:zZ M D J a=g7 (fG D a (bj M)) J.at_ J.trim.slot:=iP q;have l:uA M D J a=cE (fG D a (bj M)) J.at_ J.trim.slot:=iP q;have U:Bl M D J a=J.trim:=iP q;have I:Jt (fG D a (bj M)) J (K+1) T 0:=(N.alike B (λj Z _=>v5 j (.inr oM))).mono oM (ef _);generalize fG D a (bj M)=picks at*;have n:∀(E:DS) (d:Int),E.n=D.n->Jt E J.trim (K+2) T d->(∀j,j≠J.at_->j≠J.at_+1->E.read j=picks.read j)->Hz E a ring J.trim M (K+2) T d:=λE d P R G=>
   ⟨M,(x.alike p.db.b (P.trans B.symm) (λj _ _=>G j oM oM)).mono oM,R,o,H.g,y,rfl,λb Y=>by rw[C0]at Y;exact absurd Y nK⟩
  rcases I.ZA p oM with⟨t1,t2,t3,t4,t5⟩|⟨t1,t2⟩
  ·refine .inl ⟨i.trans t1,by show(Bl M D J a).held=[];rw[U];rfl,⟨?_,?_,?_⟩,r.2⟩
   ·show(zZ M D J a==43)=false
    rw[i.trans t1];rfl
   ·show Calm (uA M D J a)
    rw[l];exact t2
   ·show Hz (uA M D J a) a ring (Bl M D J a) M (K+2) T 0
    rw[l,U];exact n _ 0 (t3.trans B) (t4.mono oM (ef _)) t5
  ·have z:SM.YF ⟨M,D,J,t⟩ a=⟨M,uA M D J a,J.trim,true⟩:=by
    show SM.mk M (uA M D J a) (Bl M D J a) (zZ M D J a==43)=_;rw[i.trans t1,U]
    rfl
   refine .inr ⟨i.trans t1,?_,r.2⟩;rw[z];refine C J.trim ?_ A0 w o H.g;rw[l];refine t2.mono (λE _ _ ⟨k,W,e⟩=>⟨k.trans B,?_⟩);rcases W with W|W
   ·exact⟨J.trim,(n E 0 (k.trans B) (W.mono oM (ef _)) e).rest⟩
   ·exact⟨J,M,(x.alike p.db.b k (λj _ _=>e j oM oM)).mono oM,(W.mono oM (ef _)).rest,o,H.g,y,X,F⟩
 ·have q:VL M D a=43:=u
  have A:¬VL M D a=0:=by rw[q];decide
  have i:zZ M D J a=43:=(iN A).trans q;have l:uA M D J a=fG D a (bj M):=iN A;have U:Bl M D J a=J:=iN A;have z:SM.YF ⟨M,D,J,t⟩ a=⟨M,uA M D J a,J,true⟩:=by
   show SM.mk M (uA M D J a) (Bl M D J a) (zZ M D J a==43)=_;rw[i,U]
   rfl
  refine .inr ⟨i,?_,r.2⟩;rw[z];refine C J ?_ N.ok oM o H.g;rw[l];refine p.mono (λE _ _ ⟨k,W,e⟩=>⟨k,J,?_⟩);have V:Jt E J (K+2) T 1:=((N.alike k (λj Z _=>e j (.inr oM))).mono oM (ef _)).rest;rcases W with W|W
  ·exact⟨M,W.mono oM,V,o,H.g,y,X,F⟩
  ·exact⟨O,W.mono oM,V,o,H.g,y,H.p,F⟩
theorem GO(O:Nat->Rg)(l:List (LI))(b:LI):gU O (l++[b])=gJ (gU O l) (pY b):=by
 unfold gU;rw[XU]
 rfl
theorem Up.ap(h:Up s a ring K T)(z:K<=3500000000)(i:T<256)(Q:s.J.held.length<s.J.n)(G:r.ok)(B:Bytes r.data)(W:(aC s.M r).2=0)(Z:(aC s.M r).1=true):
 (CQ s.D s.J (aY r)=0/\(rY s.D s.J (aY r)).down=false/\Up ⟨gJ s.M r,rY s.D s.J (aY r),s.J.oU (aY r),false⟩ a ring (K+1) T/\(rY s.D s.J (aY r)).n=s.D.n)\/
 (CQ s.D s.J (aY r)=43/\(rY s.D s.J (aY r)).down=true/\Down ⟨s.M,rY s.D s.J (aY r),s.J.oU (aY r),true⟩ a ring (gJ s.M r) (K+1) T/\(rY s.D s.J (aY r)).n=s.D.n):=by
 obtain⟨M,D,J,k⟩:=s;obtain⟨A0,Y,O,H⟩:=h;have Y:Calm D:=Y;have A:Vt D a O K:=H.v;have N:Jt D J K T 0:=H.j;have y:MI M:=H.m;have o:J.at_=a+44:=H.at_;have Q:J.held.length<J.n:=Q;have B0:=N.f;have w:=A.r;have C0:=N.r;have x:=N.ok.n0;have W:(aC M r).2=0:=W;have Z:(aC M r).1=true:=Z;have U:=(oW W).w;have F:aY r=wm r:=iP U;obtain⟨d1,d2⟩:=wY G U;have p:∀b∈J.all,oc b=0/\Fx M (pY b):=H.d;have n:(J.oU (aY r)).all=J.all++[aY r]:=by show(J.held++[(J.ep,aY r)]).map Prod.snd=_;rw[xd];rfl
 have S:=y.gJ G B;have t:gU O (J.oU (aY r)).all=gJ M r:=by
  rw[n,GO,show gU O J.all=M from H.p,F,d2]
 have q:∀b∈(J.oU (aY r)).all,oc b=0/\Fx (gJ M r) (pY b):=by
  intro b V;rw[n]at V;rcases lU.1 V with V|V
  ·exact⟨(p b V).1,zq (p b V).2⟩
  ·rw[lA.1 V,F]
   exact⟨d1,by rw[d2];exact GY W Z⟩
 have c:(J.oU (aY r)).held.length=J.held.length+1:=by show(J.held++[(J.ep,aY r)]).length=_;rw[eG];rfl
 have e:∀E:DS,E.n=D.n->(∀j,j<J.at_+2->E.read j=D.read j)->Vt E a O (K+1):=λE l R=>(A.alike Y.db.b l (λj _ _=>R j oM)).mono oM;rcases N.aaU Y (yl r) (nJ B) Q oM i with⟨d,g,u,C,L⟩|⟨d,g⟩
 ·exact .inl ⟨d,g.dn,⟨rfl,g,O,e _ u L,C,o,H.g,S,t,q⟩,u⟩
 ·have P:dB (rY D J (aY r)) 60/\(rY D J (aY r)).n=D.n:=by
   obtain⟨X,I⟩:=Im (J:=J) (Y.MH 0) (nJ B);have X:dB (J.CH D (aY r)) 60:=X.mono oM;unfold rY
   split
   ·exact⟨X.sync,by rw[DS.kI];exact I⟩
   ·exact⟨X,I⟩
  refine .inr ⟨d,g.dn,⟨rfl,⟨P.1,y.Uo,N.ok.oU (yl r) (nJ B) Q,?_,?_,?_,H.g⟩,g.mono (λE _ _ ⟨t1,t2,t3⟩=>⟨t1.trans P.2.symm,?_⟩)⟩,P.2⟩
  ·show J.first+((J.oU (aY r)).held.length:Nat)<=4000000000
   rw[c];omega
  ·show 0<=a/\a+44<=((rY D J (aY r)).n:Int)
   rw[P.2];exact w
  ·show 0<=J.at_/\J.at_+1<((rY D J (aY r)).n:Int)
   rw[P.2,o];omega
  ·rcases t2 with t2|t2
   ·exact .inr ⟨_,O,e _ t1 t3,t2,o,H.g,S,t,q⟩
   ·exact .inl ⟨J,O,e _ t1 t3,t2.mono oM (ef _),o,H.g,y,H.p,p⟩
theorem Up.kd(h:Up s a ring K T)(l:K<=3000000000)(A:T<256)(G:r.ok)(X:Bytes r.data):
 (s.nH a ring r=(aC s.M r).2/\Up (s.kd a ring r) a ring (K+3) T/\(s.kd a ring r).M=(if(aC s.M r).2=0 then gJ s.M r else s.M)/\(s.kd a ring r).D.n=s.D.n)\/
 (s.nH a ring r=43/\s.lg r=true/\Down (s.kd a ring r) a ring (gJ s.M r) (K+3) T/\(s.kd a ring r).M=s.M/\(s.kd a ring r).D.n=s.D.n):=by
 have x:¬s.dn=true:=by rw[h.dn];exact gV
 by_cases C:s.lg r=true
 ·have p:=C
  unfold SM.lg at p;rw[h.dn]at p;simp only[zdr,MM,mq,beq_iff_eq]at p;obtain⟨W,Z⟩:=p;have e:s.IG a ring r=RT s.M s.D s.J a ring (aY r):=iP C;have q:s.AQ a ring r=⟨s.M,KT s.M s.D s.J a ring (aY r),Pb s.M s.D s.J a ring (aY r),OT s.M s.D s.J a ring (aY r)⟩:=iP C;have core:∀(t:SM),Up t a ring (K+2) T->t.M=s.M->t.D.n=s.D.n->t.J.held.length<t.J.n->vK s.M s.D s.J a ring=0->Au s.M s.D s.J a ring=t.D->AP s.M s.D s.J a ring=t.J->
   (s.nH a ring r=(aC s.M r).2/\Up (s.kd a ring r) a ring (K+3) T/\(s.kd a ring r).M=(if(aC s.M r).2=0 then gJ s.M r else s.M)/\(s.kd a ring r).D.n=s.D.n)\/
   (s.nH a ring r=43/\s.lg r=true/\Down (s.kd a ring r) a ring (gJ s.M r) (K+3) T/\(s.kd a ring r).M=s.M/\(s.kd a ring r).D.n=s.D.n):=by
   intro t V H u B S P j;have n:RT s.M s.D s.J a ring (aY r)=CQ t.D t.J (aY r):=by unfold RT;rw[iP S,P,j]
   have i:KT s.M s.D s.J a ring (aY r)=rY t.D t.J (aY r):=by unfold KT;rw[iP S,P,j]
   have w:Pb s.M s.D s.J a ring (aY r)=t.J.oU (aY r):=by unfold Pb;rw[iP S,j]
   have y:OT s.M s.D s.J a ring (aY r)=(rY t.D t.J (aY r)).down:=by unfold OT;rw[iP S,P,j]
   rcases V.ap oM A B G X (by rw[H];exact W) (by rw[H];exact Z)with⟨d,g,Q,I⟩|⟨d,g,Q,I⟩
   ·have d0:s.nH a ring r=(aC s.M r).2:=by
     unfold SM.nH;rw[iN x,e,n,d,iP rfl]
    have b:s.kd a ring r=⟨gJ s.M r,rY t.D t.J (aY r),t.J.oU (aY r),false⟩:=by
     unfold SM.kd;rw[d0,iP W,q,i,w,y,g]
    rw[H]at Q;exact .inl ⟨d0,by rw[b];exact Q.mono oM (ef _),by rw[b,iP W],by rw[b];exact I.trans u⟩
   ·have d0:s.nH a ring r=43:=by
     unfold SM.nH;rw[iN x,e,n,d,iN dC]
    have b:s.kd a ring r=⟨s.M,rY t.D t.J (aY r),t.J.oU (aY r),true⟩:=by
     unfold SM.kd;rw[d0,iN dC,q,i,w,y,g]
    rw[H]at Q;exact .inr ⟨d0,C,by rw[b];exact Q.mono oM (ef _),by rw[b],by rw[b];exact I.trans u⟩
  obtain⟨O,L⟩:=h.h;by_cases Y:ring<=s.J.held.length
  ·have S:vK s.M s.D s.J a ring=zZ s.M s.D s.J a:=iP Y
   have P:Au s.M s.D s.J a ring=uA s.M s.D s.J a:=iP Y;have j:AP s.M s.D s.J a ring=Bl s.M s.D s.J a:=iP Y;rcases h.cp l with⟨U,o,R,N⟩|⟨U,o,N⟩
   ·refine core (s.YF a) R rfl N ?_ (S.trans U) P j
    obtain⟨k,F⟩:=R.h;have c:=F.j.ok.n0;show(Bl s.M s.D s.J a).held.length<_;rw[o];exact c.1
   ·have z:¬vK s.M s.D s.J a ring=0:=by rw[S,U];decide
    have n:RT s.M s.D s.J a ring (aY r)=43:=by unfold RT;rw[iN z,S,U]
    have i:KT s.M s.D s.J a ring (aY r)=uA s.M s.D s.J a:=by unfold KT;rw[iN z,P]
    have w:Pb s.M s.D s.J a ring (aY r)=Bl s.M s.D s.J a:=by unfold Pb;rw[iN z,j]
    have y:OT s.M s.D s.J a ring (aY r)=true:=by unfold OT;rw[iN z,S,U];rfl
    have d0:s.nH a ring r=43:=by
     unfold SM.nH;rw[iN x,e,n,iN dC]
    have b:s.kd a ring r=s.YF a:=by
     unfold SM.kd;rw[d0,iN dC,q,i,w,y];show _=SM.mk s.M (uA s.M s.D s.J a) (Bl s.M s.D s.J a) (zZ s.M s.D s.J a==43);rw[U]
     rfl
    refine .inr ⟨d0,C,?_,by rw[b];rfl,by rw[b];exact N⟩;rw[b];exact⟨o.dn,o.ok,o.c.mono (λE _ _ ⟨t1,t2⟩=>⟨t1,.inl ((t2.elim id id).mono oM (ef _))⟩)⟩
  ·have B:s.J.held.length<s.J.n:=by rw[L.g];omega
   exact core s (h.mono oM (ef _)) rfl rfl B (iN Y) (iN Y) (iN Y)
 ·have e:s.IG a ring r=0:=iN C
  have q:s.AQ a ring r=s:=iN C;have d0:s.nH a ring r=(aC s.M r).2:=by
   unfold SM.nH;rw[iN x,iP e]
  have H:gJ s.M r=s.M:=by
   unfold gJ;refine iN (λY=>C ?_);unfold SM.lg;rw[h.dn,Y.1,Y.2]
   rfl
  have b:s.kd a ring r=s:=by
   unfold SM.kd;rw[q,H];obtain⟨M,D,J,dn⟩:=s
   split<;>rfl
  refine .inl ⟨d0,by rw[b];exact h.mono oM (ef _),?_,by rw[b]⟩;rw[b,H]
  split<;>rfl
def NF(D:DS):Prop:=D.gG= -1/\D.down=false
theorem NF.after(h:NF D):D.after=D:=by
 obtain⟨n,g,b,Q,a,k⟩:=D;have Z:a= -1:=h.1;have V:k=false:=h.2;subst Z;subst V
 rfl
theorem NF.write(h:NF D)(i:Int)(b:LI):NF (D.write i b):=by
 unfold DS.write
 split;· exact h
 split;· exact h
 rw[h.after]
 split
 ·exact h
 ·exact h
theorem NF.sync(h:NF D):NF D.sync:=by
 unfold DS.sync;rw[h.after]
 split
 ·exact h
 ·exact h
theorem NF.put(h:NF D)(a:Int)(b:LI):NF (qn D a b):=by
 unfold qn
 split
 ·exact h
 ·exact h.sync.write _ _
theorem NF.save(h:NF D)(a:Int)(b:LI):NF (cE D a b):=by
 unfold cE
 split
 ·exact(h.put a b).sync
 ·exact h.put a b
theorem NF.Xg{D:DS}(h:NF D)(a ar nu:Int)(b:LI):∀j,NF (fC D a ar nu b j).1
 |0=>h
 |j+1=>by
  by_cases K:(fC D a ar nu b j).2=0
  ·rw[Dq K]
   exact(NF.Xg h a ar nu b j).write _ _
  ·rw[sy K 1]
   exact NF.Xg h a ar nu b j
theorem NF.La(h:NF D)(a:Int)(b:LI):NF (fG D a b):=by
 unfold fG
 split
 ·exact h
 ·split
  ·exact(NF.Xg h _ _ _ _ _).sync.save _ _
  ·exact NF.Xg h _ _ _ _ _
theorem NF.cp(h:NF D)(M:Nat->Rg)(J:JM)(a:Int):NF (uA M D J a):=by
 unfold uA
 split
 ·exact(h.La _ _).save _ _
 ·exact h.La _ _
theorem NF.lg(h:NF D)(M:Nat->Rg)(J:JM)(a:Int)(ring:Nat)(b:LI):NF (KT M D J a ring b):=by
 have Z:NF (Au M D J a ring):=by
  unfold Au
  split
  ·exact h.cp M J a
  ·exact h
 unfold KT
 split
 ·unfold rY
  split
  ·exact(Z.write _ _).sync
  ·exact Z.write _ _
 ·exact Z
theorem NF.kd(h:NF s.D)(a:Int)(ring:Nat)(r:RQ):NF (s.kd a ring r).D:=by
 have Z:NF (s.AQ a ring r).D:=by
  unfold SM.AQ
  split
  ·exact h.lg _ _ _ _ _
  ·exact h
 unfold SM.kd
 split
 ·exact Z
 ·exact Z
theorem Live.nf(h:Live D):NF D:=⟨h.fz,h.dn⟩
theorem Up.live(h:Up s a ring K T)(d:NF s.D)(l:K<=3000000000)(A:T<256)(G:r.ok)(B:Bytes r.data):
 s.nH a ring r=(aC s.M r).2/\Up (s.kd a ring r) a ring (K+3) T/\NF (s.kd a ring r).D/\(s.kd a ring r).M=gJ s.M r:=by
 have Z:=NF.kd d a ring r;rcases h.kd l A G B with⟨d1,d2,d3,_⟩|⟨_,_,d3,_⟩
 ·refine⟨d1,d2,Z,?_⟩
  rw[d3]
  split
  ·rfl
  ·rename_i W
   unfold gJ;rw[iN (λD=>W D.1)]
 ·have:=d3.c.dn
  rw[Z.2]at this
  cases this
theorem jP(k o:Nat):yN (bV k) o=0:=by
 unfold yN bV;rw[zcV,List.take_replicate];generalize min 4 (k-o)=m
 induction m with
 |zero=>rfl
 |succ m K=>rw[List.replicate_succ,ik,K];rfl
theorem pf{j:Int}(K:0<=j)(Z:j<(n:Int)):(DS.new n).read j=bV 64:=by
 rw[x9 (D:=DS.new n) K Z];unfold sec DS.new bV;rw[zcV,List.take_replicate]
 exact aeC
theorem xB:cQ (bV 64)=⟨0,0,[],false⟩:=by
 refine mS ?_
 cases a:jS (bV 64)with
 |false=>rfl
 |true=>exact absurd (jP 64 0) (rT a).2.2
theorem Ft(Z:1<=n)(V:n<=512):Calm (DS.new n)/\Live (DS.new n):=
 ⟨⟨⟨DS.RF Z V,jM _,jM _,λ_x J=>absurd J nK,rfl⟩,rfl,rfl⟩,⟨DS.RF Z V,rfl,rfl⟩⟩
theorem zE(K:0<=a)(Z:a+1<(n:Int)):aK (DS.new n) a=⟨a+1,0,[]⟩:=by
 rw[nz];unfold eR cn;rw[pf K oM,pf oM Z,xB]
 rfl
theorem Gi(K:0<=a)(Z:a+1<(n:Int)):jm (DS.new n) a:=by
 have C:=zE K Z;refine⟨λi z=> ?_,?_⟩
 ·rw[C,pf oM oM]
  exact⟨by simp[bV],jM _,jP 64 60,Int.le_of_eq (jP 64 56)⟩
 ·have:=oC (DS.new n) a
  rw[C,pf oM oM];exact .inr (jP 64 56)
theorem Pg(K:0<=a)(G:1<=ring/\ring<=100)(h1:a+46+(ring:Int)<=(n:Int))(V:n<=512):
 yD (DS.new n) a ring/\mE (DS.new n) a ring=tA/\Up ⟨mE (DS.new n) a ring,lO (DS.new n) a ring,jY (DS.new n) a ring,false⟩ a ring 10 1/\Live (lO (DS.new n) a ring)/\(lO (DS.new n) a ring).n=n:=by
 obtain⟨D,C⟩:=Ft (n:=n) oM V;have u:(DS.new n).n=n:=rfl;have g:=zE (n:=n) (a:=a) K oM;have Y:=zE (n:=n) (a:=a+44) oM oM;have W:=Gi (n:=n) (a:=a) K oM;have z:=Gi (n:=n) (a:=a+44) oM oM;have S:j8 (DS.new n) a=41:=by unfold j8;rw[g];rfl
 have I:j8 (DS.new n) (a+44)=41:=by unfold j8;rw[Y];rfl
 have t:cJ (DS.new n) a=Cr:=by unfold cJ;rw[S];rfl
 have O:iZ (DS.new n) a=none:=by unfold iZ;rw[t];rfl
 have E:ic (DS.new n) a=41:=by unfold ic;rw[O];rfl
 have L:mu (DS.new n) a=tA:=by unfold mu;rw[E];rfl
 have l:bZ (DS.new n) (a+44) ring=⟨a+44,ring,1,0,0,[]⟩:=by unfold bZ;rw[I];rfl
 have A:JM.scan ⟨a+44,ring,1,0,0,[]⟩ (DS.new n)=[]:=by
  obtain⟨r,T⟩:∃r,ring=r+1:=⟨ring-1,oM⟩;subst T;show nF (DS.new n) (a+44) (r+1) 1 0 (r+1) 0 []=[];refine vg ?_;unfold kS cn;have hm:0<=(1+(([]:List lV).length:Int))%((r+1:Nat):Int)/\(1+(([]:List lV).length:Int))%((r+1:Nat):Int)<((r+1:Nat):Int):=⟨Sz _ oM,Uz _ oM⟩;rw[pf oM oM,xB]
  rfl
 have q:jY (DS.new n) a ring=⟨a+44,ring,1,1,0,[]⟩:=by
  unfold jY ig tF;rw[l,A]
  rfl
 obtain⟨J,e⟩:∃J:JM,J=⟨a+44,ring,1,1,0,[]⟩:=⟨_,rfl⟩;have o:J.at_=a+44:=by rw[e]
 have y:lO (DS.new n) a ring=cE (DS.new n) (a+44) J.slot:=by show cE _ _ (jY (DS.new n) a ring).slot=_;rw[q,e]
 have H:mE (DS.new n) a ring=tA:=by unfold mE;rw[q,L];rfl
 have Q:(aK (DS.new n) (a+44)).q=0:=by rw[Y]
 obtain⟨p,Z,_⟩:=C.save D.db.b (a:=a+44) (b:=J.slot) oM (by rw[JM.qU];omega) oM;rcases D.save (a:=a+44) (b:=J.slot) oM (by rw[JM.qU];omega) J.pS z oM with⟨t1,t2,t3,t4,t5,t6⟩|⟨t1,_⟩
 ·have N:Vt (DS.new n) a tA 10:=⟨oM,W,by rw[g];show(0:Int)<=10;omega,by rw[t];show(0:Int)<=10;omega,L,λh=>(by rw[E]at h;cases h)⟩
  refine⟨⟨oM,λh=>(by rw[E]at h;cases h),⟨oM,G,λh=>(by rw[I]at h;cases h),by rw[l];show(0:Int)<=1/\(1:Int)<=_;omega,by rw[l];show(0:Int)<=0/\(0:Int)<_;omega,by rw[l];show(0:Int)<=0/\(0:Int)<_;omega,?_⟩,λb B=> ?_⟩,H,⟨rfl,by rw[y];exact t2,tA,?_⟩,by rw[y];exact Z,by rw[y];exact t3⟩
  ·show g7 (DS.new n) (a+44) (jY (DS.new n) a ring).slot=0
   rw[q,<-e];exact t1
  ·rw[q]at B
   exact absurd B nK
  ·show HzB (lO (DS.new n) a ring) a ring (jY (DS.new n) a ring) tA (mE (DS.new n) a ring) 10 1 0
   rw[y,q,H,<-e];have P:vR J:=by
    rw[e];exact⟨by show 0<=a+44/\a+44<=1000;omega,G,by show(0:Int)<=1/\(1:Int)<=_;omega,by show(0:Int)<=1/\(1:Int)<_;omega,by show(0:Int)<=0/\(0:Int)<_;omega,jG _,λx d=>absurd d nK⟩
   have X:J.next=1:=by rw[e];rfl
   have c:J.n=ring:=by rw[e]
   have C0:=iK P J.next;have R:J.ep=1:=by rw[e]
   have M:∀i:Int,0<=i->i<(ring:Int)->(cE (DS.new n) (a+44) J.slot).read (a+44+2+i)=bV 64:=λi A0 B0=>by
    rw[t6 _ oM oM];exact pf oM oM
   have w:Below 1 1 (bV 64):=⟨by rw[show kX (bV 64)=0 from jP 64 60];omega,by rw[show np (bV 64)=0 from jP 64 4];omega,by rw[show mv (bV 64)=0 from jP 64 0];omega,by rw[show jh (bV 64)=0 from jP 64 56];omega⟩;refine⟨N.alike D.db.b t3 (λj _ _=>t6 j oM oM),⟨P,by rw[o,c,t3,u];omega,by rw[o];exact t5,by rw[o,t4,Q];show(1:Int)<=0+1/\(0:Int)+1<=10;omega,by rw[o,t4],?_,by rw[R];exact ef _,?_,?_,λi hi _=> ?_,?_⟩,o,c,MI.tA,?_,?_⟩
   ·rw[e];show(1:Int)<=1/\(1:Int)+((0:Nat):Int)<=10;omega
   ·rw[e];show(0:Int)<=1;omega
   ·intro k x F;rw[e]at F;exact absurd F acy
   ·rw[o,X,R,M _ oM oM]
    exact w
   ·have U:J.sec J.next=a+44+2+J.next%(J.n:Nat):=by rw[<-o];rfl
    rw[U,M _ oM oM,X,R];exact w.next (by simp[bV]) (jM _) (ef _)
   ·rw[e];rfl
   ·intro b B;rw[e]at B;exact absurd B nK
 ·rw[p]at t1;cases t1
theorem eF.Tu{w:World}{b:Nat}{t:TypeId}{i U p q x n a d k T:Value}(h:eF w b t #[i,U,p,q,x,n,a,d,k,T]):
 w.cell? (aD b 0)=some i/\w.cell? (aD b 1)=some U/\w.cell? (aD b 2)=some p/\w.cell? (aD b 3)=some q/\w.cell? (aD b 4)=some x/\w.cell? (aD b 5)=some n/\w.cell? (aD b 6)=some a/\w.cell? (aD b 7)=some d/\w.cell? (aD b 8)=some k/\w.cell? (aD b 9)=some T:=
 ⟨h.cell 0,h.cell 1,h.cell 2,h.cell 3,h.cell 4,h.cell 5,h.cell 6,h.cell 7,h.cell 8,h.cell 9⟩
abbrev iu(k f t i:Int)(ok:Bool)(v:Value):Vq:= #[iI k,iI f,iI t,iU 0,iU i,iU 0,iU 0,.bool ok,v,sN]
abbrev vV(k f t i:Int)(ok:Bool)(v:Value):Value:= .agg (iu k f t i ok v)
theorem St.RA{w:World}{g:Nat}{X:TypeId}{A b W Y J l j e H c:Value}(h:St I w (ab g X #[A,b,W,Y,J,l,j,e,H,c]::L))(i U p q x n a d k T:Value):
 St I ((((((((((w.setCell ⟨g,0,none⟩ i).setCell ⟨g,1,none⟩ U).setCell ⟨g,2,none⟩ p).setCell ⟨g,3,none⟩ q).setCell ⟨g,4,none⟩ x).setCell ⟨g,5,none⟩ n).setCell ⟨g,6,none⟩ a).setCell ⟨g,7,none⟩ d).setCell ⟨g,8,none⟩ k).setCell ⟨g,9,none⟩ T) (ab g X #[i,U,p,q,x,n,a,d,k,T]::L):=by
 have K:St I _ (ab g X #[i,b,W,Y,J,l,j,e,H,c]::L):=h.bI 0 i;have Z:St I _ (ab g X #[i,U,W,Y,J,l,j,e,H,c]::L):=K.bI 1 U;have V:St I _ (ab g X #[i,U,p,Y,J,l,j,e,H,c]::L):=Z.bI 2 p;have M:St I _ (ab g X #[i,U,p,q,J,l,j,e,H,c]::L):=V.bI 3 q;have Q:St I _ (ab g X #[i,U,p,q,x,l,j,e,H,c]::L):=M.bI 4 x;have F:St I _ (ab g X #[i,U,p,q,x,n,j,e,H,c]::L):=Q.bI 5 n;have P:St I _ (ab g X #[i,U,p,q,x,n,a,e,H,c]::L):=F.bI 6 a;have u:St I _ (ab g X #[i,U,p,q,x,n,a,d,H,c]::L):=P.bI 7 d;have S:St I _ (ab g X #[i,U,p,q,x,n,a,d,k,c]::L):=u.bI 8 k;have B:St I _ (ab g X #[i,U,p,q,x,n,a,d,k,T]::L):=S.bI 9 T;exact B
theorem Xw(f t i:Int)(r:RQ)(A:OA)(n c:Nat)(w:World)(G:r.ok)(U:r.b9=0)(h:St I w (ai .u8 (.slice A n c) r.data::L)):
 Calls prog 109 #[iI f,iI t,iU i,nQ r (.slice A n c)] w λe O=>∃R o,e= .returned (.tuple #[vV 11 f t i false (.slice R (aY r).length o),iI 0])/\St I O (ai .u8 (.slice R (aY r).length o) (aY r)::L):=by
 have Z:=(h.alloc 175 #[iI r.op,iI r.region,iI r.index,iU r.token,iW r.seq,.slice A n c]).alloc 184 (iu 0 0 0 0 false sN);simp only[World.size_alloc]at Z;obtain⟨M,S,u,j,p,g⟩:=(Z.ah 1 rfl).ni;refine ib (Z.pk 3 [2,0]) U G λH F K=>?_;clear h Z U G
 go_enter func109,ntmps109
 go_wp2_with fail
 refine(wK r A n c _ K H).mono ?_;rintro e l⟨v,rfl,h⟩;rw[F.out];obtain⟨R,o,rfl,_,_,_⟩:=h.get 0 rfl;have T:=aa h;obtain⟨y,z,q,Q,b,X,V,z7,z8,z9⟩:=(h.ah 1 rfl).Tu;have C:=(h.ah 1 rfl).frozen;clear h H M S u j p g
 go_wp2_with fail
 have P:=T.swap.RA (iI 11) (iI f) (iI t) (iU 0) (iU i) (iU 0) (iU 0) (.bool false) (.slice R (aY r).length o) sN;obtain⟨E,Y,W,D,J,x,d,a,B,N⟩:=(P.ah 0 rfl).Tu;refine bodyPost_ret (v:= .tuple #[vV 11 f t i false (.slice R (aY r).length o),iI 0]) (eZ (fn:=Tryz.f109) (t:=8) (k:=9) (ty:=184) rfl _ rfl ?_) rfl ⟨R,o,rfl,P.tail⟩;go_simp
def kw(code:Int)(l:List (LI)):LI:=aT code 1++aT (l.length:Nat) 1++l.flatMap bE
theorem Qb(l:List (LI)){x:LI}(h:l[k]? =some x):(l.take (k+1)).flatMap bE=(l.take k).flatMap bE++bE x:=by
 rw[Et,h];exact acy
theorem CM:∀(l:List (LI)),(l.flatMap bE).length<=l.length*1002
 |[]=>by simp
 |x::r=>by
  have Z:=iA x;have V:=CM r;rw[Bo,eG,oO];omega
theorem NE(code:Int)(v:Value)(l:List (LI))(w:World)(hc:0<=code/\code<=1000)(d:l.length<=200)(h:St I w (aB 1 dP v l::L)):
 Calls prog 120 #[iI code,v] w λe O=>∃t o,e= .returned (.slice t (kw code l).length o)/\St I O (ai .u8 (.slice t (kw code l).length o) (kw code l)::L):=by
 obtain⟨A,c,rfl,A0,G⟩:=(h.dJ 0 rfl).slice;obtain⟨n,W⟩:=nM (l.length);rw[<-W]at h A0 d⊢;have Z:=St.uu (xs:=[]) ((h.my 5 1).alloc 83 #[sN]) rfl;refine ib Z W d λH b p=>?_;obtain⟨B,z⟩:=nM (w.heap.size);rw[<-z]at H;have U:=aa z;have w1:IntKind.u64.wrap code=code:=IntWalk.u64_in _ oM;have w2:IntKind.u64.wrap (n:Int)=(n:Int):=IntWalk.u64_in _ oM;clear h Z W d z
 go_enter func120,ntmps120
 go_wp2_with fail
 rw[<-U.out];refine qH (dg B code 1 [] _ acy H) λw3 N=>?_;clear H
 go_wp2_with fail
 refine qK (dg B (n:Int) 1 _ _ (by simp[bL,aq]) N) λw4 h=>?_;have h:St I w4 (AI B (aT code 1++aT (n:Nat) 1++(l.take 0).flatMap bE)::aB 1 dP (.slice A n c) l::L):=by
  have e:([]++bL code 1++bL (n:Int) 1)=aT code 1++aT (n:Nat) 1++(l.take 0).flatMap bE:=by
   rw[Hm,List.flatMap_nil,rX,xL]
   rfl
  rw[<-e];exact h
 have q:=aa h;clear h N
 go_wp2_with fail
 go_loopg [17] n (λQ i wr=>∃k,Q=n-k/\k<=n/\i= iI (k:Nat)/\St I wr (AI B (aT code 1++aT (n:Nat) 1++(l.take k).flatMap bE)::aB 1 dP (.slice A n c) l::L))
 case atStart=>exact⟨0,rfl,oM,rfl,q⟩
 case round=>
  obtain⟨k,u,hk,rfl,h⟩:=hrel;have R:=aa u;clear u q;by_cases M:k<n
  ·have J:=gP (l:=l) (i:=k) acS
   generalize l[k]' acS=x at J;obtain⟨Y,cs,rfl,_,a,⟨vb,rfl,E0⟩,Z⟩:=h.swap.elem 0 rfl J;obtain⟨t,o,rfl,G,B0,D0⟩:=E0;have k0:wr.cell? (Y.add k)=some (.slice t x.length o):=by simpa[Addr.add]using a 0 _ rfl
   have g:=aa (Qb l J);have V:=Z.bu (R':=λO=>aA O .u8 (.slice t x.length o) x) (λO S=>by obtain⟨_,v9,y,S⟩:=S;injection y with y _;rw[y];exact S);have r:=aa (V.pk 3 [2,0,1]);generalize C0:x.length=nx at*;have C:=aa (show(aT code 1++aT (n:Nat) 1++(l.take k).flatMap bE).length<=900000000 by
    have F:=CM (l.take k);have h6:=b.out;have j:=p.out;rw[fJ]at F;simp only[eG,aq];omega)
   clear J a h D0 Z V C0 G B0
   go_wp2_with fail
   refine qH (tG B _ x _ _ C r) λw5 K=>?_;clear r k0
   go_wp2_with fail
   go_roundg (n-(k+1))
   case measure=>exact aec
   case rel=>
    refine⟨k+1,rfl,oM,by go_num,?_⟩;rw[g.out,<-nX];exact K.sub
  ·obtain rfl:k=n:=oM
   have P:(l.take k).flatMap bE=l.flatMap bE:=by rw[nS ac7]
   rw[P]at h;have E:=aa (show kw code l=aT code 1++aT (k:Nat) 1++l.flatMap bE by unfold kw;rw[<-b.out]);rw[<-E.out]at h;have C:=aa (show(kw code l).length<=1000000000 by
    have F:=CM l;have h6:=b.out;have j:=p.out;rw[E.out];simp only[eG,aq];omega)
   have r:=aa h;clear h P hk M R E
   go_wp2_with fail
   refine(qu B _ _ C r).mono ?_;rintro e w6⟨v6,rfl,h⟩;have j:=h.ints;obtain⟨X,T,rfl,_,_,_⟩:=j.get 0 rfl;have D:=aa j;clear h j r
   go_wp2_with fail
   go_ret
   exact⟨X,T,rfl,D.sub⟩
abbrev gK(b:Int)(j:Nat)(p:Value):Vq:= #[iI b,pO j,p]
theorem QK(G:r.ok)(U:r.b9=0):oc (aY r)=0/\pY (aY r)=r:=by
 rw[show aY r=wm r from iP U];exact wY G U
theorem PF(Y:ml I)(g R j S W F:Nat)(b:Int)(s:SM)(r:RQ)(A:OA)(n c:Nat)(w:World)(o:F<=700000)(z:Yr s 0 8 F)(G:r.ok)(B:Bytes r.data)(U:r.b9=0)
 (h:St I w (ai .u8 (.slice A n c) (aY r)::ab g 122 (gK b j (pO R))::eV R j S W 0 8 s L)):
 Calls prog 118 #[pO g,.slice A n c] w λe O=>∃E,e= .returned (.tuple #[E,iI (s.nH 0 8 r)])/\St I O (aB 1 dP E (s.mR 0 8 r)::ab g 122 (gK b j (pO R))::eV R j S W 0 8 (s.kd 0 8 r) L):=by
 obtain⟨J,l,N⟩:=(h.ah 1 rfl).three;refine bm h (QK G U) λH P=>?_;have p:=aa (show(aY r).length<=1000000 by have:=yl r;omega);refine ib B G z λC K V=>?_;clear h B G z
 go_enter func118,ntmps118
 go_wp2_with fail
 refine(vU _ (aY r) _ (nJ C) p H).mono ?_;rintro e X⟨a,D,q,rfl,h⟩;rw[P.out.1];rw[P.out.2]at h⊢;have Z:=h.alloc 175 #[iI r.op,iI r.region,iI r.index,iU r.token,iW r.seq,.slice a D q];obtain⟨i,x⟩:=nM (X.heap.size);have y:=aa x;rw[<-x]at Z;have T:=aa (Z.sub (L':=ab g 122 (gK b j (pO R))::ab i 175 #[iI r.op,iI r.region,iI r.index,iU r.token,iW r.seq,.slice a D q]::ai .u8 (.slice a D q) r.data::ab R 151 (jb j S W 0 8 s.dn)::jR S j s.J::dL W s.M::da j s.D::L) acB);clear h Z H x J l N
 go_wp2_with fail
 rw[<-y.out];refine ak (I:=I) (L0:=L) [⟨none,none,λe=>ab g 122 (gK b j (pO R))⟩,⟨none,none,λe=>ab i 175 #[iI r.op,iI r.region,iI r.index,iU r.token,iW r.seq,.slice a D q]⟩,⟨none,some 5,λe=>ai .u8 (.slice a D q) r.data⟩,⟨none,some 5,λe=>ab R 151 (jb j S W 0 8 s.dn)⟩,⟨none,some 5,λe=>jR S j s.J⟩,⟨none,some 5,λe=>dL W s.M⟩,⟨none,some 5,λe=>da j s.D⟩,⟨some 5,none,λe=>ab R 151 (jb j S W 0 8 (s.kd 0 8 r).dn)⟩,⟨some 5,none,λe=>jR S j (s.kd 0 8 r).J⟩,⟨some 5,none,λe=>dL W (s.kd 0 8 r).M⟩,⟨some 5,none,λe=>da j (s.kd 0 8 r).D⟩,⟨some 5,none,λe=>aB 1 dP (e 5).v (s.mR 0 8 r)⟩] [[],[0],[0,1],rG 3,[],rG 5,rG 6,rG 6,rG 8,rG 9] (rG 10) rfl kR kR kR (by rfl) (λ_=>rfl) T.fk ?_;refine sO ?_;refine aZ 169 (λe=> #[pO R,nQ r (.slice a D q)]) (λe=> .tuple #[(e 5).v,iI (s.nH 0 8 r)]) rfl (λe t M h=>by(
  have h:=h.fn;refine(XA Y R j S W F 0 8 s r a D q _ o V K (nJ C) (yl r) (show St I t (ai .u8 (.slice a D q) r.data::eV R j S W 0 8 s (ab g 122 (gK b j (pO R))::ab i 175 #[iI r.op,iI r.region,iI r.index,iU r.token,iW r.seq,.slice a D q]::M))from h.sub acB)).mono ?_;rintro A0 k⟨E,rfl,Z⟩;have Q:St I k (ab g 122 (gK b j (pO R))::ab i 175 #[iI r.op,iI r.region,iI r.index,iU r.token,iW r.seq,.slice a D q]::ab R 151 (jb j S W 0 8 (s.kd 0 8 r).dn)::jR S j (s.kd 0 8 r).J::dL W (s.kd 0 8 r).M::da j (s.kd 0 8 r).D::aB 1 dP E (s.mR 0 8 r)::M):=Z.sub acB;exact⟨⟨none,0,E⟩,rfl,Q⟩)) ?_
 simp only[aR];refine AG ?_;refine ax ?_;intro e w1 h;have h:=h.fn;obtain⟨E,d⟩:∃E,(e 5).v=E:=⟨_,rfl⟩;rw[d]at h;have u:=aa h;clear h
 go_wp2_with fail
 rw[d];clear d
 go_wp2_with fail
 go_ret2
 exact⟨E,rfl,u.sub acB⟩
theorem Tk(A:ml I)(j F:Nat)(b:Int)(D:DS)(w:World)(p:0<=b/\b<16)(y:dB D F)(o:F<=900000)(k:yD D 0 8)(h:St I w (da j D::L)):
 Calls prog 20 #[iI b,pO j] w λe O=>∃g R S W,e= .returned (.tuple #[pO g,iI 0])/\St I O (ab g 122 (gK b j (pO R))::eV R j S W 0 8 ⟨mE D 0 8,lO D 0 8,jY D 0 8,false⟩ L):=by
 have d1:decide (b<0)=false:=decide_eq_false (by omega);have d2:decide (b≥16)=false:=decide_eq_false (by omega);have d3:decide (16<=b)=false:=decide_eq_false (by omega);have H:=aa h;clear h p
 go_enter func20,ntmps20
 go_wp2_with fail
 refine(FT A j F D 0 8 _ y o k H).mono ?_;rintro e X⟨R,S,W,rfl,h⟩;have T:=aa (h.alloc 122 (gK b j (pO R)));clear h H
 go_wp2_with fail
 go_ret2
 exact⟨X.heap.size,R,S,W,rfl,T⟩
theorem NM(u:ml I)(g j:Nat)(b:Int)(p:Value)(D:DS)(v:Value)(V:LI)(w:World)(y:dB D 900000)(k:yD (D.bz V) 0 8)(a:dB (D.bz V) 10)
 (h:St I w (ab g 122 (gK b j p)::da j D::ai .i64 v V::L)):
 Calls prog 77 #[pO g,v] w λe O=>∃R S W,e= .returned (iI 0)/\St I O (ab g 122 (gK b j (pO R))::eV R j S W 0 8 ⟨mE (D.bz V) 0 8,lO (D.bz V) 0 8,jY (D.bz V) 0 8,false⟩ (ai .i64 v V::L)):=by
 obtain⟨A,c,rfl,_,_,_⟩:=h.get 2 rfl;obtain⟨J,d,Q⟩:=(h.ah 0 rfl).three;have H:=aa h;clear h
 go_enter func77,ntmps77
 go_wp2_with fail
 refine qK (QY _ V 0 y.ok (by have:=y.p;omega) rfl (H.pk 3 [1,2,0])) λX h=>?_;obtain⟨J,d,Q⟩:=(h.ah 2 rfl).three;have T:=aa h;clear h H
 go_wp2_with fail
 refine(FT u j 10 (D.bz V) 0 8 _ a oM k T).mono ?_;rintro e Y⟨R,S,W,rfl,h⟩;have M:=h.pk 6 [5,0,1,2,3,4];obtain⟨J,d,Q⟩:=(M.ah 0 rfl).three;have C:=(M.ah 0 rfl).frozen;have N:=aa M;clear h M T
 go_wp2_with fail
 go_ret
 exact⟨R,S,W,rfl,N.bI 2 (pO R)⟩
theorem Mq(w:World)(k f t i:Int)(ok:Bool)(A:OA)(n c:Nat):(Instr.buildSlice 53 1 #[(0,vV k f t i ok (.slice A n c))]).run prog w= .ok (.slice (aO w.heap.size) 1 1) (w.alloc (.cells (iu k f t i ok (.slice A n c)) 184)):=kR
theorem Qa(g j:Nat)(b k f t i:Int)(ok:Bool)(A:OA)(n c:Nat)(w:World)(h:St I w (ab g 122 (gK b j (.pointer none))::L)):
 Rt I w 75 #[pO g,vV k f t i ok (.slice A n c)] sN (ab g 122 (gK b j (.pointer none))::L):=by
 have Z:=h.alloc 184 (iu k f t i ok (.slice A n c));obtain⟨y,x,r,u,Q,X,Y,M,N,p⟩:=(Z.ah 0 rfl).Tu;obtain⟨J,O,d⟩:=(Z.ah 1 rfl).three;have H:=aa Z;clear h Z
 go_enter func75,ntmps75
 go_wp2_with fail
 go_quiet (fail)
 go_wp2_with fail
 go_ret
 exact⟨rfl,(H.drewN _).tail⟩
theorem Tq(hT:ml I)(g R j S W F:Nat)(b f i:Int)(ok:Bool)(s:SM)(r:RQ)(A:OA)(n c:Nat)(w:World)(E0:F<=700000)(X:Yr s 0 8 F)(G:r.ok)(Y:Bytes r.data)(U:r.b9=0)
 (D:0<=s.nH 0 8 r/\s.nH 0 8 r<=1000) (l:¬s.nH 0 8 r=43) (y:(s.kd 0 8 r).D.down=false) (C:(s.mR 0 8 r).length<=200)
 (h:St I w (ai .u8 (.slice A n c) (aY r)::ab g 122 (gK b j (pO R))::eV R j S W 0 8 s L)):
 Calls prog 75 #[pO g,vV 11 f b i ok (.slice A n c)] w λe D0=>∃u t o,e= .returned (.slice (aO u) 1 1)/\St I D0 (ab u 184 (iu 12 b f i (s.nH 0 8 r==0) (.slice t (kw (s.nH 0 8 r) (s.mR 0 8 r)).length o))::ai .u8 (.slice t (kw (s.nH 0 8 r) (s.mR 0 8 r)).length o) (kw (s.nH 0 8 r) (s.mR 0 8 r))::ab g 122 (gK b j (pO R))::eV R j S W 0 8 (s.kd 0 8 r) L):=by
 obtain⟨code,d⟩:∃x,x=s.nH 0 8 r:=⟨_,rfl⟩;obtain⟨out,z⟩:∃x,x=s.mR 0 8 r:=⟨_,rfl⟩;obtain⟨s',M⟩:∃x,x=s.kd 0 8 r:=⟨_,rfl⟩;rw[<-d]at D l⊢;rw[<-z]at C⊢;rw[<-M]at y⊢;obtain⟨a,E,Q,B⟩:=s';refine ib d z M λA0 B0 C0=>?_;have Z:=h.alloc 184 (iu 11 f b i ok (.slice A n c));obtain⟨u,N⟩:=nM (w.heap.size);obtain⟨O,p,m2,m3,m4,m5,m6,m7,m8,m9⟩:=(Z.ah 0 rfl).Tu;obtain⟨s0,s1,s2⟩:=(Z.ah 2 rfl).three;have H:=aa Z;have dm:(b !=b)=false:=by simp
 refine xH X G Y U D C λHS HR HB HW HC HL=>?_;refine bm y N λP V=>?_;have P:Hid (E.down=false):=P;have d43:(code==43)=false:=by simpa using l
 clear h Z X G Y U D C y N l d z M
 go_enter func75,ntmps75
 go_wp2_with fail
 go_quiet (fail)
 go_wp2_with fail
 refine(PF hT g R j S W F b s r A n c _ E0 HS HR HB HW ((H.drewN _).sub (L':=ai .u8 (.slice A n c) (aY r)::ab g 122 (gK b j (pO R))::eV R j S W 0 8 s (ab w.heap.size 184 (iu 11 f b i ok (.slice A n c))::L)) acB)).mono ?_;rintro e w2⟨I0,rfl,h⟩;rw[<-A0.out];rw[<-B0.out,<-C0.out]at h;obtain⟨k,q,rfl,_,_⟩:=(h.dJ 0 rfl).slice;have h:St I w2 (aB 1 dP (.slice k out.length q) out::ab g 122 (gK b j (pO R))::ab R 151 (jb j S W 0 8 B)::jR S j Q::dL W a::da j E::ab w.heap.size 184 (iu 11 f b i ok (.slice A n c))::L):=h;rw[<-V.out]at h;obtain⟨O,p,m2,m3,m4,m5,m6,m7,m8,m9⟩:=(h.ah 6 rfl).Tu;obtain⟨s0,s1,s2⟩:=(h.ah 1 rfl).three;have T:=aa h;clear h H
 go_wp2_with fail
 refine qK (ya (T.fi 5)) λw3 h=>?_;rw[P.out];have K:=h;clear h T O p m2 m3 m4 m5 m6 m7 m8 m9 s0 s1 s2;have J:=K.pk 7 [2,6,1,3,4,5,0];have T:=aa J;clear K J
 go_wp2_with fail
 rw[<-V.out];refine ak (I:=I) (L0:=ab R 151 (jb j S W 0 8 B)::jR S j Q::dL W a::da j E::L) [⟨none,none,λe=>ab g 122 (gK b j (pO R))⟩,⟨none,none,λe=>ab u 184 (iu 11 f b i ok (.slice A n c))⟩,⟨none,some 12,λe=>aB 1 dP (.slice k out.length q) out⟩,⟨some 12,none,λe=>ai .u8 (.slice (e 12).A (kw code out).length (e 12).n) (kw code out)⟩,⟨some 14,none,λe=>ab (e 14).n 184 (iu 12 b f i (code==0) (.slice (e 12).A (kw code out).length (e 12).n))⟩] [[],[0],[0,1],rG 3,[],[4],[],[6],[],[8],[],[],[10,11],rG 13,rG 14,rG 15] (rG 16) rfl kR kR kR (by rfl) (λ_=>rfl) T.fk ?_;refine Zb ?_;refine aZ 120 (λe=> #[iI code,.slice k out.length q]) (λe=> .slice (e 12).A (kw code out).length (e 12).n) rfl (λe wx Lx h=>by(
  have h:=h.fn;refine(NE code _ out _ HC HL (h.fi 2)).mono ?_;rintro J0 wy⟨A',c',rfl,Z⟩;exact⟨⟨A',c',default⟩,rfl,Z.fk⟩)) ?_
 simp only[aR];refine lY ?_;refine xN (λe=> .slice (some ⟨(e 14).n,0,none⟩) 1 1) rfl (λe wx Lx h=>by(
  have h:=h.fn;exact⟨⟨none,wx.heap.size,default⟩,_,cM rfl rfl (Mq _ _ _ _ _ _ _ _ _),((h.alloc 184 (iu 12 b f i (code==0) (.slice (e 12).A (kw code out).length (e 12).n)))).fk⟩)) ?_
 simp only[aR];refine lY ?_;refine ax ?_;intro e w1 h;have h:=h.fn;obtain⟨t,F0⟩:∃x,(e 12).A=x:=⟨_,rfl⟩;obtain⟨o,G0⟩:∃x,(e 12).n=x:=⟨_,rfl⟩;obtain⟨gn,H0⟩:∃x,(e 14).n=x:=⟨_,rfl⟩;have H9:=aa h;clear h T
 go_wp2_with fail
 go_ret
 exact⟨(e 14).n,(e 12).A,(e 12).n,rfl,H9.sub acB⟩
def xr(b:LI):Int×Rd:=(Rd.mk b false).num 1
def KZ(b:LI):Int×Rd:=(xr b).2.num 1
def xg(b:LI):List (LI)×Rd:=(KZ b).2.dv (KZ b).1.toNat
def BH(b:LI):Int:=(xg b).2.kx
theorem Ty(f G0 i:Int)(ok:Bool)(p1 p2 p3:Int)(v9:Value)(K0:∃A n c,v9= .slice A n c)(A:OA)(n c:Nat)(b:LI)(w:World)(hb:Bytes b)(hl:b.length<=1000000)(h:St I w (ai .u8 (.slice A n c) b::L)):
 Calls prog 110 #[.agg #[iI 12,iI f,iI G0,iU p1,iU i,iU p2,iU p3,.bool ok,.slice A n c,v9]] w λe O=>
  (BH b=0->∃F0,e= .returned (.tuple #[F0,iI (xr b).1,iI 0])/\St I O (aB 1 dP F0 (xg b).1::L))/\
  (BH b≠0->e= .returned (.tuple #[sN,iI 0,iI (BH b)])/\St I O L):=by
 obtain⟨A9,n9,c9,rfl⟩:=K0;have Z:=h.alloc 184 #[iI 12,iI f,iI G0,iU p1,iU i,iU p2,iU p3,.bool ok,.slice A n c,.slice A9 n9 c9];obtain⟨m0,m1,m2,m3,m4,m5,m6,m7,m8,m9⟩:=(Z.ah 0 rfl).Tu;have H:=aa Z.tail;have E0:Rd.Ok (Rd.mk b false):=⟨hb,by show b.length<=140737488355328;omega,λh=>by cases h⟩;have y:=aa E0;obtain⟨d,C⟩:∃x,x=xr b:=⟨_,rfl⟩;obtain⟨W,M⟩:∃x,x=KZ b:=⟨_,rfl⟩;obtain⟨X,R⟩:∃x,x=xg b:=⟨_,rfl⟩;obtain⟨D,t⟩:∃x,x=BH b:=⟨_,rfl⟩;have E1:Hid (d=(Rd.mk b false).num 1):=C;have E2:=aa (show W=d.2.num 1 by rw[M,C];rfl);have U:=aa (show X=W.2.dv W.1.toNat by rw[R,M];rfl);have E4:=aa (show D=X.2.kx by rw[t,R];rfl);rw[<-t,<-R,<-C];clear t R M C;clear h Z E0 hb hl
 go_enter func110,ntmps110
 go_wp2_with fail
 refine(ox _ b _ H).mono ?_;rintro e w1⟨g,rfl,h⟩;have H1:=aa h.tS;clear H h m0 m1 m2 m3 m4 m5 m6 m7 m8 m9;refine bm (Rd.mO y) (y.num 1) λA0 V=>?_
 go_wp2_with fail
 refine qH (bM g _ 1 _ y.hb y.hl y.hz H1) λw2 K=>?_;clear H1;rw[<-E1.out]at K A0 V⊢;obtain⟨b0,b1⟩:=A0.out;refine bm (Rd.mO V) (V.num 1) λB0 Q=>?_;have wc:IntKind.i64.wrap d.1=d.1:=IntWalk.i64_in _ oM
 go_wp2_with fail
 refine qH (bM g _ 1 _ V.hb V.hl V.hz K) λw3 N=>?_;clear K;rw[<-E2.out]at N B0 Q⊢;obtain⟨J,E⟩:=B0.out;obtain⟨u,F⟩:=W;have J:0<=u:=J;have E:u<256:=E;have N:Hid (St I w3 (po g F::L)):=N;have Q:Hid F.Ok:=Q;have U:Hid (X=F.dv u.toNat):=U;obtain⟨q,rfl⟩:=zY J;rw[qG]at U;have hq:q<=256:=oM
 clear J E
 go_wp2_with fail
 go_loopg [2,18] q (λgh out i wr=>∃k z G p,gh=q-k/\k<=q/\i= iU (k:Nat)/\out= .slice G z p/\z=k/\St I wr (ay 27 1 dP (.slice G z p) (F.dv k).1::po g (F.dv k).2::L))
 case atStart=>exact⟨0,0,none,0,rfl,oM,rfl,rfl,rfl,(N).dU 27 1 dP⟩
 case round=>
  obtain⟨k,z,G,p,hg,hk,rfl,rfl,B,h⟩:=hrel;have HG:=aa hg;clear hg N;by_cases I0:k<q
  ·have P:=aa B
   refine bm h.swap (Q.dv k) λH l=>?_;have P0:z<=1000:=oM
   clear h B
   go_wp2_with fail
   refine(yR g _ _ l.hb l.hl l.hz H).mono ?_;rintro e w5⟨v5,rfl,h⟩;obtain⟨T,r,rfl,_,_,_⟩:=h.get 0 rfl;refine bm (show F.dv (k+1)=((F.dv k).1++[(F.dv k).2.gE.1],(F.dv k).2.gE.2)from rfl) (Rd.ol F k) λa o=>?_;generalize F.dv k=lk at*;obtain⟨S,j⟩:=lk;have h:St I w5 (ai .u8 (.slice T j.gE.1.length r) j.gE.1::po g j.gE.2::ay 27 1 dP (.slice G z p) S::L):=h;have a:Hid (F.dv (k+1)=(S++[j.gE.1],j.gE.2)):=a;have o:Hid (S.length=k):=o;generalize j.gE.1=x at*;generalize j.gE.2=rk2 at*;generalize C0:x.length=nx at*;have L0:=aa C0;obtain⟨N0,J0,D0,h3⟩:=(h.pk 3 [2,0,1]).bK;refine bm (h3.nP (.cells #[.slice T nx r] 27)) D0 λN H0=>?_;clear h h3 J0 D0 H C0
   go_wp2_with (at_builtin;refine St.dW py N rfl _ _ rfl rfl (aO w5.heap.size) 1 1 rfl [.slice T nx r] (uv _ _ _) ac8 oM oM ?_;intro A4 c4 w4 h4)
   go_roundg (q-(k+1))
   case measure=>exact ad5
   case rel=>
    refine⟨k+1,z+1,A4,c4,rfl,oM,by go_num,rfl,by rw[P.out],?_⟩;rw[a.out];have h5:=(h4.tX.bu (R':=λO=>dP O [.slice T nx r] x) (λO hi=>⟨_,rfl,hi⟩));have h6:=h5.sh.fR (by rw[o.out,P.out]) rfl H0;exact h6
  ·obtain rfl:k=q:=oM
   have P:=aa B;rw[<-U.out]at h;have M0:=aa (show X.2.Ok by rw[U.out];exact Q.dv k);have o:=aa (show X.1.length=k by rw[U.out];exact Rd.ol F k);have H:=aa h.swap;clear h B I0 HG
   go_wp2_with fail
   refine qK (qP g _ _ H) λw6 h=>?_;rw[<-E4.out];have H6:=aa h;clear h H;by_cases Y:D=0
   ·subst Y
    go_wp2_with fail
    exact bodyPost_ret (jj rfl _ _ _) rfl ⟨.slice G z p,rfl,H6.tail.kF⟩
   ·have O0:(D !=0)=true:=by simp[Y]
    have HE:=aa Y;clear Y
    go_wp2_with fail
    exact bodyPost_ret (jj rfl _ _ _) rfl ⟨λh0=>absurd h0 HE,λ_=>⟨rfl,H6.tail.tail⟩⟩
theorem nY(m:Nat->Rg)(r:RQ):0<=(aC m r).2/\(aC m r).2<=1000/\(aC m r).2≠43:=by
 have U:r.b9=0\/r.b9=1\/r.b9=2:=by
  unfold RQ.b9;split;· exact .inr (.inl rfl)
  split;· exact .inr (.inr rfl)
  exact aes
 unfold aC
 split
 ·show 0<=r.b9/\r.b9<=1000/\r.b9≠43
  omega
 split;· decide
 split;· decide
 split;· decide
 split
 ·unfold Rg.next Rg.pE
  have V:∀n,0<=(Rg.j5 n r).2/\(Rg.j5 n r).2<=1000/\(Rg.j5 n r).2≠43:=by
   exact afH
  exact ae0
 ·decide
theorem yp(y:∀k,(m k).ok)(G:r.ok):(mR m r).length<=4:=by
 unfold mR
 split
 ·unfold Rg.out
  split
  ·show 1<=4;omega
  split
  ·exact(Ap y G _).ll
  ·show 0<=4;omega
 ·show 0<=4;omega
theorem JE(y:∀k,(m k).ok)(G:r.ok):∀x∈mR m r,x.length<=24:=by
 intro x J;unfold mR at J
 split at J
 ·unfold Rg.out at J
  split at J
  ·rw[lA.1 J]
   exact(Ap y G _).bb _
  split at J
  ·exact(Ap y G _).lb x J
  ·exact absurd J nK
 ·exact absurd J nK
def rE(m:Nat->Rg)(r:RQ):LI:=kw (aC m r).2 (mR m r)
theorem MD(code:Int)(l:List (LI))(D:0<=code/\code<256)(C:l.length<256)(J:∀x∈l,x.length<=24):xr (kw code l)=(code,⟨aT (l.length:Nat) 1++(l.flatMap bE++[]),false⟩)/\xg (kw code l)=(l,⟨[],false⟩)/\BH (kw code l)=0:=by
 have S:xr (kw code l)=(code,⟨aT (l.length:Nat) 1++(l.flatMap bE++[]),false⟩):=by
  show(Rd.mk (kw code l) false).num ((1:Nat):Int)=_;rw[show kw code l=aT code 1++(aT (l.length:Nat) 1++(l.flatMap bE++[]))by unfold kw;rw[nX,rX]];exact ei D.1 (by rw[show(256:Int)^1=256 by decide];exact D.2) oM oM _
 have P:KZ (kw code l)=(((l.length:Nat):Int),⟨l.flatMap bE++[],false⟩):=by
  show(xr (kw code l)).2.num ((1:Nat):Int)=_;rw[S];exact ei oM acQ oM oM _
 have t:xg (kw code l)=(l,⟨[],false⟩):=by
  unfold xg;rw[P];show Rd.dv ⟨l.flatMap bE++[],false⟩ ((l.length:Int).toNat)=_;rw[qG,wI l [] J _ (g9 _),MS,zcM]
  rfl
 exact⟨S,t,by unfold BH;rw[t];rfl⟩
theorem JY{code:Int}{l:List (LI)}(h:∀x∈l,Bytes x):Bytes (kw code l):=((cg _ _).append (cg _ _)).append (tp l h)
theorem Ci(y:MB m)(G:Bytes r.data):∀x∈mR m r,Bytes x:=by
 have V:=y.gJ G;intro x J;unfold mR at J
 split at J
 ·unfold Rg.out at J
  split at J
  ·rw[lA.1 J]
   exact V.b _ _
  split at J
  ·exact V.l _ x J
  ·exact absurd J nK
 ·exact absurd J nK
theorem TI(u:ml I)(g R j S W F:Nat)(b f i:Int)(ok:Bool)(s:SM)(r:RQ)(A:OA)(n c:Nat)(w:World)(o:F<=700000)(z:Yr s 0 8 F)(G:r.ok)(B:Bytes r.data)(U:r.b9=0)(l:s.nH 0 8 r=43)
 (h:St I w (ai .u8 (.slice A n c) (aY r)::ab g 122 (gK b j (pO R))::eV R j S W 0 8 s L)):
 Rt I w 75 #[pO g,vV 11 f b i ok (.slice A n c)] sN (ab g 122 (gK b j (.pointer none))::eV R j S W 0 8 (s.kd 0 8 r) L):=by
 have Z:=h.alloc 184 (iu 11 f b i ok (.slice A n c));obtain⟨y,x,Q,X,k,Y,M,N,q,D⟩:=(Z.ah 0 rfl).Tu;obtain⟨J,O,d⟩:=(Z.ah 2 rfl).three;have H:=aa Z;have E:(b !=b)=false:=by simp
 refine Cz z G B U l λV K C p a=>?_;clear h Z z G B U l
 go_enter func75,ntmps75
 go_wp2_with fail
 go_quiet (fail)
 go_wp2_with fail
 refine(PF u g R j S W F b s r A n c _ o V K C p ((H.drewN _).sub (L':=ai .u8 (.slice A n c) (aY r)::ab g 122 (gK b j (pO R))::eV R j S W 0 8 s L) acB)).mono ?_;rintro e w2⟨A0,rfl,h⟩;rw[a.out];obtain⟨t,P,rfl,_,_⟩:=(h.dJ 0 rfl).slice;obtain⟨J,O,d⟩:=(h.ah 1 rfl).three;have fz:=(h.ah 1 rfl).frozen;have T:=aa h.tail;generalize(s.mR 0 8 r).length=nn at*;clear h H y x Q X k Y M N q D
 go_wp2_with fail
 go_ret
 exact⟨rfl,T.bI 2 (.pointer none)⟩
theorem WJ(h:s.nH 0 8 r=(aC s.M r).2):s.mR 0 8 r=mR s.M r:=by
 unfold SM.mR;rw[h]
 split
 ·rfl
 ·rename_i K
  exact(iN K).symm
def stN(n:Nat)(a:Int)(ring:Nat):SM:=⟨mE (DS.new n) a ring,lO (DS.new n) a ring,jY (DS.new n) a ring,false⟩
theorem XB(K:0<=a)(G:1<=ring/\ring<=100)(Z:a+46+(ring:Int)<=(n:Int))(V:n<=512):yD (DS.new n) a ring/\(stN n a ring).M=tA/\Up (stN n a ring) a ring 10 1/\NF (stN n a ring).D:=by
 obtain⟨Z,V,M,Q,_⟩:=Pg K G Z V;exact⟨Z,V,M,Q.nf⟩
abbrev Hi:SM:=stN 54 0 8
theorem Sd:yD (DS.new 54) 0 8/\Hi.M=tA/\Up Hi 0 8 10 1/\NF Hi.D:=XB oM oM oM oM
end Go.Proofs.YtblpaldggenbaaaGreatDoor
