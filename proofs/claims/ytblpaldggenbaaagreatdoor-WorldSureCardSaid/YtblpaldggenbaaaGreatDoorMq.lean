/- A part. -/
import Derived.Test.YtblpaldggenbaaaGreatDoorMi
namespace Go.Proofs.YtblpaldggenbaaaGreatDoor
open Go.RowKit
set_option maxRecDepth 100000
set_option maxHeartbeats 64000000
section
theorem sL(r i:Int)(x:PU):cF r i x=true↔keyOf x=(r,i):=by
 unfold cF keyOf;rw[mf,beq_iff_eq,beq_iff_eq,Prod.mk.injEq]
theorem De(ws:List PU)(r i:Int):ws.any (cF r i)=true↔∃y∈ws,keyOf y=(r,i):=by
 rw[zda];exact⟨λ⟨y,h,k⟩=>⟨y,h,(sL r i y).1 k⟩,λ⟨y,h,k⟩=>⟨y,h,(sL r i y).2 k⟩⟩
theorem Am{g:Type}{l:List g}{k:Nat}{x:g}(h:l[k]? =some x):l=l.take k++x::l.drop (k+1):=by
 obtain⟨Q,rfl⟩:=nQ.1 h;rw[<-IQ Q,Le]
theorem RM{L:Type}(f:L->PU->Bool×L)(l:List PU):∀s,(eL f s l).Sublist l:=by
 induction l with
 |nil=>exact λ_=>KQ _
 |cons x r K=>
  intro s;unfold eL
  split
  ·exact(K _).cons _
  ·exact(K _).cons_cons _
theorem mem_erase{bl:List PU}{k:Nat}{p y:PU}(h:y∈bl.eraseIdx k++[p]):y∈bl\/y=p:=by
 rcases oc.1 h with h|h
 ·exact .inl (Wo h)
 ·exact .inr ace
theorem En{bl:List PU}{k:Nat}{x p y:PU}(J:bl[k]? =some x)(h:y∈bl)(Q:keyOf y≠keyOf x):y∈bl.eraseIdx k++[p]:=by
 rw[Am J]at h;rw[Wp];rcases oc.1 h with h|h
 ·simp[h]
 ·rcases qQ.1 h with rfl|h
  ·exact absurd rfl Q
  ·simp[h]
theorem Br{bl:List PU}{k:Nat}{x:PU}(J:bl[k]? =some x)(p:PU):(bl.eraseIdx k++[p]).length=bl.length:=by
 have:=(nQ.1 J).1;rw[dB,Zz,iP this];exact abS
theorem JA{bl:List PU}{k:Nat}{x:PU}(_hx:bl[k]? =some x)(p:PU):(bl.eraseIdx k++[p]).map keyOf=(bl.take k).map keyOf++(bl.drop (k+1)).map keyOf++[keyOf p]:=by
 rw[Wp,yu,yu]
 rfl
structure iz(n:Nat)(bl ws:List PU):Prop where
 len:bl.length<=6
 nd:(bl.map keyOf).Nodup
 wl:ws.length<=n
 wd:∀x∈ws,x.data.length<=23
 bd:∀x∈bl,x.data.length<=140737488355328
 on:∀x∈ws,∃y∈bl,keyOf y=keyOf x
theorem iz.init:iz 0 [] []:=⟨by simp,by simp,by simp,λ_ h=>by simp at h,λ_ h=>by simp at h,λ_ h=>by simp at h⟩
section
variable {n m:Nat} {bl ws c:List PU} {k:Nat} {x p:PU}
theorem iz.le(h:iz n bl ws)(p:n<=m):iz m bl ws:=⟨h.len,h.nd,by have:=h.wl;omega,h.wd,h.bd,h.on⟩
theorem iz.less(h:iz n bl ws)(V:c.Sublist ws):iz n bl c:=
 ⟨h.len,h.nd,by have:=h.wl;have:=V.length_le;omega,λx J=>h.wd x (V.subset J),h.bd,λx J=>h.on x (V.subset J)⟩
theorem iz.over(h:iz n bl ws)(J:bl[k]? =some x)(Q:keyOf x=keyOf p)(P:p.data.length<=140737488355328):iz n (bl.eraseIdx k++[p]) ws:=by
 refine⟨by rw[Br J];exact h.len,?_,h.wl,h.wd,λy E=>(mem_erase E).elim (h.bd y) (λe=>e▸P),λy E=> ?_⟩
 ·rw[JA J]
  have Z:=h.nd;rw[Am J,yu,nG,Q]at Z;refine(List.Perm.nodup_iff ?_).1 Z;rw[pI];exact(List.perm_append_singleton _ _).symm.append_left _
 ·obtain⟨z,o,e⟩:=h.on y E
  by_cases q:keyOf z=keyOf x
  ·exact⟨p,by simp,by rw[<-Q,<-q,e]⟩
  ·exact⟨z,En J o q,e⟩
theorem iz.XU(h:iz n bl ws)(J:bl[k]? =some x)(D:∀y∈ws,keyOf y≠keyOf x)(Q:∀y∈bl,keyOf y≠keyOf p)(P:p.data.length<=140737488355328):iz n (bl.eraseIdx k++[p]) ws:=by
 refine⟨by rw[Br J];exact h.len,?_,h.wl,h.wd,λy E=>(mem_erase E).elim (h.bd y) (λe=>e▸P),λy E=> ?_⟩
 ·rw[yu,XB]
  refine⟨h.nd.sublist ((List.eraseIdx_sublist bl k).map keyOf),by simp,λa T b B e=> ?_⟩;obtain⟨y,E,rfl⟩:=um.1 T;obtain rfl:b=keyOf p:=by simpa using B
  exact Q y (Wo E) e
 ·obtain⟨z,o,e⟩:=h.on y E
  exact⟨z,En J o (λY=>D y E (e.symm.trans Y)),e⟩
theorem iz.more(h:iz n bl ws)(F:bl.length<6)(Q:∀y∈bl,keyOf y≠keyOf p)(P:p.data.length<=140737488355328):iz n (bl++[p]) ws:=by
 refine⟨by simp;omega,?_,h.wl,h.wd,λy E=> ?_,λy E=> ?_⟩
 ·rw[yu,XB]
  refine⟨h.nd,by simp,λa T b B e=> ?_⟩;obtain⟨y,E,rfl⟩:=um.1 T;obtain rfl:b=keyOf p:=by simpa using B
  exact Q y E e
 ·rcases oc.1 E with E|E
  ·exact h.bd y E
  ·obtain rfl:y=p:=by simpa using E
   exact P
 ·obtain⟨z,o,e⟩:=h.on y E
  exact⟨z,XE _ o,e⟩
end
theorem sw(bl ws:List PU)(p:PU):
 (li bl ws p.region p.index=0/\∃k x,bl[k]? =some x/\keyOf x=keyOf p/\mr bl ws p=bl.eraseIdx k++[p])\/
 ((
  ∀y∈bl,keyOf y≠keyOf p)/\
  (
   (li bl ws p.region p.index=0/\bl.length<6/\mr bl ws p=bl++[p])\/
   (li bl ws p.region p.index=0/\6<=bl.length/\∃k x,bl[k]? =some x/\(∀y∈ws,keyOf y≠keyOf x)/\mr bl ws p=bl.eraseIdx k++[p])\/
   (li bl ws p.region p.index=42/\6<=bl.length/\mr bl ws p=bl))):=by
 rcases jW (cF p.region p.index) bl 0 with⟨Z,G⟩|⟨k,x,Z,G,M⟩
 ·right
  refine⟨λy E e=> ?_,?_⟩
  ·have:=(De bl p.region p.index).2 ⟨y,E,e⟩
   rw[G]at this
   cases this
  ·unfold li mr
   rw[Z];simp only[iN (show¬(0:Int)<=-1 by omega)];by_cases u:6<=bl.length
   ·right
    simp only[iP u];rcases jW (rh ws) bl 0 with⟨l,c⟩|⟨k,x,l,c,L⟩
    ·right
     simp only[l,iP (show(-1:Int)<0 by omega)];exact⟨trivial,u,trivial⟩
    ·left
     rw[xS]at l;simp only[l,iN (show¬(k:Int)<0 by omega),rE];refine⟨trivial,u,k,x,c,λy E e=> ?_,rfl⟩;unfold rh at L;rw[Zn,<-Bool.not_eq_true]at L;exact L ((De ws x.region x.index).2 ⟨y,E,e⟩)
   ·left
    simp only[iN u];exact⟨trivial,oM,trivial⟩
 ·left
  rw[xS]at Z;unfold li mr;rw[Z];simp only[iP (show(0:Int)<=(k:Int)by omega),rE];exact⟨trivial,k,x,G,(sL _ _ x).1 M,rfl⟩
section
variable {n:Nat} {bl ws:List PU} {p:PU} {r i:Int}
theorem iz.lay(h:iz n bl ws)(P:p.data.length<=140737488355328):iz n (mr bl ws p) ws:=by
 rcases sw bl ws p with⟨_,k,x,Z,G,M⟩|⟨K,⟨_,Z,G⟩|⟨_,_,k,x,Z,G,M⟩|⟨_,_,Z⟩⟩
 ·rw[M];exact h.over Z G P
 ·rw[G];exact h.more Z K P
 ·rw[M];exact h.XU Z G K P
 ·rw[Z];exact h
theorem Xg(Y:li bl ws p.region p.index=0):p∈mr bl ws p:=by
 rcases sw bl ws p with⟨_,k,x,Z,G,M⟩|⟨K,⟨_,Z,G⟩|⟨_,_,k,x,Z,G,M⟩|⟨e,_,Z⟩⟩
 ·rw[M];exact abN
 ·rw[G];exact abN
 ·rw[M];exact abN
 ·rw[e]at Y;cases Y
theorem iz.fill(h:iz n bl ws)(P:p.data.length<=140737488355328):iz n (oV bl ws p) ws:=by
 unfold oV
 split
 ·exact h
 ·exact h.lay P
theorem iz.read(h:iz n bl ws):iz n (lZ bl r i) ws:=by
 rcases jW (cF r i) bl 0 with⟨Z,G⟩|⟨k,x,Z,G,M⟩
 ·unfold lZ
  rw[Z,iN oM];exact h
 ·rw[xS]at Z
  unfold lZ;rw[Z,iP oM,rE,G];exact h.over G rfl (h.bd x (qP G))
theorem yS(Y:Dy bl ws p=0):PW ws p.region p.data=0/\li bl ws p.region p.index=0/\p.data.length<=23:=by
 unfold Dy at Y
 split at Y
 ·rename_i h
  refine⟨h,Y,?_⟩;unfold PW at h
  split at h
  ·cases h
  ·omega
 ·rename_i h
  exact absurd Y h
theorem Kt(h:Dy bl ws p≠0):Az bl ws p=ws:=iN h
theorem iz.write(h:iz n bl ws):iz (n+1) (ya bl ws p) (Az bl ws p):=by
 by_cases S:PW ws p.region p.data=0
 ·have u:p.data.length<=23:=by
   unfold PW at S
   split at S
   ·cases S
   ·omega
  have Z:iz n (ya bl ws p) ws:=by
   unfold ya;rw[iP S];exact h.lay oM
  by_cases Y:Dy bl ws p=0
  ·have F:=(yS Y).2.1
   unfold Az;rw[iP Y];refine⟨Z.len,Z.nd,by have:=Z.wl;simp;omega,λy E=> ?_,Z.bd,λy E=> ?_⟩
   ·rcases oc.1 E with E|E
    ·exact Z.wd y E
    ·obtain rfl:y=p:=by simpa using E
     exact u
   ·rcases oc.1 E with E|E
    ·exact Z.on y E
    ·obtain rfl:y=p:=by simpa using E
     refine⟨y,?_,rfl⟩;unfold ya;rw[iP S];exact Xg F
  ·rw[Kt Y]
   exact Z.le oM
 ·have Y:Dy bl ws p≠0:=by
   unfold Dy;rw[iN S];exact S
  rw[Kt Y];unfold ya;rw[iN S];exact h.le oM
theorem LD(ws:List PU)(r m:Int):(ND ws r m).Sublist ws:=by
 unfold ND
 split
 ·exact KQ _
 ·exact RM _ _ _
theorem iz.drop(h:iz n bl ws):iz n (bl.filter (λx=> !ao r x)) (ws.filter (λx=> !ao r x)):=by
 have Z:=h.less (zcK (p:=λx=> !ao r x) (l:=ws));refine⟨qJ (Xd _ _) h.len,h.nd.sublist (zcK.map keyOf),Z.wl,Z.wd,λx J=>h.bd x (Ea.1 J).1,λx J=> ?_⟩;obtain⟨K,U⟩:=Ea.1 J;obtain⟨y,E,e⟩:=h.on x K;refine⟨y,Ea.2 ⟨E,?_⟩,e⟩;have u:y.region=x.region:=congrArg Prod.fst e;simpa[ao,u]using U
end
end
end Go.Proofs.YtblpaldggenbaaaGreatDoor
