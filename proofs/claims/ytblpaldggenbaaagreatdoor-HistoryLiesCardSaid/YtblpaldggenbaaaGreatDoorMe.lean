/- A part. -/
import Derived.Test.YtblpaldggenbaaaGreatDoorMb
namespace Go.Proofs.YtblpaldggenbaaaGreatDoor
open Go.RowKit Go.Proofs.Tryz
set_option maxRecDepth 100000
set_option maxHeartbeats 64000000
variable{xs:LV}{v:Value}{b:LI}
structure DS where
 n:Nat
 seen:LI
 sure:LI
 au:List (Nat×LI)
 gG:Int
 down:Bool
def wv(p:Nat×LI):LV:=Value.int .i64 p.1::bv p.2
def pv(l:List (Nat×LI)):LV:=l.flatMap wv
def bV(k:Nat):LI:=List.replicate k 0
theorem Ki(p:Nat×LI):∀u∈wv p,u.oneCell'=true:=by
 intro u E;rcases nO.1 E with rfl|h
 ·rfl
 ·exact jF _ u h
structure DS.ok(D:DS):Prop where
 n1:1<=D.n
 n2:D.n<=512
 hs:D.seen.length=D.n*64
 hu:D.sure.length=D.n*64
 hp:∀p∈D.au,p.1<D.n/\p.2.length=64
 f1: -9223372036854775808<=D.gG
 f2:D.gG<=9223372036854775807
theorem OI(l m:List (Nat×LI)):pv (l++m)=pv l++pv m:=by simp[pv]
theorem Xv(p:Nat×LI):pv [p]=wv p:=by simp[pv]
theorem aaa{l:List (Nat×LI)}(h:∀p∈l,p.2.length=64)(k:Nat)(F:k<l.length):((pv l).drop (k*65)).take 65=wv l[k]:=by
 induction l generalizing k with
 |nil=>simp at F
 |cons p l K=>
  have Z:=h p (Je ..);have U:(wv p).length=65:=by simp[wv,Z]
  cases k with
  |zero=>
   simp only[pv,Bo,Yq,AW,List.getElem_cons_zero];rw[VQ oM,nS oM]
  |succ k=>
   have:=K (λq d=>h q (Dl _ d)) k (by simpa using F);simp only[pv,Bo,List.getElem_cons_succ]at this⊢;rw[show(k+1)*65=(wv p).length+k*65 by omega,zdg,VY oM];simpa using this
def DS.goes(D:DS):Bool:= !(D.down||D.gG==0)
def DS.after(D:DS):DS:={D with down:=D.down||D.gG==0,gG:=if 0<D.gG then D.gG-1 else D.gG}
def full(b:LI):LI:=b++bV (64-b.length)
theorem jV(h:b.length<=64):(full b).length=64:=by simp[full,bV];omega
def DS.put(D:DS)(i:Nat)(b:LI):DS:={D with seen:=bh D.seen (i*64) (full b),au:=D.au++[(i,full b)]}
def DS.eU(D:DS)(i:Int)(b:LI):Int:=
 if i<0\/(D.n:Int)<=i then 40 else if 64<b.length then 2 else if D.goes then 0 else 43
def DS.write(D:DS)(i:Int)(b:LI):DS:=
 if i<0\/(D.n:Int)<=i then D else if 64<b.length then D else if D.goes then D.after.put i.toNat b else D.after
def DS.at_(D:DS)(i:Nat):LI:=(D.seen.drop (i*64)).take 64
def DS.Pp(D:DS)(i:Int):Int:=if i<0\/(D.n:Int)<=i then 40 else 0
def DS.read(D:DS)(i:Int):LI:=if i<0\/(D.n:Int)<=i then []else D.at_ i.toNat
def qT(s:LI):List (Nat×LI)->LI
 |[]=>s
 |p::r=>qT (bh s (p.1*64) p.2) r
def DS.sync(D:DS):DS:=if D.goes then{D.after with sure:=qT D.sure D.au,au:=[]}else D.after
def keeps(V:LI)(k:Nat):Nat:=if k<V.length then(max 0 (min (V.getD k 0) 64)).toNat else 0
theorem Ah(V:LI)(k:Nat):keeps V k<=64:=by unfold keeps;split<;>omega
def qk(V:LI)(s:LI):Nat->List (Nat×LI)->LI
 |_,[]=>s
 |k,p::r=>qk V (bh s (p.1*64) (p.2.take (keeps V k))) (k+1) r
def DS.bz(D:DS)(V:LI):DS:=
 {n:=D.n,seen:=qk V D.sure 0 D.au,sure:=qk V D.sure 0 D.au,au:=[],gG:= -1,down:=false}
theorem Ep(l:List (Nat×LI)):∀(s:LI) (n:Nat),s.length=n*64->(∀p∈l,p.1<n/\p.2.length=64)->(qT s l).length=n*64:=by
 induction l with
 |nil=>intro s n h _;exact h
 |cons p r K=>
  intro s n h o;have Z:=o p (Je ..);exact K _ n (by rw[ia _ _ _ oM];exact h) (λq d=>o q (Dl _ d))
theorem rC(V:LI)(l:List (Nat×LI)):∀(s:LI) (k n:Nat),s.length=n*64->(∀p∈l,p.1<n/\p.2.length=64)->(qk V s k l).length=n*64:=by
 induction l with
 |nil=>intro s k n h _;exact h
 |cons p r K=>
  intro s k n h o;have Z:=o p (Je ..);exact K _ _ n (by rw[ia _ _ _ (by simp only[fJ];omega)];exact h) (λq d=>o q (Dl _ d))
theorem xw(s:LI)(l m:List (Nat×LI)):qT s (l++m)=qT (qT s l) m:=by
 induction l generalizing s with
 |nil=>rfl
 |cons p r K=>exact K _
theorem FH(V s:LI)(k:Nat)(l m:List (Nat×LI)):qk V s k (l++m)=qk V (qk V s k l) (k+l.length) m:=by
 induction l generalizing s k with
 |nil=>rfl
 |cons p r K=>
  simp only[MV,qk,oO];rw[K,show k+1+r.length=k+(r.length+1)by omega]
theorem DS.ok.after{D:DS}(h:D.ok):D.after.ok:=by
 have f1:=h.f1;have f2:=h.f2;exact⟨h.n1,h.n2,h.hs,h.hu,h.hp,by unfold DS.after;simp only;split<;>omega,by unfold DS.after;simp only;split<;>omega⟩
theorem DS.ok.put{D:DS}(h:D.ok)(i:Nat)(b:LI)(z:i<D.n)(B:b.length<=64):(D.put i b).ok:=by
 have a:=jV B;have U:=h.hs;refine⟨h.n1,h.n2,?_,h.hu,?_,h.f1,h.f2⟩
 ·show(bh D.seen (i*64) (full b)).length=D.n*64
  rw[ia _ _ _ oM,U]
 ·intro p o
  rcases lU.1 o with o|o
  ·exact h.hp p o
  ·obtain rfl:=lA.1 o
   exact⟨z,a⟩
theorem DS.ok.write{D:DS}(h:D.ok)(i:Int)(b:LI):(D.write i b).ok:=by
 unfold DS.write
 split;· exact h
 split;· exact h
 split
 ·exact h.after.put _ _ (by show _<D.n;omega) oM
 ·exact h.after
theorem DS.ok.sync{D:DS}(h:D.ok):D.sync.ok:=by
 unfold DS.sync
 split
 ·have E:=h.after
  exact⟨h.n1,h.n2,h.hs,Ep _ _ _ h.hu h.hp,λp o=>(nK o).elim,E.f1,E.f2⟩
 ·exact h.after
theorem DS.ok.bz{D:DS}(h:D.ok)(V:LI):(D.bz V).ok:=
 ⟨h.n1,h.n2,rC _ _ _ _ _ h.hu h.hp,rC _ _ _ _ _ h.hu h.hp,λp o=>(nK o).elim,by show(-9223372036854775808:Int)<=-1;omega,by show(-1:Int)<=_;omega⟩
def DS.new(n:Nat):DS:=⟨n,bV (n*64),bV (n*64),[],-1,false⟩
theorem DS.RF{n:Nat}(Z:1<=n)(V:n<=512):(DS.new n).ok:=
 ⟨Z,V,by simp[DS.new,bV],by simp[DS.new,bV],λp o=>(nK o).elim,by show(-9223372036854775808:Int)<=-1;omega,by show(-1:Int)<=_;omega⟩
section
def IB(b1 c1 b2 c2:Nat)(q:Value)(D:DS):Vq:=
 #[.slice (some ⟨b1,0,none⟩) D.n c1,.slice (some ⟨b2,0,none⟩) D.n c2,q,iI D.gG,.bool D.down]
structure jE(w:World)(g:Nat)(D:DS)(F:Nat->Prop)(b1 c1 b2 c2:Nat)(A:OA)(c3:Nat):Prop where
 ah:eF w g 117 (IB b1 c1 b2 c2 (.slice A D.au.length c3) D)
 seen:w.ownsRow 0 296 64 (.slice (some ⟨b1,0,none⟩) D.n c1) D.n (bv D.seen)
 sure:w.ownsRow 0 296 64 (.slice (some ⟨b2,0,none⟩) D.n c2) D.n (bv D.sure)
 au:w.ownsRow 0 298 65 (.slice A D.au.length c3) D.au.length (pv D.au)
 ne:b1≠b2
 fg:F g
 f1:F b1
 f2:F b2
 f3:∀b,(Value.slice A D.au.length c3).ownBlock=some b->F b
 lt:∀b,F b->b<w.heap.size
def ct(w:World)(g:Nat)(D:DS)(F:Nat->Prop):Prop:=∃b1 c1 b2 c2 A c3,jE w g D F b1 c1 b2 c2 A c3
def Bc(F:Nat->Prop)(w O:World):Nat->Prop:=λb=>F b\/(w.heap.size<=b/\b<O.heap.size)
section
variable {w O:World} {g:Nat} {D:DS} {F S:Nat->Prop} {d o i k j:Nat} {A:OA}
theorem jE.fr(h:jE w g D F d o i k A j)(a:Fr S w O)(q:∀b,F b->¬S b):jE O g D F d o i k A j:=
 ⟨h.ah.fr a (q _ h.fg),dR h.seen a (q _ h.f1),dR h.sure a (q _ h.f2),oQ h.au a (λb B=>q _ (h.f3 b B)),
  h.ne,h.fg,h.f1,h.f2,h.f3,λb B=>OY (h.lt b B) a.size⟩
theorem ct.lt(h:ct w g D F):∀b,F b->b<w.heap.size:=by
 obtain⟨d,o,i,k,A,j,h⟩:=h;exact h.lt
theorem ct.fg(h:ct w g D F):F g:=by
 obtain⟨d,o,i,k,A,j,h⟩:=h;exact h.fg
theorem ct.mono(h:ct w g D F)(U:∀b,F b->S b)(C:∀b,S b->b<w.heap.size):ct w g D S:=by
 obtain⟨d,o,i,k,A,j,h⟩:=h;exact⟨d,o,i,k,A,j,h.ah,h.seen,h.sure,h.au,h.ne,U _ h.fg,U _ h.f1,U _ h.f2,λb B=>U _ (h.f3 b B),C⟩
theorem jE.Yx(h:jE w g D F d o i k A j):g≠d:=by
 obtain⟨l,B,_⟩:=mL h.seen;exact h.ah.ne_ B dC
theorem jE.VB(h:jE w g D F d o i k A j):g≠i:=by
 obtain⟨l,B,_⟩:=mL h.sure;exact h.ah.ne_ B dC
theorem Jn{e:TypeId}{size n:Nat}{t:TypeId}{N:Vq}(h:w.ownsRow 0 e size v n xs)(u:eF w g t N)(I:e≠t):∀b,v.ownBlock=some b->b≠g:=by
 intro b B;rcases h.2 with⟨rfl,_⟩|⟨a,cap,l,rfl,_,H,_⟩
 ·simp[Value.ownBlock]at B
 ·simp[Value.ownBlock]at B
  subst B;exact eF.ne_ (t:=e) H u I
theorem jE.Tf(h:jE w g D F d o i k A j):∀b,(Value.slice A D.au.length j).ownBlock=some b->b≠g/\b≠d/\b≠i:=by
 obtain⟨a,K,_⟩:=mL h.seen;obtain⟨c,V,_⟩:=mL h.sure;intro b B;exact⟨Jn h.au h.ah dC b B,Jn h.au K dC b B,Jn h.au V dC b B⟩
end
theorem Th(g:Nat)(D:DS)(F:Nat->Prop)(w:World)(B:ct w g D F):
 Calls prog 85 #[pO g] w λe O=>e= .returned (iI D.n)/\w=O:=by
 obtain⟨b1,c1,b2,c2,A,c3,h⟩:=B;have V:w.cell? (aD g 0)=some (.slice (some ⟨b1,0,none⟩) D.n c1):=(h.ah.cell 0).trans rfl;clear h
 go_enter func85,ntmps85
 go_wp2
 exact afY
theorem Rl(g:Nat)(D:DS)(F:Nat->Prop)(w:World)(B:ct w g D F):
 Calls prog 119 #[pO g] w λe O=>e= .returned (.bool D.down)/\w=O:=by
 obtain⟨b1,c1,b2,c2,A,c3,h⟩:=B;have V:w.cell? (aD g 4)=some (.bool D.down):=(h.ah.cell 4).trans rfl;clear h
 go_enter func119,ntmps119
 go_wp2
 exact afY
theorem sr(g:Nat)(i:Int)(D:DS)(F:Nat->Prop)(w:World)(B:ct w g D F):
 Calls prog 173 #[pO g,iI i] w λe O=>e= .returned (.bool (decide (0<=i/\i<D.n)))/\w=O:=by
 obtain⟨b1,c1,b2,c2,A,c3,h⟩:=B;have V:w.cell? (aD g 0)=some (.slice (some ⟨b1,0,none⟩) D.n c1):=(h.ah.cell 0).trans rfl;clear h;by_cases K:0<=i
 ·go_enter func173,ntmps173
  go_wp2
  go_ret
  exact⟨by simp[K],rfl⟩
 ·rw[dQ (λh=>K h.1)]
  go_enter func173,ntmps173
  go_wp2
  exact afY
theorem Pc(g:Nat)(n:Int)(D:DS)(F:Nat->Prop)(w:World)(B:ct w g D F):
 Calls prog 76 #[pO g,iI n] w λe O=>e= .returned (.tuple #[])/\Fr F w O/\ct O g {D with gG:=n} F:=by
 obtain⟨b1,c1,b2,c2,A,c3,h⟩:=B;have V:w.cell? (aD g 3)=some (iI D.gG):=(h.ah.cell 3).trans rfl;have M:=h.ah.frozen 3;have H:=aa h;clear h
 go_enter func76,ntmps76
 go_wp2
 go_end0
 have h:=H.out;have a:Fr (·=g) w (w.setCell ⟨g,3,none⟩ (iI n)):=Fr.setCell (S:=(·=g)) (p:=⟨g,3,none⟩) (Fr.refl _ _) (λ_=>rfl) _;refine⟨rfl,a.mono (by rintro i _ rfl;exact h.fg),b1,c1,b2,c2,A,c3,?_⟩;exact⟨h.ah.bI 3 _,dR h.seen a (λe=>h.Yx e.symm),dR h.sure a (λe=>h.VB e.symm),oQ h.au a (λb B=>(h.Tf b B).1),h.ne,h.fg,h.f1,h.f2,h.f3,
  λb B=>OY (h.lt b B) a.size⟩
end
theorem jE.ZM{w:World}{g:Nat}{D:DS}{F:Nat->Prop}{b1 c1 b2 c2 c3:Nat}{A:OA}(h:jE w g D F b1 c1 b2 c2 A c3)(k:Bool)(x:Int):
 jE (((w.setCell ⟨g,4,none⟩ (.bool k)).drew).setCell ⟨g,3,none⟩ (iI x)) g {D with down:=k,gG:=x} F b1 c1 b2 c2 A c3:=by
 have a:Fr (·=g) w (((w.setCell ⟨g,4,none⟩ (.bool k)).drew).setCell ⟨g,3,none⟩ (iI x)):=
  Fr.setCell (S:=(·=g)) (p:=⟨g,3,none⟩) (Fr.drew (Fr.setCell (S:=(·=g)) (p:=⟨g,4,none⟩) (Fr.refl _ _) (λ_=>rfl) _)) (λ_=>rfl) _
 exact⟨((h.ah.bI 4 _).drew).bI 3 _,dR h.seen a (λe=>h.Yx e.symm),dR h.sure a (λe=>h.VB e.symm),oQ h.au a (λb B=>(h.Tf b B).1),h.ne,h.fg,h.f1,h.f2,h.f3,
  λb B=>OY (h.lt b B) a.size⟩
theorem NK(g:Nat)(k:Bool)(x:Int)(w:World)(C: -9223372036854775808<=x)(E:x<=9223372036854775807)
 (M:w.cell? (aD g 3)=some (iI x)) (Q:w.cell? (aD g 4)=some (.bool k)) (f3:w.frozen? ⟨g,3,none⟩=false) (f4:w.frozen? ⟨g,4,none⟩=false):
 Calls prog 207 #[pO g] w λe O=>e= .returned (.bool (!(k||x==0)))/\
  O=((w.setCell ⟨g,4,none⟩ (.bool (k||x==0))).drew).setCell ⟨g,3,none⟩ (iI (if 0<x then x-1 else x)):=by
 have D:(0<x)\/x=0\/x<0:=oM
 rcases D with D|rfl|D
 all_goals cases k
 all_goals
  first
  |have d:=kO (Int.ne_of_gt D);rw[iP D]
  |have d:=kO (Int.ne_of_lt D);rw[iN oM]
  |rw[iN oM]
  try simp only[d,zdj,Bool.false_or,Bool.not_true,zdr]
 all_goals
  go_enter func207,ntmps207
  go_wp2
  refine fO 13 kR kR (λW J=> ?_);have j:W.cell? (aD g 3)=w.cell? (aD g 3):=by rw[J,BU,World.cell?_setCell_other _ _ _ _ acy]
  rw[M]at j;have i:=congrArg (λz:World=>z.cell? (aD g 4)) J;simp only[BU,World.cell?_setCell_same _ _ _ Q]at i;have n:W.frozen? ⟨g,3,none⟩=false:=by rw[J,Ev,World.frozen?_setCell];exact f3
  have U:=aa J;clear J M Q f3 f4;simp only[Kx,Hm,Nl,AW]
  repeat still_step
  try refine wpStill_nil ?_
  go_wp2
  go_ret
  exact⟨rfl,by rw[U.out];rfl⟩
theorem uf(g:Nat)(D:DS)(F:Nat->Prop)(w:World)(H:D.ok)(B:ct w g D F):
 Calls prog 207 #[pO g] w λe O=>e= .returned (.bool D.goes)/\Fr (·=g) w O/\O.heap.size=w.heap.size/\ct O g D.after F:=by
 obtain⟨b1,c1,b2,c2,A,c3,h⟩:=B;have M:w.cell? (aD g 3)=some (iI D.gG):=(h.ah.cell 3).trans rfl;have Q:w.cell? (aD g 4)=some (.bool D.down):=(h.ah.cell 4).trans rfl;refine(NK g D.down D.gG w H.f1 H.f2 M Q (h.ah.frozen 3) (h.ah.frozen 4)).mono λe O ⟨Y,U⟩=>⟨Y,?_,?_,b1,c1,b2,c2,A,c3,?_⟩
 ·rw[U]
  exact Fr.setCell (S:=(·=g)) (p:=⟨g,3,none⟩) (Fr.drew (Fr.setCell (S:=(·=g)) (p:=⟨g,4,none⟩) (Fr.refl _ _) (λ_=>rfl) _)) (λ_=>rfl) _
 ·rw[U];simp[World.setCell]
 ·rw[U];exact h.ZM _ _
theorem zX:(prog.info? 298).map (λi=>(i.zero,i.size,i.bytes))=some (some (.agg (Value.int .i64 0::List.replicate 64 (.int .u8 0)).toArray),65,72):=kR
theorem Fp(k:Nat)(w:World):(Instr.build 298 #[(0,iI k)]).run prog w= .ok (.agg (wv (k,bV 64)).toArray) w:=kR
theorem rv(w:World):(Instr.alloc 298 true (.tuple #[])).run prog w= .ok (pO w.heap.size) (w.alloc (.cells (wv (0,bV 64)).toArray 298)):=kR
theorem qa:(prog.info? 298).map (·.size)=some 65:=kR
theorem oh:(prog.info? 296).map (·.size)=some 64:=kR
theorem BY:(prog.info? 5).map (·.size)=some 1:=kR
theorem vZ(w:World)(N:Vq)(h:N.size=65):
 (Instr.buildSlice 115 1 #[(0,.agg N)]).run prog w= .ok (.slice (some ⟨w.heap.size,0,none⟩) 1 1) (w.alloc (.cells N 298)):=
 tM (P:=prog) w 115 298 N _ 72 underlying115 (by rw[h];exact zX) oM oM
theorem oo{k:Nat}(h:b.length=64):(wv (k,b)).toArray.size=65:=by simp[wv,h]
theorem Gk(k:Nat):bh (wv (k,bV 64)) 1 (bv b)=wv (k,full b):=by
 simp only[bh,wv,NN,Kx,Hm,MV,xL,show 1+b.length=b.length+1 by omega,Nl];simp only[bv,bV,full,xd,zc4,zcV]
theorem QR(g:Nat)(i:Int)(v:Value)(D:DS)(F:Nat->Prop)(w:World)(z:i<0\/(D.n:Int)<=i)(B:ct w g D F):
 Calls prog 206 #[pO g,iI i,v] w λe O=>e= .returned (iI 40)/\w=O:=by
 have H:=aa (sr g i D F w B);rw[decide_eq_false (by omega)]at H
 exact agh
theorem Ic(g:Nat)(i:Int)(a:OA)(n c:Nat)(D:DS)(F:Nat->Prop)(w:World)(z:0<=i)(S:i<(D.n:Int))(W:64<n)(B:ct w g D F):
 Calls prog 206 #[pO g,iI i,.slice a n c] w λe O=>e= .returned (iI 2)/\w=O:=by
 have H:=aa (sr g i D F w B);rw[dZ ⟨z,S⟩]at H
 exact agh
theorem Ib(g:Nat)(i:Int)(a:OA)(n c:Nat)(D:DS)(F:Nat->Prop)(w:World)(G:D.ok)(z:0<=i)(S:i<(D.n:Int))(W:n<=64)(q:D.goes=false)(B:ct w g D F):
 Calls prog 206 #[pO g,iI i,.slice a n c] w λe O=>e= .returned (iI 43)/\Fr (·=g) w O/\O.heap.size=w.heap.size/\ct O g D.after F:=by
 have H:=aa (sr g i D F w B);rw[dZ ⟨z,S⟩]at H;have T:=aa (uf g D F w G B);rw[q]at T;clear q
 go_enter func206,ntmps206
 go_wp2_with (first|(go_at_call 173;refine H.mono ?_;rintro e O⟨rfl,rfl⟩)|(go_at_call 207;refine qK T ?_;rintro O⟨Z,V,M⟩))
 go_ret
 exact⟨rfl,Z,V,M⟩
theorem Rq(g k:Nat)(A:OA)(n c:Nat)(X:LI)(Q:Nat->Prop)(D:DS)(F:Nat->Prop)(w:World)(ho:D.ok)(P1:k<D.n)(hn:n=X.length)(H:X.length<=64)(hd:D.goes=true)(hp:D.au.length<1000000)
 (hq:∀b,Q b->b≠g) (hv:Sl w Q 1 A n (bv X)) (B:ct w g D F):
 Calls prog 206 #[pO g,iI k,.slice A n c] w λe O=>e= .returned (iI 0)/\Fr F w O/\ct O g (D.after.put k X) (Bc F w O):=by
 have B0:=aa (sr g k D F w B);rw[dZ (show 0<=(k:Int)/\(k:Int)<(D.n:Int)by omega)]at B0;have H2:=aa (uf g D F w ho B);rw[hd]at H2;have HN:=aa hn;have D1:n<=64:=oM
 refine bm hv B.fg λHV HF=>?_;have U1:=ho.after;clear hd hn hv B;generalize E0:D.after=o at*
 go_enter func206,ntmps206
 go_wp2_with fail
 refine B0.mono ?_;rintro e O⟨rfl,rfl⟩
 go_wp2_with fail
 refine qK H2 ?_;rintro l⟨f1,I,X0⟩;have HZ:=aa I;clear I;have Q0:(Instr.storeAt 298 (pO l.heap.size) (.agg (wv (k,bV 64)).toArray)).run prog (l.alloc (.cells (wv (0,bV 64)).toArray 298))= .ok () (l.alloc (.cells (wv (k,bV 64)).toArray 298)):=
  run_storeAt_new l 298 _ _ (by rw[qa,oo (by simp[bV])]) (by rw[oo (by simp[bV]),oo (by simp[bV])]) (all_oneCell_toArray (Ki _))
 have H0:(Builtin.copy_ #[27,27] 3 #[.slice (some ⟨l.heap.size,1,none⟩) 64 64,.slice A n c]).run prog (l.alloc (.cells (wv (k,bV 64)).toArray 298))= .ok (goInt n) (l.alloc (.cells (wv (k,full X)).toArray 298)):=by
  have A1:Fr iY l (l.alloc (.cells (wv (k,bV 64)).toArray 298)):=(Fr.refl _ _).alloc _;have hV:Sl (l.alloc (.cells (wv (k,bV 64)).toArray 298)) Q 1 A n (bv X):=(HV.fr f1 (λb h _ e=>hq b h e)).LG A1;rw[FP 27 27 3 5 l.heap.size 1 64 64 A n c (bv X) Q underlying27 BY hV D1 ?_ (jF X),
   rK _ _ _ _ _ (by rw[oo (by simp[bV])];simp;omega),Gk]
  refine(eF.new _ _ _).there 1 n (by rw[oo (by simp[bV])];omega)
 go_wp2_with (first
  |((with_reducible apply Ms (t:=298));(focus rfl);(focus rfl);(focus rfl);(focus exact Fp k _))
  |((with_reducible apply zL (t:=298));(focus rfl);(focus rfl);(focus exact rv _))
  |((with_reducible apply rz (t:=298));(focus rfl);(focus rfl);(focus rfl);(focus rfl);(focus exact Q0))
  |((with_reducible apply KW (tx:=27));(focus rfl);(focus rfl);(focus rfl);(focus rfl);(focus exact H0)))
 clear Q0 H0;obtain⟨b1,c1,b2,c2,a,c3,y⟩:=X0;have Q1:(0:Int)<=(k:Int)/\(k:Int)<(o.n:Int):=by rw[<-E0];show(0:Int)<=(k:Int)/\(k:Int)<(D.n:Int);omega
 have R1:o.au.length<1000000:=by rw[<-E0];exact hp
 refine fO 8 kR kR (λW J=> ?_);have R:Fr iY l W:=by rw[J];exact((Fr.refl _ _).alloc _).drew
 have d:=y.fr R (λ_ _ x=>x);have F0:eF W l.heap.size 298 (wv (k,full X)).toArray:=by rw[J];exact(eF.new _ _ _).drew
 have HW:=aa J;clear J;have k0:W.cell? (aD g 0)=some (.slice (some ⟨b1,0,none⟩) o.n c1):=(d.ah.cell 0).trans rfl;have O0:W.rangeAt l.heap.size 1 (bv (full X)):=by
  have:=F0.range 1 64;rwa[nS (by simp[wv,jV H])]at this
 have K0:=run_loadAt_mid (P:=prog) W l.heap.size 1 296 (bv (full X)) _ O0 underlying296 rfl (by rw[oh];simp[jV H]);simp only[Kx,Hm,Nl,AW]
 iterate 6 still_step
 (with_reducible apply Am (t:=296))
 focus rfl
 focus rfl
 focus rfl
 focus exact K0
 repeat still_step
 try refine wpStill_nil ?_
 have E:=jV H;have J0:k*64+64<=o.n*64:=by
  have:k<o.n:=oM
  omega
 have Z:(Instr.storeAt 296 (.pointer (some ⟨b1,k*64,none⟩)) (.agg (bv (full X)).toArray)).run prog W= .ok () (W.setCells b1 (k*64) (bv (full X))):=
  run_storeAt_mid (P:=prog) W b1 (k*64) 296 (bv (full X)).toArray (by simpa[E]using iL d.seen (k*64) 64 J0) (by rw[oh];simp[E]) (all_oneCell_toArray (jF _))
 have P0:=kE (U:=bv (full X)) d.seen (k*64) (by simpa[E]using J0);have Y:Fr (·=b1) W (W.setCells b1 (k*64) (bv (full X))):=jN b1 _ _ _ (Fr.refl _ _) (λ_=>rfl);generalize W.setCells b1 (k*64) (bv (full X))=w2 at Z P0 Y
 (with_reducible apply rz (t:=296))
 focus rfl
 focus rfl
 focus rfl
 focus rfl
 focus exact Z
 clear Z K0 O0 k0;have G0:eF w2 l.heap.size 298 (wv (k,full X)).toArray:=F0.fr Y (λe=>by have:=y.lt _ y.f1;omega);have G:eF w2 g 117 (IB b1 c1 b2 c2 (.slice a o.au.length c3) o):=d.ah.fr Y d.Yx;have I1:=dR d.sure Y d.ne.symm;have E1:=oQ d.au Y (λb B=>(d.Tf b B).2.1);have k2:w2.cell? (aD g 2)=some (.slice a o.au.length c3):=(G.cell 2).trans rfl;have j2:=G.frozen 2;simp only[Act.put]
 go_wp2_with fail
 refine bQ (λW=>W.cell? (aD g 2)=some (.slice a o.au.length c3)/\W.rangeAt l.heap.size 0 (wv (k,full X))) 8 (rG 6) [6,7,8,9,10] kR kR
  (λS0=>by cases S0<;>exact λ_ _ _ _ h=>h) (λr M=> ?_)
 refine⟨⟨by rw[M];exact k2,?_⟩,?_⟩
 ·rw[M]
  have:=G0.range 0 65;rw[AW,nS (by simp[wv,E])]at this;exact this
 iterate 5 (refine bN rfl rfl (λW J=>by(rcases J with⟨_,_⟩;go_simp;try rfl)) ?_;simp only[aR])
 have B1 (W:World) (J:W.cell? (aD g 2)=some (.slice a o.au.length c3)/\W.rangeAt l.heap.size 0 (wv (k,full X))):=run_loadAt_mid (P:=prog) W l.heap.size 0 298 (wv (k,full X)) _ J.2 underlying298 rfl (by rw[qa];simp[wv,E]);refine Nh rfl rfl 298 _ (pO l.heap.size) rfl rfl B1 ?_;simp only[aR];have D0:eF r l.heap.size 298 (wv (k,full X)).toArray:=by rw[M];exact G0.drew
 have K:eF r g 117 (IB b1 c1 b2 c2 (.slice a o.au.length c3) o):=by rw[M];exact G.drew
 have T0:Fr iY w2 r:=by rw[M];exact(Fr.refl _ _).drew
 have K1:r.heap.size=w2.heap.size:=by rw[M];rfl
 clear M;have Z0:=vZ r (wv (k,full X)).toArray (by simp[wv,E]);refine bX rfl rfl 115 1 0 _ (.agg (wv (k,full X)).toArray) rfl rfl Z0 (λ_=>⟨?_,?_⟩) ?_
 ·rw[World.cell?_alloc_lt _ _ _ (by have:=K.lt;exact this)];exact K.cell 2
 ·have:=(D0.alloc (.cells (wv (k,full X)).toArray 298)).range 0 65
  rwa[AW,nS (by simp[wv,E])]at this
 simp only[aR];have j:Fr iY w2 (r.alloc (.cells (wv (k,full X)).toArray 298)):=T0.alloc _;have L0:=eF.new r 298 (wv (k,full X)).toArray;have N0:=oQ E1 j (λ_ _ x=>x);have q:=K.alloc (.cells (wv (k,full X)).toArray 298);have C0:=D0.alloc (.cells (wv (k,full X)).toArray 298);have L1:(r.alloc (.cells (wv (k,full X)).toArray 298)).heap.size=w2.heap.size+1:=by rw[World.size_alloc,K1]
 generalize r.alloc (.cells (wv (k,full X)).toArray 298)=W4 at j L0 N0 q C0 L1;have I0:¬(Value.slice a o.au.length c3).ownBlock=some g:=λe=>(y.Tf g e).1 rfl;have J1:¬(Value.slice a o.au.length c3).ownBlock=some l.heap.size:=λe=>zdz _ (y.lt _ (y.f3 _ e));refine Az rfl rfl _ _ 115 rfl 0 298 _ 65 72 underlying115 zX kR oM (.slice a o.au.length c3) o.au.length (pv o.au) rfl N0 ⟨r.heap.size,0,none⟩ 1 1 rfl (wv (k,full X)) (by simp[wv,E]) ?_ (Ki _) oM oM (jG _) (λv' u i L Y0=>⟨λ_=>⟨?_,?_⟩,?_⟩)
 ·intro R0 V1 hu
  rw[show(⟨r.heap.size,0,none⟩:Addr).add R0=⟨r.heap.size,R0,none⟩by simp[Addr.add];exact Qt,L0.cell];simpa using hu
 ·exact(q.fr L I0).cell 2
 ·have:=(C0.fr L J1).range 0 65
  rwa[AW,nS (by simp[wv,E])]at this
 simp only[aR]
 (refine bD rfl rfl gS nD ?_;simp only[aR])
 (refine bD rfl rfl gS nD ?_;simp only[aR])
 have T:=q.fr L I0;obtain⟨z,N,rfl⟩:∃z N,v'= .slice z (o.au.length+1) N:=by
  rcases i.2 with⟨rfl,_⟩|⟨b5,M1,N1,rfl,_⟩
  ·exact⟨_,_,by rw[show o.au.length+1=0 from by assumption]⟩
  ·exact⟨_,_,rfl⟩
 have H1:(Instr.storeAt 115 (.pointer (some ⟨g,2,none⟩)) (.slice z (o.au.length+1) N)).run prog u= .ok () (u.setCell ⟨g,2,none⟩ (.slice z (o.au.length+1) N)):=by
  have h1:u.cell? (aD g 2)=some (.slice a o.au.length c3):=(T.cell 2).trans rfl;have h2:=T.frozen 2;go_simp
 refine dp rfl rfl 115 _ _ (.pointer (some ⟨g,2,none⟩)) (.slice z (o.au.length+1) N) rfl rfl rfl H1 nD ?_
 (simp only[Act.put])
 refine cN ?_
 go_wp2_with fail
 go_ret
 have T1:W.heap.size+1<=u.heap.size:=by
  have h1:=Y.size;have h2:=L.size;omega
 have S1:=R.size;have I:=HZ.out;have U0:Fr F w (u.setCell ⟨g,2,none⟩ (.slice z (o.au.length+1) N)):=by
  have e1:Fr F w l:=f1.mono (by rintro A0 _ rfl;exact HF.out);have e2:Fr F w W:=e1.step R (λ_ x _=>x.elim);have e3:Fr F w w2:=e2.step Y (by rintro A0 rfl _;exact y.f1);have e4:Fr F w W4:=e3.step j (λ_ x _=>x.elim);have e5:Fr F w u:=e4.step L (λA0 x _=>y.f3 A0 x);exact e5.setCell (λ_=>HF.out) _
 have C:Fr (·=g) u (u.setCell ⟨g,2,none⟩ (.slice z (o.au.length+1) N)):=Fr.setCell (S:=(·=g)) (p:=⟨g,2,none⟩) (Fr.refl _ _) (λ_=>rfl) _;have G1:(u.setCell ⟨g,2,none⟩ (.slice z (o.au.length+1) N)).heap.size=u.heap.size:=by simp[World.setCell]
 have V0:¬(Value.slice a o.au.length c3).ownBlock=some b1:=λe=>(y.Tf b1 e).2.1 rfl;have W0:¬(Value.slice a o.au.length c3).ownBlock=some b2:=λe=>(y.Tf b2 e).2.2 rfl;have O1:=y.lt _ y.fg;have M0:∀b,(Value.slice z (o.au.length+1) N).ownBlock=some b->(Value.slice a o.au.length c3).ownBlock=some b\/b=W4.heap.size:=by
  intro b e;rcases Y0 with h|h
  ·exact .inl (h▸e)
  ·exact .inr (by rw[h]at e;injection e with e;exact e.symm)
 refine⟨rfl,U0,b1,c1,b2,c2,z,N,?_⟩;have V:(o.put k X).au.length=o.au.length+1:=by simp[DS.put]
 have C1:∀b,F b->b<w.heap.size:=λb B=>by have:=y.lt b B;omega
 refine⟨?_,?_,?_,?_,y.ne,.inl y.fg,.inl y.f1,.inl y.f2,?_,?_⟩
 ·have:=T.bI 2 (.slice z (o.au.length+1) N)
  rw[V];exact this
 ·have:=dR (dR (dR P0 j (λx=>x)) L V0) C (λe=>y.Yx e.symm)
  rw[<-wi]at this;exact this
 ·exact dR (dR (dR I1 j (λx=>x)) L W0) C (λe=>y.VB e.symm)
 ·rw[V]
  have F1:pv (o.put k X).au=pv o.au++wv (k,full X):=by
   show pv (o.au++[(k,full X)])=_;rw[OI,Xv]
  rw[F1];refine oQ i C (λb e=> ?_);rcases M0 b e with h|rfl
  ·exact(y.Tf b h).1
  ·have:=q.lt;omega
 ·rw[V]
  intro b e;rcases M0 b e with h|rfl
  ·exact .inl (y.f3 b h)
  ·refine .inr ⟨?_,?_⟩
   ·have h1:=Y.size
    omega
   ·rw[G1];exact(i.lt _ e).2
 ·rintro b(h|h)
  ·have:=C1 b h;omega
  ·exact h.2
theorem Bc.sub{F:Nat->Prop}{w O:World}(b:Nat)(h:F b):Bc F w O b:= .inl h
theorem ct.plus{w O:World}{g:Nat}{D:DS}{F:Nat->Prop}(h:ct O g D F):ct O g D (Bc F w O):=by
 refine h.mono Bc.sub ?_;rintro b(B|B)
 ·exact h.lt b B
 ·exact B.2
theorem Oh(g:Nat)(i:Int)(A:OA)(n c:Nat)(X:LI)(Q:Nat->Prop)(D:DS)(F:Nat->Prop)(w:World)(H:D.ok)(W:n=X.length)(o:D.au.length<1000000)
 (d:∀b,Q b->b≠g) (K:Sl w Q 1 A n (bv X)) (B:ct w g D F):
 Calls prog 206 #[pO g,iI i,.slice A n c] w λe O=>e= .returned (iI (D.eU i X))/\Fr F w O/\ct O g (D.write i X) (Bc F w O):=by
 unfold DS.eU DS.write;by_cases z:i<0\/(D.n:Int)<=i
 ·rw[iP z,iP z]
  refine(QR g i _ D F w z B).mono ?_;exact afS
 ·rw[iN z,iN z]
  by_cases C:64<X.length
  ·rw[iP C,iP C]
   refine(Ic g i A n c D F w oM oM oM B).mono ?_;exact afS
  ·rw[iN C,iN C]
   cases q:D.goes with
   |false=>
    refine qK (Ib g i A n c D F w H oM oM oM q B) ?_;rintro O⟨Z,_,V⟩;exact⟨rfl,Z.mono (by rintro b _ rfl;exact B.fg),V.plus⟩
   |true=>
    obtain⟨k,rfl⟩:=zY (show 0<=i by omega);exact Rq g k A n c X Q D F w H oM W oM q o d K B
theorem NL:(prog.info? 5).map (λi=>(i.zero,i.size,i.bytes))=some (some (.int .u8 0),1,1):=kR
theorem JW(w:World):(Instr.buildSlice 27 0 #[]).run prog w= .ok (.slice (some ⟨w.heap.size,0,none⟩) 0 0) (w.alloc (.cells #[] 5)):=kR
theorem IC(a:Addr)(n c:Nat)(d:LV)(w:World)(C:d.length=n*1)(D:∀j u,d[j]? =some u->w.cell? (a.add j)=some u)(Z:∀u∈d,u.oneCell'=true)(W:n*1<=140737488355328):
 Calls prog 23 #[.slice (some a) n c] w λe O=>∃v g,e= .returned v/\O.ownsRow 0 5 1 v n d/\v.ownBlock=some g/\w.heap.size<=g/\g<O.heap.size/\Fr iY w O:=by
 have R:=λw=>Lib.run_eql_slice_nil (P:=prog) w 27 5 (some a) n c 0 0 underlying27;have k:=JW;refine ib C (λj u h=>(World.cell?_alloc_lt w (.cells #[] 5) (a.add j) (World.block_lt_of_cell? _ _ (D j u h))).trans (D j u h)) Z λp V r=>?_;have Y:(w.alloc (.cells #[] 5)).ownsRow 0 5 1 (.slice (some ⟨w.heap.size,0,none⟩) 0 0) 0 []:=World.ownsRow_made w #[] 0 (jG _) (jG _) acy;have z:=aa Y;clear C D Z Y
 go_enter func23,ntmps23
 go_wp2_with (at_builtin;refine Bw rfl _ _ 27 rfl 0 5 (.int .u8 0) 1 1 underlying27 NL kR oM (.slice (some ⟨w.heap.size,0,none⟩) 0 0) 0 [] rfl z a n c rfl d p V r oM oM (jG _) ?_;intro v l q o K)
 go_ret
 have G:v.ownBlock=some w.heap.size\/v.ownBlock=some (w.heap.size+1):=by
  exact afE
 have hF:Fr iY w l:=((Fr.refl _ _).alloc _).step o adf;have b:l.ownsRow 0 5 1 v n d:=by simpa using q
 exact aeX
theorem DS.Cx{D:DS}(H:D.ok){k:Nat}(F:k<D.n):(D.at_ k).length=64:=by
 have:=H.hs;have V:(k+1)*64<=D.n*64:=vl _ F;unfold DS.at_;rw[fJ,km];omega
theorem SU(g:Nat)(i:Int)(D:DS)(F:Nat->Prop)(w:World)(z:i<0\/(D.n:Int)<=i)(B:ct w g D F):
 Calls prog 131 #[pO g,iI i] w λe O=>e= .returned (.tuple #[sN,iI 40])/\w=O:=by
 have H:=aa (sr g i D F w B);rw[decide_eq_false (by omega)]at H
 go_enter func131,ntmps131
 go_wp2_with (go_at_call 173;refine H.mono ?_;rintro e O⟨rfl,rfl⟩)
 go_ret2
 exact adZ
theorem BJ{w:World}{L c3 n k:Nat}{l:List (Nat×LI)}(h:w.ownsRow 0 298 65 (.slice (some ⟨L,0,none⟩) n c3) n (pv l))(C:∀p∈l,p.2.length=64)(F:k<l.length):
 (Instr.loadAt 298 (.pointer (some ⟨L,k*65,none⟩))).run prog w= .ok (.agg (wv l[k]).toArray) w:=by
 have G:=Bj h (k*65) 65;rw[aaa C k F]at G;have Z:=C _ (Sp F);exact run_loadAt_mid (P:=prog) w L (k*65) 298 (wv l[k]) _ G underlying298 rfl (by rw[qa];simp[wv,Z])
theorem xa{w:World}(p:Nat×LI)(h:p.2.length=64):(Instr.storeAt 298 (pO w.heap.size) (.agg (wv p).toArray)).run prog (w.alloc (.cells (wv (0,bV 64)).toArray 298))= .ok () (w.alloc (.cells (wv p).toArray 298)):=
 run_storeAt_new w 298 _ _ (by rw[qa,oo h]) (by rw[oo h,oo (by simp[bV])]) (all_oneCell_toArray (Ki _))
theorem XH{w:World}{b:Nat}{p:Nat×LI}(h:eF w b 298 (wv p).toArray)(o:p.2.length=64):(Instr.loadAt 296 (.pointer (some ⟨b,1,none⟩))).run prog w= .ok (.agg (bv p.2).toArray) w:=by
 have G:=h.range 1 64;rw[show(((wv p).toArray.toList.drop 1).take 64)=bv p.2 by simp only[wv,Nl,AW];exact nS (by simp[o])]at G;exact run_loadAt_mid (P:=prog) w b 1 296 (bv p.2) _ G underlying296 rfl (by rw[oh];simp[o])
theorem Di{w:World}{b c n i:Nat}{v:LI}(h:w.ownsRow 0 296 64 (.slice (some ⟨b,0,none⟩) n c) n xs)(z:i<n)(K:v.length=64):
 (Instr.storeAt 296 (.pointer (some ⟨b,i*64,none⟩)) (.agg (bv v).toArray)).run prog w= .ok () (w.setCells b (i*64) (bv v))/\
 (w.setCells b (i*64) (bv v)).ownsRow 0 296 64 (.slice (some ⟨b,0,none⟩) n c) n (bh xs (i*64) (bv v))/\Fr (·=b) w (w.setCells b (i*64) (bv v)):=by
 have I:(i+1)*64<=n*64:=vl _ z;refine⟨?_,kE h (i*64) (by simp[K];omega),jN b _ _ _ (Fr.refl _ _) (λ_=>rfl)⟩;exact run_storeAt_mid (P:=prog) w b (i*64) 296 (bv v).toArray (by simpa[K]using iL h (i*64) 64 oM) (by rw[oh];simp[K]) (all_oneCell_toArray (jF _))
theorem OO{s:LI}{l:List (Nat×LI)}{k:Nat}(F:k<l.length):qT s (l.take (k+1))=bh (qT s (l.take k)) (l[k].1*64) l[k].2:=by
 rw[Ye F,xw]
 rfl
theorem Nf(g:Nat)(D:DS)(F:Nat->Prop)(w:World)(H:D.ok)(q:D.goes=false)(B:ct w g D F):
 Calls prog 178 #[pO g] w λe O=>e= .returned (.tuple #[])/\Fr (·=g) w O/\ct O g D.after F:=by
 have T:=aa (uf g D F w H B);rw[q]at T;clear q
 go_enter func178,ntmps178
 go_wp2_with (go_at_call 207;refine qK T ?_;rintro O⟨Z,V,M⟩)
 ((try simp only[Exit.inBlock,Exit.then]);refine bodyPost_ret (results_none rfl _ _ _) rfl ?_)
 exact⟨rfl,Z,M⟩
theorem TF(g:Nat)(D:DS)(F:Nat->Prop)(w:World)(H:D.ok)(u:D.goes=true)(E:D.au.length<1000000)(B:ct w g D F):
 Calls prog 178 #[pO g] w λe O=>e= .returned (.tuple #[])/\Fr F w O/\ct O g {D.after with sure:=qT D.sure D.au,au:=[]} F:=by
 have T:=aa (uf g D F w H B);rw[u]at T;have HF:=aa B.fg;have L:=H.after;have H0:D.after.au.length<1000000:=E;have F0:=aa B.lt;rw[show qT D.sure D.au=qT D.after.sure D.after.au from rfl];clear u B E H;generalize D.after=Da at*
 go_enter func178,ntmps178
 go_wp2_with fail
 refine qK T ?_;rintro w1⟨f1,G,C0⟩;have HZ:=aa G;clear G T;obtain⟨b1,c1,b2,c2,a,c3,y⟩:=C0;have K:w1.cell? (aD g 2)=some (.slice a Da.au.length c3):=(y.ah.cell 2).trans rfl
 go_wp2_with fail
 have n:Fr F w w1:=f1.mono (by rintro i _ rfl;exact HF.out);have z:=aa L;clear f1 L K
 go_loopg [12] Da.au.length (λgh i wr=>∃k:Nat,gh=Da.au.length-k/\k<=Da.au.length/\i= iI k/\Fr F w wr/\jE wr g {Da with sure:=qT Da.sure (Da.au.take k)} F b1 c1 b2 c2 a c3)
 case atStart=>exact⟨0,oM,jG _,rfl,n,y⟩
 case round=>
  clear n y;obtain⟨k,c,R,rfl,hF,y⟩:=hrel;by_cases M:k<Da.au.length
  ·obtain⟨g3,rfl⟩:=fQ y.au (by show 0<Da.au.length;omega)
   have X:=z.hp _ (Sp M);have q:=BJ (w:=wr) (k:=k) y.au (λp B0=>(z.hp p B0).2) M;refine mr c y hF R λHG P l HK=>?_;have N:=λw=>xa (w:=w) Da.au[k] X.2;have j:=aa (OO (s:=Da.sure) M)
   change (Instr.loadAt 298 (.pointer (some ⟨g3,k*65,none⟩))).run prog wr= .ok (.agg (wv Da.au[k]).toArray) wr at q
   generalize Da.au[k]=p at X q N j;obtain⟨r,h⟩:=p;simp only at X;have D0:=X.1;have U:=X.2;clear X c R y hF
   go_wp2_with (first
    |((with_reducible apply CW (t:=298));(focus rfl);(focus rfl);(focus rfl);(focus exact q))
    |((with_reducible apply zL (t:=298));(focus rfl);(focus rfl);(focus exact rv _))
    |((with_reducible apply rz (t:=298));(focus rfl);(focus rfl);(focus rfl);(focus rfl);(focus exact N _)))
   refine fO 9 kR kR (λW J=> ?_);have Y:Fr iY wr W:=by rw[J];exact((Fr.refl _ _).alloc _).drew
   have d:=P.fr Y (λ_ _ x=>x);have I:eF W wr.heap.size 298 (wv (r,h)).toArray:=by rw[J];exact(eF.new _ _ _).drew
   have C:W.heap.size=wr.heap.size+1:=by rw[J];exact World.size_alloc _ _
   have E0:=aa C;clear J C;have q1:W.cell? (aD g 1)=some (.slice (some ⟨b2,0,none⟩) Da.n c2):=(d.ah.cell 1).trans rfl;have q2:W.cell? (aD wr.heap.size 0)=some (iI r):=(I.cell 0).trans rfl;have A:=XH I U;have G0:(0:Int)<=(r:Int)/\(r:Int)<(Da.n:Int):=oM
   have A0:=aa d;obtain⟨V,o,Z⟩:=Di d.sure (show r<Da.n from D0) U;clear d I;generalize W.setCells b2 (r*64) (bv h)=W2 at V o Z;simp only[Kx,Hm,Nl,AW]
   iterate 7 still_step
   (with_reducible apply Am (t:=296))
   focus rfl
   focus rfl
   focus rfl
   focus exact A
   repeat still_step
   try refine wpStill_nil ?_
   (with_reducible apply rz (t:=296))
   focus rfl
   focus rfl
   focus rfl
   focus rfl
   focus exact V
   simp only[Act.put];clear V A q1 q2
   go_wp2_with fail
   go_roundg (Da.au.length-(k+1))
   case measure=>exact ad5
   case rel=>
    have d:=A0.out;refine⟨k+1,rfl,oM,rfl,?_,?_⟩
    ·exact(l.step Y (λ_ x _=>x.elim)).step Z (by rintro i rfl _;exact d.f2)
    ·refine⟨?_,?_,?_,?_,d.ne,d.fg,d.f1,d.f2,d.f3,λb B=>OY (d.lt b B) Z.size⟩
     ·exact d.ah.fr Z d.VB
     ·exact dR d.seen Z d.ne
     ·rw[j.out,wi];exact o
     ·exact oQ d.au Z (λb B=>(d.Tf b B).2.2)
  ·obtain rfl:k=Da.au.length:=oM
   have P:=aa y;have K:wr.cell? (aD g 2)=some (.slice a Da.au.length c3):=(y.ah.cell 2).trans rfl;have j2:=y.ah.frozen 2;clear y c R;have l:=aa hF
   go_wp2_with fail
   go_end0
   have y:=P.out;rw[MS]at y;have Q:Fr (·=g) wr (wr.setCell ⟨g,2,none⟩ sN):=Fr.setCell (S:=(·=g)) (p:=⟨g,2,none⟩) (Fr.refl _ _) (λ_=>rfl) _;refine⟨rfl,l.setCell (λ_=>y.fg) _,b1,c1,b2,c2,none,0,?_⟩;refine⟨y.ah.bI 2 _,dR y.seen Q (λe=>y.Yx e.symm),dR y.sure Q (λe=>y.VB e.symm),World.ownsRow_nil _ _ _ _,y.ne,y.fg,y.f1,y.f2,λb e=>by simp[Value.ownBlock]at e,λb B=>OY (y.lt b B) Q.size⟩
theorem PA(g:Nat)(D:DS)(F:Nat->Prop)(w:World)(H:D.ok)(o:D.au.length<1000000)(B:ct w g D F):
 Calls prog 178 #[pO g] w λe O=>e= .returned (.tuple #[])/\Fr F w O/\ct O g D.sync F:=by
 unfold DS.sync
 cases q:D.goes with
 |false=>
  refine qK (Nf g D F w H q B) ?_;rintro O⟨Z,V⟩;exact⟨rfl,Z.mono (by rintro b _ rfl;exact B.fg),V⟩
 |true=>exact TF g D F w H q o B
theorem xE:(prog.info? 296).map (λi=>(i.zero,i.size,i.bytes))=some (some (.agg (List.replicate 64 (.int .u8 0)).toArray),64,64):=kR
theorem DA(w:World):(Instr.buildSlice 114 0 #[]).run prog w= .ok (.slice (some ⟨w.heap.size,0,none⟩) 0 0) (w.alloc (.cells #[] 296)):=kR
theorem DQ(a:Addr)(n c:Nat)(d:LV)(w:World)(C:d.length=n*64)(D:∀j u,d[j]? =some u->w.cell? (a.add j)=some u)(Z:∀u∈d,u.oneCell'=true)(W:n*64<=140737488355328):
 Calls prog 170 #[.slice (some a) n c] w λe O=>∃v g,e= .returned v/\O.ownsRow 0 296 64 v n d/\v.ownBlock=some g/\w.heap.size<=g/\g<O.heap.size/\Fr iY w O:=by
 have R:=λw=>Lib.run_eql_slice_nil (P:=prog) w 114 296 (some a) n c 0 0 underlying114;have k:=DA;refine ib C (λj u h=>(World.cell?_alloc_lt w (.cells #[] 296) (a.add j) (World.block_lt_of_cell? _ _ (D j u h))).trans (D j u h)) Z λp V r=>?_;have Y:(w.alloc (.cells #[] 296)).ownsRow 0 296 64 (.slice (some ⟨w.heap.size,0,none⟩) 0 0) 0 []:=World.ownsRow_made w #[] 0 (jG _) (jG _) acy;have z:=aa Y;clear C D Z Y
 go_enter func170,ntmps170
 go_wp2_with (at_builtin;refine Bw rfl _ _ 114 rfl 0 296 (.agg (List.replicate 64 (.int .u8 0)).toArray) 64 64 underlying114 xE kR oM (.slice (some ⟨w.heap.size,0,none⟩) 0 0) 0 [] rfl z a n c rfl d p V r oM oM (jG _) ?_;intro v l q o K)
 go_ret
 have G:v.ownBlock=some w.heap.size\/v.ownBlock=some (w.heap.size+1):=by
  exact afE
 have hF:Fr iY w l:=((Fr.refl _ _).alloc _).step o adf;have b:l.ownsRow 0 296 64 v n d:=by simpa using q
 exact aeX
theorem OM{V s:LI}{l:List (Nat×LI)}{k:Nat}(F:k<l.length):
 qk V s 0 (l.take (k+1))=bh (qk V s 0 (l.take k)) (l[k].1*64) (l[k].2.take (keeps V k)):=by
 rw[Ye F,FH,fJ,Ho oM,s7]
 rfl
theorem MN(g:Nat)(A:OA)(n V0:Nat)(V:LI)(Q:Nat->Prop)(D:DS)(F:Nat->Prop)(w:World)(ho:D.ok)(hp:D.au.length<1000000)
 (hn:n=V.length) (hq:∀b,Q b->¬F b) (hv:Sl w Q 1 A n (V.map (Value.int .i64))) (B:ct w g D F):
 Calls prog 121 #[pO g,.slice A n V0] w λe O=>e= .returned (.tuple #[])/\Fr F w O/\ct O g (D.bz V) (Bc F w O):=by
 refine mr B.fg hn hv B.lt λHF R HV L1=>?_;obtain⟨b1,c1,b2,c2,a,c3,y⟩:=B;have k2:w.cell? (aD g 2)=some (.slice a D.au.length c3):=(y.ah.cell 2).trans rfl;have z:=aa ho;clear ho hn hv
 go_enter func121,ntmps121
 go_wp2_with fail
 clear k2
 go_loopg [12] D.au.length (λgh G0 wr=>∃k:Nat,gh=D.au.length-k/\k<=D.au.length/\G0= iI k/\Fr F w wr/\jE wr g {D with sure:=qk V D.sure 0 (D.au.take k)} F b1 c1 b2 c2 a c3)
 case atStart=>exact⟨0,oM,jG _,rfl,Fr.refl _ _,y⟩
 case round=>
  clear y;obtain⟨k,q,hk,rfl,hF,y⟩:=hrel;by_cases B0:k<D.au.length
  ·obtain⟨g3,rfl⟩:=fQ y.au (by show 0<D.au.length;omega)
   have X:=z.hp _ (Sp B0);have C0:=BJ (w:=wr) (k:=k) y.au (λp h=>(z.hp p h).2) B0;refine mr q y hF hk λHG P l HK=>?_;have N0:=λw=>xa (w:=w) D.au[k] X.2;have K:=aa (OM (V:=V) (s:=D.sure) B0)
   change (Instr.loadAt 298 (.pointer (some ⟨g3,k*65,none⟩))).run prog wr= .ok (.agg (wv D.au[k]).toArray) wr at C0
   generalize D.au[k]=p at X C0 N0 K;obtain⟨r,C⟩:=p;simp only at X;have A1:=X.1;have Z0:=X.2;clear X q hk y hF
   go_upto_if 20 with(first
    |((with_reducible apply CW (t:=298));(focus rfl);(focus rfl);(focus rfl);(focus exact C0))
    |((with_reducible apply zL (t:=298));(focus rfl);(focus rfl);(focus exact rv _))
    |((with_reducible apply rz (t:=298));(focus rfl);(focus rfl);(focus rfl);(focus rfl);(focus exact N0 _)))
   have I1:((k:Int)<(n:Int))=(k<V.length):=by rw[R.out];simp
   go_cut [6] (λt wx=>t= iI (keeps V k)/\wx=wr.alloc (.cells (wv (r,C)).toArray 298))
   case first=>
    by_cases c:k<V.length
    ·have I0:Sl wr Q 1 A n (V.map (Value.int .i64)):=HV.fr l (λb h _=>hq b h)
     obtain⟨ad,P0,rfl,O1,W0,F0,J0⟩:=I0.at_ (k:=k) (by rw[R.out];exact c);obtain rfl:P0= iI V[k]:=by
      rw[wO,gP c]at F0;simpa using F0.symm
     have E1:(wr.alloc (.cells (wv (r,C)).toArray 298)).cell? (ad.add k)=some (iI V[k]):=(World.cell?_alloc_lt _ _ _ (by rw[fl];exact W0)).trans J0;clear I0 F0 J0;have X0:(k:Int)<(n:Int):=by rw[R.out];omega
     have L0:((keeps V k:Nat):Int)=max 0 (min V[k] 64):=by
      unfold keeps;rw[iP c,NP,gP c];simp only[Sy];omega
     have H:=aa L0;clear L0
     exact af7
    ·have X0:¬(k:Int)<(n:Int):=by rw[R.out];omega
     have H:Hid (keeps V k=0):=by unfold keeps;rw[iN c];exact aa rfl
     exact af7
   case rest=>
    obtain⟨rfl,rfl⟩:=hcut;have A0:keeps V k<=64:=Ah V k;generalize keeps V k=G at K A0
    go_wp2_with fail
    refine fO 11 kR kR (λW J=> ?_);have H0:Fr iY wr W:=by rw[J];exact((Fr.refl _ _).alloc _).drew
    have d:=P.fr H0 (λ_ _ x=>x);have I:eF W wr.heap.size 298 (wv (r,C)).toArray:=by rw[J];exact(eF.new _ _ _).drew
    clear J;have q1:W.cell? (aD g 1)=some (.slice (some ⟨b2,0,none⟩) D.n c2):=(d.ah.cell 1).trans rfl;have q2:W.cell? (aD wr.heap.size 0)=some (iI r):=(I.cell 0).trans rfl;have N1:(0:Int)<=(r:Int)/\(r:Int)<(D.n:Int):=oM
    have H1:(r+1)*64<=D.n*64:=vl _ A1;have S0:=aa d;have o:(Builtin.copy_ #[27,27] 3 #[.slice (some ⟨b2,r*64,none⟩) 64 64,.slice (some ⟨wr.heap.size,1,none⟩) G 64]).run prog W= .ok (goInt G) (W.setCells b2 (r*64) (bv (C.take G))):=by
     refine FP 27 27 3 5 b2 (r*64) 64 64 (some ⟨wr.heap.size,1,none⟩) G 64 (bv (C.take G)) (λ_=>True) underlying27 BY ?_ A0 ?_ (jF _)
     ·refine⟨by simp[Z0];omega,λ_=>⟨_,rfl,trivial,I.lt,λj P0 E=> ?_⟩⟩
      rw[show(⟨wr.heap.size,1,none⟩:Addr).add j=⟨wr.heap.size,1+j,none⟩by unfold Addr.add;split<;>simp_all,I.cell];rw[show 1+j=j+1 by omega];simp only[wv,List.getElem?_toArray,List.getElem?_cons_succ];rw[show bv (C.take G)=(bv C).take G by simp[bv],AH]at E
      split at E
      ·exact E
      ·cases E
     ·exact λj hj=>iL d.sure (r*64) 64 (by show r*64+64<=D.n*64;omega) j oM
    have M0:=kE (U:=bv (C.take G)) d.sure (r*64) (by show r*64+(bv (C.take G)).length<=D.n*64;simp;omega);have Z:Fr (·=b2) W (W.setCells b2 (r*64) (bv (C.take G))):=jN b2 _ _ _ (Fr.refl _ _) (λ_=>rfl);clear d I;have J1:(G:Int)<=64:=oM
    have K1:G<=64:=A0;generalize W.setCells b2 (r*64) (bv (C.take G))=W2 at o M0 Z;simp only[Kx,Hm,Nl,AW]
    repeat still_step
    try refine wpStill_nil ?_
    (with_reducible apply KW (tx:=27))
    focus rfl
    focus rfl
    focus rfl
    focus rfl
    focus exact o
    simp only[Act.put];clear o q1 q2
    go_wp2_with fail
    go_roundg (D.au.length-(k+1))
    case measure=>exact ad5
    case rel=>
     have d:=S0.out;refine⟨k+1,rfl,oM,rfl,?_,?_⟩
     ·exact(l.step H0 (λ_ x _=>x.elim)).step Z (by rintro G0 rfl _;exact d.f2)
     ·refine⟨?_,?_,?_,?_,d.ne,d.fg,d.f1,d.f2,d.f3,λb B=>OY (d.lt b B) Z.size⟩
      ·exact d.ah.fr Z d.VB
      ·exact dR d.seen Z d.ne
      ·rw[K.out,wi];exact M0
      ·exact oQ d.au Z (λb B=>(d.Tf b B).2.2)
  ·obtain rfl:k=D.au.length:=oM
   have l:=aa hF;rw[MS]at y;have T0:=aa (rC V D.au D.sure 0 D.n z.hu z.hp);generalize Y:qk V D.sure 0 D.au=T at*;have U0:=aa Y;clear Y;have P:=aa y;have q2:wr.cell? (aD g 2)=some (.slice a D.au.length c3):=(y.ah.cell 2).trans rfl;have q3:wr.cell? (aD g 3)=some (iI D.gG):=(y.ah.cell 3).trans rfl;have q4:wr.cell? (aD g 4)=some (.bool D.down):=(y.ah.cell 4).trans rfl;have q1:wr.cell? (aD g 1)=some (.slice (some ⟨b2,0,none⟩) D.n c2):=(y.ah.cell 1).trans rfl;have j0:=y.ah.frozen 0;have j2:=y.ah.frozen 2;have j3:=y.ah.frozen 3;have j4:=y.ah.frozen 4;clear y q hk hF
   go_wp2_with fail
   have Z:Fr (·=g) wr (((wr.setCell ⟨g,2,none⟩ sN).setCell ⟨g,3,none⟩ (iI (-1))).setCell ⟨g,4,none⟩ (.bool false)):=
    Fr.setCell (S:=(·=g)) (p:=⟨g,4,none⟩) (Fr.setCell (S:=(·=g)) (p:=⟨g,3,none⟩) (Fr.setCell (S:=(·=g)) (p:=⟨g,2,none⟩) (Fr.refl _ _) (λ_=>rfl) _) (λ_=>rfl) _) (λ_=>rfl) _
   have I:=((P.ah.bI 2 sN).bI 3 (iI (-1))).bI 4 (.bool false);generalize((wr.setCell ⟨g,2,none⟩ sN).setCell ⟨g,3,none⟩ (iI (-1))).setCell ⟨g,4,none⟩ (.bool false)=W3 at Z I;have y:=P.out;have Q1:=dR y.seen Z (λe=>y.Yx e.symm);have O0:=dR y.sure Z (λe=>y.VB e.symm);have D0:∀b,F b->b<W3.heap.size:=λb B=>OY (y.lt b B) Z.size;have n1:=z.n1;have n2:=z.n2;have R0:=aa y;clear y q1 q2 q3 q4 j0 j2 j3 j4;refine(DQ ⟨b2,0,none⟩ D.n c2 (bv T) W3 (by simpa using T0.out) (O0.cells (g:=b2) rfl) (jF _) oM).mono ?_;rintro e M⟨v,g5,rfl,E0,Y0,F1,M1,L⟩;obtain⟨A5,N,rfl⟩:∃A5 N,v= .slice A5 D.n N:=by
    rcases E0.2 with⟨rfl,h0⟩|⟨b5,B1,C1,rfl,_⟩
    ·omega
    ·exact⟨_,_,rfl⟩
   obtain⟨u,rfl⟩:=fQ E0 oM;obtain rfl:u=g5:=by simpa[Value.ownBlock]using Y0
   have i:=I.fr L (λx=>x);have q0:M.cell? (aD g 0)=some (.slice (some ⟨b1,0,none⟩) D.n c1):=(i.cell 0).trans rfl;have j0:=i.frozen 0;have Q0:=aa i;clear i
   go_wp2_with fail
   go_end0
   have Y:=U0.out;subst Y;have i:=Q0.out;have y:=R0.out;have K0:Fr (·=g) M (M.setCell ⟨g,0,none⟩ (.slice (some ⟨u,0,none⟩) D.n N)):=Fr.setCell (S:=(·=g)) (p:=⟨g,0,none⟩) (Fr.refl _ _) (λ_=>rfl) _;have P1:(M.setCell ⟨g,0,none⟩ (.slice (some ⟨u,0,none⟩) D.n N)).heap.size=M.heap.size:=by simp[World.setCell]
   have S1:=l.size;have R1:=Z.size;have h5:=L.size;have G1:=D0 _ y.fg;have D1:=D0 _ y.f2;refine⟨rfl,(((l.step Z (by rintro G0 rfl _;exact y.fg)).step L (λ_ x _=>x.elim)).setCell (λ_=>y.fg) _),u,N,b2,c2,none,0,?_⟩;refine⟨i.bI 0 _,dR E0 K0 oM,dR (dR O0 L (λx=>x)) K0 (λe=>y.VB e.symm),World.ownsRow_nil _ _ _ _,oM,.inl y.fg,.inr ⟨oM,oM⟩,.inl y.f2,λb e=>by simp[Value.ownBlock]at e,?_⟩;rintro b(h|h)
   ·have:=D0 b h;omega
   ·exact h.2
theorem Ez(w:World)(r R t:OA)(a z T c1 J c2:Nat)(x:Int)(y:Bool):
 (Instr.box 117 (.agg #[.slice r a z,.slice R T c1,.slice t J c2,iI x,.bool y])).run prog w= .ok (pO w.heap.size) (w.alloc (.cells #[.slice r a z,.slice R T c1,.slice t J c2,iI x,.bool y] 117)):=kR
theorem QX(K m:Nat)(x:Value)(l:0<K):(madeCells (Value.agg (List.replicate K x).toArray).cells m).toList=List.replicate m x:=by
 show(madeCells (List.replicate K x).toArray m).toList=List.replicate m x;unfold madeCells;rw[Zc,zc3,zdt];refine⟨by simp,λb B=> ?_⟩;obtain⟨i,_,rfl⟩:=oK.1 B;have:i%K<K:=Zf _ l;simp[this]
theorem NV(m:Nat):(madeCells (Value.agg (List.replicate 64 (.int .u8 0)).toArray).cells m).toList=bv (bV m):=by
 rw[QX 64 m _ oM];unfold bv bV;rw[zc4]
theorem lB{P:Program}{l:List Oper}{Q:Exit->Act->World->Prop}{S:World->Prop}{L:Nat}{i:Nat}{r:List Nat}{a:Act}{w O:World}{o:Oper}(H:l[i]? =some o)(G:o.guard=none)(t:TypeId)(x y:Operand)(p u:Value)(X:o.op= .makeSlice t x y)(J:a.eval x=p)(E:a.eval y=u)
 (C:(Instr.makeSlice t p u).run P w= .ok v O) (z:i<L->S O) (h:dF P l.toArray Q S L r (a.put o.dst v) O):dF P l.toArray Q S L (i::r) a w:=
 oD H G (by unfold execOp;simp only[X,J,E,Sem.run_bind,Sem.run_pure,Result.andThen_ok,C]) z h
theorem Gc(n:Nat)(w:World)(W:n<=512):∃O,(Instr.makeSlice 114 (iI n) (iI n)).run prog w= .ok (.slice (some ⟨w.heap.size,0,none⟩) n n) O/\
 O.ownsRow 0 296 64 (.slice (some ⟨w.heap.size,0,none⟩) n n) n (bv (bV (n*64)))/\Fr iY w O/\O.heap.size=w.heap.size+1:=by
 obtain⟨q,H,r,o,p⟩:=info_parts xE;have G:=run_makeSlice (P:=prog) w 114 296 q _ underlying114 H r .i64 .i64 n n oM oM (by rw[o];simp;omega) (by rw[p];omega) oM;simp only[qG,o]at G;refine⟨_,G,?_,(Fr.refl _ _).alloc _,World.size_alloc _ _⟩;have:=World.ownsRow_lit w (madeCells (Value.agg (List.replicate 64 (.int .u8 0)).toArray).cells (n*64)) n (base:=0) (size:=64) (e:=296) (jG _) acV (size_madeCells _ _);rwa[NV]at this
theorem xA(w:World)(r R:OA)(a z T c1:Nat):
 (Instr.build 117 #[(0,.slice r a z),(1,.slice R T c1),(3,iI (-1))]).run prog w= .ok (.agg #[.slice r a z,.slice R T c1,sN,iI (-1),.bool false]) w:=kR
theorem Ur(n:Nat)(w:World)(Z:1<=n)(V:n<=512):
 Calls prog 19 #[iI n] w λe O=>∃g,e= .returned (.tuple #[pO g,iI 0])/\w.heap.size<=g/\ct O g (DS.new n) (Bc iY w O)/\Fr iY w O:=by
 have P:¬(n:Int)<1:=oM
 have x:¬512<(n:Int):=oM
 go_enter func19,ntmps19
 go_wp2_with fail
 refine wM (λW=>True/\True) 8 5 [0,2] [[1,3,4,5,6,7],[3,1,4,5,6,7]] kR kR
  (λd=>by cases d<;>exact λ_ _ _ _ h=>h) (λr M=> ?_)
 have q:Fr iY w r:=by rw[M];exact(Fr.refl _ _).drew
 have k:r.heap.size=w.heap.size:=by rw[M];rfl
 clear M;refine⟨⟨trivial,trivial⟩,?_⟩
 iterate 2 (refine bN rfl rfl (λW J=>by(rcases J with⟨_,_⟩;go_simp;try rfl)) ?_;simp only[aR])
 obtain⟨a,L,p,l,Q⟩:=Gc n r V;obtain⟨u,o,t,j,R⟩:=Gc n a V;intro X y;simp only[nO,nK,or_false]at y;rcases y with rfl|rfl
 ·refine lB rfl rfl 114 _ _ (iI n) (iI n) rfl rfl rfl L (λ_=>⟨trivial,trivial⟩) ?_
  simp only[aR];refine lB rfl rfl 114 _ _ (iI n) (iI n) rfl rfl rfl o (λ_=>⟨trivial,trivial⟩) ?_;simp only[aR];refine Cd rfl rfl 117 _ [(0,.slice (some ⟨r.heap.size,0,none⟩) n n),(1,.slice (some ⟨a.heap.size,0,none⟩) n n),(3,iI (-1))] rfl rfl (xA u (some ⟨r.heap.size,0,none⟩) (some ⟨a.heap.size,0,none⟩) n n n n) (λ_=>⟨trivial,trivial⟩) ?_;simp only[aR];refine LW rfl rfl 117 _ _ rfl rfl (Ez u (some ⟨r.heap.size,0,none⟩) (some ⟨a.heap.size,0,none⟩) none n n n n 0 0 (-1) false) (λ_=>⟨trivial,trivial⟩) ?_;simp only[aR];refine bD rfl rfl (v:= pO u.heap.size) gS (λ_=>⟨trivial,trivial⟩) ?_;simp only[aR];refine bD rfl rfl (v:= iI 0) gS (λ_=>⟨trivial,trivial⟩) ?_;simp only[aR];refine cN ?_;have i:Fr iY u (u.alloc (.cells #[.slice (some ⟨r.heap.size,0,none⟩) n n,.slice (some ⟨a.heap.size,0,none⟩) n n,sN,iI (-1),.bool false] 117)):=(Fr.refl _ _).alloc _;have c:=eF.new u 117 #[.slice (some ⟨r.heap.size,0,none⟩) n n,.slice (some ⟨a.heap.size,0,none⟩) n n,sN,iI (-1),.bool false];have G:=World.size_alloc u (.cells #[.slice (some ⟨r.heap.size,0,none⟩) n n,.slice (some ⟨a.heap.size,0,none⟩) n n,sN,iI (-1),.bool false] 117);generalize u.alloc (.cells #[.slice (some ⟨r.heap.size,0,none⟩) n n,.slice (some ⟨a.heap.size,0,none⟩) n n,sN,iI (-1),.bool false] 117)=W7 at i c G;have D:=aa (And.intro G (And.intro Q (And.intro R k)));clear G Q R k
  go_wp2_with fail
  go_ret2
  obtain⟨G,Q,R,k⟩:=D.out;refine⟨u.heap.size,rfl,oM,⟨r.heap.size,n,a.heap.size,n,none,0,?_⟩,((q.trans l).trans j).trans i⟩;refine⟨c,si (si p j) i,si t i,World.ownsRow_nil _ _ _ _,oM,.inr ⟨oM,oM⟩,.inr ⟨oM,oM⟩,.inr ⟨oM,oM⟩,λb B=>by simp[Value.ownBlock]at B,?_⟩;rintro b(h|h)
  ·exact h.elim
  ·exact h.2
 ·refine lB rfl rfl 114 _ _ (iI n) (iI n) rfl rfl rfl L (λ_=>⟨trivial,trivial⟩) ?_
  simp only[aR];refine lB rfl rfl 114 _ _ (iI n) (iI n) rfl rfl rfl o (λ_=>⟨trivial,trivial⟩) ?_;simp only[aR];refine Cd rfl rfl 117 _ [(0,.slice (some ⟨a.heap.size,0,none⟩) n n),(1,.slice (some ⟨r.heap.size,0,none⟩) n n),(3,iI (-1))] rfl rfl (xA u (some ⟨a.heap.size,0,none⟩) (some ⟨r.heap.size,0,none⟩) n n n n) (λ_=>⟨trivial,trivial⟩) ?_;simp only[aR];refine LW rfl rfl 117 _ _ rfl rfl (Ez u (some ⟨a.heap.size,0,none⟩) (some ⟨r.heap.size,0,none⟩) none n n n n 0 0 (-1) false) (λ_=>⟨trivial,trivial⟩) ?_;simp only[aR];refine bD rfl rfl (v:= pO u.heap.size) gS (λ_=>⟨trivial,trivial⟩) ?_;simp only[aR];refine bD rfl rfl (v:= iI 0) gS (λ_=>⟨trivial,trivial⟩) ?_;simp only[aR];refine cN ?_;have i:Fr iY u (u.alloc (.cells #[.slice (some ⟨a.heap.size,0,none⟩) n n,.slice (some ⟨r.heap.size,0,none⟩) n n,sN,iI (-1),.bool false] 117)):=(Fr.refl _ _).alloc _;have c:=eF.new u 117 #[.slice (some ⟨a.heap.size,0,none⟩) n n,.slice (some ⟨r.heap.size,0,none⟩) n n,sN,iI (-1),.bool false];have G:=World.size_alloc u (.cells #[.slice (some ⟨a.heap.size,0,none⟩) n n,.slice (some ⟨r.heap.size,0,none⟩) n n,sN,iI (-1),.bool false] 117);generalize u.alloc (.cells #[.slice (some ⟨a.heap.size,0,none⟩) n n,.slice (some ⟨r.heap.size,0,none⟩) n n,sN,iI (-1),.bool false] 117)=W7 at i c G;have D:=aa (And.intro G (And.intro Q (And.intro R k)));clear G Q R k
  go_wp2_with fail
  go_ret2
  obtain⟨G,Q,R,k⟩:=D.out;refine⟨u.heap.size,rfl,oM,⟨a.heap.size,n,r.heap.size,n,none,0,?_⟩,((q.trans l).trans j).trans i⟩;refine⟨c,si t i,si (si p j) i,World.ownsRow_nil _ _ _ _,oM,.inr ⟨oM,oM⟩,.inr ⟨oM,oM⟩,.inr ⟨oM,oM⟩,λb B=>by simp[Value.ownBlock]at B,?_⟩;rintro b(h|h)
  ·exact h.elim
  ·exact h.2
theorem SS(n:Int)(w:World)(Z:1<=n)(V:n<=512):
 Calls prog 19 #[iI n] w λe O=>∃g,e= .returned (.tuple #[pO g,iI 0])/\w.heap.size<=g/\ct O g (DS.new n.toNat) (Bc iY w O)/\Fr iY w O:=by
 obtain⟨k,rfl⟩:=zY (show 0<=n by omega);exact Ur k w oM oM
section
theorem IK{w O:World}{base:Nat}{e:TypeId}{size:Nat}{n:Nat}(h:w.ownsRow base e size v n xs)(B:∀b,v.ownBlock=some b->O.heap[b]? =w.heap[b]?):O.ownsRow base e size v n xs:=by
 refine⟨h.1,?_⟩;rcases h.2 with V|⟨g,cap,l,rfl,u,H,r⟩
 ·exact .inl V
 ·exact .inr ⟨g,cap,l,rfl,u,(B g rfl).trans H,r⟩
def da(g:Nat)(D:DS):aw where
 holds _ w F:=ct w g D F
 lt h B:=h.lt _ B
 loc:=by
  rintro M a w O F⟨b1,c1,b2,c2,A,c3,h⟩ _ _ B;refine⟨b1,c1,b2,c2,A,c3,(B g h.fg).trans h.ah,IK h.seen (λb e=> ?_),IK h.sure (λb e=> ?_),IK h.au (λb e=>B b (h.f3 b e)),h.ne,h.fg,h.f1,h.f2,h.f3,λb hF=> ?_⟩
  ·simp[Value.ownBlock]at e;subst e;exact B _ h.f1
  ·simp[Value.ownBlock]at e;subst e;exact B _ h.f2
  ·have Z:=B b hF
   rw[Sw (h.lt b hF)]at Z;exact(DZ.1 Z).1
theorem uc.outside{M:aH}{w:World}{L:List aw}{d:Nat->Nat->Prop}(U:uc M w L d)(Q:fP w M){i k:Nat}{R:World->Prop}(z:L[i]? =some (aS R))(F:k<L.length){size:Nat}{A:OA}{n:Nat}(T:0<size)
 (c:∀O,R O->Sl O Any size A n xs):Sl w (λb=>¬d k b) size A n xs:=by
 have J:=U.at_ i _ z;have Z:=c w (J.2 w Q);refine⟨Z.1,λW=> ?_⟩;obtain⟨Y,rfl,_,B,D⟩:=Z.2 W;refine⟨Y,rfl,λhF=> ?_,B,D⟩;have H:=U.off k _ F hF
 let O:World:={w with heap:=w.heap.modify Y.block (λ_=> .map #[] 0)}
 have l:fP O M:=⟨Q.os,Q.tape,Q.output,λb o g=>by
  have I:Y.block≠b:=by rintro rfl;rw[H]at g;cases g
  show(w.heap.modify Y.block (λ_=> .map #[] 0))[b]? =some o;rw[Ze,iN I];exact Q.heap b o g⟩
 obtain⟨x,e,_,_,a⟩:=(c O (J.2 O l)).2 W;injection e with e;subst e;have C:0<xs.length:=by rw[Z.1];exact Nat.mul_pos W T
 have V:=a 0 _ (gP C);unfold World.cell? at V;rw[fl]at V;have K:O.heap[Y.block]? =some (.map #[] 0):=by
  show(w.heap.modify Y.block (λ_=> .map #[] 0))[Y.block]? =_;rw[Ze,iP rfl,Sw B]
  rfl
 rw[K]at V
 cases V
section
variable {I:aH} {w:World} {L:List aw} {g:Nat} {D:DS}
theorem St.ds(h:St I w (da g D::L)):∃F,ct w g D F/\(∀(i:Nat) k v xs,L[i]? =some (ai k v xs)->∃A c,v= .slice A xs.length c/\xs.length<=c/\c<=maxLen/\Sl w (λb=>¬F b) 1 A xs.length (xs.map (Value.int k)))/\
 ∀O E e,Fr F w O->ct O g E e->(∀b,e b->F b\/w.heap.size<=b)->St I O (da g E::L):=by
 have K:=h;obtain⟨M,d,y,Q,U⟩:=h;refine⟨d 0,U.at_ 0 _ rfl,?_,?_⟩
 ·intro i k v xs z
  obtain⟨A,c,rfl,Z,V,_⟩:=K.get (i+1) acA;refine⟨A,c,rfl,Z,V,U.outside Q (i:=i+1) (k:=0) (R:=λO=>aA O k (.slice A xs.length c) xs) acA acy oM (λO j=>j.sl.2.2.2)⟩
 ·intro O E e a q hF
  have l:fP O M:=Q.fr a (λb B=>U.off 0 b acy B);have N:∀i b,i<L.length->d (i+1) b->b<w.heap.size:=λi b z B=>(L[i]).lt (U.at_ (i+1) _ (by simp[gP z])) B;have W:uc M O L (λi=>d (i+1)):=U.tail.Pw l (aH.le.refl _) (λi b z B=>a.block b (N i b z B) (U.apart (i+1) 0 b oM acA acy B)) (λi b z=>U.off (i+1) b acA);refine⟨M,_,y,l,W.cons (X:=da g E) q ?_ ?_⟩
  ·exact aeU
  ·exact aew
theorem Ay{F:Nat->Prop}{w O:World}(b:Nat)(h:Bc F w O b):F b\/w.heap.size<=b:=h.elim .inl (λh=> .inr h.1)
theorem yw(i:Int)(v:Value)(X:LI)(k:Nat)(H:D.ok)(o:D.au.length<1000000)(z:L[k]? =some (ai .u8 v X))(h:St I w (da g D::L)):
 Rt I w 206 #[pO g,iI i,v] (iI (D.eU i X)) (da g (D.write i X)::L):=by
 obtain⟨F,q,j,Q⟩:=h.ds;obtain⟨A,c,rfl,_,_,U⟩:=j k _ _ _ z;refine(Oh g i A X.length c X _ D F w H rfl o (λb B e=>B (e▸q.fg)) U q).mono ?_;rintro e O⟨Y,a,u⟩;exact⟨Y,Q _ _ _ a u Ay⟩
theorem xU(H:D.ok)(o:D.au.length<1000000)(h:St I w (da g D::L)):
 Rt I w 178 #[pO g] (.tuple #[]) (da g D.sync::L):=by
 obtain⟨F,q,_,Q⟩:=h.ds;refine(PA g D F w H o q).mono ?_;rintro e O⟨Y,a,u⟩
 first|exact⟨Y,Q _ _ _ a u Ay⟩|exact⟨Y,Q _ _ _ a u (λb B=> .inl B)⟩
theorem QY(v:Value)(V:LI)(k:Nat)(H:D.ok)(o:D.au.length<1000000)(z:L[k]? =some (ai .i64 v V))(h:St I w (da g D::L)):
 Rt I w 121 #[pO g,v] (.tuple #[]) (da g (D.bz V)::L):=by
 obtain⟨F,q,j,Q⟩:=h.ds;obtain⟨A,c,rfl,_,_,U⟩:=j k _ _ _ z;refine(MN g A V.length c V _ D F w H o rfl (λb B e=>B e) U q).mono ?_;rintro e O⟨Y,a,u⟩;exact⟨Y,Q _ _ _ a u Ay⟩
theorem Vn(n:Int)(h:St I w (da g D::L)):
 Rt I w 76 #[pO g,iI n] (.tuple #[]) (da g {D with gG:=n}::L):=by
 obtain⟨F,q,_,Q⟩:=h.ds;refine(Pc g n D F w q).mono ?_;rintro e O⟨Y,a,u⟩;exact⟨Y,Q _ _ _ a u (λb B=> .inl B)⟩
theorem ya(h:St I w (da g D::L)):Rt I w 119 #[pO g] (.bool D.down) (da g D::L):=by
 obtain⟨F,q,_,_⟩:=h.ds;refine(Rl g D F w q).mono ?_;exact afL
theorem Ip(h:St I w (da g D::L)):Rt I w 85 #[pO g] (iI D.n) (da g D::L):=by
 obtain⟨F,q,_,_⟩:=h.ds;refine(Th g D F w q).mono ?_;exact afL
theorem Yg(n:Int)(Z:1<=n)(V:n<=512)(h:St I w L):
 Calls prog 19 #[iI n] w λe O=>∃g,e= .returned (.tuple #[pO g,iI 0])/\St I O (da g (DS.new n.toNat)::L):=by
 refine(SS n w Z V).mono ?_;rintro e O⟨g,F,_,q,a⟩;exact⟨g,F,h.add (Y:=da g (DS.new n.toNat)) a (λ_ _=>q) (λb B=>B.elim (λx=>x.elim) (λx=>x.1))⟩
end
end
theorem ML(g k:Nat)(D:DS)(F:Nat->Prop)(w:World)(G:D.ok)(W:k<D.n)(B:ct w g D F):
 Calls prog 131 #[pO g,iI k] w λe O=>∃A c,e= .returned (.tuple #[.slice A 64 c,iI 0])/\64<=c/\c<=maxLen/\Sl O (λb=>w.heap.size<=b) 1 A 64 (bv (D.at_ k))/\Fr iY w O:=by
 have H:=aa (sr g k D F w B);rw[dZ (show 0<=(k:Int)/\(k:Int)<(D.n:Int)by omega)]at H;obtain⟨b1,c1,b2,c2,A,c3,h⟩:=B;have J:w.cell? (aD g 0)=some (.slice (some ⟨b1,0,none⟩) D.n c1):=(h.ah.cell 0).trans rfl;have C:=DS.Cx G W;have n:(0:Int)<=(k:Int)/\(k:Int)<(D.n:Int):=oM
 have V:=aa (IC ⟨b1,k*64,none⟩ 64 64 (bv (D.at_ k)) w (by simp[C]) (by
  intro j u E;have:=Bj h.seen (k*64) 64;rw[show(⟨b1,k*64,none⟩:Addr).add j=⟨b1,k*64+j,none⟩by unfold Addr.add;split<;>simp_all];refine this j u ?_;rw[<-E];simp[DS.at_,bv]) (jF _) oM)
 have p:=aa C;clear h C
 go_enter func131,ntmps131
 go_wp2_with (first|(go_at_call 173;refine H.mono ?_;rintro e O⟨rfl,rfl⟩)|(go_at_call 23;refine V.mono ?_;rintro e O⟨v,t,rfl,Z,M,Q,Y,P⟩))
 go_ret2
 rcases Z.2 with⟨rfl,K⟩|⟨a,cap,l,rfl,_,z,d,y,_⟩
 ·simp[Value.ownBlock]at M
 ·obtain rfl:a=t:=by simpa[Value.ownBlock]using M
  exact⟨_,_,rfl,d,y,⟨Z.1,λ_=>⟨_,rfl,Q,Y,Z.cells (g:=a) rfl⟩⟩,P⟩
theorem St.Ly{I:aH}{w:World}{L:List aw}{A:OA}{n c:Nat}{xs:LI}{O:World}(h:St I w L)(a:Fr iY w O)(W:n=xs.length)(D:n<=c)(y:c<=maxLen)(U:Sl O (λb=>w.heap.size<=b) 1 A n (bv xs)):St I O (ai .u8 (.slice A n c) xs::L):=by
 subst W;by_cases K:0<xs.length
 ·obtain⟨Y,rfl,d,B,p⟩:=U.2 K
  obtain⟨o,H⟩:∃o,O.heap[Y.block]? =some o:=⟨_,Sw B⟩
  let X:aw:=⟨λ_ w F=>(∀b,F b↔b=Y.block)/\w.heap[Y.block]? =some o,λh B=>by rw[(h.1 _).1 B];exact(DZ.1 h.2).1,λh _ _ B=>⟨h.1,(B _ ((h.1 _).2 rfl)).trans h.2⟩⟩
  have Z:St I O (X::L):=h.add (F':=(·=Y.block)) a (λ_ _=>⟨λ_=>Wb,H⟩) (λb B=>by rw[B];exact d);refine Z.freeze (λM g F J _=> ?_);refine⟨some Y,c,rfl,D,y,U.1,λ_=>⟨Y,rfl,trivial,(DZ.1 J.2).1,λj u E=> ?_⟩⟩;rw[<-p j u E];exact World.cell?_of_block (w:=O) (by rw[fl,J.2,H])
 ·have:xs=[]:=AJ oM
  subst this;exact(h.grow a).bG (λg _=>⟨A,c,rfl,by simp,y,Sl.Qp _ _ _ _⟩)
theorem vI{I:aH}{w:World}{L:List aw}{g:Nat}{D:DS}(i:Int)(H:D.ok)(h:St I w (da g D::L)):
 Calls prog 131 #[pO g,iI i] w λe O=>∃A c,e= .returned (.tuple #[.slice A (D.read i).length c,iI (D.Pp i)])/\St I O (ai .u8 (.slice A (D.read i).length c) (D.read i)::da g D::L):=by
 obtain⟨F,q,_,_⟩:=h.ds;unfold DS.Pp DS.read;by_cases z:i<0\/(D.n:Int)<=i
 ·rw[iP z,iP z]
  refine(SU g i D F w z q).mono ?_;rintro e O⟨rfl,rfl⟩;exact⟨none,0,rfl,h.Ly (Fr.refl _ _) rfl (g9 _) acV (Sl.Qp _ _ _ _)⟩
 ·rw[iN z,iN z]
  obtain⟨k,rfl⟩:=zY (show 0<=i by omega);have C:=DS.Cx H (k:=k) oM;refine(ML g k D F w H oM q).mono ?_;rintro e O⟨A,c,rfl,Z,V,M,Q⟩;have S:((k:Int).toNat)=k:=oM
  rw[S,C];exact⟨A,c,rfl,h.Ly Q C.symm Z V M⟩
end Go.Proofs.YtblpaldggenbaaaGreatDoor
