/- A part. -/
import Derived.Lib.Slices
import Derived.Test.YtblpaldggenbaaaGreatDoorMi
namespace Go.Proofs.YtblpaldggenbaaaGreatDoor
open Go.RowKit Go.Proofs.Tryz
set_option maxRecDepth 100000
set_option maxHeartbeats 64000000
variable{L:List aw}{α:Type}{I:aH}{w:World}
section
open Go.Shelf
theorem yq{p:Addr}{a b:Value}(h:∀j u,[a,b][j]? =some u->w.cell? (p.add j)=some u):w.cell? p=some a/\w.cell? ⟨p.block,p.off+1,none⟩=some b:=
 ⟨by simpa[Addr.add]using h 0 a rfl,by simpa[Addr.add]using h 1 b rfl⟩
theorem nZ{p:Addr}{a b c d:Value}(h:∀j u,[a,b,c,d][j]? =some u->w.cell? (p.add j)=some u):w.cell? p=some a/\w.cell? ⟨p.block,p.off+1,none⟩=some b/\w.cell? ⟨p.block,p.off+2,none⟩=some c/\w.cell? ⟨p.block,p.off+3,none⟩=some d:=
 ⟨by simpa[Addr.add]using h 0 a rfl,by simpa[Addr.add]using h 1 b rfl,by simpa[Addr.add]using h 2 c rfl,by simpa[Addr.add]using h 3 d rfl⟩
theorem Hl{C:α->LV}{size:Nat}(D:∀x,(C x).length=size)(l:List α)(R:LV)(i j q:Nat)(N:j=i+1)(z:i<l.length)(d:q+1=l.length):
 (bh (bh (l.flatMap C) (i*size) ((l.flatMap C).drop (j*size))) (q*size) R).take (q*size)=(l.eraseIdx i).flatMap C:=by
 have G:=qQ D l;have f1:(l.flatMap C).take (i*size)=(l.take i).flatMap C:=by
  rw[<-og,<-og,Sx];exact nB _ G i acC
 have f2:(l.flatMap C).drop (j*size)=(l.drop j).flatMap C:=by
  rw[<-og,<-og,WT];exact pW _ G j acC
 have f3:((l.take i).flatMap C++(l.drop j).flatMap C).length=q*size:=by
  rw[<-zcw,sH D,eG,fJ,km]
  exact aeC
 unfold bh;rw[f1,f2,Yn f3,nX,Yn f3,<-zcw,N,VD]
abbrev cy(x:be):LV:=[iI x.c,iI x.m,iU x.t,iU x.u]
theorem gC(x:be):(cy x).length=4:=rfl
theorem kW:eB prog 105 273 (.agg #[iI 0,iI 0,iU 0,iU 0]) 4 32:=⟨underlying105,kR,kR,oM⟩
theorem Br(w:World):(zeroValue 273).run prog w= .ok (.agg #[iI 0,iI 0,iU 0,iU 0]) w:=by
 obtain⟨q,H,G,_,_⟩:=info_parts kW.jW;simp[zeroValue,typeInfo,H,G]
theorem Hx(w:World)(a b c d:Int):(Instr.buildSlice 105 1 #[(0,.agg #[iI a,iI b,iU c,iU d])]).run prog w= .ok (.slice (aO w.heap.size) 1 1) (w.alloc (.cells #[iI a,iI b,iU c,iU d] 273)):=kR
theorem Jm(w:World):(Instr.buildSlice 105 0 #[]).run prog w= .ok (.slice (aO w.heap.size) 0 0) (w.alloc (.cells #[] 273)):=kR
theorem uW(x:be):∀u∈cy x,u.oneCell'=true:=by
 intro u E;simp only[cy,nO,nK,or_false]at E;exact afn
theorem IZ(w:World)(b o:Nat)(x:be)(R:w.there b o 4):(Instr.storeAt 273 (.pointer (some ⟨b,o,none⟩)) (.agg #[iI x.c,iI x.m,iU x.t,iU x.u])).run prog w= .ok () (w.setCells b o (cy x)):=by
 have V:=run_storeCells_cells (P:=prog) b o (cy x) 0 w (λk F=>by rw[vt];exact(R k F).1) (λk F=>by rw[vt];exact(R k F).2) (uW x);simp only[vt]at V;obtain⟨q,H,_,T,_⟩:=info_parts kW.jW;exact ae6
abbrev il(x:cS):LV:=[iI x.c,iI x.m]
theorem kY(x:cS):(il x).length=2:=rfl
theorem pg:eB prog 106 317 (.agg #[iI 0,iI 0]) 2 16:=⟨underlying106,kR,kR,oM⟩
theorem Ni(w:World):(zeroValue 317).run prog w= .ok (.agg #[iI 0,iI 0]) w:=by
 obtain⟨q,H,G,_,_⟩:=info_parts pg.jW;simp[zeroValue,typeInfo,H,G]
theorem Hw(w:World):(Instr.buildSlice 106 0 #[]).run prog w= .ok (.slice (aO w.heap.size) 0 0) (w.alloc (.cells #[] 317)):=kR
theorem yP(x:cS):∀u∈il x,u.oneCell'=true:=by
 intro u E;simp only[il,nO,nK,or_false]at E;rcases E with rfl|rfl<;>rfl
theorem tW(f:FuncId)(K:Vq)(p:be->Bool)(l:List be)(A:OA)(n c:Nat)(w:World)
 (D:∀(args:Vq) (W:World),Sem.run prog (callFunc f args) W= .ok (.enter f args) W)
 (d:∀W,St I W L->fo cy 4 W (.slice A n c) l)
 (hF:∀(x:be) (W:World),x∈l->St I W L->Calls prog f (#[.agg (cy x).toArray]++K) W λe g=>e= .returned (.bool (p x))/\St I g L)
 (h:St I w L):
 Rt I w 182 #[.slice A n c,.func (.func f) #[] K] (iI (dz p 0 l)) L:=by
 obtain⟨P,N,Z,_⟩:=(d w h).sl;refine xH P d h hF D (show dz p 0 l=dz p 0 (l.drop 0)from rfl) λb t H y V j=>?_;clear h P hF D d
 go_enter func182,ntmps182
 go_wp2_with fail
 go_loopg [8] n (λQ i wr=>∃(k:Nat),Q=n-k/\k<=n/\i= iI (k:Nat)/\dz p 0 l=dz p k (l.drop k)/\St I wr L)
 case atStart=>exact aex
 case round=>
  clear H j;obtain⟨k,u,F,rfl,z,h⟩:=hrel;have R:=aa u;clear u;by_cases B:k<n
  ·have J:=gP (l:=l) (i:=k) acz
   have O:=Eb (l:=l) (i:=k) acz;generalize l[k]' acz=x at J O;have U:dz p k (l.drop k)=if p x=true then(k:Int)else dz p (k+1) (l.drop (k+1)):=by rw[O];rfl
   have G:=aa (pJ J);obtain⟨Y,rfl,a⟩:=(t _ h).at_ gC J;obtain⟨M,S,P,q⟩:=nZ a;refine bm (z.trans U) h λC r=>?_;clear J h a O U z;have X:(0:Int)<=(k:Int):=oM
   have i1:(k:Int)<(n:Int):=oM
   go_wp2_with fail
   rw[V.out,Oper.upon_enter];refine qH (y x _ G r) λw2 T=>?_;clear r M S P q
   cases o:p x with
   |true=>
    exact ad3
   |false=>
    exact ad0
  ·exact adR
theorem IA(f:FuncId)(K:Vq)(p:cS->Bool)(l:List cS)(A:OA)(n c:Nat)(w:World)
 (D:∀(args:Vq) (W:World),Sem.run prog (callFunc f args) W= .ok (.enter f args) W)
 (d:∀W,St I W L->fo il 2 W (.slice A n c) l)
 (hF:∀(x:cS) (W:World),x∈l->St I W L->Calls prog f (#[.agg (il x).toArray]++K) W λe g=>e= .returned (.bool (p x))/\St I g L)
 (h:St I w L):
 Rt I w 225 #[.slice A n c,.func (.func f) #[] K] (iI (dz p 0 l)) L:=by
 obtain⟨P,N,Z,_⟩:=(d w h).sl;refine xH P d h hF D (show dz p 0 l=dz p 0 (l.drop 0)from rfl) λb t H y V j=>?_;clear h P hF D d
 go_enter func225,ntmps225
 go_wp2_with fail
 go_loopg [8] n (λQ i wr=>∃(k:Nat),Q=n-k/\k<=n/\i= iI (k:Nat)/\dz p 0 l=dz p k (l.drop k)/\St I wr L)
 case atStart=>exact aex
 case round=>
  clear H j;obtain⟨k,u,F,rfl,z,h⟩:=hrel;have R:=aa u;clear u;by_cases B:k<n
  ·have J:=gP (l:=l) (i:=k) acz
   have O:=Eb (l:=l) (i:=k) acz;generalize l[k]' acz=x at J O;have U:dz p k (l.drop k)=if p x=true then(k:Int)else dz p (k+1) (l.drop (k+1)):=by rw[O];rfl
   have G:=aa (pJ J);obtain⟨Y,rfl,a⟩:=(t _ h).at_ kY J;obtain⟨M,S⟩:=yq a;refine bm (z.trans U) h λC r=>?_;clear J h a O U z;have q:(0:Int)<=(k:Int):=oM
   have X:(k:Int)<(n:Int):=oM
   go_wp2_with fail
   rw[V.out,Oper.upon_enter];refine qH (y x _ G r) λw2 T=>?_;clear r M S
   cases o:p x with
   |true=>
    exact ad3
   |false=>
    exact ad0
  ·exact adR
theorem IJ(f:FuncId)(K:Vq)(p:be->Bool)(l:List be)(A:OA)(n c:Nat)(w:World)
 (D:∀(args:Vq) (W:World),Sem.run prog (callFunc f args) W= .ok (.enter f args) W)
 (d:∀W,St I W L->fo cy 4 W (.slice A n c) l)
 (hF:∀(x:be) (W:World),x∈l->St I W L->Calls prog f (#[.agg (cy x).toArray]++K) W λe g=>e= .returned (.bool (p x))/\St I g L)
 (h:St I w L):
 Rt I w 209 #[.slice A n c,.func (.func f) #[] K] (.bool (l.any p)) L:=by
 refine bm (tW f K p l A n c w D d hF h) (Ak p l) λC J=>?_;clear D hF h d;generalize dz p 0 l=z at*
 go_enter func209,ntmps209
 exact ad4
theorem Hy(l:List be)(A:OA)(n c i j:Nat)(w:World)(N:j=i+1)(z:i<l.length)(h:St I w (dV cy 273 4 (.slice A n c) l::L)):
 Calls prog 189 #[.slice A n c,iI i,iI j] w λe O=>∃q,q+1=n/\e= .returned (.slice A q c)/\St I O (dV cy 273 4 (.slice A q c) (l.eraseIdx i)::L):=by
 obtain⟨y,D,p,_⟩:=(h.eM At.here).sl;have Z:=h.kL.2;obtain⟨b,rfl⟩:=fQ (Z.row 0 rfl) oM;refine bm Z y λr R=>?_;have S:i<n:=oM
 have K:(0:Int)<=(i:Int):=oM
 have x:(i:Int)<=(j:Int):=oM
 have o:(j:Int)<=(n:Int):=oM
 have i3:(n:Int)<=(c:Int):=oM
 have i4:(0:Int)<=(j:Int):=oM
 have i5:(0:Int)<=(n:Int):=oM
 have i6:(j:Int)<=(c:Int):=oM
 have i7:(i:Int)<=(c:Int):=oM
 have bne:((i:Int)==(j:Int))=false:=kO oM;have t:=aa N;clear h Z y z D N
 go_enter func189,ntmps189
 go_wp2_with fail
 refine fO 6 kR kR (λW J=> ?_);have U:=aa (r.drew);rw[<-J]at U;clear J r;simp only[Kx,Hm,Nl,AW]
 repeat still_step
 try refine wpStill_nil ?_
 obtain⟨a,H,B⟩:∃a:Addr,(if c=j then some (⟨b,0,none⟩:Addr)else some ⟨b,j*4,none⟩)=some a/\(j<n->a=⟨b,j*4,none⟩):=by
  exact aeJ
 rw[H];obtain⟨w2,G,V⟩:=St.vP kW U i j (c-j) a B oM oM (sx uW l);obtain⟨q,d⟩:=nM (i+(n-j));have u:q+1=n:=by rw[d];have:=t.out;omega
 rw[<-d]at G;refine vW 105 rfl rfl rfl rfl G ?_;clear G H B;refine ib V d u λT Y k=>?_;have q0:(0:Int)<=(q:Int):=oM
 have q1:(q:Int)<=(n:Int):=oM
 have q2:(q:Int)<=(c:Int):=oM
 have q3:¬c=q:=oM
 obtain⟨w3,X,g,E,M⟩:=St.pz kW Br dC T q n (c-q) ⟨b,q*4,none⟩ (λ_=>rfl) oM oM;have D:=g 0;have P:=aa M;clear V U d u g E T M;simp only[Act.put]
 go_wp2_with fail
 go_ret
 refine⟨q,k,rfl,?_⟩;have Q:=P.uY (m:=q) (by have:=k.out;omega);have F:(l.eraseIdx i).length=q:=by
  have y:=R.out;exact afw
 rw[Hl gC l X i j q t.out aec (by have:=k.out;have:=R.out;omega)]at Q;exact Q.l4 F.symm
theorem Hp(l:List cS)(A:OA)(n c i j:Nat)(w:World)(N:j=i+1)(z:i<l.length)(h:St I w (dV il 317 2 (.slice A n c) l::L)):
 Calls prog 192 #[.slice A n c,iI i,iI j] w λe O=>∃q,q+1=n/\e= .returned (.slice A q c)/\St I O (dV il 317 2 (.slice A q c) (l.eraseIdx i)::L):=by
 obtain⟨y,D,p,_⟩:=(h.eM At.here).sl;have Z:=h.kL.2;obtain⟨b,rfl⟩:=fQ (Z.row 0 rfl) oM;refine bm Z y λr R=>?_;have S:i<n:=oM
 have K:(0:Int)<=(i:Int):=oM
 have x:(i:Int)<=(j:Int):=oM
 have o:(j:Int)<=(n:Int):=oM
 have i3:(n:Int)<=(c:Int):=oM
 have i4:(0:Int)<=(j:Int):=oM
 have i5:(0:Int)<=(n:Int):=oM
 have i6:(j:Int)<=(c:Int):=oM
 have i7:(i:Int)<=(c:Int):=oM
 have bne:((i:Int)==(j:Int))=false:=kO oM;have t:=aa N;clear h Z y z D N
 go_enter func192,ntmps192
 go_wp2_with fail
 refine fO 6 kR kR (λW J=> ?_);have U:=aa (r.drew);rw[<-J]at U;clear J r;simp only[Kx,Hm,Nl,AW]
 repeat still_step
 try refine wpStill_nil ?_
 obtain⟨a,H,B⟩:∃a:Addr,(if c=j then some (⟨b,0,none⟩:Addr)else some ⟨b,j*2,none⟩)=some a/\(j<n->a=⟨b,j*2,none⟩):=by
  exact aeJ
 rw[H];obtain⟨w2,G,V⟩:=St.vP pg U i j (c-j) a B oM oM (sx yP l);obtain⟨q,d⟩:=nM (i+(n-j));have u:q+1=n:=by rw[d];have:=t.out;omega
 rw[<-d]at G;refine vW 106 rfl rfl rfl rfl G ?_;clear G H B;refine ib V d u λT Y k=>?_;have q0:(0:Int)<=(q:Int):=oM
 have q1:(q:Int)<=(n:Int):=oM
 have q2:(q:Int)<=(c:Int):=oM
 have q3:¬c=q:=oM
 obtain⟨w3,X,g,E,M⟩:=St.pz pg Ni dC T q n (c-q) ⟨b,q*2,none⟩ (λ_=>rfl) oM oM;have D:=g 0;have P:=aa M;clear V U d u g E T M;simp only[Act.put]
 go_wp2_with fail
 go_ret
 refine⟨q,k,rfl,?_⟩;have Q:=P.uY (m:=q) (by have:=k.out;omega);have F:(l.eraseIdx i).length=q:=by
  have y:=R.out;exact afw
 rw[Hl kY l X i j q t.out aec (by have:=k.out;have:=R.out;omega)]at Q;exact Q.l4 F.symm
theorem DL(A:OA)(n c:Nat)(l:List be)(w:World)(j:∀W,St I W L->fo cy 4 W (.slice A n c) l)(B:n*32<=140737488355328)(h:St I w L):
 Calls prog 186 #[.slice A n c] w λe O=>∃v,e= .returned v/\St I O (dV cy 273 4 v l::L):=by
 obtain⟨d,D,y,U⟩:=(j w h).sl;have b:=aa d;rcases A with _|a
 ·have y:n=0:=by
   exact aeG
  subst y;have J:l=[]:=AJ d.symm;subst J;have R:=λw=>Lib.run_eql_slice_nil (P:=prog) w 105 273 none 0 c 0 0 underlying105;have H:=aa h;clear U h d j
  go_enter func186,ntmps186
  go_wp2
  go_ret
  exact⟨_,rfl,H.DG _ _ _⟩
 ·have R:=λw=>Lib.run_eql_slice_nil (P:=prog) w 105 273 (some a) n c 0 0 underlying105
  have k:=Jm;refine bm (h.oH 273 4 0 [] rfl oM w.heap.size rfl) ((U.LG ((Fr.refl iY w).alloc (.cells #[] 273)))) λH V=>?_;clear U h d j
  go_enter func186,ntmps186
  go_wp2_with (at_builtin;refine St.dW kW H rfl _ _ rfl rfl (some a) n c rfl (l.flatMap cy) V (sx uW l) oM oM ?_;intro G p z Z)
  exact afR
theorem DN(A:OA)(n c:Nat)(l:List cS)(w:World)(j:∀W,St I W L->fo il 2 W (.slice A n c) l)(B:n*16<=140737488355328)(h:St I w L):
 Calls prog 193 #[.slice A n c] w λe O=>∃v,e= .returned v/\St I O (dV il 317 2 v l::L):=by
 obtain⟨d,D,y,U⟩:=(j w h).sl;have b:=aa d;rcases A with _|a
 ·have y:n=0:=by
   exact aeG
  subst y;have J:l=[]:=AJ d.symm;subst J;have R:=λw=>Lib.run_eql_slice_nil (P:=prog) w 106 317 none 0 c 0 0 underlying106;have H:=aa h;clear U h d j
  go_enter func193,ntmps193
  go_wp2
  go_ret
  exact⟨_,rfl,H.DG _ _ _⟩
 ·have R:=λw=>Lib.run_eql_slice_nil (P:=prog) w 106 317 (some a) n c 0 0 underlying106
  have k:=Hw;refine bm (h.oH 317 2 0 [] rfl oM w.heap.size rfl) ((U.LG ((Fr.refl iY w).alloc (.cells #[] 317)))) λH V=>?_;clear U h d j
  go_enter func193,ntmps193
  go_wp2_with (at_builtin;refine St.dW pg H rfl _ _ rfl rfl (some a) n c rfl (l.flatMap il) V (sx yP l) oM oM ?_;intro G p z Z)
  exact afR
end
section
open Go.Shelf
theorem No{P:Program}{d:Array Oper}{rest:List Oper}{o:Oper}{a:Act}{Q:Exit->Act->World->Prop}{s x:Operand}{v u:Value}{O:World}(t:TypeId)(r:o.guard=none)
 (H:o.op= .store t s x) (U:a.eval s=v) (J:a.eval x=u)
 (G:(Instr.storeAt t v u).run P w= .ok () O) (k:wpList P d Q rest (a.put o.dst undef) O):wpList P d Q (o::rest) a w:=by
 exact aeD
theorem Od(g:List α)(i:Nat)(z:α)(h:i<g.length):(g.set i z).take (i+1)=g.take i++[z]:=by
 rw[Et,zcJ oM,zcv (g9 i)]
 rfl
theorem St.Ji{C:α->LV}{size:Nat}{e:TypeId}{b n c k:Nat}{T:List α}(D:∀x,(C x).length=size)(h:St I w (dV C e size (.slice (aO b) n c) T::L))(F:k<T.length)(y:α):
 St I (w.setCells b (k*size) (C y)) (dV C e size (.slice (aO b) n c) (T.set k y)::L)/\w.there b (k*size) size:=by
 obtain⟨K,Z⟩:=h.kL;have X:(k+1)*size<=n*size:=vl _ oM;rw[vq,Co]at X;have V:=Z.o8 (k*size) (C y) (by rw[D];omega);have S:bh (T.flatMap C) (k*size) (C y)=(T.set k y).flatMap C:=by
  have G:=qv (T.map λx=>(C x,x)) [(C y,y)] (qQ D T) (λp o=>(by simpa using o:p=(C y,y))▸D y) k acC;rw[og,show cq [(C y,y)]=C y by simp[cq]]at G;have P:bh (T.map λx=>(C x,x)) k [(C y,y)]=(T.set k y).map λx=>(C x,x):=by
   unfold bh;rw[Wj,zb7,iP (by simpa using F)];exact acy
  rw[G,P,og]
 rw[S]at V;exact⟨V.l4 (by rw[Vx];exact K),iL (Z.row 0 rfl) (k*size) size oM⟩
theorem FE(f:FuncId)(K:Vq)(p:be->Bool)(l:List be)(A:OA)(n c:Nat)(w:World)
 (D:∀(args:Vq) (W:World),Sem.run prog (callFunc f args) W= .ok (.enter f args) W)
 (hF:∀(X:aw) (x:be) (W:World),x∈l->St I W (X::L)->Calls prog f (#[.agg (cy x).toArray]++K) W λe W'=>e= .returned (.bool (p x))/\St I W' (X::L))
 (h:St I w (dV cy 273 4 (.slice A n c) l::L)):
 Calls prog 149 #[.slice A n c,.func (.func f) #[] K] w λe L0=>∃v,e= .returned v/\St I L0 (dV cy 273 4 v (l.filter (λx=> !p x))::L):=by
 have C:=aa (tW f K p l A n c w D (λW o=>o.eM At.here) (λx W J o=>hF _ x W J o) h);obtain⟨S,T0,S0,_⟩:=(h.eM At.here).sl;refine ib S hF D λR HF HC=>?_;have HS:=pj p l 0;generalize dz p 0 l=z at C HS;clear h S hF D;rcases HS with⟨rfl,hk⟩|⟨k,x0,C0,Z,G0,E0⟩
 ·have Y:Hid (l.filter (λx=> !p x)=l):=List.filter_eq_self.2 (λx J=>by have:=XQ.1 hk x J;simpa using this)
  clear hk
  go_enter func149,ntmps149
  go_wp2_with fail
  refine qH C λw2 H=>?_;clear C
  go_wp2_with fail
  go_ret
  exact⟨_,rfl,by rw[Y.out];exact H.out⟩
 ·rw[s7]at C0
  subst C0;have D0:=(lQ.1 Z).1;have M0:k<n:=by have:=R.out;omega
  have Y:=aa (show l.filter (λx=> !p x)=l.take k++(l.drop (k+1)).filter (λx=> !p x)by
   conv=>lhs;rw[<-IY k l]
   rw[Yo,Eb D0,(lQ.1 Z).2,Ea,G0];rw[List.filter_eq_self.2 (λx J=>by have:=XQ.1 E0 x J;simpa using this)]
   rfl)
  have k0:(0:Int)<=(k:Int):=oM
  have P0:((k:Int)== -1)=false:=kO oM;obtain⟨j,N⟩:=nM (k+1);have jw:IntKind.i64.wrap ((k:Int)+1)=(j:Int):=by rw[N,IntWalk.i64_in _ oM];omega
  have HJ:=aa N;clear Z G0 E0 N
  go_enter func149,ntmps149
  go_wp2_with fail
  refine qK C λw2 h=>?_;obtain⟨b,rfl⟩:=fQ (h.kL.2.row 0 rfl) oM;have H:=aa h;clear h C
  go_wp2_with fail
  go_loopg [5,6] (n-j) (λgh v Q0 wr=>∃(i j:Nat) (g:List be),gh=n-j/\i<j/\j<=n/\v= iI (i:Nat)/\Q0= iI (j:Nat)/\g.length=n/\g.drop j=l.drop j/\
   l.filter (λx=> !p x)=g.take i++(l.drop j).filter (λx=> !p x)/\St I wr (dV cy 273 4 (.slice (aO b) n c) g::L))
  case atStart=>
   have N:=HJ.out;exact⟨k,j,l,rfl,oM,oM,rfl,rfl,R.symm,rfl,by rw[Y.out,N],H⟩
  case round=>
   clear H Y HJ jw k0 P0 M0 D0;obtain⟨i,j,g,hg,G,N,rfl,rfl,U,V,d,h⟩:=hrel;refine bm hg U λHG q=>?_;have i0:(0:Int)<=(i:Int):=oM
   have j0:(0:Int)<=(j:Int):=oM
   clear hg;by_cases B:j<n
   ·have i1:(i:Int)<(n:Int):=oM
    have j1:(j:Int)<(n:Int):=oM
    have J:=gP (l:=l) (i:=j) ac6;have O:=Eb (l:=l) (i:=j) ac6;generalize l[j]' ac6=x at J O;have J0:=Eb (l:=g) (i:=j) (by rw[U];exact B);have A0:=gP (l:=g) (i:=j) (by rw[U];exact B);have t:=V;rw[O,J0]at t;injection t with K0 t;rw[K0]at A0;obtain⟨ad,T,a⟩:=(h.eM At.here).at_ gC A0;injection T with T;subst T;rw[show(⟨b,0,none⟩:Addr).add (j*4)=⟨b,j*4,none⟩by(generalize j*4=m;simp[Addr.add];exact Qt)]at a;obtain⟨e0,e1,S,e3⟩:=nZ a;have F0:(l.drop j).filter (λx=> !p x)=if p x=true then(l.drop (j+1)).filter (λx=> !p x)else x::(l.drop (j+1)).filter (λx=> !p x):=by
     rw[O,Ea]
     cases p x<;>rfl
    refine mr (pJ J) t (d.trans (congrArg _ F0)) (h.alloc 273 #[iI x.c,iI x.m,iU x.t,iU x.u]) λHM B0 u r=>?_;clear J O A0 J0 V t a F0 d h U K0
    go_wp2_with fail
    generalize wr.heap.size=y at r⊢;have M:=r.aM;have P:=aa M;clear M r e0 e1 S e3;generalize wr.alloc _=w3 at P⊢;rw[HC.out,Oper.upon_enter];refine qK (HF _ x _ HM P) λw4 Q=>?_;have F:=Q.star;clear Q P;have jw:IntKind.i64.wrap ((j:Int)+1)=((j+1:Nat):Int):=by rw[IntWalk.i64_in _ oM];omega
    cases hp:p x with
    |true=>
     refine bm (u.trans (by rw[iP hp])) F.tail λY H5=>?_;clear F u
     go_wp2_with fail
     go_roundg (n-(j+1))
     case measure=>exact ad5
     case rel=>exact⟨i,j+1,g,rfl,oM,oM,rfl,by go_num,q,B0,Y,H5⟩
    |false=>
     have Y:=aa (u.trans (by rw[iN (by rw[hp];exact gV)]));have y0:=(F.ah 0 rfl).cell 0;have y1:=(F.ah 0 rfl).cell 1;have y2:=(F.ah 0 rfl).cell 2;have y3:=(F.ah 0 rfl).cell 3;have iw:IntKind.i64.wrap ((i:Int)+1)=((i+1:Nat):Int):=by rw[IntWalk.i64_in _ oM];omega
     obtain⟨h6,I0⟩:=F.tail.Ji gC (k:=i) (by have:=q.out;omega) x;have O0:=IZ w4 b (i*4) x I0;refine bm h6 G λH6 E=>?_;clear F h6 I0 u
     go_wp2_with (refine No 273 rfl rfl rfl rfl O0 ?_)
     go_roundg (n-(j+1))
     case measure=>exact ad5
     case rel=>exact⟨i+1,j+1,_,rfl,by have:=E.out;omega,oM,by go_num,by go_num,by rw[Vx];exact q,by rw[zcT (by have:=E.out;omega)];exact B0,by
      rw[Y.out,Od _ _ _ (by have:=q.out;have:=E.out;omega),nX];rfl,H6⟩
   ·obtain rfl:j=n:=oM
    have i1:(i:Int)<(j:Int):=oM
    have q1:(i:Int)<=(j:Int):=oM
    have q2:(i:Int)<=(c:Int):=oM
    have q3:¬c=i:=oM
    have q4:(j:Int)<=(c:Int):=oM
    have N0:l.drop j=[]:=Qz (by rw[<-R.out];exact g9 _);rw[N0]at d;refine bm (d.trans (rX _)) G λY E=>?_;obtain⟨w3,ys,H0,hy,M⟩:=St.pz kW Br dC h.kL.2 i j (c-i) ⟨b,i*4,none⟩ (λ_=>rfl) oM oM;have R0:=H0 0;refine bm M hy λP HY=>?_;clear h H0 hy M d G V U
    go_wp2_with fail
    go_ret
    refine⟨_,rfl,?_⟩;rw[Y.out];have Q:=P.uY (m:=i) (by have:=E.out;omega);have e:(bh (g.flatMap cy) (i*4) ys).take (i*4)=(g.take i).flatMap cy:=by
     have h1:=E.out;have h2:=q.out;have f1:(g.flatMap cy).take (i*4)=(g.take i).flatMap cy:=by
      rw[<-og,<-og,Sx];exact nB _ (qQ gC g) i acC
     unfold bh;rw[f1,nX,Yn];rw[sH gC,fJ,Ho oM]
    rw[e]at Q;refine Q.l4 ?_;have h1:=E.out;have h2:=q.out;exact acT
end
structure SlS where
 a:OA
 n:Nat
 c:Nat
structure iO where
 t:Int
 p:SlS
 s:Int
 k:SlS
def cI(l:List iO):Prop:=l.Pairwise (λx y=>x.t<=y.t)
def Fa(a b:Int):Int:=if a<b then-1 else if a>b then 1 else 0
theorem SW(a b:Int):decide (Fa a b<0)=decide (a<b):=by
 unfold Fa
 split
 ·rename_i h;simp[h]
 ·rename_i h
  split<;>simp[h]
theorem PE(P Q:List α)(u x:α):((P++u::x::Q).set (P.length+1) u).set P.length x=P++x::u::Q:=by simp
theorem Wx(P Q:List α)(x:α):(P++x::Q)[P.length]? =some x:=by simp
theorem Tz(P Q:List α)(u x:α):(P++u::x::Q)[P.length+1]? =some x:=by simp
theorem cI.nil:cI []:=List.Pairwise.nil
theorem cI.one(x:iO):cI [x]:=List.pairwise_singleton _ _
theorem n7{a b:List iO}:cI (a++b)↔cI a/\cI b/\∀x∈a,∀y∈b,x.t<=y.t:=List.pairwise_append
theorem cI.last{a b:List iO}{x:iO}(h:cI (a++x::b)):(∀y∈a,y.t<=x.t)/\∀y∈b,x.t<=y.t:=by
 obtain⟨_,V,M⟩:=n7.1 h;exact⟨λy E=>M y E x acy,λy E=>(zcB.1 V).1 y E⟩
theorem cI.put{a b:List iO}{x:iO}(h:cI (a++b))(Z:∀y∈a,y.t<=x.t)(V:∀y∈b,x.t<=y.t):cI (a++x::b):=by
 obtain⟨Q,B,d⟩:=n7.1 h;refine n7.2 ⟨Q,zcB.2 ⟨V,B⟩,λy E z G=> ?_⟩;rcases nO.1 G with rfl|G
 ·exact Z y E
 ·exact d y E z G
theorem cI.UY{a:List iO}{x:iO}{v:Int}(h:cI (a++[x]))(J:x.t<=v):∀y∈a++[x],y.t<=v:=by
 intro y E;rcases lU.1 E with E|E
 ·exact xK (h.last.1 y E) J
 ·rw[lA]at E
  subst E;exact J
theorem Ob(l:List α):l=[]\/∃a x,l=a++[x]:=by
 rcases List.eq_nil_or_concat l with h|⟨a,x,h⟩
 ·exact .inl h
 ·exact .inr ⟨a,x,by simpa using h⟩
structure eW where
 d:Int
 c:Int
 r:Int
 i:Int
 t:Int
 b:LI
 e:Int
def eW.cX(r:Int)(e:eW):Bool:=(e.r==r)&&(e.t !=0)&&(e.e==0)&&decide (5<=e.d)&&decide (e.d<=7)
def bH(s:bp)(e:eW):bp:=if e.d=5 then⟨s.t,s.p++[⟨e.i,e.b⟩],s.s,s.k⟩else if e.d=6 then⟨s.t,s.p,s.s,s.k++[⟨(s.p.length:Nat),e.i,e.b⟩]⟩else⟨s.t,s.p,(s.p.length:Nat),s.k⟩
def gI(t:Int):bp:=⟨t,[],0,[]⟩
def mC(r t:Int)(e:eW):Bool:=e.cX r&&(e.t==t)
def aG(r t:Int)(l:List eW):bp:=(l.filter (mC r t)).foldl bH (gI t)
theorem yo(s:bp)(e:eW):(bH s e).t=s.t:=by
 unfold bH
 split
 ·rfl
 ·split<;>rfl
theorem jH(r t:Int)(l:List eW)(e:eW):aG r t (l++[e])=if mC r t e=true then bH (aG r t l) e else aG r t l:=by
 unfold aG;rw[Yo,XU]
 cases h:mC r t e with
 |true=>rw[zcF h];rfl
 |false=>rw[zca (by rw[h];exact gV)];rfl
theorem IL(s:bp)(e:eW):(∃p,(bH s e).p=s.p++p)/\∃k,(bH s e).k=s.k++k:=by
 unfold bH
 split
 ·exact⟨⟨_,rfl⟩,[],(rX _).symm⟩
 ·split
  ·exact⟨⟨[],(rX _).symm⟩,_,rfl⟩
  ·exact⟨⟨[],(rX _).symm⟩,[],(rX _).symm⟩
theorem Ag:∀(l:List eW) (s:bp),(∃p,(l.foldl bH s).p=s.p++p)/\∃k,(l.foldl bH s).k=s.k++k
 |[],s=>⟨⟨[],(rX _).symm⟩,[],(rX _).symm⟩
 |e::l,s=>by
  obtain⟨⟨p,o⟩,k,F⟩:=Ag l (bH s e);obtain⟨⟨a,u⟩,b,C⟩:=IL s e;exact⟨⟨a++p,by show((l.foldl bH (bH s e))).p=_;rw[o,u,nX]⟩,b++k,by show((l.foldl bH (bH s e))).k=_;rw[F,C,nX]⟩
def tq:List bp->eW->List bp
 |[],e=>[bH (gI e.t) e]
 |s::l,e=>if s.t=e.t then bH s e::l else s::tq l e
def fZ(r:Int)(l:List eW):List bp:=l.foldl (λa e=>if e.cX r=true then tq a e else a) []
theorem lp(r:Int)(l:List eW)(e:eW):fZ r (l++[e])=if e.cX r=true then tq (fZ r l) e else fZ r l:=by
 unfold fZ;rw[XU]
 rfl
theorem Bp{e:eW}:∀{l:List bp},(∀s∈l,s.t≠e.t)->tq l e=l++[bH (gI e.t) e]
 |[],_=>rfl
 |s::l,h=>by
  unfold tq;rw[iN (h s acy),Bp (λx J=>h x (by simp[J]))]
  rfl
theorem Ce{e:eW}:∀{l:List bp} {k:Nat} {s:bp},l[k]? =some s->s.t=e.t->(∀x∈l.take k,x.t≠e.t)->tq l e=l.set k (bH s e)
 |[],k,s,h,_,_=>by simp at h
 |x::l,0,s,h,U,_=>by
  obtain rfl:x=s:=by simpa using h
  unfold tq;rw[iP U]
  rfl
 |x::l,k+1,s,h,U,W=>by
  unfold tq;rw[iN (W x acy),Ce (k:=k) acX U (λy E=>W y (by simp[E]))]
  rfl
theorem CP(e:eW):∀l:List bp,(tq l e).map bp.t=if(l.map bp.t).contains e.t=true then l.map bp.t else l.map bp.t++[e.t]
 |[]=>by simp[tq,yo,gI]
 |s::l=>by
  unfold tq;by_cases h:s.t=e.t
  ·rw[iP h]
   simp[yo,h]
  ·rw[iN h,li,CP e l]
   have E:¬e.t=s.t:=λx=>h x.symm;by_cases D:(l.map bp.t).contains e.t=true
   ·rw[iP D,iP (by simp[E]at D⊢;exact D)]
    rfl
   ·rw[iN D,iN (by simp[E]at D⊢;exact D)]
    rfl
theorem FF{e:eW}:∀{l:List bp} {s:bp},(l.map bp.t).Nodup->s∈tq l e->(s∈l/\s.t≠e.t)\/(s.t=e.t/\((∃x∈l,x.t=e.t/\s=bH x e)\/((∀x∈l,x.t≠e.t)/\s=bH (gI e.t) e)))
 |[],s,_,h=>by
  obtain rfl:s=bH (gI e.t) e:=by simpa[tq]using h
  exact .inr ⟨by rw[yo];rfl,.inr ⟨λ_ J=>absurd J nK,rfl⟩⟩
 |x::l,s,W,h=>by
  rw[li,XZ]at W;unfold tq at h;by_cases J:x.t=e.t
  ·rw[iP J]at h
   rcases nO.1 h with rfl|h
   ·exact .inr ⟨by rw[yo];exact J,.inl ⟨x,by simp,J,rfl⟩⟩
   ·exact .inl ⟨by simp[h],λY=>W.1 (oK.2 ⟨s,h,Y.trans J.symm⟩)⟩
  ·rw[iN J]at h
   rcases nO.1 h with rfl|h
   ·exact .inl ⟨by simp,J⟩
   ·rcases FF W.2 h with⟨Z,V⟩|⟨Z,⟨y,E,M,Q⟩|⟨V,M⟩⟩
    ·exact .inl ⟨by simp[Z],V⟩
    ·exact .inr ⟨Z,.inl ⟨y,by simp[E],M,Q⟩⟩
    ·refine .inr ⟨Z,.inr ⟨λy E=> ?_,M⟩⟩
     rcases nO.1 E with rfl|E
     ·exact J
     ·exact V y E
theorem PI{p:List α->Prop}(K:p [])(Z:∀l x,p l->p (l++[x]))(l:List α):p l:=by
 have key:∀m:List α,p m.reverse:=λm=>by
  induction m with
  |nil=>exact K
  |cons x m W=>rw[List.reverse_cons];exact Z _ _ W
 have:=key l.reverse;rwa[List.reverse_reverse]at this
structure PW(r:Int)(l:List eW)(ss:List bp):Prop where
 nd:(ss.map bp.t).Nodup
 eq:∀s∈ss,s=aG r s.t l
 ts:∀t,t∈ss.map bp.t↔∃e∈l,e.cX r=true/\e.t=t
theorem qY(r:Int)(l:List eW):PW r l (fZ r l):=by
 refine PI (p:=λl=>PW r l (fZ r l)) ?_ (λl e K=> ?_) l
 ·exact⟨List.nodup_nil,λs h=>absurd h nK,λt=>by simp[fZ]⟩
 ·rw[lp]
  cases u:e.cX r with
  |false=>
   rw[iN gV];refine⟨K.nd,λs U=> ?_,λt=> ?_⟩
   ·rw[jH,iN (by unfold mC;rw[u];simp)]
    exact K.eq s U
   ·rw[K.ts]
    constructor
    ·rintro⟨x,J,Z⟩
     exact⟨x,by simp[J],Z⟩
    ·rintro⟨x,J,Z,V⟩
     rcases lU.1 J with J|J
     ·exact⟨x,J,Z,V⟩
     ·rw[lA]at J
      rw[J,u]at Z
      cases Z
  |true=>
   rw[iP rfl];have k:=CP e (fZ r l);refine⟨?_,λs U=> ?_,λt=> ?_⟩
   ·rw[k]
    split
    ·exact K.nd
    ·rename_i D
     rw[Wo];refine⟨K.nd,by simp,λa H b B=> ?_⟩;rw[lA]at B;subst B;intro F;subst F;exact D (by simpa using H)
   ·rcases FF K.nd U with⟨Z,V⟩|⟨Z,⟨x,J,M,Q⟩|⟨V,M⟩⟩
    ·rw[jH,iN (by unfold mC;rw[u];simp;exact λh=>V h.symm)]
     exact K.eq s Z
    ·rw[jH,iP (by unfold mC;rw[u];simp;exact Z.symm),Z,<-M,<-K.eq x J]
     exact Q
    ·rw[jH,iP (by unfold mC;rw[u];simp;exact Z.symm),Z]
     have:aG r e.t l=gI e.t:=by
      unfold aG;rw[zcL.2]
      ·rfl
      ·intro y E Y
       unfold mC at Y;rw[mq]at Y;have:e.t∈(fZ r l).map bp.t:=(K.ts e.t).2 ⟨y,E,Y.1,by simpa using Y.2⟩;obtain⟨x,J,W⟩:=oK.1 this;exact V x J W
     rw[this];exact M
   ·rw[k]
    have key:(∃x∈l++[e],x.cX r=true/\x.t=t)↔(∃x∈l,x.cX r=true/\x.t=t)\/t=e.t:=by
     constructor
     ·rintro⟨x,J,Z,V⟩
      rcases lU.1 J with J|J
      ·exact .inl ⟨x,J,Z,V⟩
      ·rw[lA]at J
       subst J;exact .inr V.symm
     ·rintro(⟨x,J,Z,V⟩|rfl)
      ·exact⟨x,by simp[J],Z,V⟩
      ·exact⟨e,by simp,u,rfl⟩
    rw[key,<-K.ts]
    split
    ·rename_i D
     constructor
     ·exact .inl
     ·rintro(h|rfl)
      ·exact h
      ·simpa using D
    ·exact acy
section
open Go.Shelf
abbrev eo(x:iO):LV:=[iU x.t,.slice x.p.a x.p.n x.p.c,iI x.s,.slice x.k.a x.k.n x.k.c]
theorem lM(x:iO):(eo x).length=4:=rfl
theorem He:eB prog 95 131 (.agg #[iU 0,sN,iI 0,sN]) 4 64:=⟨underlying95,kR,kR,oM⟩
theorem KI(x:iO):∀u∈eo x,u.oneCell'=true:=by
 intro u E;simp only[eo,nO,nK,or_false]at E;exact afn
theorem BR(w:World)(b o:Nat)(x:iO)(R:w.there b o 4):(Instr.storeAt 131 (.pointer (some ⟨b,o,none⟩)) (.agg #[iU x.t,.slice x.p.a x.p.n x.p.c,iI x.s,.slice x.k.a x.k.n x.k.c])).run prog w= .ok () (w.setCells b o (eo x)):=by
 have V:=run_storeCells_cells (P:=prog) b o (eo x) 0 w (λk F=>by rw[vt];exact(R k F).1) (λk F=>by rw[vt];exact(R k F).2) (KI x);simp only[vt]at V;obtain⟨q,H,_,T,_⟩:=info_parts He.jW;exact ae6
theorem hZ{b n c k:Nat}{T:List iO}{x:iO}(P:fo eo 4 w (.slice (aO b) n c) T)(J:T[k]? =some x):w.cell? ⟨b,k*4,none⟩=some (iU x.t)/\w.cell? ⟨b,k*4+1,none⟩=some (.slice x.p.a x.p.n x.p.c)/\w.cell? ⟨b,k*4+2,none⟩=some (iI x.s)/\w.cell? ⟨b,k*4+3,none⟩=some (.slice x.k.a x.k.n x.k.c):=by
 obtain⟨Y,e,a⟩:=P.at_ lM J;injection e with e;subst e;rw[show(⟨b,0,none⟩:Addr).add (k*4)=⟨b,k*4,none⟩by(generalize k*4=m;simp[Addr.add];exact Qt)]at a;exact nZ a
theorem Mf(x y:iO)(w:World)(h:St I w L):
 Rt I w 53 #[.agg #[iU x.t,.slice x.p.a x.p.n x.p.c,iI x.s,.slice x.k.a x.k.n x.k.c],.agg #[iU y.t,.slice y.p.a y.p.n y.p.c,iI y.s,.slice y.k.a y.k.n y.k.c]] (iI (Fa x.t y.t)) L:=by
 have Z:=h.alloc 131 #[iU x.t,.slice x.p.a x.p.n x.p.c,iI x.s,.slice x.k.a x.k.n x.k.c];have V:=Z.alloc 131 #[iU y.t,.slice y.p.a y.p.n y.p.c,iI y.s,.slice y.k.a y.k.n y.k.c];rw[World.size_alloc]at V;have z:=(V.ah 1 rfl).cell 0;have d0:=(V.ah 0 rfl).cell 0;obtain⟨d1,G⟩:∃d1,decide (x.t<y.t)=d1:=⟨_,rfl⟩;obtain⟨d2,D⟩:∃d2,decide (x.t>y.t)=d2:=⟨_,rfl⟩;have a:decide (y.t<x.t)=d2:=D;have E:=aa (show Fa x.t y.t=if d1=true then-1 else if d2=true then 1 else 0 by
  unfold Fa;rw[<-G,<-D];simp)
 have H:=aa V.tail.tail;have b:(x.t !=x.t)=false:=El rfl;have c:(y.t !=y.t)=false:=El rfl;clear h Z V
 go_enter func53,ntmps53
 go_wp2_with fail
 refine(show Calls prog 54 #[iU x.t,iU y.t] _ (λe O=>e= .returned (iI (Fa x.t y.t))/\St I O L)from ?_).mono ?_
 ·clear z d0
  go_enter func54,ntmps54
  go_wp2_with fail
  refine(show Calls prog 82 #[iU x.t] _ (λe O=>e= .returned (.bool false)/\St I O L)from ?_).mono ?_
  ·go_enter func82,ntmps82
   exact adY
  rintro e l⟨rfl,h⟩;have r:=aa h;clear h H
  go_wp2_with fail
  refine(show Calls prog 82 #[iU y.t] _ (λe O=>e= .returned (.bool false)/\St I O L)from ?_).mono ?_
  ·go_enter func82,ntmps82
   go_wp2_with fail
   go_ret
   exact⟨rfl,r⟩
  rintro e X⟨rfl,h⟩;have T:=aa h;clear h r
  cases d1
  case' false=>cases d2
  all_goals(go_wp2_with fail;go_ret;exact⟨by rw[E.out];try rfl,T⟩)
 ·rintro e l⟨rfl,h⟩
  have r:=aa h;clear h
  go_wp2_with fail
  go_ret
  exact⟨rfl,r⟩
end
section
open Go.Shelf
theorem DI(b n c a B:Nat)(P S Q:List iO)(w:World)(A1:n<=1000000)(ha:P.length=a)(he:a+S.length=B)(h:St I w (dV eo 131 4 (.slice (aO b) n c) (P++(S++Q))::L)):
 Calls prog 126 #[.slice (aO b) n c,iI (a:Nat),iI (B:Nat),.func (.func 53) #[] #[]] w λu S0=>u= .returned (.tuple #[])/\∃S',S'.Perm S/\cI S'/\St I S0 (dV eo 131 4 (.slice (aO b) n c) (P++(S'++Q))::L):=by
 obtain⟨hn,B1,Z0,_⟩:=(h.eM At.here).sl;have I0:n=a+S.length+Q.length:=by rw[hn,<-ha];simp only[eG];omega
 have E0:=λargs T0=>enters_of func53 kR rfl (P:=prog) args T0;have w1:IntKind.i64.wrap ((a:Int)+1)=((a+1:Nat):Int):=(IntWalk.i64_in _ oM).trans oM
 cases S with
 |nil=>
  have U0:a=B:=by simpa using he
  subst U0;have d1:decide (((a+1:Nat):Int)<(a:Int))=false:=decide_eq_false (by omega);have H:=aa h;clear h
  go_enter func126,ntmps126
  go_wp2_with fail
  go_loopg [8] 1 (λW iv wr=>iv= iI ((a+1:Nat):Int)/\W=1/\St I wr (dV eo 131 4 (.slice (aO b) n c) (P++([]++Q))::L))
  case atStart=>exact⟨rfl,rfl,H⟩
  case round=>
   exact aeQ
 |cons s0 S=>
  have H:Hid (St I w (dV eo 131 4 (.slice (aO b) n c) (P++([s0]++(S++Q)))::L)):=h;refine ib I0 ha (show a+(S.length+1)=B from he) λHN HA A=>?_;clear h hn I0 ha he
  go_enter func126,ntmps126
  go_wp2_with fail
  go_loopg [8] (S.length+1) (λW iv wr=>∃(i:Nat) (D R:List iO),W=B+1-i/\iv= iI (i:Nat)/\i=a+D.length/\0<D.length/\a+D.length+R.length=B/\cI D/\(D++R).Perm (s0::S)/\St I wr (dV eo 131 4 (.slice (aO b) n c) (P++(D++(R++Q)))::L))
  case atStart=>exact⟨a+1,[s0],S,by have:=A.out;omega,rfl,rfl,by simp,by have:=A.out;simp;omega,cI.one _,zc0 _,H⟩
  case round=>
   clear H w1;obtain⟨i,D,R,hg,rfl,N,hD,hR,F,o,h⟩:=hrel;refine mr hg N o F λHG g X V=>?_;clear hg o F
   cases R with
   |nil=>
    have G0:i=B:=by rw[N,<-hR];simp
    subst G0;have d1:decide ((i:Int)<(i:Int))=false:=decide_eq_false (by omega);have r:=aa h;clear h
    go_wp2_with fail
    go_end0
    exact⟨rfl,D,by simpa using X.out,V,r⟩
   |cons x R=>
    have G0:i<B:=by rw[N,<-hR];simp
    have d1:decide ((i:Int)<(B:Int))=true:=decide_eq_true (by omega);have K:=aa (show i+1+R.length=B by rw[<-hR,N];simp;omega);have r:Hid (St I wr (dV eo 131 4 (.slice (aO b) n c) (P++(D++(x::(R++Q))))::L)):=h;clear h hR N
    go_wp2_with fail
    go_loopg [9] D.length (λW jv wr=>∃(j:Nat) (O E:List iO),W=O.length/\j=a+O.length/\jv= iI (j:Nat)/\cI (O++E)/\(∀z∈E,x.t<=z.t)/\((O++x::E)++R).Perm (s0::S)/\St I wr (dV eo 131 4 (.slice (aO b) n c) (P++(O++(x::(E++(R++Q)))))::L))
    case atStart=>exact⟨i,D,[],rfl,g,rfl,by simpa using V.out,λz hz=>absurd hz nK,by simpa using X.out,by simpa using r.out⟩
    case round=>
     clear r X V;obtain⟨j,O,E,F0,G,rfl,F,hv,o,h⟩:=hrel;refine Cz F0 o F hv G λHJ X V HV X0=>?_;have l:=aa (show O.length+E.length=D.length/\a+O.length+1+E.length+R.length+Q.length=n from by
      have l1:=o.length_eq;simp only[eG,oO]at l1;have:=HN.out;simp only[oO]at this;have:=K.out;have:=g.out;have:=A.out;omega)
     clear F0 o F hv;rcases Ob O with rfl|⟨y,u,rfl⟩
     ·have H0:j=a:=by simpa using G
      subst H0;have d2:decide ((j:Int)>(j:Int))=false:=decide_eq_false (by omega);have B0:Hid (cI (x::E)):=zcB.2 ⟨HV,by have:=V.out;rw[xL]at this;exact this⟩;have wj:IntKind.i64.wrap ((i:Int)+1)=((i+1:Nat):Int):=(IntWalk.i64_in _ ac5).trans oM;have T:=aa h;clear h G
      go_wp2_with fail
      go_quiet (fail)
      have H3:=aa (T.drewN nq);clear T
      go_wp2_with fail
      go_roundg (B+1-(i+1))
      case measure=>have:=HG.out;have:=K.out;omega
      case rel=>exact⟨i+1,x::E,R,rfl,by go_num,by have:=l.out;have:=g.out;simp at*;omega,by simp,by have:=l.out;have:=K.out;have:=g.out;simp at*;omega,B0,X,by simpa using H3.out⟩
     ·obtain⟨q,hq⟩:=nM (a+y.length)
      have D0:j=q+1:=by rw[G,hq];simp;omega
      have d2:decide ((j:Int)>(a:Int))=true:=decide_eq_true (by omega);have Y0:decide ((a:Int)<(j:Int))=true:=d2;have H0:a<j:=oM
      have wq:IntKind.i64.wrap ((j:Int)-1)=(q:Int):=(IntWalk.i64_in _ (by have:=l.out;simp at this;omega)).trans oM;have lq:(P++y).length=q:=by rw[eG,HA.out,hq]
      obtain⟨xs,A0⟩:=nM ((P++y)++u::x::(E++(R++Q)));have C0:P++((y++[u])++(x::(E++(R++Q))))=xs:=by rw[A0];simp
      rw[C0]at h;have t:=aa (show xs[j]? =some x by rw[A0,D0,<-lq];exact Tz _ _ _ _);have U:=aa (show xs[q]? =some u by rw[A0,<-lq];exact Wx _ _ _);refine bm ((lQ.1 t).1) ((lQ.1 U).1) λJ0 K0=>?_;have j0:(0:Int)<=(j:Int):=oM
      have j1:(j:Int)<(n:Int):=by have:=l.out;simp at this;omega
      have q0:(0:Int)<=(q:Int):=oM
      have q1:(q:Int)<(n:Int):=oM
      refine bm (show j=a+y.length+1 by omega) hq λW0 N0=>?_;obtain⟨J,hd⟩:∃J,decide (Fa x.t u.t<0)=J:=⟨_,rfl⟩;have HD:Hid (decide (x.t<u.t)=J):=(SW x.t u.t).symm.trans hd;have P0:=aa (show(xs.set j u).set q x=P++(y++(x::((u::E)++(R++Q))))by rw[A0,D0,<-lq,PE];simp);have M0:=aa (show((y++x::(u::E))++R).Perm (s0::S)from by
       refine List.Perm.trans ?_ X;refine zcf _ ?_;rw[nX];exact List.Perm.append_left _ (List.Perm.swap u x E))
      refine bm C0 h λR0 r=>?_;have wj:IntKind.i64.wrap ((i:Int)+1)=((i+1:Nat):Int):=(IntWalk.i64_in _ ac5).trans oM;clear h G hq D0 lq A0 C0
      go_wp2_with fail
      have Y:=r.out;clear r;refine ak (I:=I) (L0:=L) [⟨none,none,λe=>dV eo 131 4 (.slice (aO b) n c) (xs)⟩] [[],[],[0,1],rG 3,rG 4,rG 4,rG 4,[0,1,2,3,5,6],[0,1,2,3,5,6,7],rG 4,rG 4,[0,1,2,3,10],[0,1,2,3,9,10,11],[0,1,2,3,9,10,11,12],rG 14,rG 15,rG 16] (rG 17) rfl kR kR kR (by rfl) (λ_=>rfl) Y.fk ?_;refine vM ?_;refine kj (λe=> .bool true) rfl (λe p M h=>gS) ?_;simp only[aR];refine sO ?_;refine kj _ rfl (λe p M h=>by(have h:=h.fn;have d:=h.eM (C:=eo) (e:=131) (size:=4) (v:= .slice (aO b) n c) (xs:=xs);obtain⟨x0,x1,x2,x3⟩:=hZ d t;obtain⟨y0,y1,y2,y3⟩:=hZ d U;go_simp;try rfl)) ?_;simp only[aR];refine AG ?_;refine kj _ rfl (λe p M h=>by(have h:=h.fn;have d:=h.eM (C:=eo) (e:=131) (size:=4) (v:= .slice (aO b) n c) (xs:=xs);obtain⟨x0,x1,x2,x3⟩:=hZ d t;obtain⟨y0,y1,y2,y3⟩:=hZ d U;go_simp;try rfl)) ?_;simp only[aR];refine mU 53 (λe=> #[.agg #[iU x.t,.slice x.p.a x.p.n x.p.c,iI x.s,.slice x.k.a x.k.n x.k.c],.agg #[iU u.t,.slice u.p.a u.p.n u.p.c,iI u.s,.slice u.k.a u.k.n u.k.c]]) (λe=> iI (Fa x.t u.t)) rfl (λ_=>rfl) (by intro e;rfl) (λe p=>by(first|(go_simp;done)|(go_simp;exact E0 _ _)|exact E0 _ _)) (λe p M h=>by(
       have h:=h.fn;refine(Mf x u _ h).mono ?_;rintro u wy⟨rfl,Z⟩;exact⟨⟨none,0,default⟩,rfl,Z.fk⟩)) ?_
      iterate 2 (simp only[aR];refine kj (λe=> .bool J) rfl (λe p M h=>gS) ?_)
      simp only[aR];refine ax ?_;intro e w1 h;have h:=h.fn;have T:=aa h;clear h Y
      cases J with
      |true=>
       have V0:x.t<u.t:=of_decide_eq_true HD;have O0:=aa (show cI (y++(u::E))by have:=V.out;rwa[nX]at this);have Q0:=aa (show∀z∈u::E,x.t<=z.t from λz hz=>(nO.1 hz).elim (λe=>by rw[e];omega) (HV z));clear V0
       go_wp2_with fail
       have Y:=T.out;clear T;refine ak (I:=I) (L0:=L) [⟨none,some 15,λe=>dV eo 131 4 (.slice (aO b) n c) (xs)⟩,⟨some 15,some 17,λe=>dV eo 131 4 (.slice (aO b) n c) ((xs).set j u)⟩,⟨some 17,none,λe=>dV eo 131 4 (.slice (aO b) n c) (((xs).set j u).set q x)⟩] [[],[],[],[],[3],[],[],[6],[5,6,7],[5,6,7,8],[],[],[10,11],[10,11,12],[0,1,5,6,7,8,9,10,11,12,13],[0,1,5,6,7,8,9,10,11,12,13,14],rG 16,rG 17] (rG 18) rfl kR kR kR (by rfl) (λ_=>rfl) Y.fk ?_;refine fs9 ?_;refine kj _ rfl (λe p M h=>by(have h:=h.fn;have d:=h.eM (C:=eo) (e:=131) (size:=4) (v:= .slice (aO b) n c) (xs:=xs);obtain⟨x0,x1,x2,x3⟩:=hZ d t;obtain⟨y0,y1,y2,y3⟩:=hZ d U;go_simp;try rfl)) ?_;simp only[aR];refine yk ?_;refine kj _ rfl (λe p M h=>by(have h:=h.fn;have d:=h.eM (C:=eo) (e:=131) (size:=4) (v:= .slice (aO b) n c) (xs:=xs);obtain⟨x0,x1,x2,x3⟩:=hZ d t;obtain⟨y0,y1,y2,y3⟩:=hZ d U;go_simp;try rfl)) ?_;simp only[aR];refine lY ?_;refine jA (λe=> .pointer (some ⟨b,j*4,none⟩)) (λe=> .agg #[iU u.t,.slice u.p.a u.p.n u.p.c,iI u.s,.slice u.k.a u.k.n u.k.c]) rfl rfl (λe p M h=>by(
        have h:=h.fn;have Z:=(h.fi 0).Ji lM (k:=j) (by exact J0.out) u;exact⟨_,(BR _ _ _ _ Z.2),Z.1.fk⟩)) ?_
       simp only[Act.put];refine lY ?_;refine jA (λe=> .pointer (some ⟨b,q*4,none⟩)) (λe=> .agg #[iU x.t,.slice x.p.a x.p.n x.p.c,iI x.s,.slice x.k.a x.k.n x.k.c]) rfl rfl (λe p M h=>by(
        have h:=h.fn;have Z:=(h.fi 0).Ji lM (k:=q) (by rw[Vx];exact K0.out) x;exact⟨_,(BR _ _ _ _ Z.2),Z.1.fk⟩)) ?_
       simp only[Act.put];refine ax ?_;intro e w1 h;have h:=h.fn;rw[P0.out]at h;have H3:=aa h;clear h Y
       go_wp2_with fail
       go_roundg y.length
       case measure=>have:=HJ.out;simp at this;omega
       case rel=>exact⟨q,y,u::E,rfl,N0,by go_num,O0,Q0,M0,H3⟩
      |false=>
       have B0:Hid (cI ((y++[u])++x::E)):=cI.put V (cI.UY (n7.1 V).1 (by have:=of_decide_eq_false HD;omega)) HV
       go_wp2_with fail
       go_roundg (B+1-(i+1))
       case measure=>have:=HG.out;have:=K.out;omega
       case rel=>exact⟨i+1,(y++[u])++x::E,R,rfl,by go_num,by have:=l.out;have:=g.out;simp at*;omega,by simp;omega,by have:=l.out;have:=K.out;have:=g.out;simp at*;omega,B0,X,by have:=T.out;rw[<-R0.out]at this;simpa using this⟩
end
section
open Go.Shelf
theorem JO{l:List α}{k:Nat}{x:α}(h:l[k]? =some x):l.drop k=x::l.drop (k+1):=by
 obtain⟨F,e⟩:=lQ.1 h;rw[Eb F,e]
end
section
open Go.Shelf
theorem MQ(A:OA)(n c:Nat)(T:List iO)(w:World)(a:n<=1000000)(B:0<n->∃b,A=some ⟨b,0,none⟩)(h:St I w (dV eo 131 4 (.slice A n c) T::L)):
 Calls prog 126 #[.slice A n c,iI 0,iI (n:Nat),.func (.func 53) #[] #[]] w λu O=>u= .returned (.tuple #[])/\∃R,R.Perm T/\cI R/\St I O (dV eo 131 4 (.slice A n c) R::L):=by
 have W:=(h.eM At.here).sl.1;rcases Ox n with K|K
 ·subst K
  obtain rfl:T=[]:=AJ W.symm;have H:=aa h;clear h W B
  go_enter func126,ntmps126
  go_wp2_with fail
  go_loopg [8] 1 (λQ t wr=>t= iI 1/\Q=1/\St I wr (dV eo 131 4 (.slice A 0 c) []::L))
  case atStart=>exact⟨rfl,rfl,H⟩
  case round=>
   exact aeQ
 ·obtain⟨b,rfl⟩:=B K
  refine qK (DI b n c 0 n [] T [] w a rfl oM (by rw[rX];exact h)) ?_;rintro X⟨R,o,U,V⟩;exact⟨rfl,R,o,U,by rw[rX]at V;exact V⟩
theorem Kj(A:OA)(n c:Nat)(T:List iO)(w:World)(d:n<20)(B:0<n->∃b,A=some ⟨b,0,none⟩)(h:St I w (dV eo 131 4 (.slice A n c) T::L)):
 Calls prog 52 #[.slice A n c,.func (.func 53) #[] #[]] w λu O=>u= .returned (.tuple #[])/\∃R,R.Perm T/\cI R/\St I O (dV eo 131 4 (.slice A n c) R::L):=by
 have d1:decide ((20:Int)<=(n:Int))=false:=decide_eq_false (by omega);have d2:decide ((20:Int)<(n:Int))=false:=decide_eq_false (by omega);have H:=aa h;clear h
 go_enter func52,ntmps52
 go_wp2_with fail
 refine(show Calls prog 81 #[.slice A n c,iI (n:Nat),.func (.func 53) #[] #[]] _ (λu O=>u= .returned (.tuple #[])/\∃R,R.Perm T/\cI R/\St I O (dV eo 131 4 (.slice A n c) R::L))from ?_).mono ?_
 ·go_enter func81,ntmps81
  go_wp2_with fail
  go_loopg [7,8] 1 (λQ S a wr=>S= iI 0/\a= iI 20/\Q=1/\St I wr (dV eo 131 4 (.slice A n c) T::L))
  case atStart=>exact⟨rfl,rfl,rfl,H⟩
  case round=>
   obtain⟨rfl,rfl,_,h⟩:=hrel;have r:=aa h;clear h H
   go_wp2_with fail
   refine qK (MQ A n c T _ oM B r) ?_;rintro X⟨R,o,U,V⟩;have g:=aa (And.intro o (And.intro U V));clear V r o U
   go_wp2_with fail
   go_loopg [6] 1 (λQ M wr=>M= iI 20/\Q=1/\St I wr (dV eo 131 4 (.slice A n c) R::L))
   case atStart=>exact⟨rfl,rfl,g.2.2⟩
   case round=>
    obtain⟨rfl,_,h⟩:=hrel;have N:=aa h;clear h
    go_wp2_with fail
    go_end0
    exact⟨rfl,R,g.1,g.2.1,N⟩
 ·rintro e X⟨rfl,R,o,U,V⟩
  have g:=aa (And.intro o (And.intro U V));clear V H o U
  go_wp2_with fail
  go_end0
  exact⟨rfl,R,g.1,g.2.1,g.2.2⟩
end
end Go.Proofs.YtblpaldggenbaaaGreatDoor
