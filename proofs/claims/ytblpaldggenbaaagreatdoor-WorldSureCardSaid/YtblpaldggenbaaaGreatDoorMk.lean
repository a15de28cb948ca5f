/- A part. -/
import Derived.Lib.Slices
import Derived.Maps.Own
import Derived.Test.YtblpaldggenbaaaGreatDoorMi
namespace Go.Proofs.YtblpaldggenbaaaGreatDoor
open Go.RowKit Go.Proofs.Tryz
set_option maxRecDepth 100000
set_option maxHeartbeats 64000000
variable{α:Type}{p:Addr}{T:aH}
section
open Go.Shelf
theorem yC{w:World}{a b:Value}(h:∀j u,[a,b][j]? =some u->w.cell? (p.add j)=some u):w.cell? p=some a/\w.cell? ⟨p.block,p.off+1,none⟩=some b:=
 ⟨by simpa[Addr.add]using h 0 a rfl,by simpa[Addr.add]using h 1 b rfl⟩
theorem sg{w:World}{a b c d:Value}(h:∀j u,[a,b,c,d][j]? =some u->w.cell? (p.add j)=some u):w.cell? p=some a/\w.cell? ⟨p.block,p.off+1,none⟩=some b/\w.cell? ⟨p.block,p.off+2,none⟩=some c/\w.cell? ⟨p.block,p.off+3,none⟩=some d:=
 ⟨by simpa[Addr.add]using h 0 a rfl,by simpa[Addr.add]using h 1 b rfl,by simpa[Addr.add]using h 2 c rfl,by simpa[Addr.add]using h 3 d rfl⟩
theorem Ha{C:α->LV}{size:Nat}(F:∀x,(C x).length=size)(l:List α)(R:LV)(i j q:Nat)(H:j=i+1)(z:i<l.length)(d:q+1=l.length):
 (bm (bm (l.flatMap C) (i*size) ((l.flatMap C).drop (j*size))) (q*size) R).take (q*size)=(l.eraseIdx i).flatMap C:=by
 have o:=qV F l;have f1:(l.flatMap C).take (i*size)=(l.take i).flatMap C:=by
  rw[<-od,<-od,UO];exact nB _ o i abS
 have f2:(l.flatMap C).drop (j*size)=(l.drop j).flatMap C:=by
  rw[<-od,<-od,WN];exact pU _ o j abS
 have f3:((l.take i).flatMap C++(l.drop j).flatMap C).length=q*size:=by
  rw[<-Zf,sQ F,dB,fV,km]
  exact adS
 unfold bm;rw[f1,f2,XA f3,pI,XA f3,<-Zf,H,Wp]
abbrev cC(x:bh):LV:=[iI x.c,iI x.m,iU x.t,iU x.u]
theorem gH(x:bh):(cC x).length=4:=rfl
theorem kU:fY prog 105 273 (.agg #[iI 0,iI 0,iU 0,iU 0]) 4 32:=⟨underlying105,kR,kR,oM⟩
theorem BB(w:World):(zeroValue 273).run prog w= .ok (.agg #[iI 0,iI 0,iU 0,iU 0]) w:=by
 obtain⟨q,X,o,_,_⟩:=info_parts kU.kF;simp[zeroValue,typeInfo,X,o]
theorem Hk(w:World)(a b c d:Int):(Instr.buildSlice 105 1 #[(0,.agg #[iI a,iI b,iU c,iU d])]).run prog w= .ok (.slice (aO w.heap.size) 1 1) (w.alloc (.cells #[iI a,iI b,iU c,iU d] 273)):=kR
theorem IZ(w:World):(Instr.buildSlice 105 0 #[]).run prog w= .ok (.slice (aO w.heap.size) 0 0) (w.alloc (.cells #[] 273)):=kR
theorem uZ(x:bh):∀u∈cC x,u.oneCell'=true:=by
 intro u y;simp only[cC,qQ,qo,or_false]at y;rcases y with rfl|rfl|rfl|rfl<;>rfl
theorem IM(w:World)(b o:Nat)(x:bh)(R:w.there b o 4):(Instr.storeAt 273 (.pointer (some ⟨b,o,none⟩)) (.agg #[iI x.c,iI x.m,iU x.t,iU x.u])).run prog w= .ok () (w.setCells b o (cC x)):=by
 have G:=run_storeCells_cells (P:=prog) b o (cC x) 0 w (λk Q=>by rw[yd];exact(R k Q).1) (λk Q=>by rw[yd];exact(R k Q).2) (uZ x);simp only[yd]at G;obtain⟨q,X,_,E,_⟩:=info_parts kU.kF;simp[Instr.storeAt,Instr.sureAddr,storeVar,sizeOf,typeInfo,X,E,Value.cells];exact G
abbrev ir(x:cY):LV:=[iI x.c,iI x.m]
theorem kZ(x:cY):(ir x).length=2:=rfl
theorem pj:fY prog 106 317 (.agg #[iI 0,iI 0]) 2 16:=⟨underlying106,kR,kR,oM⟩
theorem MV(w:World):(zeroValue 317).run prog w= .ok (.agg #[iI 0,iI 0]) w:=by
 obtain⟨q,X,o,_,_⟩:=info_parts pj.kF;simp[zeroValue,typeInfo,X,o]
theorem Hj(w:World):(Instr.buildSlice 106 0 #[]).run prog w= .ok (.slice (aO w.heap.size) 0 0) (w.alloc (.cells #[] 317)):=kR
theorem yW(x:cY):∀u∈ir x,u.oneCell'=true:=by
 intro u y;simp only[ir,qQ,qo,or_false]at y;rcases y with rfl|rfl<;>rfl
theorem tS{I:aK}{L:List az}(f:FuncId)(D:Vq)(p:bh->Bool)(l:List bh)(A:OA)(n c:Nat)(w:World)
 (g:∀(args:Vq) (W:World),Sem.run prog (callFunc f args) W= .ok (.enter f args) W)
 (d:∀W,St I W L->gN cC 4 W (.slice A n c) l)
 (hF:∀(x:bh) (W:World),x∈l->St I W L->Calls prog f (#[.agg (cC x).toArray]++D) W λe u=>e= .returned (.bool (p x))/\St I u L)
 (h:St I w L):
 Rt I w 182 #[.slice A n c,.func (.func f) #[] D] (iI (jj p 0 l)) L:=by
 obtain⟨Y,Z,X,_⟩:=(d w h).sl;refine ye Y d h hF g (show jj p 0 l=jj p 0 (l.drop 0)from rfl) λb K H y M j=>?_;clear h Y hF g d
 go_enter func182,ntmps182
 go_wp2_with fail
 go_loopg [8] n (λU i wr=>∃(k:Nat),U=n-k/\k<=n/\i= iI (k:Nat)/\jj p 0 l=jj p k (l.drop k)/\St I wr L)
 case atStart=>exact ae0
 case round=>
  clear H j;obtain⟨k,C,o,rfl,z,h⟩:=hrel;have a:=aa C;clear C;by_cases t:k<n
  ·have J:=g7 (l:=l) (i:=k) abO
   have G:=IQ (l:=l) (i:=k) abO;generalize l[k]' abO=x at J G;have V:jj p k (l.drop k)=if p x=true then(k:Int)else jj p (k+1) (l.drop (k+1)):=by rw[G];rfl
   have r:=aa (qP J);obtain⟨T,rfl,B⟩:=(K _ h).at_ gH J;obtain⟨S,q,Y,Q⟩:=sg B;refine bq (z.trans V) h λO F=>?_;clear J h B G V z;have R:(0:Int)<=(k:Int):=oM
   have i1:(k:Int)<(n:Int):=oM
   go_wp2_with fail
   rw[M.out,Oper.upon_enter];refine qH (y x _ r F) λw2 N=>?_;clear F S q Y Q
   cases P:p x with
   |true=>
    exact afk
   |false=>
    exact afc
  ·exact afb
theorem Il{I:aK}{L:List az}(f:FuncId)(D:Vq)(p:cY->Bool)(l:List cY)(A:OA)(n c:Nat)(w:World)
 (g:∀(args:Vq) (W:World),Sem.run prog (callFunc f args) W= .ok (.enter f args) W)
 (d:∀W,St I W L->gN ir 2 W (.slice A n c) l)
 (hF:∀(x:cY) (W:World),x∈l->St I W L->Calls prog f (#[.agg (ir x).toArray]++D) W λe u=>e= .returned (.bool (p x))/\St I u L)
 (h:St I w L):
 Rt I w 225 #[.slice A n c,.func (.func f) #[] D] (iI (jj p 0 l)) L:=by
 obtain⟨Y,Z,X,_⟩:=(d w h).sl;refine ye Y d h hF g (show jj p 0 l=jj p 0 (l.drop 0)from rfl) λb K H y M j=>?_;clear h Y hF g d
 go_enter func225,ntmps225
 go_wp2_with fail
 go_loopg [8] n (λU i wr=>∃(k:Nat),U=n-k/\k<=n/\i= iI (k:Nat)/\jj p 0 l=jj p k (l.drop k)/\St I wr L)
 case atStart=>exact ae0
 case round=>
  clear H j;obtain⟨k,C,Q,rfl,z,h⟩:=hrel;have a:=aa C;clear C;by_cases t:k<n
  ·have J:=g7 (l:=l) (i:=k) abO
   have G:=IQ (l:=l) (i:=k) abO;generalize l[k]' abO=x at J G;have V:jj p k (l.drop k)=if p x=true then(k:Int)else jj p (k+1) (l.drop (k+1)):=by rw[G];rfl
   have r:=aa (qP J);obtain⟨T,rfl,B⟩:=(K _ h).at_ kZ J;obtain⟨S,q⟩:=yC B;refine bq (z.trans V) h λO F=>?_;clear J h B G V z;have o:(0:Int)<=(k:Int):=oM
   have R:(k:Int)<(n:Int):=oM
   go_wp2_with fail
   rw[M.out,Oper.upon_enter];refine qH (y x _ r F) λw2 N=>?_;clear F S q
   cases P:p x with
   |true=>
    exact afk
   |false=>
    exact afc
  ·exact afb
theorem Iv{I:aK}{L:List az}(f:FuncId)(D:Vq)(p:bh->Bool)(l:List bh)(A:OA)(n c:Nat)(w:World)
 (F:∀(args:Vq) (W:World),Sem.run prog (callFunc f args) W= .ok (.enter f args) W)
 (d:∀W,St I W L->gN cC 4 W (.slice A n c) l)
 (hF:∀(x:bh) (W:World),x∈l->St I W L->Calls prog f (#[.agg (cC x).toArray]++D) W λe g=>e= .returned (.bool (p x))/\St I g L)
 (h:St I w L):
 Rt I w 209 #[.slice A n c,.func (.func f) #[] D] (.bool (l.any p)) L:=by
 refine bq (tS f D p l A n c w F d hF h) (Rc p l) λO Q=>?_;clear F hF h d;generalize jj p 0 l=z at*
 go_enter func209,ntmps209
 exact adz
theorem Hl{I:aK}{L:List az}(l:List bh)(A:OA)(n c i j:Nat)(w:World)(H:j=i+1)(z:i<l.length)(h:St I w (kJ cC 273 4 (.slice A n c) l::L)):
 Calls prog 189 #[.slice A n c,iI i,iI j] w λe O=>∃q,q+1=n/\e= .returned (.slice A q c)/\St I O (kJ cC 273 4 (.slice A q c) (l.eraseIdx i)::L):=by
 obtain⟨y,D,p,_⟩:=(h.jg At.here).sl;have Z:=h.oz.2;obtain⟨b,rfl⟩:=iE (Z.row 0 rfl) oM;refine bq Z y λF R=>?_;have C:i<n:=oM
 have u:(0:Int)<=(i:Int):=oM
 have k:(i:Int)<=(j:Int):=oM
 have P:(j:Int)<=(n:Int):=oM
 have i3:(n:Int)<=(c:Int):=oM
 have i4:(0:Int)<=(j:Int):=oM
 have i5:(0:Int)<=(n:Int):=oM
 have i6:(j:Int)<=(c:Int):=oM
 have i7:(i:Int)<=(c:Int):=oM
 have bne:((i:Int)==(j:Int))=false:=jM oM;have g:=aa H;clear h Z y z D H
 go_enter func189,ntmps189
 go_wp2_with fail
 refine fP 6 kR kR (λW J=> ?_);have Q:=aa (F.drew);rw[<-J]at Q;clear J F;simp only[IE,Hd,NC,Bg]
 repeat still_step
 try refine wpStill_nil ?_
 obtain⟨a,T,B⟩:∃a:Addr,(if c=j then some (⟨b,0,none⟩:Addr)else some ⟨b,j*4,none⟩)=some a/\(j<n->a=⟨b,j*4,none⟩):=by
  exact adZ
 rw[T];obtain⟨w2,U,G⟩:=St.vT kU Q i j (c-j) a B oM oM (sG uZ l);obtain⟨q,d⟩:=nM (i+(n-j));have r:q+1=n:=by rw[d];have:=g.out;omega
 rw[<-d]at U;refine wi 105 rfl rfl rfl rfl U ?_;clear U T B;refine iG G d r λN o t=>?_;have q0:(0:Int)<=(q:Int):=oM
 have q1:(q:Int)<=(n:Int):=oM
 have q2:(q:Int)<=(c:Int):=oM
 have q3:¬c=q:=oM
 obtain⟨w3,Y,x,E,M⟩:=St.pA kU BB dC N q n (c-q) ⟨b,q*4,none⟩ (λ_=>rfl) oM oM;have D:=x 0;have K:=aa M;clear G Q d r x E N M;simp only[Act.put]
 go_wp2_with fail
 go_ret
 refine⟨q,t,rfl,?_⟩;have S:=K.vi (m:=q) (by have:=t.out;omega);have V:(l.eraseIdx i).length=q:=by
  have y:=R.out;exact aeL
 rw[Ha gH l Y i j q g.out (by have:=R.out;omega) (by have:=t.out;have:=R.out;omega)]at S;exact S.lW V.symm
theorem Hf{I:aK}{L:List az}(l:List cY)(A:OA)(n c i j:Nat)(w:World)(H:j=i+1)(z:i<l.length)(h:St I w (kJ ir 317 2 (.slice A n c) l::L)):
 Calls prog 192 #[.slice A n c,iI i,iI j] w λe O=>∃q,q+1=n/\e= .returned (.slice A q c)/\St I O (kJ ir 317 2 (.slice A q c) (l.eraseIdx i)::L):=by
 obtain⟨y,D,p,_⟩:=(h.jg At.here).sl;have Z:=h.oz.2;obtain⟨b,rfl⟩:=iE (Z.row 0 rfl) oM;refine bq Z y λF R=>?_;have C:i<n:=oM
 have u:(0:Int)<=(i:Int):=oM
 have k:(i:Int)<=(j:Int):=oM
 have P:(j:Int)<=(n:Int):=oM
 have i3:(n:Int)<=(c:Int):=oM
 have i4:(0:Int)<=(j:Int):=oM
 have i5:(0:Int)<=(n:Int):=oM
 have i6:(j:Int)<=(c:Int):=oM
 have i7:(i:Int)<=(c:Int):=oM
 have bne:((i:Int)==(j:Int))=false:=jM oM;have g:=aa H;clear h Z y z D H
 go_enter func192,ntmps192
 go_wp2_with fail
 refine fP 6 kR kR (λW J=> ?_);have Q:=aa (F.drew);rw[<-J]at Q;clear J F;simp only[IE,Hd,NC,Bg]
 repeat still_step
 try refine wpStill_nil ?_
 obtain⟨a,T,B⟩:∃a:Addr,(if c=j then some (⟨b,0,none⟩:Addr)else some ⟨b,j*2,none⟩)=some a/\(j<n->a=⟨b,j*2,none⟩):=by
  exact adZ
 rw[T];obtain⟨w2,U,G⟩:=St.vT pj Q i j (c-j) a B oM oM (sG yW l);obtain⟨q,d⟩:=nM (i+(n-j));have r:q+1=n:=by rw[d];have:=g.out;omega
 rw[<-d]at U;refine wi 106 rfl rfl rfl rfl U ?_;clear U T B;refine iG G d r λN o t=>?_;have q0:(0:Int)<=(q:Int):=oM
 have q1:(q:Int)<=(n:Int):=oM
 have q2:(q:Int)<=(c:Int):=oM
 have q3:¬c=q:=oM
 obtain⟨w3,Y,x,E,M⟩:=St.pA pj MV dC N q n (c-q) ⟨b,q*2,none⟩ (λ_=>rfl) oM oM;have D:=x 0;have K:=aa M;clear G Q d r x E N M;simp only[Act.put]
 go_wp2_with fail
 go_ret
 refine⟨q,t,rfl,?_⟩;have S:=K.vi (m:=q) (by have:=t.out;omega);have V:(l.eraseIdx i).length=q:=by
  have y:=R.out;exact aeL
 rw[Ha kZ l Y i j q g.out (by have:=R.out;omega) (by have:=t.out;have:=R.out;omega)]at S;exact S.lW V.symm
theorem DM{I:aK}{L:List az}(A:OA)(n c:Nat)(l:List bh)(w:World)(i:∀W,St I W L->gN cC 4 W (.slice A n c) l)(B:n*32<=140737488355328)(h:St I w L):
 Calls prog 186 #[.slice A n c] w λe O=>∃v,e= .returned v/\St I O (kJ cC 273 4 v l::L):=by
 obtain⟨d,D,p,V⟩:=(i w h).sl;have b:=aa d;rcases A with _|a
 ·have p:n=0:=by
   exact adW
  subst p;have J:l=[]:=BJ d.symm;subst J;have R:=λw=>Lib.run_eql_slice_nil (P:=prog) w 105 273 none 0 c 0 0 underlying105;have H:=aa h;clear V h d i
  go_enter func186,ntmps186
  go_wp2
  go_ret
  exact⟨_,rfl,H.Jo _ _ _⟩
 ·have R:=λw=>Lib.run_eql_slice_nil (P:=prog) w 105 273 (some a) n c 0 0 underlying105
  have k:=IZ;refine bq (h.qT 273 4 0 [] rfl oM w.heap.size rfl) ((V.RY ((Fr.refl jo w).alloc (.cells #[] 273)))) λH G=>?_;clear V h d i
  go_enter func186,ntmps186
  go_wp2_with (at_builtin;refine St.fj kU H rfl _ _ rfl rfl (some a) n c rfl (l.flatMap cC) G (sG uZ l) oM oM ?_;intro X r z Z)
  exact ae4
theorem DP{I:aK}{L:List az}(A:OA)(n c:Nat)(l:List cY)(w:World)(i:∀W,St I W L->gN ir 2 W (.slice A n c) l)(B:n*16<=140737488355328)(h:St I w L):
 Calls prog 193 #[.slice A n c] w λe O=>∃v,e= .returned v/\St I O (kJ ir 317 2 v l::L):=by
 obtain⟨d,D,p,V⟩:=(i w h).sl;have b:=aa d;rcases A with _|a
 ·have p:n=0:=by
   exact adW
  subst p;have J:l=[]:=BJ d.symm;subst J;have R:=λw=>Lib.run_eql_slice_nil (P:=prog) w 106 317 none 0 c 0 0 underlying106;have H:=aa h;clear V h d i
  go_enter func193,ntmps193
  go_wp2
  go_ret
  exact⟨_,rfl,H.Jo _ _ _⟩
 ·have R:=λw=>Lib.run_eql_slice_nil (P:=prog) w 106 317 (some a) n c 0 0 underlying106
  have k:=Hj;refine bq (h.qT 317 2 0 [] rfl oM w.heap.size rfl) ((V.RY ((Fr.refl jo w).alloc (.cells #[] 317)))) λH G=>?_;clear V h d i
  go_enter func193,ntmps193
  go_wp2_with (at_builtin;refine St.fj pj H rfl _ _ rfl rfl (some a) n c rfl (l.flatMap ir) G (sG yW l) oM oM ?_;intro X r z Z)
  exact ae4
end
section
open Go.Shelf
theorem MY{P:Program}{w:World}{i:Array Oper}{rest:List Oper}{o:Oper}{a:Act}{Q:Exit->Act->World->Prop}{s x:Operand}{v u:Value}{O:World}(t:TypeId)(A:o.guard=none)
 (q:o.op= .store t s x) (V:a.eval s=v) (J:a.eval x=u)
 (U:(Instr.storeAt t v u).run P w= .ok () O) (k:wpList P i Q rest (a.put o.dst undef) O):wpList P i Q (o::rest) a w:=by
 exact adT
theorem NJ(C:List α)(i:Nat)(z:α)(h:i<C.length):(C.set i z).take (i+1)=C.take i++[z]:=by
 rw[JU,zdh oM,Zo (io i)]
 rfl
theorem St.Wk{C:α->LV}{size:Nat}{I:aK}{w:World}{L:List az}{e:TypeId}{b n c k:Nat}{N:List α}(F:∀x,(C x).length=size)(h:St I w (kJ C e size (.slice (aO b) n c) N::L))(Q:k<N.length)(y:α):
 St I (w.setCells b (k*size) (C y)) (kJ C e size (.slice (aO b) n c) (N.set k y)::L)/\w.there b (k*size) size:=by
 obtain⟨K,Z⟩:=h.oz;have B:(k+1)*size<=n*size:=vz _ oM;rw[xh,Eh]at B;have G:=Z.pf (k*size) (C y) (by rw[F];omega);have u:bm (N.flatMap C) (k*size) (C y)=(N.set k y).flatMap C:=by
  have o:=qv (N.map λx=>(C x,x)) [(C y,y)] (qV F N) (λp P=>(by simpa using P:p=(C y,y))▸F y) k abS;rw[od,show cm [(C y,y)]=C y by simp[cm]]at o;have Y:bm (N.map λx=>(C x,x)) k [(C y,y)]=(N.set k y).map λx=>(C x,x):=by
   unfold bm;rw[zdt,zb2,iP (by simpa using Q)];exact abN
  rw[o,Y,od]
 rw[u]at G;exact⟨G.lW (by rw[Yj];exact K),iX (Z.row 0 rfl) (k*size) size oM⟩
theorem FC{I:aK}{L:List az}(f:FuncId)(D:Vq)(p:bh->Bool)(l:List bh)(A:OA)(n c:Nat)(w:World)
 (a:∀(args:Vq) (W:World),Sem.run prog (callFunc f args) W= .ok (.enter f args) W)
 (hF:∀(X:az) (x:bh) (W:World),x∈l->St I W (X::L)->Calls prog f (#[.agg (cC x).toArray]++D) W λe W'=>e= .returned (.bool (p x))/\St I W' (X::L))
 (h:St I w (kJ cC 273 4 (.slice A n c) l::L)):
 Calls prog 149 #[.slice A n c,.func (.func f) #[] D] w λe L0=>∃v,e= .returned v/\St I L0 (kJ cC 273 4 v (l.filter (λx=> !p x))::L):=by
 have O:=aa (tS f D p l A n c w a (λW u=>u.jg At.here) (λx W J u=>hF _ x W J u) h);obtain⟨Y,T0,S0,_⟩:=(h.jg At.here).sl;refine iG Y hF a λR HF HC=>?_;have HS:=sx p l 0;generalize jj p 0 l=z at O HS;clear h Y hF a;rcases HS with⟨rfl,hk⟩|⟨k,x0,C0,Z,G0,E0⟩
 ·have r:Hid (l.filter (λx=> !p x)=l):=List.filter_eq_self.2 (λx J=>by have:=zcY.1 hk x J;simpa using this)
  clear hk
  go_enter func149,ntmps149
  go_wp2_with fail
  refine qH O λw2 H=>?_;clear O
  go_wp2_with fail
  go_ret
  exact⟨_,rfl,by rw[r.out];exact H.out⟩
 ·rw[xS]at C0
  subst C0;have D0:=(nQ.1 Z).1;have M0:k<n:=by have:=R.out;omega
  have r:=aa (show l.filter (λx=> !p x)=l.take k++(l.drop (k+1)).filter (λx=> !p x)by
   conv=>lhs;rw[<-Le k l]
   rw[Xn,IQ D0,(nQ.1 Z).2,Ef,G0];rw[List.filter_eq_self.2 (λx J=>by have:=zcY.1 E0 x J;simpa using this)]
   rfl)
  have k0:(0:Int)<=(k:Int):=oM
  have P0:((k:Int)== -1)=false:=jM oM;obtain⟨j,N⟩:=nM (k+1);have jw:IntKind.i64.wrap ((k:Int)+1)=(j:Int):=by rw[N,IntWalk.i64_in _ oM];omega
  have HJ:=aa N;clear Z G0 E0 N
  go_enter func149,ntmps149
  go_wp2_with fail
  refine qK O λw2 h=>?_;obtain⟨b,rfl⟩:=iE (h.oz.2.row 0 rfl) oM;have H:=aa h;clear h O
  go_wp2_with fail
  go_loopg [5,6] (n-j) (λgh v Q0 wr=>∃(i j:Nat) (C:List bh),gh=n-j/\i<j/\j<=n/\v= iI (i:Nat)/\Q0= iI (j:Nat)/\C.length=n/\C.drop j=l.drop j/\
   l.filter (λx=> !p x)=C.take i++(l.drop j).filter (λx=> !p x)/\St I wr (kJ cC 273 4 (.slice (aO b) n c) C::L))
  case atStart=>
   have N:=HJ.out;exact⟨k,j,l,rfl,oM,oM,rfl,rfl,R.symm,rfl,by rw[r.out,N],H⟩
  case round=>
   clear H r HJ jw k0 P0 M0 D0;obtain⟨i,j,C,hg,T,N,rfl,rfl,o,P,g,h⟩:=hrel;refine bq hg o λHG E=>?_;have i0:(0:Int)<=(i:Int):=oM
   have j0:(0:Int)<=(j:Int):=oM
   clear hg;by_cases t:j<n
   ·have i1:(i:Int)<(n:Int):=oM
    have j1:(j:Int)<(n:Int):=oM
    have J:=g7 (l:=l) (i:=j) aca;have G:=IQ (l:=l) (i:=j) aca;generalize l[j]' aca=x at J G;have J0:=IQ (l:=C) (i:=j) (by rw[o];exact t);have A0:=g7 (l:=C) (i:=j) (by rw[o];exact t);have B:=P;rw[G,J0]at B;injection B with K0 B;rw[K0]at A0;obtain⟨ad,V,Q⟩:=(h.jg At.here).at_ gH A0;injection V with V;subst V;rw[show(⟨b,0,none⟩:Addr).add (j*4)=⟨b,j*4,none⟩by(generalize j*4=m;simp[Addr.add];exact UQ)]at Q;obtain⟨e0,e1,Y,e3⟩:=sg Q;have F0:(l.drop j).filter (λx=> !p x)=if p x=true then(l.drop (j+1)).filter (λx=> !p x)else x::(l.drop (j+1)).filter (λx=> !p x):=by
     rw[G,Ef]
     cases p x<;>rfl
    refine nK (qP J) B (g.trans (congrArg _ F0)) (h.alloc 273 #[iI x.c,iI x.m,iU x.t,iU x.u]) λHM B0 q F=>?_;clear J G A0 J0 P B Q F0 g h o K0
    go_wp2_with fail
    generalize wr.heap.size=y at F⊢;have M:=F.aM;have K:=aa M;clear M F e0 e1 Y e3;generalize wr.alloc _=w3 at K⊢;rw[HC.out,Oper.upon_enter];refine qK (HF _ x _ HM K) λw4 S=>?_;have U:=S.star;clear S K;have jw:IntKind.i64.wrap ((j:Int)+1)=((j+1:Nat):Int):=by rw[IntWalk.i64_in _ oM];omega
    cases hp:p x with
    |true=>
     refine bq (q.trans (by rw[iP hp])) U.tail λr H5=>?_;clear U q
     go_wp2_with fail
     go_roundg (n-(j+1))
     case measure=>exact adi
     case rel=>exact⟨i,j+1,C,rfl,oM,oM,rfl,by go_num,E,B0,r,H5⟩
    |false=>
     have r:=aa (q.trans (by rw[iN (by rw[hp];exact iu)]));have y0:=(U.ah 0 rfl).cell 0;have y1:=(U.ah 0 rfl).cell 1;have y2:=(U.ah 0 rfl).cell 2;have y3:=(U.ah 0 rfl).cell 3;have iw:IntKind.i64.wrap ((i:Int)+1)=((i+1:Nat):Int):=by rw[IntWalk.i64_in _ oM];omega
     obtain⟨h6,I0⟩:=U.tail.Wk gH (k:=i) (by have:=E.out;omega) x;have O0:=IM w4 b (i*4) x I0;refine bq h6 T λH6 d=>?_;clear U h6 I0 q
     go_wp2_with (refine MY 273 rfl rfl rfl rfl O0 ?_)
     go_roundg (n-(j+1))
     case measure=>exact adi
     case rel=>exact⟨i+1,j+1,_,rfl,by have:=d.out;omega,oM,by go_num,by go_num,by rw[Yj];exact E,by rw[ZI acf];exact B0,by
      rw[r.out,NJ _ _ _ (by have:=E.out;have:=d.out;omega),pI];rfl,H6⟩
   ·obtain rfl:j=n:=oM
    have i1:(i:Int)<(j:Int):=oM
    have q1:(i:Int)<=(j:Int):=oM
    have q2:(i:Int)<=(c:Int):=oM
    have q3:¬c=i:=oM
    have q4:(j:Int)<=(c:Int):=oM
    have N0:l.drop j=[]:=UK (by rw[<-R.out];exact io _);rw[N0]at g;refine bq (g.trans (xd _)) T λr d=>?_;obtain⟨w3,ys,H0,hy,M⟩:=St.pA kU BB dC h.oz.2 i j (c-i) ⟨b,i*4,none⟩ (λ_=>rfl) oM oM;have R0:=H0 0;refine bq M hy λK HY=>?_;clear h H0 hy M g T P o
    go_wp2_with fail
    go_ret
    refine⟨_,rfl,?_⟩;rw[r.out];have S:=K.vi (m:=i) acf;have e:(bm (C.flatMap cC) (i*4) ys).take (i*4)=(C.take i).flatMap cC:=by
     have h1:=d.out;have h2:=E.out;have f1:(C.flatMap cC).take (i*4)=(C.take i).flatMap cC:=by
      rw[<-od,<-od,UO];exact nB _ (qV gH C) i abS
     unfold bm;rw[f1,pI,XA];rw[sQ gH,fV,Hc oM]
    rw[e]at S;refine S.lW ?_;have h1:=d.out;have h2:=E.out;exact ab5
end
structure jZ where
 d:Int
 c:Int
 r:Int
 i:Int
 t:Int
 b:LI
 e:Int
def jZ.gO(r:Int)(e:jZ):Bool:=(e.r==r)&&(e.t !=0)&&(e.e==0)&&decide (5<=e.d)&&decide (e.d<=7)
def fo(s:fT)(e:jZ):fT:=if e.d=5 then⟨s.t,s.p++[⟨e.i,e.b⟩],s.s,s.k⟩else if e.d=6 then⟨s.t,s.p,s.s,s.k++[⟨(s.p.length:Nat),e.i,e.b⟩]⟩else⟨s.t,s.p,(s.p.length:Nat),s.k⟩
def jB(t:Int):fT:=⟨t,[],0,[]⟩
def ku(r t:Int)(e:jZ):Bool:=e.gO r&&(e.t==t)
def aC(r t:Int)(l:List jZ):fT:=(l.filter (ku r t)).foldl fo (jB t)
theorem An(r t:Int)(l:List jZ)(e:jZ):aC r t (l++[e])=if ku r t e=true then fo (aC r t l) e else aC r t l:=by
 unfold aC;rw[Xn,XI]
 cases h:ku r t e with
 |true=>rw[zdd h];rfl
 |false=>rw[zde (by rw[h];exact iu)];rfl
section
open Go.Shelf
theorem Fr.Nk{w O:World}(h:Fr jo w O){u:Value}(D:w.cell? p=some u):O.cell? p=some u:=
 (h.cell (p:=p) (World.block_lt_of_cell? _ _ D) (λx=>x)).trans D
theorem JQ{I:aK}{L:List az}(x:bh)(w:World)(h:St I w L):
 Rt I w 210 #[.agg #[iI x.c,iI x.m,iU x.t,iU x.u]] (iI x.c) L:=by
 have Z:=h.alloc 273 #[iI x.c,iI x.m,iU x.t,iU x.u];have C:=(Z.ah 0 rfl).cell 0;have H:=aa Z;clear h Z
 go_enter func210,ntmps210
 go_wp2_with fail
 go_ret
 exact aeI
theorem If{I:aK}{L:List az}(M d:Nat)(A:OA)(n c:Nat)(a:Int)(x:bh)(w:World)(h:St I w (ab M 338 #[.slice A n c,.func (.func 210) #[] #[]]::ab d 3 #[iI a]::L)):
 Calls prog 224 (#[.agg (cC x).toArray]++ #[pO M,pO d]) w λe O=>e= .returned (.bool (x.c==a))/\St I O (ab M 338 #[.slice A n c,.func (.func 210) #[] #[]]::ab d 3 #[iI a]::L):=by
 have K:=h.alloc 273 #[iI x.c,iI x.m,iU x.t,iU x.u];generalize R:w.heap.size=ge at K;have y:=aa K;clear h K
 go_enter func224,ntmps224
 go_wp2_with fail
 have K:=y.out;clear R y;generalize w.alloc _=w0 at K⊢;refine an (I:=I) (L0:=L) [⟨none,none,λe=>ab ge 273 #[iI x.c,iI x.m,iU x.t,iU x.u]⟩,⟨none,none,λe=>ab M 338 #[.slice A n c,.func (.func 210) #[] #[]]⟩,⟨none,none,λe=>ab d 3 #[iI a]⟩] [[],[0],[],rG 3,[],rG 5,rG 6] (rG 7) rfl kR kR kR (by rfl) (λ_=>rfl) K.fk ?_;refine Cn ?_;refine bp 210 (λe=> #[.agg #[iI x.c,iI x.m,iU x.t,iU x.u]]) (λe=> iI x.c) rfl (λe p l h=>by(
  have h:=h.fn;refine(JQ x _ h).mono ?_;rintro u b⟨rfl,Z⟩;exact⟨⟨none,0,default⟩,rfl,Z.pk 0 []⟩)) ?_
 exact afd
theorem Ei{I:aK}{L:List az}(A:OA)(n c:Nat)(l:List bh)(a:Int)(w:World)(d:∀W,St I W L->gN cC 4 W (.slice A n c) l)(h:St I w L):
 Rt I w 211 #[.agg #[.slice A n c,.func (.func 210) #[] #[]],iI a] (iI (jj (λx=>x.c==a) 0 l)) L:=by
 have Z:=h.alloc 338 #[.slice A n c,.func (.func 210) #[] #[]];generalize b:w.heap.size=gl at Z;have G:=Z.alloc 3 #[iI a];rw[World.size_alloc,b]at G;generalize k:gl+1=gc at G;have D:=(G.ah 1 rfl).cell 0;refine bq G.swap d λH K=>?_;clear h Z G d
 go_enter func211,ntmps211
 go_wp2_with fail
 refine qK (tS 224 #[pO gl,pO gc] (λx=>x.c==a) l A n c _ (enters_of func224 kR rfl) (λW J=>K W J.tail.tail) (λx W _ J=>If gl gc A n c a x W J) H) λR h=>?_;have N:=aa h.tail.tail;clear h H D
 exact ac8
theorem sI{I:aK}{L:List az}(g o:Nat)(A:OA)(n c:Nat)(l:List bh)(a:Int)(w:World)(D:w.cell? ⟨g,o,none⟩=some (.slice A n c))(d:∀W,St I W L->gN cC 4 W (.slice A n c) l)(h:St I w L):
 Rt I w 188 #[.pointer (some ⟨g,o,none⟩),iI a] (iI (jj (λx=>x.c==a) 0 l)) L:=by
 refine bq d h λK H=>?_;clear h d
 go_enter func188,ntmps188
 go_wp2_with fail
 refine qH (Ei A n c l a _ K H) λR N=>?_;clear H D
 exact ac8
theorem IJ{I:aK}{L:List az}(x:cY)(w:World)(h:St I w L):
 Rt I w 213 #[.agg #[iI x.c,iI x.m]] (iI x.c) L:=by
 have Z:=h.alloc 317 #[iI x.c,iI x.m];have C:=(Z.ah 0 rfl).cell 0;have H:=aa Z;clear h Z
 go_enter func213,ntmps213
 go_wp2_with fail
 go_ret
 exact aeI
theorem JK{I:aK}{L:List az}(M d:Nat)(A:OA)(n c:Nat)(a:Int)(x:cY)(w:World)(h:St I w (ab M 341 #[.slice A n c,.func (.func 213) #[] #[]]::ab d 3 #[iI a]::L)):
 Calls prog 226 (#[.agg (ir x).toArray]++ #[pO M,pO d]) w λe O=>e= .returned (.bool (x.c==a))/\St I O (ab M 341 #[.slice A n c,.func (.func 213) #[] #[]]::ab d 3 #[iI a]::L):=by
 have K:=h.alloc 317 #[iI x.c,iI x.m];generalize R:w.heap.size=ge at K;have y:=aa K;clear h K
 go_enter func226,ntmps226
 go_wp2_with fail
 have K:=y.out;clear R y;generalize w.alloc _=w0 at K⊢;refine an (I:=I) (L0:=L) [⟨none,none,λe=>ab ge 317 #[iI x.c,iI x.m]⟩,⟨none,none,λe=>ab M 341 #[.slice A n c,.func (.func 213) #[] #[]]⟩,⟨none,none,λe=>ab d 3 #[iI a]⟩] [[],[0],[],rG 3,[],rG 5,rG 6] (rG 7) rfl kR kR kR (by rfl) (λ_=>rfl) K.fk ?_;refine Cn ?_;refine bp 213 (λe=> #[.agg #[iI x.c,iI x.m]]) (λe=> iI x.c) rfl (λe p l h=>by(
  have h:=h.fn;refine(IJ x _ h).mono ?_;rintro u b⟨rfl,Z⟩;exact⟨⟨none,0,default⟩,rfl,Z.pk 0 []⟩)) ?_
 exact afd
theorem Es{I:aK}{L:List az}(A:OA)(n c:Nat)(l:List cY)(a:Int)(w:World)(d:∀W,St I W L->gN ir 2 W (.slice A n c) l)(h:St I w L):
 Rt I w 214 #[.agg #[.slice A n c,.func (.func 213) #[] #[]],iI a] (iI (jj (λx=>x.c==a) 0 l)) L:=by
 have Z:=h.alloc 341 #[.slice A n c,.func (.func 213) #[] #[]];generalize b:w.heap.size=gl at Z;have G:=Z.alloc 3 #[iI a];rw[World.size_alloc,b]at G;generalize k:gl+1=gc at G;have D:=(G.ah 1 rfl).cell 0;refine bq G.swap d λH K=>?_;clear h Z G d
 go_enter func214,ntmps214
 go_wp2_with fail
 refine qK (Il 226 #[pO gl,pO gc] (λx=>x.c==a) l A n c _ (enters_of func226 kR rfl) (λW J=>K W J.tail.tail) (λx W _ J=>JK gl gc A n c a x W J) H) λR h=>?_;have N:=aa h.tail.tail;clear h H D
 exact ac8
theorem Bt{I:aK}{L:List az}(g o:Nat)(A:OA)(n c:Nat)(l:List cY)(a:Int)(w:World)(D:w.cell? ⟨g,o+1,none⟩=some (.slice A n c))(d:∀W,St I W L->gN ir 2 W (.slice A n c) l)(h:St I w L):
 Rt I w 191 #[.pointer (some ⟨g,o,none⟩),iI a] (iI (jj (λx=>x.c==a) 0 l)) L:=by
 refine bq d h λK H=>?_;clear h d
 go_enter func191,ntmps191
 go_wp2_with fail
 refine qH (Es A n c l a _ K H) λR N=>?_;clear H D
 exact ac8
theorem Gt{I:aK}{L:List az}(d:Nat)(m:Int)(x:bh)(w:World)(h:St I w (ab d 3 #[iI m]::L)):
 Calls prog 208 (#[.agg (cC x).toArray]++ #[pO d]) w λe O=>e= .returned (.bool (rA m x))/\St I O (ab d 3 #[iI m]::L):=by
 have Z:=h.alloc 273 #[iI x.c,iI x.m,iU x.t,iU x.u];have T:=(Z.ah 0 rfl).cell 1;have D:=(Z.ah 1 rfl).cell 0;have H:=aa Z;clear h Z;obtain⟨d1,E⟩:∃d1,(x.m==2)=d1:=⟨_,rfl⟩;obtain⟨d2,i⟩:∃d2,(m==2)=d2:=⟨_,rfl⟩;have V:=aa (show rA m x=(d1||d2)by unfold rA;rw[E,i])
 go_enter func208,ntmps208
 cases d1<;>cases d2
 all_goals(go_wp2_with fail;go_ret;exact⟨by rw[V.out];try rfl,H.tail⟩)
theorem Rn{I:aK}{L:List az}(g o:Nat)(A:OA)(n c:Nat)(l:List bh)(m:Int)(w:World)(D:w.cell? ⟨g,o,none⟩=some (.slice A n c))(i:∀W,St I W L->gN cC 4 W (.slice A n c) l)(h:St I w L):
 Rt I w 183 #[.pointer (some ⟨g,o,none⟩),iI m] (.bool (!l.any (rA m))) L:=by
 have K:=aa i;have Z:=h.alloc 3 #[iI m];generalize k:w.heap.size=gc at Z;have C:(w.alloc (.cells #[iI m] 3)).cell? ⟨g,o,none⟩=some (.slice A n c):=((Fr.refl jo w).alloc _).Nk D;have H:=aa Z;clear h i Z
 go_enter func183,ntmps183
 go_wp2_with fail
 refine qK (Iv 208 #[pO gc] (rA m) l A n c _ (enters_of func208 kR rfl) (λW J=>K W J.tail) (λx W _ J=>Gt gc m x W J) H) λR h=>?_;have N:=aa h.tail;obtain⟨q,d⟩:=nM (l.any (rA m));rw[<-d];have E:=aa d;clear h H D C d
 go_wp2_with fail
 go_ret
 exact⟨by rw[<-E.out];try rfl,N⟩
end
section
open Go.Shelf
structure Lh where
 a:OA
 n:Nat
 c:Nat
structure rz where
 h:Lh
 w:Lh
def gU:List az->az
 |[]=>kd True
 |X::r=>aX X (gU r)
section
variable {I:aK} {w:World}
theorem St.ZD:∀{c L:List az},St I w (gU c::L)->St I w (c++L)
 |[],_,h=>h.xl.2
 |X::r,L,h=>by
  have Z:=h.star;have G:St I w (gU r::X::L):=Z.swap;have M:St I w (r++X::L):=G.ZD;exact M.perm (XM)
theorem St.Qe:∀{c L:List az},St I w (c++L)->St I w (gU c::L)
 |[],_,h=>h.ul trivial
 |X::r,L,h=>by
  have G:St I w (r++X::L):=h.perm XM.symm;have M:St I w (gU r::X::L):=G.Qe;exact M.swap.aM
end
abbrev lP(l last:Int)(V:Nat->rz):Vq:= #[iU l,iU last,
 .slice (V 0).h.a (V 0).h.n (V 0).h.c,.slice (V 0).w.a (V 0).w.n (V 0).w.c,.slice (V 1).h.a (V 1).h.n (V 1).h.c,.slice (V 1).w.a (V 1).w.n (V 1).w.c,
 .slice (V 2).h.a (V 2).h.n (V 2).h.c,.slice (V 2).w.a (V 2).w.n (V 2).w.c,.slice (V 3).h.a (V 3).h.n (V 3).h.c,.slice (V 3).w.a (V 3).w.n (V 3).w.c]
theorem Od{k:Nat}(h:k<4):k=0\/k=1\/k=2\/k=3:=oM
theorem pZ(l last:Int)(V:Nat->rz){i:Nat}(z:i<4):(lP l last V)[2+i*2]? =some (.slice (V i).h.a (V i).h.n (V i).h.c):=by
 exact ad0
theorem Hr(l last:Int)(V:Nat->rz){i:Nat}(z:i<4):(lP l last V)[2+i*2+1]? =some (.slice (V i).w.a (V i).w.n (V i).w.c):=by
 exact ad0
theorem wL(l last:Int)(V:Nat->rz){i:Nat}(z:i<4)(u:Lh):(lP l last V).setIfInBounds (2+i*2) (.slice u.a u.n u.c)=lP l last (aI V i ⟨u,(V i).w⟩):=by
 exact ad0
theorem wI(l last:Int)(V:Nat->rz){i:Nat}(z:i<4)(u:Lh):(lP l last V).setIfInBounds (2+i*2+1) (.slice u.a u.n u.c)=lP l last (aI V i ⟨(V i).h,u⟩):=by
 exact ad0
abbrev fx(v:Lh)(V:List bh):az:=kJ cC 273 4 (.slice v.a v.n v.c) V
abbrev er(v:Lh)(B:List cY):az:=nm ir 2 (.slice v.a v.n v.c) B
def dv(V:Nat->rz)(r:Nat->wz)(j:Nat):az:=aX (fx (V j).h (r j).h) (er (V j).w (r j).w)
def tM(V:Nat->rz)(r:Nat->wz)(i j:Nat):az:=if j=i then kd True else dv V r j
def ju(V:Nat->rz)(r:Nat->wz)(i:Nat):az:=gU [tM V r i 0,tM V r i 1,tM V r i 2,tM V r i 3]
abbrev iA(g:Nat)(l last:Int)(V:Nat->rz):az:=ab g 111 (lP l last V)
def bX(g:Nat)(T:aH):az:=Bc λV=>aX (iA g T.now T.last V) (gU [dv V T.r 0,dv V T.r 1,dv V T.r 2,dv V T.r 3])
theorem fa(f:Nat->α)(i:Nat)(x:α):aI f i x i=x:=iP rfl
theorem pS(f:Nat->α){i j:Nat}(x:α)(h:j≠i):aI f i x j=f j:=iN h
theorem FB(f:Nat->α)(i:Nat)(x y:α):aI (aI f i x) i y=aI f i y:=by
 funext j
 unfold aI
 split<;>rfl
theorem qx{V a:Nat->rz}{r w:Nat->wz}{i:Nat}(Z:∀j,j≠i->V j=a j)(G:∀j,j≠i->r j=w j):ju V r i=ju a w i:=by
 have:∀j,tM V r i j=tM a w i j:=λj=>by
  unfold tM
  split
  ·rfl
  ·rename_i H
   unfold dv;rw[Z j H,G j H]
 unfold ju;rw[this,this,this,this]
section
variable {I:aK} {w:World} {L:List az} {g:Nat}
theorem St.IG(h:St I w (bX g T::L)):∃V,St I w (iA g T.now T.last V::dv V T.r 0::dv V T.r 1::dv V T.r 2::dv V T.r 3::L):=by
 obtain⟨V,Z⟩:=h.ex;have G:=Z.star.swap.ZD;exact⟨V,G.perm (XM (l₁:=[dv V T.r 0,dv V T.r 1,dv V T.r 2,dv V T.r 3]))⟩
theorem St.Qy{V:Nat->rz}(h:St I w (iA g T.now T.last V::dv V T.r 0::dv V T.r 1::dv V T.r 2::dv V T.r 3::L)):St I w (bX g T::L):=by
 have G:St I w ([dv V T.r 0,dv V T.r 1,dv V T.r 2,dv V T.r 3]++iA g T.now T.last V::L):=h.perm (XM (l₁:=[dv V T.r 0,dv V T.r 1,dv V T.r 2,dv V T.r 3])).symm;exact St.eu (f:=λV=>aX (iA g T.now T.last V) (gU [dv V T.r 0,dv V T.r 1,dv V T.r 2,dv V T.r 3])) V G.Qe.swap.aM
theorem St.Ib{i:Nat}(z:i<4)(h:St I w (bX g T::L)):∃V,St I w (iA g T.now T.last V::fx (V i).h (T.r i).h::er (V i).w (T.r i).w::ju V T.r i::L):=by
 obtain⟨V,Z⟩:=h.IG;refine⟨V,?_⟩;have key:∀{a C D O:az},St I w (a::C::D::O::fx (V i).h (T.r i).h::er (V i).w (T.r i).w::iA g T.now T.last V::L)->tM V T.r i 0=a->tM V T.r i 1=C->tM V T.r i 2=D->tM V T.r i 3=O->St I w (iA g T.now T.last V::fx (V i).h (T.r i).h::er (V i).w (T.r i).w::ju V T.r i::L):=by
  intro a C D O h S u Y P;have G:St I w ([a,C,D,O]++(fx (V i).h (T.r i).h::er (V i).w (T.r i).w::iA g T.now T.last V::L)):=h;have M:=G.Qe;unfold ju;rw[S,u,Y,P];exact M.sub
 rcases Od z with rfl|rfl|rfl|rfl
 ·exact key ((((Z.fi 1).star).ul (p:=True) trivial).pk 7 [0,4,5,6,1,2,3]) (iP rfl) (iN oM) (iN oM) (iN oM)
 ·exact key ((((Z.fi 2).star).ul (p:=True) trivial).pk 7 [4,0,5,6,1,2,3]) (iN oM) (iP rfl) (iN oM) (iN oM)
 ·exact key ((((Z.fi 3).star).ul (p:=True) trivial).pk 7 [4,5,0,6,1,2,3]) (iN oM) (iN oM) (iP rfl) (iN oM)
 ·exact key ((((Z.fi 4).star).ul (p:=True) trivial).pk 7 [4,5,6,0,1,2,3]) (iN oM) (iN oM) (iN oM) (iP rfl)
theorem St.Qo{l last:Int}{r:Nat->wz}{V:Nat->rz}{i:Nat}{W:List bh}{B:List cY}(z:i<4)(h:St I w (iA g l last V::fx (V i).h W::er (V i).w B::ju V r i::L)):St I w (bX g ⟨l,last,aI r i ⟨W,B⟩⟩::L):=by
 obtain⟨a,C,D,O,S,u,Y,P,G⟩:∃a C D O,tM V r i 0=a/\tM V r i 1=C/\tM V r i 2=D/\tM V r i 3=O/\St I w (a::C::D::O::iA g l last V::fx (V i).h W::er (V i).w B::L):=by
  refine⟨_,_,_,_,rfl,rfl,rfl,rfl,?_⟩;have G:=(h.fi 3).ZD;exact G
 have U:∀j,j≠i->dv V (aI r i ⟨W,B⟩) j=dv V r j:=λj H=>by
  unfold dv;rw[pS _ _ H]
 have A:dv V (aI r i ⟨W,B⟩) i=aX (fx (V i).h W) (er (V i).w B):=by
  unfold dv;rw[fa]
 refine St.Qy (T:=⟨l,last,aI r i ⟨W,B⟩⟩) (V:=V) ?_;show St I w (iA g l last V::dv V (aI r i ⟨W,B⟩) 0::dv V (aI r i ⟨W,B⟩) 1::dv V (aI r i ⟨W,B⟩) 2::dv V (aI r i ⟨W,B⟩) 3::L);have M:=(G.pk 7 [5,6,0,1,2,3,4]).aM;rw[<-A]at M;rcases Od z with rfl|rfl|rfl|rfl
 ·have f1:C=dv V r 1:=u.symm.trans (iN oM)
  have f2:D=dv V r 2:=Y.symm.trans (iN oM);have f3:O=dv V r 3:=P.symm.trans (iN oM);subst f1;subst f2;subst f3;rw[U 1 oM,U 2 oM,U 3 oM];exact M.sub
 ·have f0:a=dv V r 0:=S.symm.trans (iN oM)
  have f2:D=dv V r 2:=Y.symm.trans (iN oM);have f3:O=dv V r 3:=P.symm.trans (iN oM);subst f0;subst f2;subst f3;rw[U 0 oM,U 2 oM,U 3 oM];exact M.sub
 ·have f0:a=dv V r 0:=S.symm.trans (iN oM)
  have f1:C=dv V r 1:=u.symm.trans (iN oM);have f3:O=dv V r 3:=P.symm.trans (iN oM);subst f0;subst f1;subst f3;rw[U 0 oM,U 1 oM,U 3 oM];exact M.sub
 ·have f0:a=dv V r 0:=S.symm.trans (iN oM)
  have f1:C=dv V r 1:=u.symm.trans (iN oM);have f2:D=dv V r 2:=Y.symm.trans (iN oM);subst f0;subst f1;subst f2;rw[U 0 oM,U 1 oM,U 2 oM];exact M.sub
end
end
section
def Lz(w:World)(b:Nat)(kv:List (Int×Value)):Prop:=∃arr a,w.heap[b]? =some (.map arr a)/\arr.toList.map (λe=>(e.key,e.val))=kv.map (λp=>(Value.int .i64 p.1,p.2))
def nO(b:Nat)(kv:List (Int×Value)):az where
 holds _ w F:=(∀x,F x↔x=b)/\Lz w b kv
 lt h hb:=by
  obtain⟨Z,arr,a,p,_⟩:=h;rw[(Z _).1 hb];exact(CE.1 p).1
 loc h _ _ hb:=by
  obtain⟨Z,arr,a,p,Y⟩:=h;exact⟨Z,arr,a,(hb _ ((Z _).2 rfl)).trans p,Y⟩
def pH(kv:List (Int×Value))(c:Int):Option Value:=(kv.find? (λp=>p.1==c)).map (·.2)
def qy(kv:List (Int×Value))(c:Int):List (Int×Value):=kv.eraseP (λp=>p.1==c)
section
variable {I:aK} {w:World} {L:List az} {b:Nat} {r:List (Int×Value)} {P:Program} {t k e:TypeId}
theorem St.Ax(h:St I w L)(i:Nat)(z:L[i]? =some (nO b r)):Lz w b r:=by
 exact ad4
theorem St.Di(h:St I w L):St I (w.alloc (.map #[] 0)) (nO w.heap.size []::L):=
 h.add (F':=(·=w.heap.size)) ((Fr.refl _ _).alloc _) (λ_ _=>⟨λ_=>Ve,#[],0,(MapKept.heap_alloc w _).1,rfl⟩) (λ_ B=>YX B.symm)
theorem pV(c:Int):∀(l:List MapEntry) (r:List (Int×Value)) (i:Nat),l.map (λe=>(e.key,e.val))=r.map (λp=>(Value.int .i64 p.1,p.2))->
 (Instr.findNow (.int .i64) (iI c) l i=some none/\pH r c=none/\qy r c=r)\/∃j v,Instr.findNow (.int .i64) (iI c) l i=some (some (i+j,v))/\pH r c=some v/\qy r c=r.eraseIdx j/\j<r.length
 |[],[],i,_=> .inl ⟨rfl,rfl,rfl⟩
 |[],_::_,i,h=>by simp at h
 |_::_,[],i,h=>by simp at h
 |e::l,p::r,i,h=>by
  rw[nG,nG,Oy]at h;obtain⟨Z,G⟩:=h;rw[Prod.mk.injEq]at Z;have V:Instr.sameNow (.int .i64) (iI c) e.key=some (c==p.1):=by rw[Z.1];rfl
  by_cases D:p.1=c
  ·refine .inr ⟨0,p.2,?_,?_,?_,by simp⟩
   ·unfold Instr.findNow
    rw[V,show(c==p.1)=true by simp[D]];simp[Z.2]
   ·unfold pH
    rw[Uq,show(p.1==c)=true by simp[D]]
    rfl
   ·unfold qy
    rw[UL (by simp[D])]
    rfl
  ·have B:(p.1==c)=false:=by simp[D]
   have a:Instr.findNow (.int .i64) (iI c) (e::l) i=Instr.findNow (.int .i64) (iI c) l (i+1):=by
    conv=>lhs;unfold Instr.findNow
    rw[V,show(c==p.1)=false by simp[Vh D]]
   have C:pH (p::r) c=pH r c:=by
    unfold pH;rw[Uq,B]
   have y:qy (p::r) c=p::qy r c:=by
    unfold qy;rw[WH (by simp[D])]
   rcases pV c l r (i+1) G with⟨H,O,d⟩|⟨j,v,H,O,d,g⟩
   ·exact .inl ⟨a.trans H,C.trans O,by rw[y,d]⟩
   ·exact .inr ⟨j+1,v,by rw[a,H];congr 3;omega,C.trans O,by rw[y,d];rfl,by simpa using g⟩
theorem sc{α a:Type}(f:α->a):∀(l:List α) (j:Nat),(l.eraseIdx j).map f=(l.map f).eraseIdx j
 |[],_=>by simp
 |_::_,0=>by simp
 |_::l,j+1=>by simp[sc f l j]
theorem na(R:P.underlying t=some (.map k e))(Q:P.underlying k=some (.int .i64)){z:Value}(o:(zeroValue e).run P w= .ok z w)(h:Lz w b r)(c:Int)(ok:Bool):
 (Instr.lookup t (.map (some b)) (iI c) ok).run P w= .ok (if ok=true then .tuple #[(pH r c).getD z,.bool (pH r c).isSome]else(pH r c).getD z) w:=by
 obtain⟨arr,a,p,Y⟩:=h;have u:∀n,(Instr.checkKey n 10000 k (iI c)).run P w= .ok () w:=λn=>MapKept.run_checkKey (k:= iI c) Q acD n 9999;rcases pV c arr.toList r 0 Y with⟨H,O,_⟩|⟨j,v,H,O,_⟩
 ·cases ok<;>simp[Instr.lookup,run_underlying R,MapKept.run_getObj_map p,u,MapKept.run_findKey Q H,o,O,Result.andThen]
 ·cases ok<;>simp[Instr.lookup,run_underlying R,MapKept.run_getObj_map p,u,MapKept.run_findKey Q H,O,Result.andThen]
theorem qc(R:P.underlying t=some (.map k e))(Q:P.underlying k=some (.int .i64)){z:Value}(o:(zeroValue e).run P w= .ok z w)(c:Int):(Instr.lookup t (.map none) (iI c) true).run P w= .ok (.tuple #[z,.bool false]) w:=by
 have u:∀n,(Instr.checkKey n 10000 k (iI c)).run P w= .ok () w:=λn=>MapKept.run_checkKey (k:= iI c) Q acD n 9999;have a:Instr.findNow (.int .i64) (iI c) ([]:List MapEntry) 0=some none:=rfl;simp[Instr.lookup,run_underlying R,u,MapKept.run_findKey Q a,o,Result.andThen]
theorem St.yZ(h:St I w (nO b r::L))(R:P.underlying t=some (.map k e))(Q:P.underlying k=some (.int .i64)){c:Int}(D:pH r c=none)(v:Value):
 ∃O,(Instr.mapUpdate t (.map (some b)) (iI c) v).run P w= .ok () O/\St I O (nO b (r++[(c,v)])::L):=by
 obtain⟨M,F,_,_,J,_,q⟩:=h.head;obtain⟨Z,arr,a,p,Y⟩:=J;have u:∀n,(Instr.checkKey n 10000 k (iI c)).run P w= .ok () w:=λn=>MapKept.run_checkKey (k:= iI c) Q acD n 9999;rcases pV c arr.toList r 0 Y with⟨H,_,_⟩|⟨j,g,_,d,_⟩
 ·refine⟨{w with heap:=w.heap.setIfInBounds b (.map (arr.push {key:= iI c,val:=v,born:=a}) (a+1))},?_,?_⟩
  ·simp[Instr.mapUpdate,run_underlying R,MapKept.run_getObj_map p,u,MapKept.run_findKey Q H,MapKept.run_setObj_map _ p,Result.andThen]
  ·have V:=MapKept.heap_set p (o':= .map (arr.push {key:= iI c,val:=v,born:=a}) (a+1))
   refine q _ _ F ⟨rfl,rfl,rfl,by simp,λi z W=>V.2 i (λe=>W ((Z i).2 e))⟩ (λ_=>⟨Z,_,_,V.1,?_⟩) (λ_ B=> .inl B);simp[Y]
 ·rw[D]at d;cases d
theorem St.WD(h:St I w (nO b r::L))(R:P.underlying t=some (.map k e))(Q:P.underlying k=some (.int .i64))(c:Int)(N l:TypeId):
 ∃O,(Builtin.delete_ #[t,N] l #[.map (some b),iI c]).run P w= .ok (.tuple #[]) O/\St I O (nO b (qy r c)::L):=by
 obtain⟨M,F,_,_,J,_,q⟩:=h.head;obtain⟨Z,arr,a,p,Y⟩:=J;have u:∀n,(Instr.checkKey n 10000 k (iI c)).run P w= .ok () w:=λn=>MapKept.run_checkKey (k:= iI c) Q acD n 9999;rcases pV c arr.toList r 0 Y with⟨H,_,d⟩|⟨j,E,H,_,d,g⟩
 ·refine⟨{w with heap:=w.heap.setIfInBounds b (.map arr a)},?_,?_⟩
  ·exact adQ
  ·have V:=MapKept.heap_set p (o':= .map arr a)
   rw[d];exact q _ _ F ⟨rfl,rfl,rfl,by simp,λi z W=>V.2 i (λe=>W ((Z i).2 e))⟩ (λ_=>⟨Z,_,_,V.1,Y⟩) (λ_ B=> .inl B)
 ·rw[xS]at H
  refine⟨{w with heap:=w.heap.setIfInBounds b (.map (arr.eraseIdxIfInBounds j) a)},?_,?_⟩
  ·exact adQ
  ·have V:=MapKept.heap_set p (o':= .map (arr.eraseIdxIfInBounds j) a)
   refine q _ _ F ⟨rfl,rfl,rfl,by simp,λi z W=>V.2 i (λe=>W ((Z i).2 e))⟩ (λ_=>⟨Z,_,_,V.1,?_⟩) (λ_ B=> .inl B);have C:j<arr.size:=by
    have:=congrArg List.length Y;rw[qI,qI]at this;rw[<-UR];omega
   rw[d];unfold Array.eraseIdxIfInBounds;rw[dif_pos C,Array.toList_eraseIdx,sc,Y,sc]
theorem Qw(R:P.underlying t=some (.map k e))(l:TypeId)(h:Lz w b r):(Builtin.len_ #[t] l #[.map (some b)]).run P w= .ok (iI (r.length:Nat)) w:=by
 obtain⟨arr,a,p,Y⟩:=h;have F:arr.size=r.length:=by
  have:=congrArg List.length Y;rw[qI,qI]at this;rw[<-UR];exact this
 simp[Builtin.len_,run_underlying R,MapKept.run_getObj_map p,Result.andThen,goInt,F]
theorem DY(R:P.underlying t=some (.map k e))(l:TypeId):(Builtin.len_ #[t] l #[.map none]).run P w= .ok (iI 0) w:=by
 simp[Builtin.len_,run_underlying R,Result.andThen,goInt]
end
section
variable {I:aK} {w:World} {L:List az}
abbrev vh:az:=kd True
theorem St.CL:∀{Xs:List az} {i:Nat} {X:az} {L:List az},St I w (gU Xs::L)->Xs[i]? =some X->St I w (X::gU (Xs.set i vh)::L)
 |[],i,X,L,_,z=>by simp at z
 |Y::r,0,X,L,h,z=>by
  obtain rfl:Y=X:=by simpa using z
  have Z:St I w (aX Y (gU r)::L):=h;have G:=Z.star;exact((G.swap.ul (p:=True) trivial).aM).swap
 |Y::r,i+1,X,L,h,z=>by
  have Z:St I w (aX Y (gU r)::L):=h;have M:=St.CL (i:=i) (X:=X) Z.star.swap abQ;have S:St I w (Y::gU (r.set i vh)::X::L):=M.pick 3 [2,1,0];exact(St.aM (X:=Y) (Y:=gU (r.set i vh)) S).swap
theorem St.Km:∀{a:List az} {i:Nat} {Y:az} {L:List az},i<a.length->St I w (Y::gU (a.set i vh)::L)->St I w (gU (a.set i Y)::L)
 |[],i,Y,L,z,_=>by simp at z
 |Z::r,0,Y,L,_,h=>by
  have G:St I w (aX vh (gU r)::Y::L):=h.swap;exact(G.star.tail.swap).aM
 |Z::r,i+1,Y,L,z,h=>by
  have G:St I w (aX Z (gU (r.set i vh))::Y::L):=h.swap;have J:St I w (Y::gU (r.set i vh)::Z::L):=G.star.pick 3 [2,1,0];exact((St.Km abQ J).swap).aM
theorem St.CK:∀{Xs:List az} {Y:az} {L:List az},St I w (Y::gU Xs::L)->St I w (gU (Xs++[Y])::L)
 |[],Y,L,h=>by
  have G:St I w (Y::vh::L):=h;exact G.aM
 |Z::r,Y,L,h=>by
  have K:St I w (aX Z (gU r)::Y::L):=h.swap;have G:St I w (Y::gU r::Z::L):=K.star.pick 3 [2,1,0];exact((St.CK G).swap).aM
theorem St.Gp:∀{Xs:List az} {i:Nat} {L:List az},i<Xs.length->St I w (gU Xs::L)->St I w (gU (Xs.eraseIdx i)::L)
 |[],i,L,z,_=>by simp at z
 |Z::r,0,L,_,h=>by
  have G:St I w (aX Z (gU r)::L):=h;exact G.star.tail
 |Z::r,i+1,L,z,h=>by
  have G:St I w (aX Z (gU r)::L):=h;exact((St.Gp abQ G.star.swap).swap).aM
end
end
section
open Go.Shelf
theorem EZ{I:aK}{L:List az}(g:Nat)(l:Int)(w:World)(K:0<=l)(Z:l<=18446744073709551615)(D:w.cell? (aD g 0)=some (iU l))(h:St I w L):
 Rt I w 184 #[pO g] (iU (fI l)) L:=by
 have H:=aa h;clear h;by_cases B:l>18446744073709551605
 ·have d1:decide (l>18446744073709551605)=true:=dZ B
  have d2:decide (18446744073709551605<l)=true:=d1;have E:Hid (fI l=18446744073709551615):=iP B;clear B Z
  go_enter func184,ntmps184
  exact adv
 ·have d1:decide (l>18446744073709551605)=false:=dQ B
  have d2:decide (18446744073709551605<l)=false:=d1;have E:Hid (fI l=l+10):=iN B;have z:IntKind.u64.wrap (l+10)=l+10:=IntWalk.u64_in _ oM;clear B Z
  go_enter func184,ntmps184
  exact adv
theorem yl{w:World}{b:Nat}{t:TypeId}{cs:LV}(h:eK w b t cs.toArray):Sl w Any cs.length (aO b) 1 cs:=
 ⟨by simp,λ_=>⟨_,rfl,trivial,h.lt,λj u y=>by
  rw[show(⟨b,0,none⟩:Addr).add j=⟨b,j,none⟩by simp[Addr.add];exact UQ,h.cell];simpa using y⟩⟩
theorem St.gF{C:α->LV}{P:Program}{I:aK}{w:World}{L:List az}{t e:TypeId}{z:Value}{size bytes q c:Nat}{A:OA}{N:List α}(F:fY P t e z size bytes)(h:St I w (kJ C e size (.slice A q c) N::L))(l:TypeId)(a:Addr)(k:Nat)(x:α)(D:Sl w Any size (some a) 1 (C x))(Z:∀u∈C x,u.oneCell'=true)(_hl:(C x).length=size)
 (B:(q+1)*bytes<=140737488355328) (W:q+1<=140737488355328):
 ∃X r O,(Builtin.append_ #[t,t] l #[.slice A q c,.slice (some a) 1 k]).run P w= .ok (.slice X (q+1) r) O/\St I O (kJ C e size (.slice X (q+1) r) (N++[x])::L):=by
 obtain⟨d,G⟩:=h.oz;obtain⟨g,O,U,M⟩:=G.uW F l (some a) 1 k (C x) D Z B W;obtain⟨X,r,rfl⟩:=M.slice;exact⟨X,r,O,U,M.Lf d⟩
theorem St.JP{I:aK}{w:World}{L:List az}{g i:Nat}{l last:Int}{r:Nat->wz}{V vs0:Nat->rz}{hv wv:Lh}{W:List bh}{B:List cY}(z:i<4)(b:V i=⟨hv,wv⟩)(a:∀j,j≠i->V j=vs0 j)(h:St I w (iA g l last V::fx hv W::er wv B::ju vs0 r i::L)):St I w (bX g ⟨l,last,aI r i ⟨W,B⟩⟩::L):=by
 refine St.Qo (V:=V) z ?_;rw[b,qx a (λ_ _=>rfl)];exact h
theorem Vj(T:Addr):T.add (0*2)=T:=rfl
theorem yA{I:aK}{L:List az}(g i:Nat)(l last:Int)(r:Nat->wz)(H:List bh)(t:List cY)(V:Nat->rz)(w:World)(X:i<4)(K1:0<=l/\l<=18446744073709551615)(K0:0<=last/\last<=18446744073709551615)
 (h:St I w (iA g l last V::fx (V i).h H::er (V i).w t::ju V r i::L)):
 Rt I w 150 #[pO g,.pointer (some ⟨g,2+i*2,none⟩)] (.tuple #[]) (bX g ⟨l,(fF l t H last).2.2,aI r i ⟨(fF l t H last).2.1,(fF l t H last).1⟩⟩::L):=by
 obtain⟨o,ho⟩:=nM (2+i*2);rw[<-ho];refine bq ho K1 λK Q0=>?_;obtain⟨qD,V0⟩:∃l0,l0=last:=⟨_,rfl⟩;obtain⟨gv,u⟩:=nM (fF l t H last);rw[<-u];refine bq h u λM0 a=>?_;clear h ho u V0 qD
 go_enter func150,ntmps150
 go_wp2_with fail
 go_loopg [4] t.length (λgh xv wr=>∃(D:Nat->rz) (hv wv:Lh) (W:List bh) (B:List cY) (la:Int),gh=B.length/\gv=fF l B W la/\D i=⟨hv,wv⟩/\(∀j,j≠i->D j=V j)/\0<=la/\la<=18446744073709551615/\St I wr (iA g l la D::fx hv W::er wv B::ju V r i::L))
 case atStart=>exact⟨V,(V i).h,(V i).w,H,t,last,rfl,a,rfl,λ_ _=>rfl,K0.1,K0.2,M0⟩
 case round=>
  clear M0 a K0;clear last;obtain⟨D,⟨A,n,c⟩,⟨gw,m,d⟩,W,Y0,last,hg,u,G0,X0,V0,Q1,h⟩:=hrel;refine iG X0 hg G0 λJ HG S=>?_;have Z0:=aa (show(lP l last D)[o]? =some (.slice A n c)by rw[K.out];refine(pZ l last D X).trans ?_;rw[G0]);have H0:=aa (show(lP l last D)[o+1]? =some (.slice gw m d)by rw[K.out];refine(Hr l last D X).trans ?_;rw[G0]);have c1:wr.cell? (aD g 1)=some (iU last):=(h.ah 0 rfl).cell 1;have ch:wr.cell? ⟨g,o,none⟩=some (.slice A n c):=((h.ah 0 rfl).cell o).trans Z0;have cw:wr.cell? ⟨g,o+1,none⟩=some (.slice gw m d):=((h.ah 0 rfl).cell (o+1)).trans H0;obtain⟨hn,_,O1,_⟩:=(h.jg (C:=cC) (e:=273) (size:=4) (v:= .slice A n c) (xs:=W)).sl;obtain⟨hm,R1,P1,_⟩:=(h.rZ (C:=ir) (size:=2) (v:= .slice gw m d) (xs:=Y0)).sl;refine iG hm hn u λHM HN a=>?_;clear hg G0 u hm hn X0
  cases Y0 with
  |nil=>
   have I1:m=0:=HM.out;subst I1;refine bq (show gv=([],W,last)from a) h λE F=>?_;exact aex
  |cons x B=>
   have W0:m=B.length+1:=HM.out;have m0:(0:Int)<(m:Int):=oM
   refine iG (show¬(W.length<4/\W.any (rA x.m)=false/\last<18446744073709551615)->gv=(x::B,W,last)from λJ1=>a.trans (iN J1)) (show(W.length<4/\W.any (rA x.m)=false/\last<18446744073709551615)->gv=fF l B (W++[⟨x.c,x.m,last+1,fI l⟩]) (last+1)from λq=>a.trans (iP q)) W0 λEX EY L1=>?_;have m1:decide ((m:Int)>0)=true:=dZ m0;clear HM a W0;by_cases N:n<4
   ·have n4:decide ((n:Int)<4)=true:=decide_eq_true (by omega)
    obtain⟨T,rfl,O⟩:=(h.rZ (C:=ir) (size:=2) (v:= .slice gw m d) (xs:=x::B)).at_ kZ (k:=0) (x:=x) rfl;rw[Vj]at O;obtain⟨e0,e1⟩:=yC O;have F:=aa h;clear h O
    go_wp2_with fail
    refine qK (Rn g o A n c W x.m _ ch (λN1 hW=>hW.jg) F) λR G=>?_;clear c1 ch cw e0 e1
    cases A0:W.any (rA x.m)with
    |true=>
     have E:=aa (EX (λq=>by rw[A0]at q;exact Bool.noConfusion q.2.1));have H2:=aa G;exact aes
    |false=>
     have c1:R.cell? (aD g 1)=some (iU last):=(G.ah 0 rfl).cell 1;by_cases hl:last<18446744073709551615
     ·have G1:decide (last<18446744073709551615)=true:=dZ hl
      have A1:=aa (EY ⟨by rw[<-HN.out];exact N,A0,hl⟩);have cw:R.cell? ⟨g,o+1,none⟩=some (.slice (some T) m d):=((G.ah 0 rfl).cell (o+1)).trans H0;obtain⟨R0,J0,O⟩:=(G.rZ (C:=ir) (size:=2) (v:= .slice (some T) m d) (xs:=x::B)).at_ kZ (k:=0) (x:=x) rfl;injection J0 with J0;subst J0;rw[Vj]at O;obtain⟨e0,e1⟩:=yC O;have f:=(G.ah 0 rfl).frozen;have wl:IntKind.u64.wrap (last+1)=last+1:=IntWalk.u64_in _ oM;have S1:(1:Int)<=(m:Int):=oM
      have T1:(m:Int)<=(d:Int):=oM
      have U1:(1:Int)<=(d:Int):=oM
      have V1:(0:Int)<=(m:Int):=oM
      by_cases hd:d=1
      case' pos=>
       subst hd;obtain⟨Q,F0⟩:=nM (some T);obtain rfl:m=1:=oM
       obtain⟨Y,B0⟩:=nM (1-1);obtain⟨Z,C0⟩:=nM (1-1);have I0:St I R (nm ir 2 (.slice Q Z Y) B::iA g l last D::fx ⟨A,n,c⟩ W::er ⟨some T,1,1⟩ (x::B)::ju V r i::L):=by
        rw[B0,C0];exact G.Fl kZ oM (A':=Q) (by exact aU) (λR0 e hd=>absurd rfl hd)
      case' neg=>
       obtain⟨Q,F0⟩:=nM (some (⟨T.block,T.off+2,none⟩:Addr));obtain⟨Y,B0⟩:=nM (d-1);obtain⟨Z,C0⟩:=nM (m-1);have I0:St I R (nm ir 2 (.slice Q Z Y) B::iA g l last D::fx ⟨A,n,c⟩ W::er ⟨some T,m,d⟩ (x::B)::ju V r i::L):=by
        rw[B0,C0];exact G.Fl kZ oM (A':=Q) (by exact aU) (λR0 e _=>by injection e with e;subst e;rw[F0];rfl)
      all_goals
       have M:=I0.alloc 317 #[iI x.c,iI x.m];have F1:(R.alloc (.cells #[iI x.c,iI x.m] 317)).cell? ⟨g,o+1,none⟩=_:=((M.ah 2 rfl).cell (o+1)).trans H0;have E1:(R.alloc (.cells #[iI x.c,iI x.m] 317)).cell? (aD g 1)=some (iU last):=(M.ah 2 rfl).cell 1;have f3:=(M.ah 2 rfl).frozen;have W1:¬(o+1=1):=by have:=K.out;omega
       generalize q:R.heap.size=y at M;obtain⟨z,D0⟩:=nM (aI D i ⟨(D i).h,⟨Q,Z,Y⟩⟩);have N:=(M.fi 2).bx (o+1) (.slice Q Z Y) (lP l last z) (by rw[K.out,D0];exact wI l last D X ⟨Q,Z,Y⟩);have U:=N.bx 1 (iU (last+1)) (lP l (last+1) z) rfl;have E0:=aa (show(lP l (last+1) z)[o]? =some (.slice A n c)by rw[K.out];refine(pZ l (last+1) z X).trans ?_;rw[D0,fa,S.out]);have C1:=aa (show(z i).w=⟨Q,Z,Y⟩by rw[D0,fa]);have B1:=aa (show∀j,j≠i->z j=V j from λj hj=>by rw[D0,pS _ _ hj];exact J j hj);refine AS F0 B0 C0 (U.sub (L':=iA g l (last+1) z::ab y 317 #[iI x.c,iI x.m]::kJ cC 273 4 (.slice A n c) W::er ⟨Q,Z,Y⟩ B::ju V r i::L)) q λN0 O0 P0 H5 HY=>?_;clear G I0 M N U F A0 F0 B0 C0 O q D0
       go_wp2_with fail
       generalize hW:World.setCell _ _ _=w5;have T0:(((R.alloc (.cells #[iI x.c,iI x.m] 317)).setCell ⟨g,o+1,none⟩ (.slice Q Z Y)).setCell ⟨g,1,none⟩ (iU (last+1)))=w5:=by rw[N0.out,O0.out,P0.out];exact hW
       have h0:=H5.out;rw[T0]at h0;rw[HY.out];clear hW T0 H5 F1 E1 f3 f c1 cw e0 e1 N0 O0 P0 HY;refine an (I:=I) (L0:=er ⟨Q,Z,Y⟩ B::ju V r i::L) [⟨none,some 20,λe=>iA g l (last+1) z⟩,⟨none,none,λe=>ab y 317 #[iI x.c,iI x.m]⟩,⟨none,some 17,λe=>kJ cC 273 4 (.slice A n c) W⟩,⟨some 16,none,λe=>ab (e 16).n 273 #[iI x.c,iI x.m,iU (last+1),iU (fI l)]⟩,⟨some 17,none,λe=>kJ cC 273 4 (.slice (e 17).A (n+1) (e 17).n) (W++[(⟨x.c,x.m,last+1,fI l⟩:bh)])⟩,⟨some 20,none,λe=>iA g l (last+1) (aI z i ⟨⟨(e 17).A,n+1,(e 17).n⟩,(z i).w⟩)⟩] [[],[],[1],[1,2],[1,2,3],[],[5],[],[7],[],[9],[9,10],[9,10,11],[],[13],[5,6,7,8,9,10,11,12,13,14],[5,6,7,8,9,10,11,12,13,14,15],[1,2,3,4,5,6,7,8,9,10,11,12,13,14,15,16],rG 18,rG 19,rG 20] (rG 21) rfl kR kR kR (by rfl) (λ_=>rfl) h0.fk ?_;refine Ed ?_
       iterate 2 (refine mH _ rfl (λe p P h=>by(have h:=h.fn;have b0:=(h.ah 0 rfl).cell 0;have b1:=(h.ah 0 rfl).cell 1;have bo:p.cell? ⟨g,o,none⟩=some (.slice A n c):=((h.ah 0 rfl).cell o).trans E0;have y0:=(h.ah 1 rfl).cell 0;have y1:=(h.ah 1 rfl).cell 1;go_simp;try rfl)) ?_;simp only[aW];refine nL ?_)
       refine mH _ rfl (λe p P h=>by(have h:=h.fn;have b0:=(h.ah 0 rfl).cell 0;have b1:=(h.ah 0 rfl).cell 1;have bo:p.cell? ⟨g,o,none⟩=some (.slice A n c):=((h.ah 0 rfl).cell o).trans E0;have y0:=(h.ah 1 rfl).cell 0;have y1:=(h.ah 1 rfl).cell 1;go_simp;try rfl)) ?_;simp only[aW];refine Cn ?_;refine mH _ rfl (λe p P h=>by(have h:=h.fn;have b0:=(h.ah 0 rfl).cell 0;have b1:=(h.ah 0 rfl).cell 1;have bo:p.cell? ⟨g,o,none⟩=some (.slice A n c):=((h.ah 0 rfl).cell o).trans E0;have y0:=(h.ah 1 rfl).cell 0;have y1:=(h.ah 1 rfl).cell 1;go_simp;try rfl)) ?_;simp only[aW];refine nL ?_;refine bp 184 (λe=> #[pO g]) (λe=> iU (fI l)) rfl (λe p P h=>by(
        have h:=h.fn;refine(EZ g l _ Q0.1 Q0.2 ((h.ah 0 rfl).cell 0) h).mono ?_;rintro X1 wy⟨rfl,h1⟩;exact⟨⟨none,0,default⟩,rfl,h1.pk 0 []⟩)) ?_
       simp only[aW];refine nL ?_;refine GP (λe=> .slice (some ⟨(e 16).n,0,none⟩) 1 1) rfl (λe p P h=>by(
        have h:=h.fn;exact⟨⟨none,p.heap.size,default⟩,_,eY rfl rfl (Hk _ _ _ _ _),((h.alloc 273 #[iI x.c,iI x.m,iU (last+1),iU (fI l)])).fk⟩)) ?_
       simp only[aW];refine GP (λe=> .slice (e 17).A (n+1) (e 17).n) rfl (λe p P h=>by(
        have h:=h.fn;have hz:=yl (cs:=[iI x.c,iI x.m,iU (last+1),iU (fI l)]) (h.ah 3 rfl);obtain⟨A',b,M1,D1,G⟩:=(h.fi 2).gF kU _ ⟨(e 16).n,0,none⟩ 1 (⟨x.c,x.m,last+1,fI l⟩:bh) hz (uZ _) rfl oM oM;exact⟨⟨A',b,default⟩,_,lY rfl rfl rfl D1,G.fk⟩)) ?_
       simp only[aW];refine xQ ?_;refine lM (λe=> .pointer (some ⟨g,o,none⟩)) (λe=> .slice (e 17).A (n+1) (e 17).n) rfl rfl (λe p P h=>by(
        have h:=h.fn;have b0:=(h.ah 0 rfl).cell 0;have b1:=(h.ah 0 rfl).cell 1;have bo:p.cell? ⟨g,o,none⟩=some (.slice A n c):=((h.ah 0 rfl).cell o).trans E0;have f:=(h.ah 0 rfl).frozen;have h1:=(h.fi 0).bx o (.slice (e 17).A (n+1) (e 17).n) (lP l (last+1) (aI z i ⟨⟨(e 17).A,n+1,(e 17).n⟩,(z i).w⟩)) (by rw[K.out];exact wL l (last+1) z X ⟨(e 17).A,n+1,(e 17).n⟩);exact⟨_,gS,h1.fk⟩)) ?_
       simp only[Act.put];refine aA ?_;intro e w1 h;have h:=h.fn;obtain⟨A',S0⟩:∃A',(e 17).A=A':=⟨_,rfl⟩;obtain⟨b,U0⟩:∃b,(e 17).n=b:=⟨_,rfl⟩;have U:=h.sub (L':=iA g l (last+1) (aI z i ⟨⟨(e 17).A,n+1,(e 17).n⟩,(z i).w⟩)::kJ cC 273 4 (.slice (e 17).A (n+1) (e 17).n) (W++[(⟨x.c,x.m,last+1,fI l⟩:bh)])::er ⟨Q,Z,Y⟩ B::ju V r i::L);rw[S0,U0]at U;have H5:=aa U;clear h0 h U S0 U0
       go_wp2_with fail
       go_roundg B.length
       case measure=>have:=HG.out;simp at this;omega
       case rel=>exact⟨_,⟨A',n+1,b⟩,⟨Q,Z,Y⟩,_,B,last+1,rfl,A1,by rw[fa,C1.out],λj hj=>by rw[pS _ _ hj];exact B1 j hj,oM,oM,H5⟩
     ·have G1:decide (last<18446744073709551615)=false:=dQ hl
      refine bq (EX (λq=>hl q.2.2)) G λE H2=>?_;exact aes
   ·have n4:decide ((n:Int)<4)=false:=decide_eq_false (by omega)
    have E:=aa (EX (λq=>N (by rw[HN.out];exact q.1)));have F:=aa h;exact aex
end
section
open Go.Shelf
theorem mO(p:α->Bool)(l:List α):(jj p 0 l= -1/\l.find? p=none)\/∃(k:Nat) (x:α),jj p 0 l=(k:Int)/\l[k]? =some x/\p x=true/\l.find? p=some x/\l.eraseP p=l.eraseIdx k:=by
 rcases sx p l 0 with⟨Z,G⟩|⟨k,x,Z,G,M,S⟩
 ·refine .inl ⟨Z,?_⟩
  rw[zcW];intro x J;have:=zcY.1 G x J;simpa using this
 ·refine .inr ⟨k,x,by rw[Z];congr 1;omega,G,M,?_,?_⟩
  ·clear Z
   induction l generalizing k with
   |nil=>simp at G
   |cons y r K=>
    cases k with
    |zero=>
     obtain rfl:y=x:=by simpa using G
     rw[List.find?_cons_of_pos M]
    |succ k=>
     rw[IE,XP,XK]at S;rw[List.find?_cons_of_neg (by rw[S.1];exact iu)];exact K k (by simpa using G) S.2
  ·clear Z
   induction l generalizing k with
   |nil=>simp at G
   |cons y r K=>
    cases k with
    |zero=>
     obtain rfl:y=x:=by simpa using G
     rw[UL M]
     rfl
    |succ k=>
     rw[IE,XP,XK]at S;rw[WH (by rw[S.1];exact iu),List.eraseIdx_cons_succ];rw[K k (by simpa using G) S.2]
theorem yM(T:aH)(i:Nat):(⟨T.now,T.last,aI T.r i ⟨(T.r i).h,(T.r i).w⟩⟩:aH)=T:=by
 cases T with
 |mk a b r=>
  congr 1
  funext j
  unfold aI
  split
  ·rename_i e
   subst e
   rfl
  ·rfl
theorem Sf{I:aK}{L:List az}(c:Int)(w:World)(h:St I w L):Rt I w 212 #[iI c] (.bool (ua c)) L:=by
 obtain⟨d1,E⟩:∃d1,decide (0<=c)=d1:=⟨_,rfl⟩;have a:decide (c≥0)=d1:=E;obtain⟨d2,i⟩:∃d2,decide (c<16)=d2:=⟨_,rfl⟩;have V:=aa (show ua c=(d1&&d2)by unfold ua;rw[E,i]);have H:=aa h;clear h
 go_enter func212,ntmps212
 exact adF
theorem Gv{I:aK}{L:List az}(c:Int)(w:World)(h:St I w L):Rt I w 185 #[iI c] (.bool (cB c)) L:=by
 obtain⟨d1,E⟩:∃d1,decide (0<=c)=d1:=⟨_,rfl⟩;have a:decide (c≥0)=d1:=E;obtain⟨d2,i⟩:∃d2,decide (c<4)=d2:=⟨_,rfl⟩;have V:=aa (show cB c=(d1&&d2)by unfold cB;rw[E,i]);have H:=aa h;clear h
 go_enter func185,ntmps185
 exact adF
theorem Ut{I:aK}{L:List az}(c:Int)(w:World)(h:St I w L):Rt I w 215 #[iI c] (.bool (Bv c)) L:=by
 obtain⟨d1,E⟩:∃d1,(c==1)=d1:=⟨_,rfl⟩;obtain⟨d2,i⟩:∃d2,(c==2)=d2:=⟨_,rfl⟩;have V:=aa (show Bv c=(d1||d2)by unfold Bv;rw[E,i]);have H:=aa h;clear h
 go_enter func215,ntmps215
 exact adF
theorem yT{I:aK}{L:List az}(c r:Int)(w:World)(h:St I w L):Rt I w 190 #[iI c,iI r] (iI (cQ c r)) L:=by
 have H:=aa h;clear h
 go_enter func190,ntmps190
 go_wp2_with fail
 refine qH (Sf c _ H) λz F=>?_;clear H
 cases W:ua c with
 |false=>
  have E:Hid (cQ c r=31):=iP W
  go_wp2_with fail
  go_ret
  exact⟨by rw[E.out];try rfl,F⟩
 |true=>
  have X:Hid (cQ c r=if cB r=false then 93 else 0):=iN (by rw[W];exact Bool.noConfusion);clear W
  go_wp2_with fail
  refine qH (Gv r _ F) λy N=>?_;clear F
  cases R:cB r with
  |false=>
   have E:=aa (X.trans (iP R))
   exact adu
  |true=>
   have E:=aa (X.trans (iN (by rw[R];exact Bool.noConfusion)))
   exact adu
theorem LJ{I:aK}{L:List az}(g:Nat)(T:aH)(c r t:Int)(w:World)(h:St I w (bX g T::L)):
 Calls prog 187 #[pO g,iI c,iI r,iU t] w λe O=>∃p,e= .returned (.tuple #[.pointer p,iI (T.gy c r t)])/\
  (T.gy c r t≠0->St I O (bX g T::L))/\
  (T.gy c r t=0->∃(i k:Nat) (x:bh) (V:Nat->rz) (b n X:Nat),i<4/\r=(i:Int)/\jj (λh=>h.c==c) 0 (T.r i).h=(k:Int)/\(T.r i).h[k]? =some x/\x.t=t/\(V i).h=⟨some ⟨b,0,none⟩,n,X⟩/\p=some ⟨b,k*4,none⟩/\St I O (iA g T.now T.last V::fx (V i).h (T.r i).h::er (V i).w (T.r i).w::ju V T.r i::L)):=by
 have H:=aa h;clear h
 go_enter func187,ntmps187
 go_wp2_with fail
 refine qK (yT c r _ H) λw1 Z=>?_;by_cases U:cQ c r=0
 ·have W:=j7 U
  obtain⟨i,rfl⟩:=BE W.2.2.1;have P:i<4:=oM
  obtain⟨V,G⟩:=Z.Ib P;obtain⟨⟨A,n,X⟩,wv,Y⟩:∃hv wv,V i=⟨hv,wv⟩:=⟨_,_,rfl⟩;have J:(V i).h=⟨A,n,X⟩:=by rw[Y]
  have z:=aa (show T.gy c (i:Int) t=match lG (T.r i).h c with
   |some h=>if h.t=t then 0 else 92
   |none=>92 from iN (by rw[U];simp))
  rw[U];have N:=aa J;rw[J]at G;have D:w1.cell? ⟨g,2+i*2,none⟩=some (.slice A n X):=by
   refine((G.ah 0 rfl).cell (2+i*2)).trans ?_;refine(pZ T.now T.last V P).trans ?_;rw[Y]
  have i0:(0:Int)<=(i:Int):=oM
  have i1:(i:Int)<4:=oM
  have j:=aa G;clear Z G H U W Y J
  go_wp2_with fail
  refine qK (sI g (2+i*2) A n X (T.r i).h c _ D (λB0 hW=>hW.jg) j) λy M=>?_;rcases mO (λh=>h.c==c) (T.r i).h with⟨o,a⟩|⟨k,x,o,Q,hp,a,_⟩
  ·have E:=aa (z.trans (show _=(92:Int)by unfold lG;rw[a]))
   rw[o];have K:=aa (show St I y (bX g T::L)by
    have S:St I y (iA g T.now T.last V::fx (V i).h (T.r i).h::er (V i).w (T.r i).w::ju V T.r i::L):=by rw[N.out];exact M
    have u:=S.Qo P;rwa[show(⟨T.now,T.last,aI T.r i ⟨(T.r i).h,(T.r i).w⟩⟩:aH)=T from yM T i]at u)
   clear M j o a D
   go_wp2_with fail
   go_ret2
   exact⟨none,by rw[E.out];try rfl,λ_=>K,λh=>by rw[E.out]at h;omega⟩
  ·rw[o]
   refine bq o Q λHZ HK=>?_;have l:=aa (z.trans (show _=if x.t=t then(0:Int)else 92 by unfold lG;rw[a]));have A0:=(nQ.1 Q).1;obtain⟨q,D0,_,_⟩:=(M.jg (C:=cC) (e:=273) (size:=4) (v:= .slice A n X) (xs:=(T.r i).h)).sl;obtain⟨ad,rfl,B⟩:=(M.jg (C:=cC) (e:=273) (size:=4) (v:= .slice A n X) (xs:=(T.r i).h)).at_ gH Q;obtain⟨b,F⟩:=iE ((M.fi 1).oz.2.row 0 rfl) oM;injection F with F;subst F;rw[show(⟨b,0,none⟩:Addr).add (k*4)=⟨b,k*4,none⟩by(generalize k*4=m;simp[Addr.add];exact UQ)]at B;obtain⟨e0,e1,e2,e3⟩:=sg B;have C0:y.cell? ⟨g,2+i*2,none⟩=some (.slice (aO b) n X):=by
    refine((M.ah 0 rfl).cell (2+i*2)).trans ?_;refine(pZ T.now T.last V P).trans ?_;rw[N.out]
   have k0:(0:Int)<=(k:Int):=oM
   have k1:(k:Int)<(n:Int):=oM
   have kn:decide ((k:Int)<0)=false:=decide_eq_false (by omega);refine bq M q λK HN=>?_;clear M j o a Q D B A0 q;by_cases R:x.t=t
   ·have d:(x.t !=t)=false:=Md R
    refine bq (l.trans (iP R)) R λE HT=>?_;clear R
    go_wp2_with fail
    go_ret2
    refine⟨some ⟨b,k*4,none⟩,by rw[E.out];try rfl,λh=>absurd E h,λ_=>⟨i,k,x,V,b,n,X,P,rfl,HZ,HK,HT,N,rfl,?_⟩⟩;rw[N.out];exact K.out
   ·have d:(x.t !=t)=true:=Oc R
    have E:=aa (l.trans (iN R));have H4:=aa (show St I y (bX g T::L)by
     have S:St I y (iA g T.now T.last V::fx (V i).h (T.r i).h::er (V i).w (T.r i).w::ju V T.r i::L):=by rw[N.out];exact K.out
     have u:=S.Qo P;rwa[show(⟨T.now,T.last,aI T.r i ⟨(T.r i).h,(T.r i).w⟩⟩:aH)=T from yM T i]at u)
    clear R K
    go_wp2_with fail
    go_ret2
    exact⟨none,by rw[E.out];try rfl,λ_=>H4,λh=>by rw[E.out]at h;omega⟩
 ·have E:Hid (T.gy c r t=cQ c r):=iP U
  obtain⟨F0,o⟩:=nM (cQ c r);rw[<-o]at U E⊢;have d:=Oc U;refine bq Z U λH1 HR=>?_;clear Z H o U
  go_wp2_with fail
  go_ret2
  exact⟨none,by rw[E.out];try rfl,λ_=>H1,λh=>absurd (E.symm.trans h) HR⟩
end
end Go.Proofs.YtblpaldggenbaaaGreatDoor
