/- A part. -/
import Derived.Lib.Strings
import Derived.Lib.Slices
import Derived.Lib.Walk
import Derived.Lib.Bytes
import Derived.WalkMore
import Derived.Test.YtblpaldggenbaaaGreatDoorMd
namespace Go.Proofs.YtblpaldggenbaaaGreatDoor
open Go.RowKit Go.Proofs.Tryz
set_option maxRecDepth 100000
set_option maxHeartbeats 64000000
variable{L:List aw}{I:aH}{w:World}{α:Type}{size:Nat}{k:Nat}{v:Value}{b:kZ}
structure SV where
 a:OA
 n:Nat
 c:Nat
abbrev qR(s:Nat->SV):Value:= .agg #[.slice (s 0).a (s 0).n (s 0).c,.slice (s 1).a (s 1).n (s 1).c,.slice (s 2).a (s 2).n (s 2).c,.slice (s 3).a (s 3).n (s 3).c]
abbrev ij(s:Nat->SV):Vq:= #[.slice (s 0).a (s 0).n (s 0).c,.slice (s 1).a (s 1).n (s 1).c,.slice (s 2).a (s 2).n (s 2).c,.slice (s 3).a (s 3).n (s 3).c]
abbrev jQ(s:Nat->SV)(b:Nat->LI):aw:=aS (λw=>∀j,j<4->aA w .u8 (.slice (s j).a (s j).n (s j).c) (b j))
theorem lt4(h:k<4):k=0\/k=1\/k=2\/k=3:=oM
theorem uz(s:Nat->SV)(F:k<4):(ij s)[k]? =some (.slice (s k).a (s k).n (s k).c):=by
 rcases lt4 F with rfl|rfl|rfl|rfl<;>rfl
theorem OF(s:Nat->SV)(F:k<4)(u:SV):(ij s).setIfInBounds k (.slice u.a u.n u.c)=ij (aJ s k u):=by
 rcases lt4 F with rfl|rfl|rfl|rfl<;>rfl
def iE(w:World)(N:LV)(p:fj):Prop:=∃v,N=[iI p.i,v]/\aA w .u8 v p.d
def gD(w:World)(N:LV)(p:mG):Prop:=∃v,N=[iI p.a,iI p.i,v]/\aA w .u8 v p.d
theorem Us{p:Addr}{a b:Value}(h:∀j u,[a,b][j]? =some u->w.cell? (p.add j)=some u):w.cell? p=some a/\w.cell? ⟨p.block,p.off+1,none⟩=some b:=
 ⟨by simpa[Addr.add]using h 0 a rfl,by simpa[Addr.add]using h 1 b rfl⟩
theorem pw{T:LI}(h:aA w .u8 v T):(convert 27 9 v).run prog w= .ok (.string (strOfNums T)) w:=by
 obtain⟨A,c,rfl,D,y,U⟩:=h
 cases A with
 |none=>
  have K:T=[]:=by
   rcases Ox T.length with K|K
   ·exact AJ K
   ·obtain⟨Y,e,_⟩:=U.2 K
    cases e
  subst K;exact run_convert_bytes_nil w 27 5 underlying27 underlying5 _ _ 9 underlying9
 |some Y=>
  have C:(loadCells Y T.length).run prog w= .ok (T.map (Value.int .u8)).toArray w:=by
   have:=run_loadCells_list (P:=prog) w Y (T.map (Value.int .u8)) (λj v N=>by
    have k:j<T.length:=by have:=(lQ.1 N).1;simpa using this
    obtain⟨x,e,_,_,p⟩:=U.2 oM;injection e with e;subst e;exact p j v N)
   simpa using this
  rw[run_convert_bytes_string w 27 9 5 _ T.length c underlying27 underlying5 underlying9,run_bytesToString w _ T.length c T C,foldl_push_bytes];simp[strOfNums,ByteArray.empty,ByteArray.emptyWithCapacity]
  rfl
def AM(T:LI):Prop:=∀x∈T,0<=x/\x<256
theorem zT:∀(T R:LI),AM T->AM R->(Lib.bytesOf T=Lib.bytesOf R↔T=R)
 |[],[],_,_=>by simp
 |[],y::R,_,_=>by simp[Lib.bytesOf]
 |x::T,[],_,_=>by simp[Lib.bytesOf]
 |x::T,y::R,J,E=>by
  have Z:=J x acy;have V:=E y acy;have K:=zT T R (λa Q=>J a (by simp[Q])) (λa Q=>E a (by simp[Q]));show UInt8.ofNat x.toNat::Lib.bytesOf T=UInt8.ofNat y.toNat::Lib.bytesOf R↔_;rw[Hc,Hc,K];have:UInt8.ofNat x.toNat=UInt8.ofNat y.toNat↔x=y:=by
   refine⟨λe=> ?_,λe=>by rw[e]⟩;have:=congrArg UInt8.toNat e;rw[UInt8.toNat_ofNat',UInt8.toNat_ofNat',Wg oM,Wg oM]at this;omega
  rw[this]
theorem Du(v u:Value)(T R:LI)(w:World)(J:aA w .u8 v T)(E:aA w .u8 u R)(a:AM T)(b:AM R):
 Calls prog 124 #[v,u] w λe O=>e= .returned (.bool (decide (T=R)))/\w=O:=by
 have Z:=pw J;have V:=pw E;have q:decide (T=R)=(Lib.bytesOf T==Lib.bytesOf R):=by
  rw[Bool.eq_iff_iff,decide_eq_true_eq,beq_iff_eq,zT T R a b]
 rw[q,<-Lib.strOfNums_toList,<-Lib.strOfNums_toList];clear J E q a b
 go_enter func124,ntmps124
 go_wp2
 exact afY
theorem Pq(v u:Value)(T R:LI)(w:World)(J:aA w .u8 v T)(E:aA w .u8 u R)(a:AM T)(b:AM R)(h:St I w L):
 Rt I w 124 #[v,u] (.bool (decide (T=R))) L:=by
 refine(Du v u T R w J E a b).mono ?_;exact afL
theorem Zp(s:Nat->SV)(b:kZ)(i:Int)(w:World)(h:St I w (jQ s b::L)):
 Calls prog 125 #[qR s,iI i] w λe O=>∃v,e= .returned v/\St I O (ai .u8 v (xM b i)::L):=by
 have Z:=h.alloc 134 (ij s);have H:=aa Z.tail;have o:=(Z.ah 0 rfl).cell;clear h Z;by_cases K:i<0
 ·have E:Hid (xM b i=[]):=iN oM
  have d1:decide (i<0)=true:=dZ K;exact aeH
 ·have d1:decide (i<0)=false:=dQ K
  by_cases Q:4<=i
  ·have E:Hid (xM b i=[]):=iN oM
   have d2:decide (4<=i)=true:=dZ Q;have d3:decide (i≥4)=true:=d2;exact aeH
  ·have d2:decide (4<=i)=false:=dQ Q
   have d3:decide (i≥4)=false:=d2;obtain⟨j,rfl⟩:=zY (by omega:0<=i);have N:j<4:=oM
   have M:=(o j).trans (uz s N);have E:=aa (show xM b (j:Int)=b j by unfold xM;rw[iP oM,qG]);have q:(0:Int)<=(j:Int):=oM
   have P:(j:Int)<4:=oM
   clear o
   go_enter func125,ntmps125
   go_wp2_with fail
   go_ret
   exact⟨_,rfl,by rw[E.out];exact H.bu (λO U=>U j N)⟩
theorem Cu(s:Nat->SV)(b:kZ)(l:List fj)(A:OA)(n c m:Nat)(w:World)(hm:m<=n)(h:St I w (jQ s b::aB 2 iE (.slice A n c) l::L)):
 Calls prog 79 #[qR s,.slice A n c,iI (m:Nat)] w λe O=>∃u,e= .returned (qR u)/\St I O (jQ u (dq b (l.take m))::L):=by
 obtain⟨A',c',e,hc,D0⟩:=(h.dJ 1 rfl).slice;injection e with q P D;subst q;subst D;have G:=aa P;have E0:n<=c:=oM
 have B0:(0:Int)<=(m:Int):=oM
 have C0:(m:Int)<=(c:Int):=oM
 have Z:=(h.alloc 134 (ij s)).alloc 134 #[sN,sN,sN,sN];rw[World.size_alloc]at Z;have H:=aa Z;clear h P Z hc
 go_enter func79,ntmps79
 go_wp2_with fail
 generalize w.heap.size=g at*;clear B0 C0
 go_loopg [13] m (λW i wr=>∃(k:Nat) (u:Nat->SV),W=m-k/\k<=m/\i= iI (k:Nat)/\St I wr (ab (g+1) 134 #[sN,sN,sN,sN]::ab g 134 (ij u)::jQ u (dq b (l.take k))::aB 2 iE (.slice A n c) l::L))
 case atStart=>exact⟨0,s,rfl,oM,rfl,H⟩
 case round=>
  clear H;obtain⟨k,u,y,hk,rfl,h⟩:=hrel;have R:=aa y;clear y;by_cases A0:k<m
  ·have J:=gP (l:=l) (i:=k) (by rw[<-G.out];omega)
   generalize l[k]'(by rw[<-G.out];omega)=x at J;have t:=aa (Nz b J);obtain⟨ad,cs,rfl,_,a,⟨va,rfl,K⟩,Z⟩:=h.elem 3 rfl J;obtain⟨X,r,rfl,_,_,_⟩:=id K;obtain⟨f0,f1⟩:=Us a;have V:=(Z.bu (R':=λO=>aA O .u8 (.slice X x.d.length r) x.d) (λO hw=>by
    obtain⟨v,K,S⟩:=hw.2;simp only[Hc,and_true,true_and]at K;rw[K];exact S)).alloc 136 #[iI x.i,.slice X x.d.length r]
   have i0:(0:Int)<=(k:Int):=oM
   have i1:(k:Int)<(m:Int):=oM
   have x0:=(V.ah 0 rfl).cell 0;have x1:=(V.ah 0 rfl).cell 1;clear J a K h Z;by_cases z:0<=x.i
   ·have d0:decide (0<=x.i)=true:=dZ z
    have p:decide (x.i≥0)=true:=d0;by_cases Y:x.i<4
    ·have d1:decide (x.i<4)=true:=dZ Y
     obtain⟨j,N⟩:=zY z;have T:j<4:=oM
     have C:=aa (show kT (dq b (l.take k)) x=aJ (dq b (l.take k)) j x.d by unfold kT;rw[iP ⟨z,Y⟩,N,qG]);have o:(wr.alloc (.cells #[iI x.i,.slice X x.d.length r] 136)).cell? ⟨g,j,none⟩=some (.slice (u j).a (u j).n (u j).c):=((V.ah 3 rfl).cell j).trans (uz u T);have f:=(V.ah 3 rfl).frozen;have M:=((V.pk 4 [3,2,1]).bI j (.slice X x.d.length r));rw[OF u T ⟨X,x.d.length,r⟩]at M;have E:=((M.pk 4 [2,3,0,1]).ku (Q:=λO=>∀i,i<4->aA O .u8 (.slice ((aJ u j ⟨X,x.d.length,r⟩) i).a ((aJ u j ⟨X,x.d.length,r⟩) i).n ((aJ u j ⟨X,x.d.length,r⟩) i).c) (aJ (dq b (l.take k)) j x.d i)) (λO U B i S=>by
      by_cases F:i=j
      ·subst F
       rw[aW,aW];exact U
      ·rw[cm _ _ _ _ F,cm _ _ _ _ F]
       exact B i S))
     have d:=aa (E.pk 3 [2,1,0]);have j0:(0:Int)<=(j:Int):=oM
     have j1:(j:Int)<4:=oM
     rw[N]at x0 f0 d0 p d1 o f d V;clear V M E N z Y
     go_wp2_with fail
     go_roundg (m-(k+1))
     case measure=>exact aec
     case rel=>exact⟨k+1,aJ u j ⟨X,x.d.length,r⟩,rfl,oM,by go_num,by rw[t.out,C.out];exact d.out⟩
    ·have d1:decide (x.i<4)=false:=dQ Y
     have C:=aa (show kT (dq b (l.take k)) x=dq b (l.take k)by unfold kT;rw[iN (λh=>Y h.2)]);have d:=aa (V.pk 2 []);clear V z Y
     exact af5
   ·have d0:decide (0<=x.i)=false:=dQ z
    have p:decide (x.i≥0)=false:=d0;have C:=aa (show kT (dq b (l.take k)) x=dq b (l.take k)by unfold kT;rw[iN (λh=>z h.1)]);have d:=aa (V.pk 2 []);clear V z
    exact af5
  ·obtain rfl:k=m:=oM
   have H:=aa (((((h.bI 0 (.slice (u 0).a (u 0).n (u 0).c)).bI 1 (.slice (u 1).a (u 1).n (u 1).c)).bI 2 (.slice (u 2).a (u 2).n (u 2).c)).bI 3 (.slice (u 3).a (u 3).n (u 3).c)).pk 4 [0,2]);obtain⟨o,y1,y2,y3⟩:=(h.ah 1 rfl).four;obtain⟨z0,z1,z2,z3⟩:=(h.ah 0 rfl).four;have f:=(h.ah 0 rfl).frozen;clear h A0
   go_wp2_with fail
   all_goals
    obtain⟨u0,u1,u2,u3⟩:=(H.ah 0 rfl).four;clear o y1 y2 y3 z0 z1 z2 z3 f;refine bodyPost_ret (v:=qR u) (aL rfl _ rfl ?_) rfl ⟨u,rfl,H.tail⟩;generalize World.setCell (World.setCell (World.setCell (World.setCell wr _ _) _ _) _ _) _ _=w9 at*;clear H;go_simp
section
open Go.Shelf
structure eH where
 s:bp
 pA:OA
 pc:Nat
 pcs:Nat->LV
 kA:OA
 kc:Nat
 kcs:Nat->LV
def lH(w:World)(N:LV)(x:eH):Prop:=
 N=[iU x.s.t,.slice x.pA x.s.p.length x.pc,iI x.s.s,.slice x.kA x.s.k.length x.kc]/\bF w 2 iE (.slice x.pA x.s.p.length x.pc) x.pcs x.s.p/\bF w 3 gD (.slice x.kA x.s.k.length x.kc) x.kcs x.s.k
theorem Ht{p:Addr}{a b c d:Value}(h:∀j u,[a,b,c,d][j]? =some u->w.cell? (p.add j)=some u):w.cell? p=some a/\w.cell? ⟨p.block,p.off+1,none⟩=some b/\w.cell? ⟨p.block,p.off+2,none⟩=some c/\w.cell? ⟨p.block,p.off+3,none⟩=some d:=
 ⟨by simpa[Addr.add]using h 0 a rfl,by simpa[Addr.add]using h 1 b rfl,by simpa[Addr.add]using h 2 c rfl,by simpa[Addr.add]using h 3 d rfl⟩
theorem St.rO{L R:List aw}{Q:World->LV->α->Prop}{xs:List α}(h:St I w L)(z:At (aB size Q v xs) L R):St I w (aB size Q v xs::L):=by
 obtain⟨m,y⟩:=z.idx;obtain⟨M,d,K,H,U⟩:=h;obtain⟨b,J⟩:=U.at_ m _ y;exact⟨M,_,K,H,U.cons (F:=λ_=>False) ⟨b,λ_ x=>x,J.2⟩ (λ_ _ _ _ x=>x) (λ_ x=>x.elim)⟩
theorem St.nm{L R:List aw}{s:Nat->SV}{b:Nat->LI}(h:St I w L)(z:At (jQ s b) L R):St I w (jQ s b::L):=h.jT z
theorem Hq{L R:List aw}(f:FuncId)(a:Vq)(p:mG->Bool)(l:List mG)(A:OA)(n c:Nat)(w:World)
 (D:∀(args:Vq) (W:World),Sem.run prog (callFunc f args) W= .ok (.enter f args) W)
 (A0:At (aB 3 gD (.slice A n c) l) L R)
 (hF:∀(x:mG) (S:OA) (d:Nat) (W:World),x∈l->St I W (ai .u8 (.slice S x.d.length d) x.d::L)->Calls prog f (#[.agg #[iI x.a,iI x.i,.slice S x.d.length d]]++a) W λe Q=>e= .returned (.bool (p x))/\St I Q L)
 (h:St I w L):
 Rt I w 171 #[.slice A n c,.func (.func f) #[] a] (iI (dz p 0 l)) L:=by
 obtain⟨q,y⟩:=A0.idx;obtain⟨A',c',e,hc,hm⟩:=(h.dJ q y).slice;injection e with Y P X;subst Y;subst X;have b:=aa P;have B0:n<=c:=oM
 refine mr h hF D (show dz p 0 l=dz p 0 (l.drop 0)from rfl) λH N M j=>?_;clear h P hF D hc
 go_enter func171,ntmps171
 go_wp2_with fail
 go_loopg [8] n (λgh i wr=>∃(k:Nat),gh=n-k/\k<=n/\i= iI (k:Nat)/\dz p 0 l=dz p k (l.drop k)/\St I wr L)
 case atStart=>exact aex
 case round=>
  clear H j;obtain⟨k,u,hk,rfl,z,h⟩:=hrel;have t:=aa u;clear u;by_cases B:k<n
  ·have J:=gP (l:=l) (i:=k) acz
   have Z:=Eb (l:=l) (i:=k) acz;generalize l[k]' acz=x at J Z;have U:dz p k (l.drop k)=if p x=true then(k:Int)else dz p (k+1) (l.drop (k+1)):=by rw[Z];rfl
   have G:=aa (pJ J);obtain⟨ad,cs,rfl,_,g,⟨v,rfl,K⟩,V⟩:=h.elem q y J;obtain⟨S,d,rfl,_,_,_⟩:=id K;obtain⟨F,Y,P⟩:=oN g;have C:=aa (z.trans U);have r:=aa (V.bu (R':=λO=>aA O .u8 (.slice S x.d.length d) x.d) (λO hw=>by
    obtain⟨v,K,z⟩:=hw.2;simp only[Hc,and_true,true_and]at K;rw[K];exact z))
   clear J h V g Z U z;have i0:(0:Int)<=(k:Int):=oM
   have i1:(k:Int)<(n:Int):=oM
   go_wp2_with fail
   rw[M.out,Oper.upon_enter];refine qH (N x S d _ G r) λw2 T=>?_;clear r F Y P
   cases o:p x with
   |true=>
    exact ad3
   |false=>
    have E:=aa (C.trans (iN acU))
    go_wp2_with fail
    go_roundg (n-(k+1))
    case measure=>have:=t.out;omega
    case rel=>exact⟨k+1,rfl,oM,by go_num,E,T⟩
  ·exact adR
theorem Jr{L R:List aw}(f:FuncId)(K:Vq)(p:mG->Bool)(l:List mG)(A:OA)(n c:Nat)(w:World)
 (D:∀(args:Vq) (W:World),Sem.run prog (callFunc f args) W= .ok (.enter f args) W)
 (o:At (aB 3 gD (.slice A n c) l) L R)
 (hF:∀(x:mG) (S:OA) (d:Nat) (W:World),x∈l->St I W (ai .u8 (.slice S x.d.length d) x.d::L)->Calls prog f (#[.agg #[iI x.a,iI x.i,.slice S x.d.length d]]++K) W λe g=>e= .returned (.bool (p x))/\St I g L)
 (h:St I w L):
 Rt I w 122 #[.slice A n c,.func (.func f) #[] K] (.bool (l.any p)) L:=by
 refine bm (Hq f K p l A n c w D o hF h) (Ak p l) λC J=>?_;clear D hF h o;generalize dz p 0 l=z at*
 go_enter func122,ntmps122
 exact ad4
theorem Nv{L R:List aw}(f:FuncId)(K:Vq)(p:eH->Bool)(l:List eH)(A:OA)(n c:Nat)(w:World)
 (D:∀(args:Vq) (W:World),Sem.run prog (callFunc f args) W= .ok (.enter f args) W)
 (X:At (aB 4 lH (.slice A n c) l) L R)
 (hF:∀(x:eH) (W:World),x∈l->St I W (L)->Calls prog f (#[.agg #[iU x.s.t,.slice x.pA x.s.p.length x.pc,iI x.s.s,.slice x.kA x.s.k.length x.kc]]++K) W λe M=>e= .returned (.bool (p x))/\St I M L)
 (h:St I w L):
 Rt I w 50 #[.slice A n c,.func (.func f) #[] K] (iI (dz p 0 l)) L:=by
 obtain⟨q,d⟩:=X.idx;obtain⟨A',c',e,Y,hm⟩:=(h.dJ q d).slice;injection e with S P t;subst S;subst t;have b:=aa P;have A0:n<=c:=oM
 refine mr h hF D (show dz p 0 l=dz p 0 (l.drop 0)from rfl) λH y V j=>?_;clear h P hF D Y
 go_enter func50,ntmps50
 go_wp2_with fail
 go_loopg [8] n (λF i wr=>∃(k:Nat),F=n-k/\k<=n/\i= iI (k:Nat)/\dz p 0 l=dz p k (l.drop k)/\St I wr L)
 case atStart=>exact aex
 case round=>
  clear H j;obtain⟨k,u,hk,rfl,z,h⟩:=hrel;have g:=aa u;clear u;by_cases B:k<n
  ·have J:=gP (l:=l) (i:=k) acz
   have O:=Eb (l:=l) (i:=k) acz;generalize l[k]' acz=x at J O;have U:dz p k (l.drop k)=if p x=true then(k:Int)else dz p (k+1) (l.drop (k+1)):=by rw[O];rfl
   have G:=aa (pJ J);obtain⟨ad,cs,rfl,_,a,⟨rfl,o,N⟩,Z⟩:=h.elem q d J;obtain⟨Q,S,P,t⟩:=Ht a;refine bm (z.trans U) (Z.tail) λC r=>?_;clear J h Z a o N O U z;have i0:(0:Int)<=(k:Int):=oM
   have i1:(k:Int)<(n:Int):=oM
   go_wp2_with fail
   rw[V.out,Oper.upon_enter];refine qH (y x _ G r) λw2 T=>?_;clear r Q S P t
   cases o:p x with
   |true=>
    exact ad3
   |false=>
    have E:=aa (C.trans (iN acU))
    go_wp2_with fail
    go_roundg (n-(k+1))
    case measure=>have:=g.out;omega
    case rel=>exact⟨k+1,rfl,oM,by go_num,E,T⟩
  ·exact adR
theorem Oy{L R:List aw}(f:FuncId)(K:Vq)(p:eH->Bool)(l:List eH)(A:OA)(n c:Nat)(w:World)
 (D:∀(args:Vq) (W:World),Sem.run prog (callFunc f args) W= .ok (.enter f args) W)
 (o:At (aB 4 lH (.slice A n c) l) L R)
 (hF:∀(x:eH) (W:World),x∈l->St I W (L)->Calls prog f (#[.agg #[iU x.s.t,.slice x.pA x.s.p.length x.pc,iI x.s.s,.slice x.kA x.s.k.length x.kc]]++K) W λe g=>e= .returned (.bool (p x))/\St I g L)
 (h:St I w L):
 Rt I w 47 #[.slice A n c,.func (.func f) #[] K] (.bool (l.any p)) L:=by
 refine bm (Nv f K p l A n c w D o hF h) (Ak p l) λC J=>?_;clear D hF h o;generalize dz p 0 l=z at*
 go_enter func47,ntmps47
 exact ad4
end
section
open Go.Shelf
def sM(b:kZ):Prop:=∀j,AM (b j)
structure wS(s:bp):Prop where
 p:∀x∈s.p,AM x.d
 k:∀x∈s.k,AM x.d
 pl:s.p.length<=100
theorem sM.put{x:fj}(h:sM b)(J:AM x.d):sM (kT b x):=by
 intro j;unfold kT
 split
 ·unfold aJ
  split
  ·exact J
  ·exact h j
 ·exact h j
theorem sM.beh:∀{l:List fj},sM b->(∀x∈l,AM x.d)->sM (dq b l):=by
 intro l
 induction l generalizing b with
 |nil=>exact λh _=>h
 |cons x r K=>exact λh C=>K (h.put (C x acy)) (λy E=>C y (by simp[E]))
theorem sM.at_(h:sM b)(i:Int):AM (xM b i):=by
 unfold xM
 split
 ·exact h _
 ·exact λx J=>by simp at J
def Zg(R C j:Nat)(v:Value)(s:Nat->SV)(i u:Value)(W:World):Prop:=
 W.cell? (aD R 1)=some v/\(W.cell? (aD C 0)=some (.slice (s 0).a (s 0).n (s 0).c)/\W.cell? (aD C 1)=some (.slice (s 1).a (s 1).n (s 1).c)/\W.cell? (aD C 2)=some (.slice (s 2).a (s 2).n (s 2).c)/\W.cell? (aD C 3)=some (.slice (s 3).a (s 3).n (s 3).c))/\W.cell? (aD j 1)=some i/\W.cell? (aD j 2)=some u
theorem uw{W:World}{e b x g:List aw}{R C j:Nat}{a v c d i u q:Value}{s:Nat->SV}(h:St I W e)(Z:At (ab R 131 #[a,v,c,d]) e b)(V:At (ab C 134 (ij s)) e x)(M:At (ab j 138 #[q,i,u]) e g):Zg R C j v s i u W:=
 ⟨(h.tT Z).cell 1,⟨(h.tT V).cell 0,(h.tT V).cell 1,(h.tT V).cell 2,(h.tT V).cell 3⟩,(h.tT M).cell 1,(h.tT M).cell 2⟩
theorem Sf(R C:Nat)(x:eH)(s:Nat->SV)(b:kZ)(y:mG)(S:OA)(d:Nat)(w:World)(M:wS x.s)(Y:sM b)(E:AM y.d)
 (h:St I w (ai .u8 (.slice S y.d.length d) y.d::ab R 131 #[iU x.s.t,.slice x.pA x.s.p.length x.pc,iI x.s.s,.slice x.kA x.s.k.length x.kc]::ab C 134 (ij s)::jQ s b::aB 2 iE (.slice x.pA x.s.p.length x.pc) x.s.p::L)):
 Rt I w 123 #[.agg #[iI y.a,iI y.i,.slice S y.d.length d],pO R,pO C] (.bool (!iT x.s b y)) (ab R 131 #[iU x.s.t,.slice x.pA x.s.p.length x.pc,iI x.s.s,.slice x.kA x.s.k.length x.kc]::ab C 134 (ij s)::jQ s b::aB 2 iE (.slice x.pA x.s.p.length x.pc) x.s.p::L):=by
 obtain⟨m,p⟩:∃m:Nat,(m:Int)=max 0 (min y.a (x.s.p.length:Int)):=⟨(max 0 (min y.a (x.s.p.length:Int))).toNat,oM⟩;have l:m<=x.s.p.length:=oM
 have B:x.s.p.take y.a.toNat=x.s.p.take m:=by
  rcases zdk y.a.toNat x.s.p.length with X|X
  ·rw[show m=y.a.toNat by omega]
  ·rw[nS X,nS oM]
 have j:=aa (show iT x.s b y=decide (xM (dq b (x.s.p.take m)) y.i=y.d)by unfold iT;rw[B]);have Z:=h.alloc 138 #[iI y.a,iI y.i,.slice S y.d.length d];generalize hg:w.heap.size=gl at Z;obtain⟨o,g,k⟩:=(Z.ah 0 rfl).three;have O:=(Z.ah 2 rfl).cell 1;refine bm p Z λK H=>?_;clear h Z B
 go_enter func123,ntmps123
 go_wp2_with fail
 rw[<-K.out];generalize w.alloc _=w0 at H⊢;clear o g k O p K;refine bQ (Zg R C gl (.slice x.pA x.s.p.length x.pc) s (iI y.i) (.slice S y.d.length d)) 12 [0,1,2,3,5,6,8,9] [4,7,10,11,12] kR kR (λd=>by cases d<;>exact λ_ _ _ _ h=>h) (λW J=> ?_);have U:=aa (H.drew);rw[<-J]at U;clear J H;refine⟨uw U (by exact aU) (by exact aU) (by exact aU),?_⟩
 iterate 8 (refine bN rfl rfl (λW J=>by(obtain⟨O,⟨i,c,b2,b3⟩,g,k⟩:=J;go_simp;try rfl)) ?_;simp only[aR])
 refine take_nil ?_;have V:=((U.rO (by exact aU)).nm (s:=s) (b:=b) (by exact aU)).pk 8 [0,1,4,5,6,7,2,3];refine eP (f:=79) (args:= #[qR s,.slice x.pA x.s.p.length x.pc,iI (m:Nat)]) rfl rfl gS ?_;refine(Cu s b x.s.p x.pA x.s.p.length x.pc m W l V).mono ?_;rintro e t⟨u,rfl,P⟩;refine⟨_,rfl,λ_=>uw P (by exact aU) (by exact aU) (by exact aU),?_⟩;simp only[aR];refine eP (f:=125) (args:= #[qR u,iI y.i]) rfl rfl gS ?_;refine(Zp u (dq b (x.s.p.take m)) y.i t P).mono ?_;rintro e r⟨v,rfl,F⟩;refine⟨_,rfl,λ_=>uw F (by exact aU) (by exact aU) (by exact aU),?_⟩;simp only[aR];have n:AM (xM (dq b (x.s.p.take m)) y.i):=(Y.beh (λz q=>M.p z (Hn q))).at_ _;obtain⟨T,a,N,rfl⟩:∃T a N,v= .slice T a N:=by
  obtain⟨A,A0,e,_⟩:=F.get 0 rfl;exact⟨_,_,_,e⟩
 refine eP (f:=124) (args:= #[.slice T a N,.slice S y.d.length d]) rfl rfl gS ?_;refine qK (Pq _ _ _ _ r (F.get 0 rfl) (F.jr (Q:=λw=>aA w .u8 (.slice S y.d.length d) y.d)) n E F) λw6 G=>?_;rw[<-j.out];refine⟨_,rfl,λ_=>uw G (by exact aU) (by exact aU) (by exact aU),?_⟩;simp only[aR];have D:=aa (G.pk 7 [1,2,3,4,5]);clear V P F G U n j l;refine bD rfl rfl gS (λ_=>uw D (by exact aU) (by exact aU) (by exact aU)) ?_;simp only[aR];refine bD rfl rfl gS nD ?_;simp only[aR];refine cN ?_
 go_wp2_with fail
 go_ret
 exact⟨rfl,D.sub⟩
theorem Il(x:bp)(b:kZ):(!x.k.any (λy=> !iT x b y))=jI x b:=by
 unfold jI
 induction x.k with
 |nil=>rfl
 |cons y r K=>rw[Yh,zc8,<-K,Bool.not_or,Bool.not_not]
theorem MC(x:eH)(s:Nat->SV)(b:kZ)(w:World)(J:wS x.s)(B:sM b)(h:St I w (jQ s b::aB 2 iE (.slice x.pA x.s.p.length x.pc) x.s.p::aB 3 gD (.slice x.kA x.s.k.length x.kc) x.s.k::L)):
 Rt I w 78 #[.agg #[iU x.s.t,.slice x.pA x.s.p.length x.pc,iI x.s.s,.slice x.kA x.s.k.length x.kc],qR s] (.bool (jI x.s b)) L:=by
 have Z:=h.alloc 131 #[iU x.s.t,.slice x.pA x.s.p.length x.pc,iI x.s.s,.slice x.kA x.s.k.length x.kc];generalize a:w.heap.size=gs at Z;have V:=Z.alloc 134 (ij s);rw[World.size_alloc,a]at V;generalize P:gs+1=gb at V;have n:=(V.ah 1 rfl).cell 3;have H:=aa (V.pk 2 [1,0]);clear h Z V
 go_enter func78,ntmps78
 go_wp2_with fail
 refine qK (Jr 123 #[pO gs,pO gb] (λy=> !iT x.s b y) x.s.k x.kA x.s.k.length x.kc _ (enters_of func123 kR rfl) (by exact aU) (λy S d W p R=>(Sf gs gb x s b y S d W J B (J.k y p) R).mono (λe g ⟨Y,U⟩=>⟨Y,U⟩)) H) λX h=>?_;refine bm (Il x.s b) (h.pk 5 []) λC T=>?_;clear h H n
 go_wp2_with fail
 go_ret
 exact⟨by rw[<-C.out];try rfl,T⟩
end
section
open Go.Shelf
theorem QQ(v u:Nat->SV)(a b:kZ)(w:World)(x:sM a)(S:sM b)(h:St I w (jQ v a::jQ u b::L)):
 Calls prog 80 #[qR v,qR u] w λe O=>∃t:Bool,e= .returned (.bool t)/\(t=true↔∀j,j<4->a j=b j)/\St I O L:=by
 have Z:=(h.alloc 134 (ij v)).alloc 134 (ij u);rw[World.size_alloc]at Z;refine ib Z x S λH J C=>?_;clear h Z x S
 go_enter func80,ntmps80
 go_wp2_with fail
 generalize w.heap.size=g at*
 go_loopg [6] 4 (λQ i wr=>∃k:Nat,Q=4-k/\k<=4/\i= iI (k:Nat)/\(∀j,j<k->a j=b j)/\St I wr (ab (g+1) 134 (ij u)::ab g 134 (ij v)::jQ v a::jQ u b::L))
 case atStart=>exact⟨0,rfl,oM,rfl,λj N=>oM,H⟩
 case round=>
  clear H;obtain⟨k,G,F,rfl,d,h⟩:=hrel;refine bm G d λR l=>?_;clear G d;by_cases B:k<4
  ·have o:wr.cell? ⟨g,k,none⟩=some (.slice (v k).a (v k).n (v k).c):=((h.ah 1 rfl).cell k).trans (uz v B)
   have p:wr.cell? ⟨g+1,k,none⟩=some (.slice (u k).a (u k).n (u k).c):=((h.ah 0 rfl).cell k).trans (uz u B);have K:=h.get 2 rfl k B;have E:=h.get 3 rfl k B;refine ib (λm=>K.LG ((Fr.refl _ _).drewN m)) (λm=>E.LG ((Fr.refl _ _).drewN m)) h λM c y=>?_;clear h K E;have q:(0:Int)<=(k:Int):=oM
   have U:(k:Int)<4:=oM
   by_cases Y:a k=b k
   ·have A:=aa Y
    clear Y
    go_wp2_with fail
    go_quiet ((go_at_call 124;exact Calls.quiet_of_same ((Du _ _ _ _ _ (M _) (c _) (J k) (C k)).mono (λe O ⟨Z,V⟩=>⟨(by rw[Z,dZ A.out]:e= .returned (.bool true)),V.symm⟩))))
    go_wp2_with fail
    go_roundg (4-(k+1))
    case measure=>exact aec
    case rel=>exact⟨k+1,rfl,oM,by go_num,λj N=>by rcases zcC.1 N with h|rfl;exact l j h;exact A,y.drewN _⟩
   ·have A:=aa Y
    clear Y
    go_wp2_with fail
    go_quiet ((go_at_call 124;exact Calls.quiet_of_same ((Du _ _ _ _ _ (M _) (c _) (J k) (C k)).mono (λe O ⟨Z,V⟩=>⟨(by rw[Z,dQ A.out]:e= .returned (.bool false)),V.symm⟩))))
    go_wp2_with fail
    go_ret
    exact⟨false,rfl,⟨λh=>Bool.noConfusion h,λh=>absurd (h k B) A⟩,(y.drewN _).sub⟩
  ·obtain rfl:k=4:=oM
   have H:=aa h;clear h
   go_wp2_with fail
   go_ret
   exact⟨true,rfl,⟨λ_=>l,λ_=>rfl⟩,H.sub⟩
end
section
open Go.Shelf
def zv(w:World)(N:LV)(b:kZ):Prop:=∃s:Nat->SV,N=[.slice (s 0).a (s 0).n (s 0).c,.slice (s 1).a (s 1).n (s 1).c,.slice (s 2).a (s 2).n (s 2).c,.slice (s 3).a (s 3).n (s 3).c]/\∀j,j<4->aA w .u8 (.slice (s j).a (s j).n (s j).c) (b j)
theorem NS:eB prog 187 134 (.agg #[sN,sN,sN,sN]) 4 96:=⟨underlying187,kR,kR,oM⟩
theorem Rm:eB prog 28 3 (iI 0) 1 8:=⟨underlying28,kR,kR,oM⟩
theorem QD(s:Nat->SV):∀u∈[Value.slice (s 0).a (s 0).n (s 0).c,.slice (s 1).a (s 1).n (s 1).c,.slice (s 2).a (s 2).n (s 2).c,.slice (s 3).a (s 3).n (s 3).c],u.oneCell'=true:=by
 intro u E;simp only[nO,nK,or_false]at E;exact afn
theorem St.RX{L R:List aw}{Q:World->LV->α->Prop}{A A':OA}{n c:Nat}{x:α}{r:List α}(h:St I w L)(z:At (aB size Q (.slice A n c) (x::r)) L R)(o:∀Y,A=some Y->c≠1->A'=some (Y.add size)):St I w (aB size Q (.slice A' (n-1) (c-1)) r::L):=by
 have Z:=h.rO z;obtain⟨b,V⟩:=Z.vm;refine St.cZ (f:=λb=>aS (λw=>bF w size Q (.slice A' (n-1) (c-1)) b r)) (λi=>b (i+1)) (V.bu (λO d=> ?_));obtain⟨X,J,e,M,H,F⟩:=d;injection e with S P t;subst S;subst P;subst t;refine⟨A',c-1,by simp,by simp at M;omega,oM,λi y E=> ?_⟩;obtain⟨Y,a,G,U,W⟩:=F (i+1) y (by simpa using E);have B:=(lQ.1 E).1;have q:c≠1:=by simp at M;omega
 refine⟨Y.add size,o Y a q,G,λj u l=> ?_,W⟩;have:=U j u l;rw[dk]at this⊢;rw[dk];rwa[show size+(i*size+j)=(i+1)*size+j by rw[vq,Co];omega]
theorem St.Xm{e:TypeId}{R:World->LV->α->Prop}{A:OA}{n c:Nat}{T:List α}(h:St I w (ay e size R (.slice A n c) T::L))(K:0<size){x:α}(F:T[k]? =some x):
 ∃Y N,A=some Y/\N.length=size/\(∀j u,N[j]? =some u->w.cell? ((Y.add (k*size)).add j)=some u)/\R w N x/\n=T.length/\St I w (aS (λO=>R O N x)::ay e size R (.slice A n c) T::L):=by
 exact adS
def um(o:Option (List Nat)):LI:=(o.getD []).map Int.ofNat
theorem TN{b:Nat}{t:TypeId}{cs:LV}(h:eF w b t cs.toArray):Sl w Any cs.length (aO b) 1 cs:=
 ⟨by simp,λ_=>⟨_,rfl,trivial,h.lt,λj u E=>by
  rw[show(⟨b,0,none⟩:Addr).add j=⟨b,j,none⟩by simp[Addr.add];exact Qt,h.cell];simpa using E⟩⟩
theorem aA.slice3{k:IntKind}{T:LI}(h:aA w k v T):∃A c,v= .slice A T.length c/\T.length<=c:=by
 obtain⟨A,c,e,Z,_⟩:=h;exact⟨A,c,e,Z⟩
theorem Dw(l:List bp)(b:kZ)(g:List Nat)(h:eN l b=some g):g.length=l.length:=by
 obtain⟨w,_,rfl,_⟩:=(p9 l b).1 g h;exact xu l w
theorem Jl{f:Nat->Option α}{n k:Nat}{x:α}(F:k<n)(h:∀q,q<k->(f q)=none)(J:f k=some x):jB f n 0=some x:=by
 rw[FI (Nat.le_of_lt F) h,show n-k=(n-k-1)+1 by omega];show(f k).or _=_;rw[J]
 rfl
structure RL(x:eH):Prop where
 ok:wS x.s
 s0:0<=x.s.s
 s1:x.s.s<=(x.s.p.length:Int)
def CI(I:aH)(l:List eH):Prop:=∀(L:List aw) (A:OA) (n c:Nat) (s:Nat->SV) (b:kZ) (w:World),sM b->St I w (aB 4 lH (.slice A n c) l::jQ s b::L)->
 Calls prog 49 #[.slice A n c,qR s] w λe O=>∃v,e= .returned (.tuple #[v,.bool (eN (l.map eH.s) b).isSome])/\St I O (ai .i64 v (um (eN (l.map eH.s) b))::L)
theorem Pu(I:aH):CI I []:=by
 intro L A n c s b w _ h;obtain⟨G,p,e,D,y⟩:=(h.dJ 0 rfl).slice;injection e with S P t;subst S;subst t;have M:n=0:=P;subst M;have H:=aa ((h.alloc 134 (ij s)).pk 3 []);clear h P D
 go_enter func49,ntmps49
 go_wp2_with fail
 go_step3
 go_wp2_with fail
 rw[Exit.noGoto_ret]
 go_ret2
 exact⟨_,rfl,H.bG (λO _=>aA.none_ O _)⟩
theorem aaX(Y:Addr):Y.add (0*4)=Y:=rfl
theorem Np(I:aH)(x:eH)(r:List eH)(R2:r.length<=99)(A1:RL x)(ih:CI I r):CI I (x::r):=by
 intro L E2 n c s b w hb h;obtain⟨A',c',e,hc,hm⟩:=(h.dJ 0 rfl).slice;injection e with e1 e2 e3;subst e1;subst e3;have F1:n=r.length+1:=e2;have O2:n<=c:=by rw[e2];exact hc
 have HE:=aa (show eN ((x::r).map eH.s) b=if jI x.s b then jB (λq=>(eN (r.map eH.s) (dq b (x.s.p.take (x.s.p.length-q)))).map ((x.s.p.length-q)::·)) x.s.ways 0 else none from rfl);refine ib A1 hb ih λy R0 Q1=>?_;obtain⟨Y,cs,rfl,_,Y0,⟨rfl,_,_⟩,Z⟩:=h.elem 0 rfl (k:=0) (x:=x) rfl;rw[aaX]at Y0 Z;have X0:=(Z.copy 0 rfl).bu (R':=λw=>bF w 2 iE (.slice x.pA x.s.p.length x.pc) x.pcs x.s.p) (λO U=>U.2.2.1);have V:St I w (aB 2 iE (.slice x.pA x.s.p.length x.pc) x.s.p::_):=St.cZ (f:=λP0=>aS (λw=>bF w 2 iE (.slice x.pA x.s.p.length x.pc) P0 x.s.p)) _ X0;have W0:=(V.copy 1 rfl).bu (R':=λw=>bF w 3 gD (.slice x.kA x.s.k.length x.kc) x.kcs x.s.k) (λO U=>U.2.2.2);have M:St I w (aB 3 gD (.slice x.kA x.s.k.length x.kc) x.s.k::_):=St.cZ (f:=λP0=>aS (λw=>bF w 3 gD (.slice x.kA x.s.k.length x.kc) P0 x.s.k)) _ W0;have h4:=M.alloc 134 (ij s);obtain⟨f0,f1,f2,f3⟩:=Ht (h4.jr (At.there (At.there (At.there At.here)))).1;generalize X1:w.heap.size=gb at h4;have F:=h4.alloc 131 #[iU x.s.t,.slice x.pA x.s.p.length x.pc,iI x.s.s,.slice x.kA x.s.k.length x.kc];rw[World.size_alloc,X1]at F;generalize K2:gb+1=gs at F;have K:=aa (F.pk 5 [0,1,3,2]);obtain⟨q0,P,q2,q3⟩:=(F.ah 0 rfl).four;obtain⟨b0,b1,b2,b3⟩:=(F.ah 1 rfl).four;have T:(0:Int)<(n:Int):=oM
 have J:((n:Int)==0)=false:=kO oM;have R1:=aa F1;clear F1 Z V M h4 F X0 W0 h Y0 hc e2 hm hb ih A1
 go_enter func49,ntmps49
 go_wp2_with fail
 go_step3
 go_wp2_with fail
 have h6:=((K.rO (size:=2) (Q:=iE) (v:= .slice x.pA x.s.p.length x.pc) (xs:=x.s.p) (by exact aU)).rO (size:=3) (Q:=gD) (v:= .slice x.kA x.s.k.length x.kc) (xs:=x.s.k) (by exact aU)).nm (s:=s) (b:=b) (by exact aU);refine qH (MC x s b _ y.ok R0 (h6.pk 3 [0,2,1])) λw2 X=>?_;clear h6 K q0 P q2 q3 b0 b1 b2 b3 f0 f1 f2 f3 T J
 cases D0:jI x.s b with
 |false=>
  have E:=aa (show eN ((x::r).map eH.s) b=none by rw[HE.out,D0];rfl);clear D0
  go_wp2_with fail
  try rw[Exit.noGoto_ret]
  go_ret2
  exact⟨_,by rw[E.out];try rfl,by rw[E.out];exact(X.pk 6 []).bG (λO _=>aA.none_ O _)⟩
 |true=>
  have B0:=aa (show eN ((x::r).map eH.s) b=jB (λq=>(eN (r.map eH.s) (dq b (x.s.p.take (x.s.p.length-q)))).map ((x.s.p.length-q)::·)) x.s.ways 0 by rw[HE.out,D0];rfl);clear D0 HE;have P:=(X.ah 0 rfl).cell 1;have q2:=(X.ah 0 rfl).cell 2;have H7:=aa (X.dU 134 4 zv);clear X;obtain⟨N,A0⟩:=nM (x.s.p.length);obtain⟨W,G0⟩:=nM (x.s.ways);have T2:(W:Int)=(N:Int)-x.s.s+1:=by
   have:=y.s0;have:=y.s1;rw[G0,A0];unfold bp.ways;omega
  have P2:N<=100:=by rw[A0];exact y.ok.pl
  have S2:0<=x.s.s:=y.s0;rw[<-A0]at P H7 B0⊢;rw[<-G0]at B0;refine bm A0 G0 λF2 HW=>?_;clear A0 G0
  go_wp2_with fail
  go_step3
  go_wp2_with fail
  clear P q2
  go_loopg [7,8] W (λgh tv nv wr=>∃(k:Nat) (C:OA) (q g:Nat) (S:List kZ) (z:Int),gh=W-k/\k<=W/\tv= .slice C q g/\nv= iI z/\z=(N:Int)-k/\q=S.length/\q<=k/\(∀t∈S,sM t/\eN (r.map eH.s) t=none)/\(∀p,p<k->eN (r.map eH.s) (dq b (x.s.p.take (N-p)))=none)/\St I wr (ay 134 4 zv (.slice C q g) S::ab gs 131 #[iU x.s.t,.slice x.pA N x.pc,iI x.s.s,.slice x.kA x.s.k.length x.kc]::ab gb 134 (ij s)::aB 2 iE (.slice x.pA N x.pc) x.s.p::aB 3 gD (.slice x.kA x.s.k.length x.kc) x.s.k::aB 4 lH (.slice (some Y) n c) (x::r)::jQ s b::L))
  case atStart=>exact⟨0,none,0,0,[],(N:Int),rfl,oM,rfl,rfl,oM,rfl,oM,λt R=>by simp at R,λp o=>oM,H7⟩
  case round=>
   clear H7;obtain⟨k,C,q,g,S,z,hg,hk,rfl,rfl,hz,hq,Q2,K1,G1,h⟩:=hrel;refine mr hg hq K1 G1 λHG HQ M0 C0=>?_;clear hg hq K1 G1;have P:=(h.ah 1 rfl).cell 1;have q2:=(h.ah 1 rfl).cell 2;obtain⟨b0,b1,b2,b3⟩:=(h.ah 2 rfl).four;by_cases E0:x.s.s<=z
   ·obtain⟨m,rfl⟩:=zY (by omega:0<=z)
    have Y1:m<=N:=oM
    have E1:m=N-k:=oM
    have N2:k<W:=oM
    have d1:decide (x.s.s<=(m:Int))=true:=dZ E0;have W1:decide ((m:Int)≥x.s.s)=true:=d1;refine ib hz E1 h λHZ I0 H8=>?_;clear h hz E1 E0
    go_wp2_with fail
    have B:=(H8.rO (size:=2) (Q:=iE) (v:= .slice x.pA N x.pc) (xs:=x.s.p) (by exact aU)).nm (s:=s) (b:=b) (by exact aU);refine(Cu s b x.s.p x.pA N x.pc m _ Y1 (B.pk 0 [])).mono ?_;rintro e w3⟨u,rfl,M⟩;have H:=M.alloc 134 (ij u);generalize J2:w3.heap.size=gn at H;obtain⟨G,F0⟩:=nM (dq b (x.s.p.take m));rw[<-F0]at H;have N0:=aa (show sM G by rw[F0];exact R0.beh (λD2 hy=>y.ok.p D2 (Hn hy)));refine bm F0 H λJ0 HA=>?_;obtain⟨a,T,J,D⟩:=(H.ah 0 rfl).four;clear B M H H8 P q2 b0 b1 b2 b3 F0
    go_wp2_with fail
    clear a T J D
    go_loopg [40] q (λgh jv wr=>∃(j:Nat),gh=q-j/\j<=q/\jv= iI (j:Nat)/\St I wr (ab gn 134 (ij u)::jQ u G::ay 134 4 zv (.slice C q g) S::ab gs 131 #[iU x.s.t,.slice x.pA N x.pc,iI x.s.s,.slice x.kA x.s.k.length x.kc]::ab gb 134 (ij s)::aB 2 iE (.slice x.pA N x.pc) x.s.p::aB 3 gD (.slice x.kA x.s.k.length x.kc) x.s.k::aB 4 lH (.slice (some Y) n c) (x::r)::jQ s b::L))
    case atStart=>exact⟨0,rfl,oM,rfl,HA⟩
    case round=>
     clear HA;obtain⟨j,B1,L2,rfl,h⟩:=hrel;have P1:=aa B1;clear B1;by_cases D1:j<q
     ·have H0:=gP (l:=S) (i:=j) (by rw[<-HQ.out];exact D1)
      generalize S[j]'(by rw[<-HQ.out];exact D1)=t at H0;have J1:=M0.out t (pJ H0);obtain⟨V1,I2,rfl,_,Z0,⟨v,rfl,hv⟩,Z1,Z⟩:=(h.fi 2).Xm oM H0;obtain⟨f0,f1,f2,f3⟩:=Ht Z0;have V:=(Z.bu (R':=λO=>∀j,j<4->aA O .u8 (.slice (v j).a (v j).n (v j).c) (t j)) (λO U=>by
       obtain⟨v',L1,hi⟩:=U;simp only[Hc,Value.slice.injEq,and_true]at L1;obtain⟨⟨a0,a1,a2⟩,⟨c0,c1,c2⟩,⟨g0,g1,g2⟩,⟨k0,k1,k2⟩⟩:=L1;intro i C1;have:=hi i C1;rcases lt4 C1 with rfl|rfl|rfl|rfl
       ·rw[a0,a1,a2];exact this
       ·rw[c0,c1,c2];exact this
       ·rw[g0,g1,g2];exact this
       ·rw[k0,k1,k2];exact this)).alloc 134 (ij v)
      have HT:=aa J1;have i0:(0:Int)<=(j:Int):=oM
      have i1:(j:Int)<(q:Int):=oM
      obtain⟨a,T,J,D⟩:=(V.ah 3 rfl).four;have H2:=aa V;clear H0 J1 Z0 hv Z1 Z V h
      go_wp2_with fail
      refine(QQ v u t G _ HT.1 N0 ((H2.nm (s:=u) (b:=G) (by exact aU)).pk 6 [2,0,4,5,3])).mono ?_;rintro e w4⟨tt,rfl,Q0,M⟩;have H3:=aa M;clear M H2 f0 f1 f2 f3 a T J D
      cases tt with
      |true=>
       have K0:=aa (show∀p,p<k+1->eN (r.map eH.s) (dq b (x.s.p.take (N-p)))=none from λp o=>by
        rcases zcC.1 o with h|rfl
        ·exact C0 p h
        ·rw[<-I0.out,<-J0.out,<-xz _ _ _ (Q0.1 rfl)]
         exact HT.2)
       clear Q0
       go_wp2_with fail
       go_roundg (W-(k+1))
       case measure=>have:=HG.out;have:=HW.out;omega
       case rel=>exact⟨k+1,some V1,q,g,S,(m:Int)-1,rfl,oM,rfl,by go_num,by have:=HZ.out;omega,HQ,oM,M0,K0,H3.sub⟩
      |false=>
       clear Q0
       go_wp2_with fail
       go_roundg (q-(j+1))
       case measure=>have:=P1.out;omega
       case rel=>exact⟨j+1,rfl,oM,by go_num,H3.sub⟩
     ·obtain rfl:q=j:=oM
      obtain⟨a,T,J,D⟩:=(h.ah 0 rfl).four;have H4:=aa h;clear h
      go_wp2_with fail
      have A2:∃A',(∀O0,some Y=some O0->c≠1->A'=some (O0.add 4))/\A'=(if c=1 then some Y else some (Y.add 4)):=⟨_,λO0 e hc=>by injection e with e;subst e;rw[iN hc],rfl⟩;obtain⟨A',T0,U0⟩:=A2;have K:=aa ((H4.RX (A':=A') (by exact aU) T0).nm (s:=u) (b:=G) (by exact aU));clear H4;obtain⟨EX,V0⟩:=nM (eN (r.map eH.s) G);have d:=aa V0;have h0:=K.pk 5 [1,0,2,4,3];have C2:(1:Int)<=(n:Int):=by have:=R1.out;omega
      clear V0 K a T J D;refine ak (I:=I) (L0:=ay 134 4 zv (.slice C q g) S::jQ u G::ab gs 131 #[iU x.s.t,.slice x.pA N x.pc,iI x.s.s,.slice x.kA x.s.k.length x.kc]::ab gb 134 (ij s)::aB 2 iE (.slice x.pA N x.pc) x.s.p::aB 3 gD (.slice x.kA x.s.k.length x.kc) x.s.k::aB 4 lH (.slice (some Y) n c) (x::r)::jQ s b::L) [⟨none,some 3,λe=>aB 4 lH (.slice A' (n-1) (c-1)) r⟩,⟨none,some 3,λe=>jQ u G⟩,⟨none,none,λe=>ab gn 134 (ij u)⟩,⟨some 3,none,λe=>aS (λw=>aA w .i64 (e 3).v (um EX))⟩] [[],[0],[],rG 3,rG 4,rG 5,rG 5,rG 6,rG 8] (rG 9) rfl kR kR kR (by rfl) (λ_=>rfl) h0.fk ?_;refine lY ?_;refine kj (λe=> .slice A' (n-1) (c-1)) rfl (λe wx Lx h=>by(go_simp;try(rw[U0];rfl))) ?_;simp only[aR];refine lY ?_;refine aZ 49 (λe=> #[.slice A' (n-1) (c-1),qR u]) (λe=> .tuple #[(e 3).v,.bool EX.isSome]) rfl (λe wx Lx h=>by(
       have h:=h.fn;refine(Q1 _ A' (n-1) (c-1) u G _ N0 h).mono ?_;rintro u W⟨v,rfl,Z⟩;rw[<-d.out]at Z⊢;exact⟨⟨none,0,v⟩,rfl,Z.fk⟩)) ?_
      simp only[aR];refine sO ?_;refine ax ?_;intro e w1 h;have h:=h.fn;clear h0 C2 U0 T0
      cases EX with
      |none=>
       have K0:=aa (show∀p,p<k+1->eN (r.map eH.s) (dq b (x.s.p.take (N-p)))=none from λp o=>by
        rcases zcC.1 o with h|rfl
        ·exact C0 p h
        ·rw[<-I0.out,<-J0.out]
         exact d.symm)
       obtain⟨a,T,J,D⟩:=(h.ah 0 rfl).four;have V:=(((h.nm (s:=u) (b:=G) (by exact aU)).pk 5 [3,0]).alloc 134 (ij u)).fi 1;obtain⟨G2,I1,M1,M⟩:=V.bK;refine ib M I1 M1 λHX S1 U1=>?_;have T1:=aa (show∀t∈S++[G],sM t/\eN (r.map eH.s) t=none from λt R=>by
        rcases lU.1 R with R|R
        ·exact M0 t R
        ·rw[lA]at R
         rw[R];exact⟨N0,d.symm⟩)
       clear h V M I1 M1
       go_wp2_with (at_builtin;refine St.dW NS HX rfl _ _ rfl rfl (aO w1.heap.size) 1 1 rfl [.slice (u 0).a (u 0).n (u 0).c,.slice (u 1).a (u 1).n (u 1).c,.slice (u 2).a (u 2).n (u 2).c,.slice (u 3).a (u 3).n (u 3).c] (TN (cs:=[.slice (u 0).a (u 0).n (u 0).c,.slice (u 1).a (u 1).n (u 1).c,.slice (u 2).a (u 2).n (u 2).c,.slice (u 3).a (u 3).n (u 3).c]) (HX.tT)) (QD _) oM oM ?_;intro A6 c6 w7 B)
       have H:=(B.nm (s:=u) (b:=G) (by exact aU)).bu (R':=λw=>zv w [.slice (u 0).a (u 0).n (u 0).c,.slice (u 1).a (u 1).n (u 1).c,.slice (u 2).a (u 2).n (u 2).c,.slice (u 3).a (u 3).n (u 3).c] G) (λO U=>⟨u,rfl,U⟩);have S0:=(H.pk 5 [1,2,0]).fR (size:=4) S1 rfl U1;have O1:=aa S0;clear B H S0
       go_wp2_with fail
       go_roundg (W-(k+1))
       case measure=>have:=HG.out;have:=HW.out;omega
       case rel=>exact⟨k+1,A6,q+1,c6,S++[G],(m:Int)-1,rfl,oM,rfl,by go_num,by have:=HZ.out;omega,by rw[eG,<-HQ.out];rfl,oM,T1,K0,O1⟩
      |some A=>
       have M2:(um (some A)).length<=99:=by
        unfold um;rw[nL];have:=Dw _ _ _ d.symm;rw[nL]at this;simp only[Sy];omega
       obtain⟨A3,c3,hv,B2⟩:=aA.slice3 (h.jr (Q:=λw=>aA w .i64 (e 3).v (um (some A))));rw[hv]at h;have E:=aa (show eN ((x::r).map eH.s) b=some (m::A)by
        rw[B0.out];exact Jl oM (λq hq=>by rw[C0.out q hq];rfl) (by rw[<-I0.out,<-J0.out,<-d.out];rfl))
       have H1:=aa (((h.pk 10 [1]).oH 3 1 1 [iI m] rfl oM w1.heap.size rfl));have HS:=aa (H1.get 1 rfl).sl.2.2.2;clear h B2
       go_wp2_with (at_builtin;refine St.dW Rm H1 rfl _ _ rfl rfl A3 (um (some A)).length c3 hv ((um (some A)).map (.int .i64)) HS (by intro u hu;obtain⟨z,_,rfl⟩:=oK.1 hu;rfl) oM oM ?_;intro A6 c6 w7 B)
       have N1:=aa (St.ints (xs:=(m:Int)::um (some A)) (B.pk 2 [0]));clear B
       go_wp2_with fail
       try rw[Exit.noGoto_ret]
       go_ret2
       exact⟨_,by rw[E.out];try rfl,by rw[E.out];exact N1.out⟩
   ·obtain rfl:k=W:=oM
    have E:=aa (show eN ((x::r).map eH.s) b=none by
     rw[B0.out];exact(oy _ _).2 (λp o=>by rw[s7,C0.out p o];rfl))
    have d1:decide (x.s.s<=z)=false:=dQ E0;have W1:decide (z≥x.s.s)=false:=d1;have H8:=aa (h.pk 7 []);clear h hz E0
    go_wp2_with fail
    try rw[Exit.noGoto_ret]
    go_ret2
    exact⟨_,by rw[E.out];try rfl,by rw[E.out];exact H8.bG (λO _=>aA.none_ O _)⟩
end
section
open Go.Shelf
def zM(s:bp):Bool:=decide (s.s<0)||decide ((s.p.length:Int)<s.s)
def kC(l:List bp):Option (List Nat):=if l.any zM=true then none else eN l PZ
theorem Fe(I:aH):∀(l:List eH),l.length<=100->(∀x∈l,RL x)->CI I l
 |[],_,_=>Pu I
 |x::r,h,a=>Np I x r (by simp at h;omega) (a x acy) (Fe I r (by simp at h;omega) (λy E=>a y (by simp[E])))
theorem UE(x:eH)(w:World)(h:St I w L):
 Calls prog 48 (#[.agg #[iU x.s.t,.slice x.pA x.s.p.length x.pc,iI x.s.s,.slice x.kA x.s.k.length x.kc]]++ #[]) w λe O=>e= .returned (.bool (zM x.s))/\St I O L:=by
 have Z:=h.alloc 131 #[iU x.s.t,.slice x.pA x.s.p.length x.pc,iI x.s.s,.slice x.kA x.s.k.length x.kc];have P:=(Z.ah 0 rfl).cell 1;have o:=(Z.ah 0 rfl).cell 2;have H:=aa Z;clear h Z;obtain⟨d1,G⟩:∃d1,decide (x.s.s<0)=d1:=⟨_,rfl⟩;obtain⟨d2,D⟩:∃d2,decide ((x.s.p.length:Int)<x.s.s)=d2:=⟨_,rfl⟩;have C:=aa (show zM x.s=(d1||d2)by unfold zM;rw[G,D]);generalize y:x.s.p.length=m at*;clear y
 go_enter func48,ntmps48
 exact aeZ
theorem qm(A:OA)(n c:Nat)(l:List eH)(w:World)(C:l.length<=100)(P:∀x∈l,wS x.s)(h:St I w (aB 4 lH (.slice A n c) l::L)):
 Calls prog 28 #[.slice A n c] w λe O=>∃v,e= .returned (.tuple #[v,.bool (kC (l.map eH.s)).isSome])/\St I O (ai .i64 v (um (kC (l.map eH.s)))::L):=by
 have H:=aa h;clear h
 go_enter func28,ntmps28
 go_wp2_with fail
 refine qK (Oy 48 #[] (λx=>zM x.s) l A n c w (enters_of func48 kR rfl) (by exact aU) (λx W _ S=>UE x W S) H) λX h=>?_
 cases B:l.any (λx=>zM x.s)with
 |true=>
  have E:=aa (show kC (l.map eH.s)=none by unfold kC;rw[List.any_map,iP (by exact B)]);have H:=aa h.tail;clear h B
  go_wp2_with fail
  go_ret2
  exact⟨_,by rw[E.out];try rfl,by rw[E.out];exact H.bG (λO _=>aA.none_ O _)⟩
 |false=>
  have E:=aa (show kC (l.map eH.s)=eN (l.map eH.s) PZ by unfold kC;rw[List.any_map,iN (by rw[show(zM∘eH.s)=(λx=>zM x.s)from rfl,B];exact gV)]);have y:=aa (Fe I l C (λx J=>by
   have K:=XQ.1 B x J;simp only[zM,Mo,decide_eq_true_eq,not_or,Int.not_lt]at K;exact⟨P x J,K.1,K.2⟩))
  have H:=aa ((h.bG (R:=λw=>∀j,j<4->aA w .u8 sN (PZ j)) (λO _ j _=>aA.none_ O _)).swap);clear h B P
  go_wp2_with fail
  refine(y L A n c (λ_=>⟨none,0,0⟩) PZ _ (λj x J=>by simp[PZ]at J) H).mono ?_;rintro e G⟨v,rfl,M⟩;rw[<-E.out]at M⊢;obtain⟨q,d⟩:=nM (kC (l.map eH.s));rw[<-d]at M⊢;refine bm M d λN Y=>?_;clear M d
  go_wp2_with fail
  go_ret2
  exact⟨_,by rw[<-Y.out];try rfl,by rw[<-Y.out];exact N.out⟩
end
theorem GG(v u:Value)(T R:LI)(w:World)(Q M:Nat->Prop)(J:ZY w Q .i64 v T)(E:ZY w M .i64 u R):
 Calls prog 30 #[v,u] w λe O=>e= .returned (.bool (decide (T=R)))/\Fr iY w O:=by
 obtain⟨A,A0,rfl,C,z⟩:=J;obtain⟨gw,B0,rfl,H,I⟩:=E;refine bm z I λg K=>?_;clear z I;by_cases l:T.length=R.length
 ·have b:=aa l
  rw[<-l];generalize d:T.length=n at C;have o:=aa d;clear d l H
  go_enter func30,ntmps30
  go_wp2
  go_loopw [5] (λi wr=>∃k:Nat,k<=n/\i= iI k/\T.take k=R.take k/\∃q,wr=w.drewN q) (λi _=>n-(intOf i).toNat)
  case atStart=>exact⟨0,jG _,rfl,rfl,0,rfl⟩
  case round=>
   obtain⟨k,hk,rfl,W,q,rfl⟩:=hrel;have D:=aa W;clear W;by_cases V:k<n
   ·have Z:k<T.length:=by rw[o.out];exact V
    have t:k<R.length:=by rw[<-b.out];exact Z
    obtain⟨U,x,rfl,_,_,j,G⟩:=Sl.at_ g Z;obtain⟨c,y,rfl,_,_,a,P⟩:=Sl.at_ K t;rw[wO,gP Z]at j;rw[wO,gP t]at a;obtain rfl: iI T[k]=x:=by injection j
    obtain rfl: iI R[k]=y:=by injection a
    generalize F:T[k]=X at G;generalize L:R[k]=Y at P;refine bm F L λr N=>?_;clear F L j a;by_cases p:X=Y
    ·subst p
     go_wp2
     go_quiet (fail)
     go_wp2
     go_roundw
     case rel=>exact⟨k+1,oM,by go_num,DW Z t D (r.trans N.symm),_,rfl⟩
     case measure=>exact aeI
    ·have B:=OC p
     go_wp2
     go_quiet (fail)
     go_wp2
     go_ret
     refine⟨?_,by repeat(first|exact Fr.refl _ _|refine Fr.drewN ?_ _)⟩;rw[dQ (by rintro rfl;exact p (r.out.symm.trans N.out))]
     rfl
   ·go_wp2
    go_ret
    refine⟨?_,by repeat(first|exact Fr.refl _ _|refine Fr.drewN ?_ _)⟩;have S:T=R:=by
     have h:=D.out;rwa[nS (by rw[o.out];omega),nS (by rw[<-b.out,o.out];omega)]at h
    rw[dZ S]
    rfl
 ·have B:((T.length:Int) !=(R.length:Int))=true:=by rw[bne_iff_ne];omega
  have b:=aa l;clear l g K
  go_enter func30,ntmps30
  go_wp2
  go_ret
  refine⟨?_,Fr.refl _ _⟩;rw[dQ (by rintro rfl;exact b.out rfl)]
  rfl
section
open Go.Shelf
def Kt(b:LI):List bp:=[⟨1,[⟨0,[97]⟩,⟨0,[98]⟩],1,[]⟩,⟨2,[],0,[⟨0,0,b⟩]⟩]
theorem JV(S:OA)(m d:Nat)(b:LI)(w:World)(h:St I w (ai .u8 (.slice S m d) b::L)):
 Calls prog 29 #[.slice S m d] w λe O=>∃(a:OA) (c:Nat) (l:List eH),e= .returned (.slice a 2 c)/\l.map eH.s=Kt b/\l.length=2/\St I O (aB 4 lH (.slice a 2 c) l::L):=by
 have V:=(h.pK 5 .u8 [97] dC w.heap.size rfl).pK 5 .u8 [98] dC (w.heap.size+1) acy;have M:=(V.swap.ku (Q:=λO=>∀p∈[([Value.int .i64 0,.slice (aO w.heap.size) 1 1],(⟨0,[97]⟩:fj)),([Value.int .i64 0,.slice (some ⟨w.heap.size+1,0,none⟩) 1 1],⟨0,[98]⟩)],iE O p.1 p.2) (λO Z V p o=>by
  simp only[nO,nK,or_false]at o;rcases o with rfl|rfl
  ·exact⟨_,rfl,Z⟩
  ·exact⟨_,rfl,V⟩)).uT (size:=2) (R:=iE) _ 136 acL acy (w.heap.size+1+1) acy
 obtain⟨i,P⟩:=M.vm;have F:=((P.nP (.cells #[iU 1,.slice (some ⟨w.heap.size+1+1,0,none⟩) 2 2,iI 1,sN] 131)).swap.bu (R':=λO=>∀p∈[([Value.int .i64 0,iI 0,.slice S m d],(⟨0,0,b⟩:mG))],gD O p.1 p.2) (λO Z p o=>by
  simp only[nO,nK,or_false]at o;rcases o with rfl;exact⟨_,rfl,Z⟩)).uT (size:=3) (R:=gD) _ 138 (by intro p o;simp only[nO,nK,or_false]at o;rcases o with rfl;rfl) acy (w.heap.size+1+1+1+1) acy
 obtain⟨g,G⟩:=F.vm;have j:=(G.ku (Q:=λO=>∀p∈[([Value.int .u64 1,.slice (some ⟨w.heap.size+1+1,0,none⟩) 2 2,iI 1,sN],(⟨⟨1,[⟨0,[97]⟩,⟨0,[98]⟩],1,[]⟩,some ⟨w.heap.size+1+1,0,none⟩,2,i,none,0,λ_=>[]⟩:eH)),([Value.int .u64 2,sN,iI 0,.slice (some ⟨w.heap.size+1+1+1+1,0,none⟩) 1 1],(⟨⟨2,[],0,[⟨0,0,b⟩]⟩,none,0,λ_=>[],some ⟨w.heap.size+1+1+1+1,0,none⟩,1,g⟩:eH))],lH O p.1 p.2) (λO Z V p o=>by
  simp only[nO,nK,or_false]at o;rcases o with rfl|rfl
  ·exact⟨rfl,V,bF.none_ _ _ _ _⟩
  ·exact⟨rfl,bF.none_ _ _ _ _,Z⟩)).uT (size:=4) (R:=lH) _ 131 acL acy (w.heap.size+1+1+1+1+1) acy
 have H:=aa j;clear h V M P F G j
 go_enter func29,ntmps29
 go_wp2_with fail
 go_ret
 exact⟨_,_,rfl,_,rfl,rfl,H⟩
end
section
open Go.Shelf
theorem zA(v u:Value)(T R:LI)(w:World)(J:aA w .i64 v T)(E:aA w .i64 u R)(b:T.length<=100000)(g:R.length<=100000)(h:St I w L):
 Rt I w 30 #[v,u] (.bool (decide (T=R))) L:=by
 obtain⟨A,c,rfl,C,y,U⟩:=J;obtain⟨S,d,rfl,H,i,k⟩:=E;exact(GG _ _ T R w Any Any ⟨A,c,rfl,oM,U⟩ ⟨S,d,rfl,oM,k⟩).mono (λe O ⟨Y,a⟩=>⟨Y,h.grow a⟩)
theorem DX{b:LI}(B:AM b){l:List eH}(C:l.map eH.s=Kt b):∀x∈l,wS x.s:=by
 intro x J;have:x.s∈Kt b:=by rw[<-C];exact List.mem_map_of_mem J
 simp only[Kt,nO,nK,or_false]at this;rcases this with e|e<;>rw[e]
 ·exact⟨by intro y E;simp only[nO,nK,or_false]at E;rcases E with rfl|rfl<;>(intro z G;simp at G;subst G;omega),by intro y E;simp at E,by simp⟩
 ·exact⟨by intro y E;simp at E,by intro y E;simp only[nO,nK,or_false]at E;rcases E with rfl;exact B,by simp⟩
theorem Vv:kC (Kt [97])=some [1,0]:=by rfl
theorem SH:kC (Kt [98])=some [2,0]:=by rfl
theorem Tr:kC (Kt [])=none:=by rfl
theorem rU(w:World)(h:St I w L):
 Rt I w 14 #[] (.bool true) L:=by
 have H:=aa (h.pK 5 .u8 [97] dC w.heap.size rfl);clear h
 go_enter func14,ntmps14
 go_wp2_with fail
 refine(JV _ 1 1 [97] _ H).mono ?_;rintro e t⟨k,Y,g,rfl,c,W,Z⟩;have r:=aa Z;clear Z H
 go_wp2_with fail
 refine(qm k 2 Y g _ oM (DX (by intro z G;simp at G;subst G;omega) c) r).mono ?_;rintro e X⟨p,rfl,V⟩;rw[c,Vv]at V⊢;have T:=aa (V.pK 5 .u8 [98] dC X.heap.size rfl);clear V r c W
 go_wp2_with fail
 refine(JV _ 1 1 [98] _ T).mono ?_;rintro e w3⟨n,q,E,rfl,y,o,M⟩;have N:=aa M;clear M T
 go_wp2_with fail
 refine(qm n 2 q E _ oM (DX (by intro z G;simp at G;subst G;omega) y) N).mono ?_;rintro e w4⟨x,rfl,Q⟩;rw[y,SH]at Q⊢;have d:=aa (Q.bG (R:=λw=>aA w .u8 sN []) (λO _=>aA.none_ O _));clear Q N y o
 go_wp2_with fail
 refine(JV _ 0 0 [] _ d).mono ?_;rintro e w5⟨A,u,J,rfl,i,b,F⟩;have K:=aa F;clear F d
 go_wp2_with fail
 refine(qm A 2 u J _ oM (DX (by intro z G;simp at G) i) K).mono ?_;rintro e U⟨a,rfl,P⟩;rw[i,Tr]at P⊢;have D:=aa (P.tail.pK 3 .i64 [1,0] dC U.heap.size rfl);clear P K i b
 go_wp2_with fail
 refine qK (zA p _ [1,0] [1,0] _ (D.get 2 rfl) (D.get 0 rfl) dC dC D) λl j=>?_;have B:=aa (j.pK 3 .i64 [2,0] dC l.heap.size rfl);clear j D
 go_wp2_with fail
 refine qK (zA x _ [2,0] [2,0] _ (B.get 2 rfl) (B.get 0 rfl) dC dC B) λw8 S=>?_;have C:=aa (S.pk 4 []);clear S B
 go_wp2_with fail
 go_ret
 exact⟨rfl,C⟩
end
end Go.Proofs.YtblpaldggenbaaaGreatDoor
