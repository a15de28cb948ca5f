/- A part. -/
import Derived.Test.YtblpaldggenbaaaGreatDoorMh
import Derived.Test.YtblpaldggenbaaaGreatDoorMe
namespace Go.Proofs.YtblpaldggenbaaaGreatDoor
open Go.RowKit Go.Proofs.Tryz
set_option maxRecDepth 100000
set_option maxHeartbeats 64000000
variable{A:OA}
section
open Go.Shelf
variable {cx:CX}
def By(j wr:List PU)(r i:Int):Int:=if wr.any (cF r i)=true then 1 else li j wr r i
def oV(j wr:List PU)(p:PU):List PU:=if wr.any (cF p.region p.index)=true then j else mr j wr p
theorem UH{I:aK}{L:List az}(g:Nat)(j wr:List PU)(r i:Int)(E:OA)(t D:Nat)(data:LI)(w:World)(F:j.length<=1000000)(y:data.length<=140737488355328)(h:St I w (ai .u8 (.slice E t D) data::ak cx g j wr::L)):
 Rt I w 71 #[.pointer (some ⟨g,20,none⟩),.agg #[iI r,iI i],.slice E t D] (iI (By j wr r i)) (ak cx g (oV j wr ⟨r,i,data⟩) wr::L):=by
 have Z:=h.alloc 166 #[iI r,iI i];have U:=(Z.ah 0 rfl).cell 0;have R:=(Z.ah 0 rfl).cell 1;refine iG (Z.pk 3 [2,0,1]) y F λH l p=>?_;clear h Z y F
 go_enter func71,ntmps71
 go_wp2_with fail
 refine qK (QI g j wr r i _ H) λX G=>?_;clear H U R;have U:=(G.ah 1 rfl).cell 0;have R:=(G.ah 1 rfl).cell 1;have N:=aa G;clear G
 cases M:wr.any (cF r i)with
 |true=>
  have c:=aa (show By j wr r i=1 by unfold By;rw[iP M]);have a:=aa (show oV j wr ⟨r,i,data⟩=j by unfold oV;exact iP M);have K:=aa (N.pk 3 [0]);clear N
  go_wp2_with fail
  go_ret
  exact⟨by rw[c.out];try rfl,by rw[a.out];exact K.out⟩
 |false=>
  have c:=aa (show By j wr r i=li j wr r i by unfold By;rw[iN (by rw[M];exact iu)]);have a:=aa (show oV j wr ⟨r,i,data⟩=mr j wr ⟨r,i,data⟩by unfold oV;exact iN (by rw[M];exact iu));have K:=aa (N.pk 3 [2,0]);clear N
  go_wp2_with fail
  refine qH (RI g j wr r i E t D data _ p l K) λY q=>?_;clear K U R
  go_wp2_with fail
  go_ret
  exact⟨by rw[c.out];try rfl,by rw[a.out];exact q.out⟩
end
section
open Go.Shelf
variable {cx:CX}
def lZ(j:List PU)(r i:Int):List PU:=if 0<=gu (cF r i) 0 j then j.eraseIdx (gu (cF r i) 0 j).toNat++(j[(gu (cF r i) 0 j).toNat]?).toList else j
def rv(j:List PU)(r i:Int):LI:=if 0<=gu (cF r i) 0 j then((j[(gu (cF r i) 0 j).toNat]?).map PU.data).getD []else []
theorem GH{I:aK}{L:List az}(g:Nat)(j wr:List PU)(r i:Int)(w:World)(F:j.length<=1000000)(u:∀x∈j,x.data.length<=140737488355328)(h:St I w (ak cx g j wr::L)):
 Calls prog 67 #[.pointer (some ⟨g,20,none⟩),.agg #[iI r,iI i]] w λe O=>∃v,e= .returned (.tuple #[v,.bool (decide (0<=gu (cF r i) 0 j))])/\St I O (ai .u8 v (rv j r i)::ak cx g (lZ j r i) wr::L):=by
 have Z:=h.alloc 166 #[iI r,iI i];have y0:=(Z.ah 0 rfl).cell 0;have y1:=(Z.ah 0 rfl).cell 1;have H:=aa (Z.pk 2 [1]);clear h Z
 go_enter func67,ntmps67
 go_wp2_with fail
 refine qH (Kf g j wr r i _ H) λw2 N=>?_;clear H y0 y1;rcases jW (cF r i) j 0 with⟨Q,_⟩|⟨k,x,Q,J,_⟩
 ·have l:=aa (show lZ j r i=j by unfold lZ;rw[Q,iN oM])
  have y:=aa (show rv j r i=[]by unfold rv;rw[Q,iN oM]);have t:=aa (show decide (0<=gu (cF r i) 0 j)=false by rw[Q];rfl);rw[Q];clear Q
  go_wp2_with fail
  go_ret2
  exact⟨sN,by rw[t.out];try rfl,by rw[l.out,y.out];exact N.bH (λO _=>ay.none_ O _)⟩
 ·rw[xS]at Q
  have l:=aa (show lZ j r i=j.eraseIdx k++[x]by unfold lZ;simp only[Q];rw[iP oM,rE,J];rfl);have y:=aa (show rv j r i=x.data by unfold rv;simp only[Q];rw[iP oM,rE,J];rfl);have t:=aa (show decide (0<=gu (cF r i) 0 j)=true by rw[Q];exact decide_eq_true (by omega));have D0:x.data.length<=140737488355328:=u x (qP J);have P:=aa J;rw[Q];clear Q J u;have k0:(0:Int)<=(k:Int):=oM
  have k1:¬(k:Int)<0:=oM
  have k2:decide ((k:Int)<0)=false:=dQ k1
  go_wp2_with fail
  refine qK (Qh g j wr k x _ P F N) λw3 M=>?_;obtain⟨q,d⟩:=nM ((j.eraseIdx k).length);obtain⟨A3,n,B3,d3,A,_,C0,_,S⟩:=M.nI;obtain⟨m,p⟩:=nM ((j.eraseIdx k++[x]).length);have A0:m=q+1:=by rw[p,dB,d];rfl
  have B0:q<=1000000:=by
   have:=zdc j k;omega
  rw[<-p]at S A;have c:(j.eraseIdx k++[x])[q]? =some x:=by rw[d,OB (io _),Sm];rfl
  obtain⟨T,cs,rfl,_,D,⟨v,rfl,o⟩,-,U⟩:=(S.pk 3 [1,0,2]).GF oM c;obtain⟨X,a,rfl,_,_,_⟩:=id o;obtain⟨e0,e1,C⟩:=pW D;have b:=(U.ah 2 rfl).cell 20;refine iG U d p λV HQ HM=>?_;have m0:(0:Int)<=(q:Int):=oM
  have m1:(q:Int)<(m:Int):=oM
  have m2:IntKind.i64.wrap ((m:Int)-1)=(q:Int):=by rw[IntWalk.i64_in _ oM];omega
  clear d p A0 B0 A M S U o D c e0 e1 N F
  go_wp2_with fail
  refine fP 13 kR kR (λW R=> ?_);have G:=aa (V.drew);rw[<-R]at G;have x1:W.cell? (aD g 20)=some (.slice (some T) m n):=by rw[R];exact b
  have e3:W.cell? ⟨(T.add (q*3)).block,(T.add (q*3)).off+2,none⟩=some (.slice X x.data.length a):=by rw[R];exact C
  clear R V b C;simp only[IE,Hd,NC,Bg]
  repeat still_step
  try refine wpStill_nil ?_
  have Y:=(G.bC (R':=λO=>ay O .u8 (.slice X x.data.length a) x.data) (λO hp=>by
   obtain⟨v,o,hi⟩:=hp;simp only[Oy,and_true,true_and]at o;rw[o];exact hi))
  have B:=ef X x.data.length a x.data W (Y.get 0 rfl).sl.2.2.2 oM Y;have K:=aa B;clear Y B G x1 e3
  go_wp2_with fail
  refine K.mono ?_;rintro e w5⟨v5,rfl,E⟩;have z:=aa (E.ints.pk 5 [0,3,2,4]);clear E K
  go_wp2_with fail
  go_ret2
  refine⟨v5,by rw[t.out];try rfl,?_⟩;rw[l.out,y.out];exact(z.pk 4 [1,2,3,0]).gV.swap
end
section
open Go.Shelf
variable {cx:CX}
def US(y:Nat)(a b d:Value)(W:World):Prop:=W.cell? (aD y 0)=some a/\W.cell? (aD y 1)=some b/\W.cell? (aD y 2)=some d
theorem ug{I:aK}{W:World}{c:List az}{y:Nat}{a b d:Value}(h:St I W c)(j:Nat)(H:c[j]? =some (ab y 213 #[a,b,d])):US y a b d W:=
 ⟨(h.ah j H).cell 0,(h.ah j H).cell 1,(h.ah j H).cell 2⟩
def ao(r:Int)(x:PU):Bool:=x.region==r
theorem sB{I:aK}{L:List az}(g:Nat)(j B:List PU)(r:Int)(w:World)(hl:B.length<=1000000)(hd:∀x∈B,x.data.length<=1000000)(h:St I w (ak cx g j B::L)):
 Calls prog 72 #[.pointer (some ⟨g,20,none⟩),iI r] w λe O=>∃v,e= .returned v/\St I O (aB 213 3 bV v (B.filter (ao r))::ak cx g j B::L):=by
 obtain⟨A,B0,gw,d,_,E0,_,M0,Z⟩:=h.nI;obtain⟨n,W⟩:=nM (B.length);rw[<-W]at Z E0;have x0:=(Z.ah 0 rfl).cell 21;have b:=aa W;have O0:n<=1000000:=oM
 refine bq hd ((Z.eU 213 3 bV).pk 4 [0,3,1,2]) λHD H=>?_;clear h Z W hl hd E0
 go_enter func72,ntmps72
 go_wp2_with fail
 go_loopg [5,13] n (λgh v i wr=>∃(k:Nat) (C:OA) (q e:Nat),gh=n-k/\k<=n/\v= .slice C q e/\i= iI (k:Nat)/\q=((B.take k).filter (ao r)).length/\St I wr (aB 213 3 bV (.slice C q e) ((B.take k).filter (ao r))::aB 213 3 bV (.slice gw n d) B::ab g 75 (cH cx (.slice A j.length B0) (.slice gw n d))::aB 213 3 bV (.slice A j.length B0) j::L))
 case atStart=>exact⟨0,none,0,0,rfl,oM,rfl,rfl,rfl,H⟩
 case round=>
  clear H x0;obtain⟨k,C,q,e,hg,hk,rfl,rfl,K,h⟩:=hrel;have D:=aa hg;clear hg;by_cases F0:k<n
  ·have J:=g7 (l:=B) (i:=k) (by rw[<-b.out];exact F0)
   generalize B[k]'(by rw[<-b.out];exact F0)=x at J;have ht:B.take (k+1)=B.take k++[x]:=by rw[JU,J];rfl
   obtain⟨ad,cs,rfl,_,D0,⟨v,rfl,o⟩,-,Z⟩:=h.swap.GF oM J;obtain⟨X,a,rfl,_,_,_⟩:=id o;obtain⟨e0,e1,e2⟩:=pW D0;refine iG Z ht K λF HT c=>?_;have P0:q<=1000000:=by
    have:=Xd (ao r) (B.take k);rw[fV]at this;omega
   have N0:x.data.length<=1000000:=HD.out x (qP J);have i0:(0:Int)<=(k:Int):=oM
   have i1:(k:Int)<(n:Int):=oM
   clear h Z ht K J o D0;by_cases U:x.region=r
   ·have b1:(x.region==r)=true:=Bl U
    have V:(B.take (k+1)).filter (ao r)=(B.take k).filter (ao r)++[x]:=by rw[HT.out,Xn];simp[ao,U]
    have E:=aa V;clear V U
    go_wp2_with fail
    have G:=F.alloc 213 #[iI x.region,iI x.index,.slice X x.data.length a];generalize wr.heap.size=y at G⊢;have N:=aa G;clear G F e0 e1 e2;generalize wr.alloc _=w3 at N⊢;refine bT (US y (iI x.region) (iI x.index) (.slice X x.data.length a)) 9 (rG 5) [5,6,7,8,9] kR kR (λd=>by cases d<;>exact λ_ _ _ _ h=>h) (λA0 R=> ?_);have p:=aa (N.drew);rw[<-R]at p;clear R N;refine⟨ug p 0 rfl,?_⟩
    iterate 5 (refine bJ rfl rfl (λA0 R=>by(obtain⟨y0,y1,y2⟩:=R;go_simp;try rfl)) ?_;simp only[aW])
    refine take_nil ?_;have M:=(p.copy 1 rfl).bC (R':=λO=>ay O .u8 (.slice X x.data.length a) x.data) (λO hp=>by
     obtain⟨v,o,u⟩:=hp;simp only[Oy,and_true,true_and]at o;rw[o];exact u)
    refine fm (f:=23) (args:= #[.slice X x.data.length a]) rfl rfl gS ?_;refine(ef X x.data.length a x.data A0 (M.get 0 rfl).sl.2.2.2 oM M).mono ?_;rintro e w4⟨v4,rfl,S⟩;obtain⟨T,Q,rfl⟩:=S.slice;refine⟨_,rfl,λ_=>ug S 2 rfl,?_⟩;simp only[aW];refine bF rfl rfl gS (λ_=>ug S 2 rfl) ?_;simp only[aW];have t:=S.ints.alloc 213 #[iI x.region,iI x.index,.slice T x.data.length Q];refine bY rfl rfl 67 1 0 _ (.agg #[iI x.region,iI x.index,.slice T x.data.length Q]) rfl rfl (mQ _ _ _ _ _ _) (λ_=>ug t 3 rfl) ?_;simp only[aW];generalize w4.heap.size=z at t⊢;generalize w4.alloc _=w5 at t⊢;have h6:=(t.swap.bC (R':=λO=>bV O [iI x.region,iI x.index,.slice T x.data.length Q] x) (λO u=>⟨_,rfl,u⟩)).pk 9 [6,1,0,3,5,7,8];clear M S t p;obtain⟨L0,G0,I0,Y⟩:=h6.cu;refine qb jx Y rfl rfl _ _ rfl rfl (aO z) 1 1 rfl [iI x.region,iI x.index,.slice T x.data.length Q] (uk (cs:=[iI x.region,iI x.index,.slice T x.data.length Q]) (Y.ah 2 rfl)) (sJ _ _ _ _ _) oM oM (λA6 c6 w7 P=>⟨λ_=>ug P 4 rfl,?_⟩);simp only[aW];have C0:=(P.pk 8 [0,1,3,5,6,7]).fS G0 rfl I0;have J0:=aa C0;clear h6 Y P C0 G0 I0;refine bF rfl rfl gS nD ?_;simp only[aW];refine cD ?_
    go_wp2_with fail
    go_roundg (n-(k+1))
    case measure=>have:=D.out;omega
    case rel=>exact⟨k+1,A6,q+1,c6,rfl,oM,rfl,by go_num,by rw[E.out,dB,<-c.out];rfl,by rw[E.out];exact J0.out⟩
   ·have b1:(x.region==r)=false:=jM U
    have V:(B.take (k+1)).filter (ao r)=(B.take k).filter (ao r):=by rw[HT.out,Xn];simp[ao,U]
    have E:=aa V;clear V
    go_wp2_with fail
    go_roundg (n-(k+1))
    case measure=>have:=D.out;omega
    case rel=>exact⟨k+1,C,q,e,rfl,oM,rfl,by go_num,by rw[E.out];exact c,by rw[E.out];exact((F.tail.swap).oH _)⟩
  ·obtain rfl:k=n:=oM
   have H0:B.take k=B:=oJ abZ;rw[H0]at h;have K0:=b.out;have H:=aa (h.pk 4 [0,2,3,1]);clear h H0 K K0
   go_wp2_with fail
   go_ret
   exact⟨.slice C q e,rfl,(H.pk 4 [1,2,3,0]).gV.swap⟩
end
section
open Go.Shelf
theorem MH{I:aK}{L:Type}(T:L->List az)(f:FuncId)(D:Vq)(p:L->PU->Bool×L)(J:L)(l:List PU)(A:OA)(n c:Nat)(w:World)
 (g:∀(args:Vq) (W:World),Sem.run prog (callFunc f args) W= .ok (.enter f args) W)
 (hF:∀(X:az) (s:L) (x:PU) (v:Value) (W:World),x∈l->St I W (X::T s)->Calls prog f (#[tP x v]++D) W λe K=>e= .returned (.bool (p s x).1)/\St I K (X::T (p s x).2))
 (h:St I w (aB 213 3 bV (.slice A n c) l::T J)):
 Rt I w 159 #[.slice A n c,.func (.func f) #[] D] (iI (jA p J 0 l).1) (aB 213 3 bV (.slice A n c) l::T (jA p J 0 l).2):=by
 obtain⟨A',c',e,hc,y⟩:=h.eT;injection e with u Y q;subst u;subst q;have b:=aa Y;have B0:n<=c:=oM
 have A0:(c:Int)<=9223372036854775807:=by unfold maxLen at y;omega
 refine nK h hF g (show jA p J 0 l=jA p J 0 (l.drop 0)from rfl) λH Z M j=>?_;clear h Y hF g y hc
 go_enter func159,ntmps159
 go_wp2_with fail
 go_loopg [8] n (λU i wr=>∃(k:Nat) (s:L),U=n-k/\k<=n/\i= iI (k:Nat)/\jA p J 0 l=jA p s k (l.drop k)/\St I wr (aB 213 3 bV (.slice A n c) l::T s))
 case atStart=>exact⟨0,J,rfl,oM,rfl,j.out,H⟩
 case round=>
  clear H j;obtain⟨k,s,C,hk,rfl,z,h⟩:=hrel;have Q:=aa C;clear C;by_cases t:k<n
  ·have B:=g7 (l:=l) (i:=k) abO
   have G:=IQ (l:=l) (i:=k) abO;generalize l[k]' abO=x at B G;have V:jA p s k (l.drop k)=if(p s x).1=true then((k:Int),(p s x).2)else jA p (p s x).2 (k+1) (l.drop (k+1)):=by rw[G];rfl
   have r:=aa (qP B);obtain⟨ad,cs,rfl,_,a,⟨v,rfl,o⟩,-,h1⟩:=h.GF oM B;obtain⟨R,d,rfl,_,_,_⟩:=id o;obtain⟨S,u,Y⟩:=pW a;refine bq (z.trans V) h λO F=>?_;clear B h h1 o a G V z;have i0:(0:Int)<=(k:Int):=oM
   have i1:(k:Int)<(n:Int):=oM
   go_wp2_with fail
   rw[M.out,Oper.upon_enter];refine qH (Z _ s x (.slice R x.data.length d) _ r F) λw2 N=>?_;clear F S u Y
   cases P:(p s x).1 with
   |true=>
    exact ad6
   |false=>
    have E:=aa (O.trans (iN acx))
    go_wp2_with fail
    go_roundg (n-(k+1))
    case measure=>exact ab6
    case rel=>exact⟨k+1,(p s x).2,rfl,oM,by go_num,E,N⟩
  ·exact adB
theorem MP{L:Type}(p:L->PU->Bool×L)(l:List PU):∀(s:L) (i:Nat),((jA p s i l).1= -1/\eL p s l=l/\qC p s l=(jA p s i l).2)\/
 ∃k,k<l.length/\(jA p s i l).1=((i+k:Nat):Int)/\eL p s l=l.take k++eL p (jA p s i l).2 (l.drop (k+1))/\qC p s l=qC p (jA p s i l).2 (l.drop (k+1)):=by
 induction l with
 |nil=>exact λs i=> .inl ⟨rfl,rfl,rfl⟩
 |cons x r K=>
  intro s i
  cases P:(p s x).1 with
  |true=>
   have e:jA p s i (x::r)=((i:Int),(p s x).2):=by simp[jA,P]
   rw[e];exact .inr ⟨0,by simp,by simp,by simp[eL,P],rfl⟩
  |false=>
   have e:jA p s i (x::r)=jA p (p s x).2 (i+1) r:=by simp[jA,P]
   have d:eL p s (x::r)=x::eL p (p s x).2 r:=by simp[eL,P]
   rw[e,d];rcases K (p s x).2 (i+1)with⟨Z,G,M⟩|⟨k,Q,Z,G,M⟩
   ·exact .inl ⟨Z,by rw[G],M⟩
   ·refine .inr ⟨k+1,by simp;omega,by rw[Z];omega,?_,M⟩
    rw[G]
    rfl
section
variable {α:Type} {I:aK} {w:World} {L:List az} {e:TypeId} {size:Nat} {R:World->LV->α->Prop}
theorem St.zAt{b n c j:Nat}{C:List (LV×α)}{K:LV}{x:α}(h:St I w (ct e size (.slice (aO b) n c) n (cm C)::bj (Er R C)::L))(V:sized size C)(o:C[j]? =some (K,x)):
 K.length=size/\R w K x/\∀q u,K[q]? =some u->w.cell? ⟨b,j*size+q,none⟩=some u:=by
 have p:=qP o;refine⟨V _ p,h.get 1 rfl _ p,λq u y=> ?_⟩;have a:=zz C V j (K,x) o;have d:=(nQ.1 y).1;rw[show K=((cm C).drop (j*size)).take size from a.symm,AW,iP (by rw[<-V _ p];exact d),zU]at y;have:=(h.row 0 rfl).cells (g:=b) rfl _ u y;rwa[show(⟨b,0,none⟩:Addr).add (j*size+q)=⟨b,j*size+q,none⟩by(generalize j*size+q=m;simp[Addr.add];exact UQ)]at this
theorem St.Wa{b n c j:Nat}{C:List (LV×α)}(h:St I w (ct e size (.slice (aO b) n c) n (cm C)::L))(H:j<n):w.there b (j*size) size:=by
 have B:(j+1)*size<=n*size:=vz _ H;rw[xh,Eh]at B;exact iX (h.row 0 rfl) (j*size) size oM
theorem St.aak{b n c i:Nat}{C:List (LV×α)}{K:LV}{x:α}(h:St I w (ct e size (.slice (aO b) n c) n (cm C)::bj (Er R C)::bj (λw=>R w K x)::L))(V:sized size C)(D:K.length=size)(z:i<n)(W:C.length=n):
 sized size (C.set i (K,x))/\St I (w.setCells b (i*size) K) (ct e size (.slice (aO b) n c) n (cm (C.set i (K,x)))::bj (Er R (C.set i (K,x)))::L):=by
 have B:(i+1)*size<=n*size:=vz _ z;rw[xh,Eh]at B;have G:=h.pf (i*size) K oM;have u:=qv C [(K,x)] V (λp P=>by
  obtain rfl:p=(K,x):=by simpa using P
  exact D) i abS
 rw[show cm [(K,x)]=K by simp[cm],zd C i (K,x) oM]at u;rw[u]at G;refine⟨λp P=> ?_,(G.sX.oY (Q:=Er R (C.set i (K,x))) (λO Z G p P=> ?_)).swap⟩
 ·rcases Zj P with P|rfl
  ·exact V p P
  ·exact D
 ·rcases Zj P with P|rfl
  ·exact Z p P
  ·exact G
end
theorem Qa{α:Type}(C:List α)(i:Nat)(z:α)(h:i<C.length):(C.set i z).take (i+1)=C.take i++[z]:=by
 rw[JU,zdh oM,Zo (io i)]
 rfl
theorem CI{I:aK}{L:Type}(T:L->List az)(f:FuncId)(C0:Vq)(p:L->PU->Bool×L)(J:L)(l:List PU)(A:OA)(n c:Nat)(w:World)
 (hC:∀(args:Vq) (W:World),Sem.run prog (callFunc f args) W= .ok (.enter f args) W)
 (hF:∀(X:az) (s:L) (x:PU) (v:Value) (W:World),x∈l->St I W (X::T s)->Calls prog f (#[tP x v]++C0) W λe W'=>e= .returned (.bool (p s x).1)/\St I W' (X::T (p s x).2))
 (h:St I w (aB 213 3 bV (.slice A n c) l::T J)):
 Calls prog 101 #[.slice A n c,.func (.func f) #[] C0] w λe O=>∃v,e= .returned v/\St I O (aB 213 3 bV v (eL p J l)::T (qC p J l)):=by
 have D:=aa (MH T f C0 p J l A n c w hC hF h);obtain⟨A',c',e,hc,hm⟩:=h.eT;injection e with e1 e2 e3;subst e1;subst e3;have R:=aa e2;have Y0:n<=c:=oM
 have X0:(c:Int)<=9223372036854775807:=by unfold maxLen at hm;omega
 refine bq hF hC λHF HC=>?_;have G:=MP p l J 0;generalize jA p J 0 l=z at D G;obtain⟨z1,z2⟩:=z;have G:(z1= -1/\eL p J l=l/\qC p J l=z2)\/∃k,k<l.length/\z1=((0+k:Nat):Int)/\eL p J l=l.take k++eL p z2 (l.drop (k+1))/\qC p J l=qC p z2 (l.drop (k+1)):=G;have D:Hid (Calls prog 159 #[.slice A n c,.func (.func f) #[] C0] w λe O=>e= .returned (iI z1)/\St I O (aB 213 3 bV (.slice A n c) l::T z2)):=D;clear h e2 hF hC hm hc;rcases G with⟨rfl,a,F⟩|⟨k,P0,I0,a,F⟩
 ·have r:=aa a
  have S:=aa F;clear a F
  go_enter func101,ntmps101
  go_wp2_with fail
  refine qH D λw2 H=>?_;clear D
  go_wp2_with fail
  go_ret
  exact⟨_,rfl,by rw[r.out,S.out];exact H.out⟩
 ·rw[xS]at I0
  subst I0;refine bq a F λr S=>?_;have Q0:k<n:=by have:=R.out;omega
  have k0:(0:Int)<=(k:Int):=oM
  have U0:((k:Int)== -1)=false:=jM oM;obtain⟨j,N⟩:=nM (k+1);have jw:IntKind.i64.wrap ((k:Int)+1)=(j:Int):=by rw[N,IntWalk.i64_in _ oM];omega
  have HJ:=aa N;clear a F P0 N
  go_enter func101,ntmps101
  go_wp2_with fail
  refine qK D λw2 h=>?_;obtain⟨C,o,hn,hs,Z⟩:=h.Kp;obtain⟨b,rfl⟩:=iE (Z.row 0 rfl) oM;refine nK o hn hs Z λHZ E G H=>?_;clear h Z D hn hs o
  go_wp2_with fail
  go_loopg [5,6] (n-j) (λgh v V0 wr=>∃(i j:Nat) (s:L) (C:List (LV×PU)),gh=n-j/\i<j/\j<=n/\v= iI (i:Nat)/\V0= iI (j:Nat)/\C.length=n/\sized 3 C/\(C.drop j).map Prod.snd=l.drop j/\
   eL p J l=(C.take i).map Prod.snd++eL p s (l.drop j)/\qC p J l=qC p s (l.drop j)/\St I wr (ct 213 3 (.slice (aO b) n c) n (cm C)::bj (Er bV C)::T s))
  case atStart=>
   have N:=HJ.out;refine⟨k,j,z2,C,rfl,oM,oM,rfl,rfl,E.symm,G,by rw[WN,HZ.out],?_,?_,H⟩
   ·rw[r.out,UO,HZ.out,N]
   ·rw[S.out,N]
  case round=>
   clear H HZ E G r S HJ jw k0 U0 Q0;clear C;obtain⟨i,j,s,C,hg,E0,N,rfl,rfl,B,hs,o,g,V,h⟩:=hrel;refine iG hg hs B λHG G E=>?_;have i0:(0:Int)<=(i:Int):=oM
   have j0:(0:Int)<=(j:Int):=oM
   clear hg hs;by_cases t:j<n
   ·have i1:(i:Int)<(n:Int):=oM
    have j1:(j:Int)<(n:Int):=oM
    have hx:=g7 (l:=l) (i:=j) aca;have Q:=IQ (l:=l) (i:=j) aca;generalize l[j]' aca=x at hx Q;have A0:=g7 (l:=C) (i:=j) (by rw[B];exact t);have F0:=IQ (l:=C) (i:=j) (by rw[B];exact t);generalize C[j]'(by rw[B];exact t)=z at A0 F0;obtain⟨cs,q⟩:=z;have B0:=o;rw[Q,F0,nG]at B0;injection B0 with T0 B0;subst T0;obtain⟨H0,⟨v,rfl,hv⟩,D0⟩:=h.zAt G A0;obtain⟨X,xc,rfl,_,_,_⟩:=id hv;have e0:wr.cell? ⟨b,j*3,none⟩=some (iI q.region):=D0 0 _ rfl;have e1:wr.cell? ⟨b,j*3+1,none⟩=some (iI q.index):=D0 1 _ rfl;have e2:wr.cell? ⟨b,j*3+2,none⟩=some (.slice X q.data.length xc):=D0 2 _ rfl;have J0:eL p s (l.drop j)=if(p s q).1=true then eL p (p s q).2 (l.drop (j+1))else q::eL p (p s q).2 (l.drop (j+1)):=by rw[Q];rfl
    have K0:qC p s (l.drop j)=qC p (p s q).2 (l.drop (j+1)):=by rw[Q];rfl
    refine nK (qP hx) A0 B0 (g.trans (congrArg _ J0)) λHM W0 G0 HK=>?_;refine iG (V.trans K0) h ((h.copy 1 rfl).bC (R':=λO=>bV O [iI q.region,iI q.index,.slice X q.data.length xc] q) (λO P=>P _ (qP A0))) λHL H H1=>?_;clear hx Q A0 F0 o B0 H0 hv D0 J0 K0 g V h H B
    go_wp2_with fail
    have M:=(H1.alloc 213 #[iI q.region,iI q.index,.slice X q.data.length xc]).pk 4 [2,3,1,0];generalize wr.heap.size=y at M⊢;have Y:=(M.sX.aM.swap.aM).swap.aM;have K:=aa Y;clear M Y H1 e0 e1 e2;generalize wr.alloc _=w3 at K⊢;rw[HC.out,Oper.upon_enter];refine qK (HF _ s q (.slice X q.data.length xc) _ HM K) λw4 u=>?_;have U:=u.star.swap.star.swap.star.pk 4 [2,0,1,3];clear u K;have jw:IntKind.i64.wrap ((j:Int)+1)=((j+1:Nat):Int):=by rw[IntWalk.i64_in _ oM];omega
    cases P:(p s q).1 with
    |true=>
     refine bq (HK.trans (by rw[iP P])) (U.pk 4 [0,1]) λr H5=>?_;clear U HK
     go_wp2_with fail
     go_roundg (n-(j+1))
     case measure=>exact adi
     case rel=>exact⟨i,j+1,(p s q).2,C,rfl,oM,oM,rfl,by go_num,E,G,G0,r,HL,H5⟩
    |false=>
     have r:=aa (HK.trans (by rw[iN acx]));have y0:=(U.ah 3 rfl).cell 0;have y1:=(U.ah 3 rfl).cell 1;have y2:=(U.ah 3 rfl).cell 2;have iw:IntKind.i64.wrap ((i:Int)+1)=((i+1:Nat):Int):=by rw[IntWalk.i64_in _ oM];omega
     have S0:=sZ w4 b (i*3) (U.Wa oM) q.region q.index X q.data.length xc;obtain⟨M0,h6⟩:=U.aak (i:=i) G rfl oM E;refine iG (h6.pk 3 [0,1]) M0 E0 λH6 N0 d=>?_;clear U h6 M0 HK
     go_wp2_with (refine Bs 213 rfl rfl rfl rfl S0 ?_)
     go_roundg (n-(j+1))
     case measure=>exact adi
     case rel=>exact⟨i+1,j+1,(p s q).2,_,rfl,by have:=d.out;omega,oM,by go_num,by go_num,by rw[Yj];exact E,N0,by rw[ZI acf];exact G0,by
      rw[r.out,Qa _ _ _ (by have:=E.out;omega),yu,pI];rfl,HL,H6⟩
   ·obtain rfl:j=n:=oM
    have i1:(i:Int)<(j:Int):=oM
    have q1:(i:Int)<=(j:Int):=oM
    have q2:(i:Int)<=(c:Int):=oM
    have q3:¬c=i:=oM
    have q4:(j:Int)<=(c:Int):=oM
    have R0:l.drop j=[]:=UK (by rw[<-R.out];exact io _);rw[R0]at g V;refine iG (g.trans (xd _)) (V.trans (show qC p s []=s from rfl)) E0 λr S d=>?_;obtain⟨w3,ys,L0,hy,Y⟩:=St.pA jx FK dC h i j (c-i) ⟨b,i*3,none⟩ (λ_=>rfl) oM oM;have H0:=L0 0;refine bq Y hy λK HY=>?_;clear h L0 hy Y g V E0 o B
    go_wp2_with fail
    go_ret
    refine⟨_,rfl,?_⟩;rw[r.out,S.out];have u:=K.vi (m:=i) acf;have e:(bm (cm C) (i*3) ys).take (i*3)=cm (C.take i):=by
     have Z:=d.out;have M:=E.out;unfold bm;rw[nB C G.out i oM,pI,XA];rw[kH _ (G.out.take i),fV,Hc oM]
    rw[e]at u;refine(u.swap.bC (λO O0 p P=>O0 p (TH P))).swap.OU (G.take i) rfl ?_;have Z:=d.out;have M:=E.out;exact ab5
end
section
open Go.Shelf
variable {cx:CX}
def gR(r:Int)(n:Nat)(y:PU):Bool×Nat:=if(y.region==r&&decide (0<n))=true then(true,n-1)else(false,n)
theorem Pd{I:aK}{X:az}{L:List az}(b J:Nat)(r:Int)(n:Nat)(y:PU)(v:Value)(w:World)(h:St I w (X::kd (n<=1000000)::ab b 3 #[iI r]::ab J 3 #[iI n]::L)):
 Rt I w 165 #[tP y v,pO b,pO J] (.bool (gR r n y).1) (X::kd ((gR r n y).2<=1000000)::ab b 3 #[iI r]::ab J 3 #[iI (gR r n y).2]::L):=by
 obtain⟨a,k,i⟩:=y;have W:=h.swap.xl.1;have Z:=h.alloc 213 #[iI a,iI k,v];have U:=(Z.ah 0 rfl).cell 0;have D:=(Z.ah 3 rfl).cell 0;have c:=(Z.ah 4 rfl).cell 0;have f:=(Z.ah 4 rfl).frozen;by_cases u:a=r
 ·by_cases Y:0<n
  ·have C:gR r n ⟨a,k,i⟩=(true,n-1):=by simp[gR,u,Y]
   rw[C];have S:(a==r)=true:=Bl u;have P:decide ((0:Int)<(n:Int))=true:=decide_eq_true (by omega);have G:decide ((n:Int)>0)=true:=P;have M:IntKind.i64.wrap ((n:Int)-1)=((n-1:Nat):Int):=by rw[IntWalk.i64_in _ oM];omega
   refine bq (((Z.pk 5 [4,1,2,3]).bE 0 (iI (n-1:Nat))).pk 4 [1,3,0]) (show n-1<=1000000 by omega) λH R=>?_;clear h Z u C
   go_enter func165,ntmps165
   go_wp2_with fail
   go_ret
   exact⟨rfl,(H.ul R).swap⟩
  ·have C:gR r n ⟨a,k,i⟩=(false,n):=by simp[gR,Y]
   rw[C];have S:(a==r)=true:=Bl u;have P:decide ((0:Int)<(n:Int))=false:=decide_eq_false (by omega);have G:decide ((n:Int)>0)=false:=P;exact afn
 ·have C:gR r n ⟨a,k,i⟩=(false,n):=by simp[gR,u]
  rw[C];have S:(a==r)=false:=jM u;exact afn
theorem Gi{I:aK}{X:az}{L:List az}(b:Nat)(r:Int)(y:PU)(v:Value)(w:World)(h:St I w (X::ab b 3 #[iI r]::L)):
 Rt I w 100 #[tP y v,pO b] (.bool (ao r y)) (X::ab b 3 #[iI r]::L):=by
 obtain⟨a,k,i⟩:=y;have Z:=h.alloc 213 #[iI a,iI k,v];have U:=(Z.ah 0 rfl).cell 0;have D:=(Z.ah 2 rfl).cell 0;have H:=aa Z.tail;clear h Z;by_cases u:a=r
 ·have S:(a==r)=true:=Bl u
  have C:ao r ⟨a,k,i⟩=true:=S;exact afq
 ·have S:(a==r)=false:=jM u
  have C:ao r ⟨a,k,i⟩=false:=S;exact afq
def YR(B:List PU)(r n:Int):Prop:=n<0\/n>((B.filter (ao r)).length:Nat)
instance(ws:List PU)(r n:Int):Decidable (YR ws r n):=inferInstanceAs (Decidable (_\/_))
def WW(B:List PU)(r n:Int):Int:=if YR B r n then 1 else 0
def ND(B:List PU)(r n:Int):List PU:=if YR B r n then B else eL (gR r) n.toNat B
def flS(u J:Nat)(r n:Int)(W:World):Prop:=W.cell? (aD u 0)=some (iI r)/\W.cell? (aD J 0)=some (iI n)
theorem tG{I:aK}{W:World}{c:List az}{u J:Nat}{r n:Int}(h:St I W c)(i j:Nat)(z:c[i]? =some (ab u 3 #[iI r]))(H:c[j]? =some (ab J 3 #[iI n])):flS u J r n W:=
 ⟨(h.ah i z).cell 0,(h.ah j H).cell 0⟩
theorem AD{I:aK}{L:List az}(g:Nat)(j B:List PU)(r n:Int)(w:World)(F:B.length<=1000000)(C:∀x∈B,x.data.length<=1000000)(h:St I w (ak cx g j B::L)):
 Rt I w 108 #[.pointer (some ⟨g,20,none⟩),iI r,iI n] (iI (WW B r n)) (ak cx g j (ND B r n)::L):=by
 have Z:=(h.alloc 3 #[iI r]).alloc 3 #[iI n];rw[World.size_alloc]at Z;refine bq F C λp l=>?_;clear h F C
 go_enter func108,ntmps108
 go_wp2_with fail
 have H:=aa Z;clear Z;generalize World.alloc _ _=w1 at H⊢;generalize w.heap.size+1=b2 at*;generalize w.heap.size=b1 at*;by_cases y:n<0
 ·have o:Hid (WW B r n=1):=iP (.inl y)
  have i:Hid (ND B r n=B):=iP (.inl y);have c1:decide (n<0)=true:=dZ y;refine IV (λW=>St I W (ab b2 3 #[iI n]::ab b1 3 #[iI r]::ak cx g j B::L)) (rG 10) rfl kR kR H.drew ?_
  iterate 3 (refine Kk rfl rfl (λW J=>by(have a:=(J.ah 0 rfl).cell 0;have O:=(J.ah 1 rfl).cell 0;clear J;go_simp;try rfl)) ?_;simp only[aW])
  iterate 6 (refine PT rfl gS ?_;simp only[aW])
  refine Kk (v:= .bool true) rfl rfl (λW J=>by(clear J;go_simp;try rfl)) ?_;simp only[aW];refine TX (λW J=> ?_);have N:=aa J;clear J H
  go_wp2_with fail
  go_ret
  exact⟨by rw[o.out];try rfl,by rw[i.out];exact N.tail.tail⟩
 ·obtain⟨m,rfl⟩:∃m:Nat,n=(m:Int):=⟨n.toNat,oM⟩
  have m0:(0:Int)<=(m:Int):=oM
  have c1:decide ((m:Int)<0)=false:=dQ y;obtain⟨k,E⟩:=nM ((B.filter (ao r)).length);have o:=aa (show WW B r m=if k<m then 1 else 0 by
   by_cases t:k<m
   ·rw[iP t];exact iP (.inr oM)
   ·rw[iN t];exact iN (λe=>by rcases e with e|e<;>omega))
  have i:=aa (show ND B r m=if k<m then B else eL (gR r) m B by
   by_cases t:k<m
   ·rw[iP t];exact iP (.inr oM)
   ·rw[iN t];exact iN (λe=>by rcases e with e|e<;>omega))
  have B0:k<=1000000:=by
   have:=Xd (ao r) B;have:=p.out;omega
  have D:=aa E;clear E y;refine bT (flS b1 b2 r m) 10 (rG 6) [6,7,8,9] kR kR (λd=>by cases d<;>exact λ_ _ _ _ h=>h) (λW J=> ?_);have Q:=aa (H.drew);rw[<-J]at Q;clear J H;refine⟨tG Q 1 0 rfl rfl,?_⟩
  iterate 3 (refine bJ rfl rfl (λW J=>by(obtain⟨a,O⟩:=J;go_simp;try rfl)) ?_;simp only[aW])
  iterate 3 (refine Dc rfl gS (λW J=>by(obtain⟨a,O⟩:=J;go_simp;try rfl)) ?_;simp only[aW])
  refine take_nil ?_;have Y:=Q.pk 3 [2,0,1];refine rj (f:=72) (args:= #[.pointer (some ⟨g,20,none⟩),iI r]) rfl gS gS ?_;refine(sB g j B r W p l Y).mono ?_;rintro e w4⟨v,rfl,M⟩;obtain⟨A3,G,rfl,A0,C0⟩:=M.eT;rw[<-D.out]at A0;rw[<-D.out];refine⟨_,rfl,λ_=>tG M 3 2 rfl rfl,?_⟩;simp only[aW];have K:=aa M;clear Y M Q;refine lT rfl gS gS (λ_=>tG K 3 2 rfl rfl) ?_;simp only[aW];by_cases t:k<m
  ·have P:decide ((m:Int)>(k:Int))=true:=decide_eq_true (by omega)
   have G:decide ((k:Int)<(m:Int))=true:=P;rw[iP t]at o i;refine lT (v:= .bool true) rfl gS gS (λ_=>tG K 3 2 rfl rfl) ?_;simp only[aW];refine bF (v:= .bool true) rfl rfl gS (λ_=>tG K 3 2 rfl rfl) ?_;simp only[aW];refine cD ?_
   go_wp2_with fail
   go_ret
   exact⟨by rw[o.out];try rfl,by rw[i.out];exact K.tail.pick 3 [0]⟩
  ·have P:decide ((m:Int)>(k:Int))=false:=decide_eq_false (by omega)
   have G:decide ((k:Int)<(m:Int))=false:=P;rw[iN t]at o i;refine lT (v:= .bool false) rfl gS gS (λ_=>tG K 3 2 rfl rfl) ?_;simp only[aW];refine bF (v:= .bool false) rfl rfl gS (λ_=>tG K 3 2 rfl rfl) ?_;simp only[aW];refine cD ?_;obtain⟨A,c,R,d,_,_,_,_,S⟩:=K.out.tail.nI;have T:=(S.ah 0 rfl).cell 21;have q:=aa ((S.pk 5 [2,4,3,0,1]));have V:=aa ((q.ul (show m<=1000000 by omega)).swap);clear S q K
   go_wp2_with fail
   refine(CI (λn:Nat=>kd (n<=1000000)::ab b1 3 #[iI r]::ab b2 3 #[iI n]::ab g 75 (cH cx (.slice A j.length c) (.slice R B.length d))::aB 213 3 bV (.slice A j.length c) j::L) 165 #[pO b1,pO b2] (gR r) m B R B.length d _ (enters_of func165 kR rfl) (λX s x v W _ J=>Pd b1 b2 r s x v W J) V).mono ?_;rintro e w5⟨v5,rfl,U⟩;obtain⟨z,c5,rfl,_,_⟩:=U.eT;generalize(eL (gR r) m B).length=q5 at*;have u:=U.swap.xl.2.pk 5 [3,0,4];clear U V T;have T:=(u.ah 0 rfl).cell 21;have f:=(u.ah 0 rfl).frozen;have b:=aa ((u.bE 21 (.slice z q5 c5)).pk 3 [0,2,1]);clear u
   go_wp2_with fail
   go_ret
   exact⟨by rw[o.out];try rfl,by rw[i.out];exact b.gV⟩
theorem Av(p:PU->Bool)(l:List PU):eL (λ(_:Unit) x=>(p x,())) () l=l.filter (λx=> !p x):=by
 induction l with
 |nil=>rfl
 |cons x r K=>cases P:p x<;>simp[eL,P,K]
theorem DF{I:aK}{L:List az}(g:Nat)(j B:List PU)(r:Int)(w:World)(D:B.length<=1000000)(E:∀x∈B,x.data.length<=1000000)(h:St I w (ak cx g j B::L)):
 Calls prog 63 #[.pointer (some ⟨g,20,none⟩),iI r] w λe O=>∃v,e= .returned v/\St I O (aB 213 3 bV v (B.filter (ao r))::ak cx g (j.filter (λx=> !ao r x)) (B.filter (λx=> !ao r x))::L):=by
 have Z:=h.alloc 3 #[iI r];have o:=(Z.ah 0 rfl).cell 0;refine iG D E Z.swap λY l H=>?_;clear h D E Z
 go_enter func63,ntmps63
 go_wp2_with fail
 refine(sB g j B r _ Y l H).mono ?_;rintro e w2⟨v,rfl,J⟩;clear o H;obtain⟨P,V,rfl,_,_⟩:=J.eT;generalize(B.filter (ao r)).length=q2 at*;obtain⟨A,c,Q,d,_,_,_,_,K⟩:=J.swap.nI;generalize w.heap.size=y at*;have S:=K.pk 5 [2,4,0,1,3];have o:=(S.ah 1 rfl).cell 0;have C:=(S.ah 2 rfl).cell 21;have q:=aa S;clear J K S
 go_wp2_with fail
 have b:=λM W h=>CI (I:=M) (λ_:Unit=>ab y 3 #[iI r]::ab g 75 (cH cx (.slice A j.length c) (.slice Q B.length d))::aB 213 3 bV (.slice A j.length c) j::aB 213 3 bV (.slice P q2 V) (B.filter (ao r))::L) 100 #[pO y] (λ_ x=>(ao r x,())) () B Q B.length d W (enters_of func100 kR rfl) (λX _ x v W _ R=>Gi y r x v W R) h;refine(b _ _ q).mono ?_;clear b;rintro e w3⟨n,rfl,U⟩;rw[Av]at U;obtain⟨a,G,rfl,_,_⟩:=U.eT;generalize(B.filter (λx=> !ao r x)).length=q3 at*;clear q C o;have u:=U.pk 5 [2,0,3,1,4];have C:=(u.ah 0 rfl).cell 21;have N:=(u.ah 0 rfl).cell 20;have f:=(u.ah 0 rfl).frozen;have T:=aa ((u.bE 21 (.slice a q3 G)).pk 5 [2,3,0,1,4]);clear U u
 go_wp2_with fail
 clear C N f;generalize World.setCell _ _ _=w4 at T⊢;have F:=λM W h=>CI (I:=M) (λ_:Unit=>ab y 3 #[iI r]::ab g 75 (cH cx (.slice A j.length c) (.slice a q3 G))::aB 213 3 bV (.slice a q3 G) (B.filter (λx=> !ao r x))::aB 213 3 bV (.slice P q2 V) (B.filter (ao r))::L) 100 #[pO y] (λ_ x=>(ao r x,())) () j A j.length c W (enters_of func100 kR rfl) (λX _ x v W _ R=>Gi y r x v W R) h;refine(F _ _ T).mono ?_;clear F;rintro e w5⟨v5,rfl,i⟩;rw[Av]at i;obtain⟨z,t,rfl,_,_⟩:=i.eT;generalize(j.filter (λx=> !ao r x)).length=q5 at*;clear T;have p:=i.pk 5 [2,0,3,4];have C:=(p.ah 0 rfl).cell 20;have f:=(p.ah 0 rfl).frozen;have k:=aa (p.bE 20 (.slice z q5 t));clear i p
 go_wp2_with fail
 go_ret
 exact⟨_,rfl,k.gV.swap⟩
end
section
open Go.Shelf
variable {cx:CX}
def PW(B:List PU)(r:Int)(data:LI):Int:=if 23<data.length then 2 else if 12<=(B.filter (ao r)).length then 42 else 0
def Dy(j B:List PU)(p:PU):Int:=if PW B p.region p.data=0 then li j B p.region p.index else PW B p.region p.data
def ya(j B:List PU)(p:PU):List PU:=if PW B p.region p.data=0 then mr j B p else j
def Az(j B:List PU)(p:PU):List PU:=if Dy j B p=0 then B++[p]else B
def wrS(y g:Nat)(r i:Int)(v:Value)(W:World):Prop:=W.cell? (aD y 0)=some (iI r)/\W.cell? (aD y 1)=some (iI i)/\W.cell? (aD g 21)=some v
theorem yR{I:aK}{W:World}{c:List az}{y g:Nat}{r i:Int}{u v:Value}(h:St I W c)(j k:Nat)(H:c[j]? =some (ab y 166 #[iI r,iI i]))(Q:c[k]? =some (ab g 75 (cH cx u v))):wrS y g r i v W:=
 ⟨(h.ah j H).cell 0,(h.ah j H).cell 1,(h.ah k Q).cell 21⟩
theorem Ub(j B:List PU)(r i:Int):li j B r i=0\/li j B r i=42:=by
 unfold li
 split
 ·exact adH
 ·split
  ·split
   ·exact .inr rfl
   ·exact adH
  ·exact adH
theorem LX{I:aK}{L:List az}(g:Nat)(j B:List PU)(r i:Int)(E:OA)(t D:Nat)(data:LI)(w:World)(D0:j.length<=1000000)(hl:B.length<=1000000)(hd:∀x∈B,x.data.length<=1000000)(h:St I w (ai .u8 (.slice E t D) data::ak cx g j B::L)):
 Rt I w 66 #[.pointer (some ⟨g,20,none⟩),.agg #[iI r,iI i],.slice E t D] (iI (Dy j B ⟨r,i,data⟩)) (ak cx g (ya j B ⟨r,i,data⟩) (Az j B ⟨r,i,data⟩)::L):=by
 have k:t=data.length:=(h.get 0 rfl).sl.1;have Z:=h.alloc 166 #[iI r,iI i];generalize hy:w.heap.size=y at Z;have J:=(Z.ah 0 rfl).cell 0;have X:=(Z.ah 0 rfl).cell 1;refine AS (Z.pk 3 [2,0,1]) hl hd D0 k λH HL HD HB H0=>?_;clear h Z hl hd D0;by_cases M0:23<t
 ·have R:PW B r data=2:=iP oM
  have c:=aa (show Dy j B ⟨r,i,data⟩=2 by unfold Dy;simp only[R];rfl);have o:=aa (show ya j B ⟨r,i,data⟩=j by unfold ya;simp only[R];rfl);have a:=aa (show Az j B ⟨r,i,data⟩=B by unfold Az;rw[c.out];rfl);have l:decide ((t:Int)>23)=true:=decide_eq_true (by omega);have c2:decide ((23:Int)<(t:Int))=true:=l;clear R k hy
  go_enter func66,ntmps66
  go_wp2_with fail
  go_ret
  exact⟨by rw[c.out];try rfl,by rw[o.out,a.out];exact H.pick 3 [0]⟩
 ·have l:decide ((t:Int)>23)=false:=decide_eq_false (by omega)
  have c2:decide ((23:Int)<(t:Int))=false:=l;have O0:t<=1000000:=oM
  have hX:PW B r data=if 12<=(B.filter (ao r)).length then 42 else 0:=iN oM;have M:=aa hX;clear hX k
  go_enter func66,ntmps66
  go_wp2_with fail
  refine(sB g j B r _ HL HD H).mono ?_;rintro e w2⟨v,rfl,G⟩;obtain⟨A2,L0,rfl,I0,N0⟩:=G.eT;obtain⟨C,P⟩:=nM ((B.filter (ao r)).length);rw[<-P]at I0 G M;rw[<-P];have J:=(G.ah 2 rfl).cell 0;have X:=(G.ah 2 rfl).cell 1;refine bq (G.pk 4 [3,1,2]) P λN HQ=>?_;clear G H P;by_cases E0:12<=C
  ·have O:decide ((C:Int)≥12)=true:=decide_eq_true (by omega)
   have Q:decide ((12:Int)<=(C:Int))=true:=O;have R:PW B r data=42:=by rw[M.out,iP E0]
   have c:=aa (show Dy j B ⟨r,i,data⟩=42 by unfold Dy;simp only[R];rfl);have o:=aa (show ya j B ⟨r,i,data⟩=j by unfold ya;simp only[R];rfl);have a:=aa (show Az j B ⟨r,i,data⟩=B by unfold Az;rw[c.out];rfl);clear R
   go_wp2_with fail
   go_ret
   exact⟨by rw[c.out];try rfl,by rw[o.out,a.out];exact N.pick 3 [1]⟩
  ·have O:decide ((C:Int)≥12)=false:=decide_eq_false (by omega)
   have Q:decide ((12:Int)<=(C:Int))=false:=O;have R:PW B r data=0:=by rw[M.out,iN E0]
   have o:=aa (show ya j B ⟨r,i,data⟩=mr j B ⟨r,i,data⟩by unfold ya;simp only[R];rfl);have c:=aa (show Dy j B ⟨r,i,data⟩=li j B r i by unfold Dy;simp only[R];rfl);have HI:=aa (N.copy 0 rfl);clear R N
   go_wp2_with fail
   have h3:=(HI.pk 4 [0,2,1,3]);refine qK (RI g j B r i E t D data _ HB (by have:=H0.out;omega) h3) λw3 S=>?_;clear h3 HI J X;have J:=(S.ah 2 rfl).cell 0;have X:=(S.ah 2 rfl).cell 1;have q:=aa S;clear S;rcases Ub j B r i with Y|Y
   ·have a:=aa (show Az j B ⟨r,i,data⟩=B++[⟨r,i,data⟩]by unfold Az;rw[c.out,Y];rfl)
    rw[Y]at c;rw[Y];clear Y
    go_wp2_with fail
    obtain⟨A,K0,gw,d,_,_,_,_,U⟩:=q.out.nI;obtain⟨n,hn⟩:=nM (B.length);rw[<-hn]at U;have P0:n<=1000000:=by have:=HL.out;omega
    have V:=aa U;clear U q J X hn;refine bT (wrS y g r i (.slice gw n d)) 11 (rG 7) [7,8,9,10,11,12,13] kR kR (λd=>by cases d<;>exact λ_ _ _ _ h=>h) (λC0 u=> ?_);have p:=aa (V.drew);rw[<-u]at p;clear u V;refine⟨yR p 4 0 rfl rfl,?_⟩
    iterate 7 (refine bJ rfl rfl (λC0 u=>by(obtain⟨J,X,x0⟩:=u;go_simp;try rfl)) ?_;simp only[aW])
    refine take_nil ?_;refine fm (f:=23) (args:= #[.slice E t D]) rfl rfl gS ?_;refine(ef E t D data C0 (p.get 3 rfl).sl.2.2.2 oM p).mono ?_;rintro e w4⟨v4,rfl,S⟩;obtain⟨T,Q,rfl⟩:=S.slice;refine⟨_,rfl,λ_=>yR S 5 1 rfl rfl,?_⟩;simp only[aW];refine bF rfl rfl gS (λ_=>yR S 5 1 rfl rfl) ?_;simp only[aW];have U:=S.ints.alloc 213 #[iI r,iI i,.slice T t Q];refine bY rfl rfl 67 1 0 _ (.agg #[iI r,iI i,.slice T t Q]) rfl rfl (mQ _ _ _ _ _ _) (λ_=>yR U 6 2 rfl rfl) ?_;simp only[aW];generalize w4.heap.size=z at U⊢;generalize w4.alloc _=w5 at U⊢;have h6:=(U.swap.bC (R':=λB0=>bV B0 [iI r,iI i,.slice T t Q] ⟨r,i,data⟩) (λB0 hi=>⟨_,rfl,hi⟩)).pk 7 [4,1,0,2,3,6];clear S U p;obtain⟨J0,P,F0,W⟩:=h6.cu;refine qb jx W rfl rfl _ _ rfl rfl (aO z) 1 1 rfl [iI r,iI i,.slice T t Q] (uk (cs:=[iI r,iI i,.slice T t Q]) (W.ah 2 rfl)) (sJ _ _ _ _ _) oM oM (λF c6 w7 b=>⟨λ_=>yR b 6 4 rfl rfl,?_⟩);simp only[aW];have K:=(b.pk 7 [0,1,3,4,5]).fS P rfl F0;have x0:=(K.ah 1 rfl).cell 21;have f:=(K.ah 1 rfl).frozen;have G0:=aa ((K.swap.bE 21 (.slice F (n+1) c6)).pk 3 [0,2,1]);clear h6 W b K P F0
    iterate 2 (refine bF rfl rfl gS nD ?_;simp only[aW])
    refine cE rfl rfl 67 _ _ (.pointer (some ⟨g,21,none⟩)) (.slice F (n+1) c6) rfl rfl rfl gS nD ?_;simp only[Act.put];refine cD ?_;clear x0 f
    go_wp2_with fail
    go_ret
    exact⟨by rw[c.out];try rfl,by rw[o.out,a.out];exact G0.gV⟩
   ·have a:=aa (show Az j B ⟨r,i,data⟩=B by unfold Az;rw[c.out,Y];rfl)
    rw[Y]at c;rw[Y];clear Y
    go_wp2_with fail
    go_ret
    exact⟨by rw[c.out];try rfl,by rw[o.out,a.out];exact q.pick 3 [0]⟩
end
section
def gN{α:Type}(C:α->LV)(size:Nat)(w:World)(v:Value)(xs:List α):Prop:=
 ∃A c,v= .slice A xs.length c/\xs.length<=c/\c<=maxLen/\Sl w Any size A xs.length (xs.flatMap C)
def nm{α:Type}(C:α->LV)(size:Nat)(v:Value)(xs:List α):az:=bj (λw=>gN C size w v xs)
def kJ{α:Type}(C:α->LV)(e:TypeId)(size:Nat)(v:Value)(xs:List α):az:=ct e size v xs.length (xs.flatMap C)
section
variable {α:Type} {C:α->LV} {size:Nat} {w:World} {xs:List α}
theorem sQ(F:∀x,(C x).length=size)(xs:List α):(xs.flatMap C).length=xs.length*size:=by
 induction xs with
 |nil=>exact abN
 |cons x r K=>rw[BA,dB,F,K,qR,xh,Eh,YW]
theorem GQ(F:∀x,(C x).length=size):∀(xs:List α) (k:Nat) (x:α),xs[k]? =some x->∀j,j<size->(xs.flatMap C)[k*size+j]? =(C x)[j]?
 |[],k,x,h=>by simp at h
 |y::r,0,x,h=>by
  obtain rfl:y=x:=by simpa using h
  intro j H;rw[BA,XJ,xS,TE (by rw[F];exact H)]
 |y::r,k+1,x,h=>by
  intro j H;rw[BA,OB (by rw[F,xh];omega),F,show(k+1)*size+j-size=k*size+j by rw[xh];omega];exact GQ F r k x ace j H
theorem Ct(F:∀x,(C x).length=size){x y:α}{u:Value}{j:Nat}(E:C y=(C x).set j u)(H:j<size):∀(xs:List α) (k:Nat),xs[k]? =some x->(xs.set k y).flatMap C=(xs.flatMap C).set (k*size+j) u
 |[],k,h=>by simp at h
 |z::r,0,h=>by
  obtain rfl:z=x:=by simpa using h
  rw[List.set_cons_zero,BA,BA,XJ,xS,List.set_append_left _ _ (by rw[F];exact H),E]
 |z::r,k+1,h=>by
  rw[List.set_cons_succ,BA,BA,zdi _ _ (by rw[F,xh];omega),F,show(k+1)*size+j-size=k*size+j by rw[xh];omega];rw[Ct F E H r k ace]
theorem IB(xs:List α)(x:α):(xs++[x]).flatMap C=xs.flatMap C++C x:=by simp
theorem od(xs:List α):cm (xs.map λx=>(C x,x))=xs.flatMap C:=by
 induction xs with
 |nil=>rfl
 |cons x r K=>rw[nG,BA,<-K];rfl
theorem qV(F:∀x,(C x).length=size)(xs:List α):sized size (xs.map λx=>(C x,x)):=by
 intro p P;obtain⟨x,_,rfl⟩:=um.1 P;exact F x
theorem sG(Z:∀x,∀u∈C x,u.oneCell'=true)(xs:List α):∀u∈xs.flatMap C,u.oneCell'=true:=by
 intro u y;obtain⟨x,_,y⟩:=List.mem_flatMap.1 y;exact Z x u y
theorem gN.none_(w:World):gN C size w sN []:=⟨none,0,rfl,by simp,by unfold maxLen;omega,Sl.PO _ _ _ _⟩
theorem gN.value{v:Value}(h:gN C size w v xs):∃A c,v= .slice A xs.length c/\xs.length<=c:=by
 obtain⟨A,c,e,Z,_⟩:=h;exact⟨A,c,e,Z⟩
theorem gN.sl{n c:Nat}(h:gN C size w (.slice A n c) xs):n=xs.length/\n<=c/\c<=9223372036854775807/\Sl w Any size A n (xs.flatMap C):=by
 exact aeh
theorem gN.at_(F:∀x,(C x).length=size){n c k:Nat}{x:α}(h:gN C size w (.slice A n c) xs)(Q:xs[k]? =some x):∃T,A=some T/\∀j u,(C x)[j]? =some u->w.cell? ((T.add (k*size)).add j)=some u:=by
 obtain⟨K,_,_,V⟩:=h.sl;have t:=(nQ.1 Q).1;obtain⟨T,e,_,_,D⟩:=V.2 oM;refine⟨T,e,λj u y=> ?_⟩;rw[eF];refine D _ u ?_;rw[GQ F xs k x Q j (by rw[<-F x];exact(nQ.1 y).1)];exact y
theorem gN.tail(F:∀x,(C x).length=size)(_hsz:0<size){A X:OA}{n c:Nat}{x:α}{r:List α}(h:gN C size w (.slice A n c) (x::r))(o:∀T,A=some T->c≠1->X=some (T.add size)):gN C size w (.slice X (n-1) (c-1)) r:=by
 obtain⟨K,Z,G,V⟩:=h.sl;have K:n=r.length+1:=K;subst K;refine⟨X,c-1,by simp,oM,by unfold maxLen;omega,sQ F r,λP=> ?_⟩;obtain⟨T,e,d,B,D⟩:=V.2 oM;refine⟨T.add size,o T e oM,trivial,by rw[fh];exact B,λj u y=> ?_⟩;rw[eF];refine D _ u ?_;rw[BA,OB (by rw[F];omega),F,zcs];exact y
end
section
variable {α:Type} {C:α->LV} {size:Nat} {I:aK} {w:World} {L R:List az} {e:TypeId} {v:Value} {xs:List α}
theorem St.jg(h:St I w L)(z:At (kJ C e size v xs) L R:=by exact aU):gN C size w v xs:=by
 obtain⟨m,p⟩:=z.idx;obtain⟨M,F,J,T⟩:=h.fact m p;have J:w.ownsRow 0 e size v xs.length (xs.flatMap C):=J.2;rcases J.2 with⟨rfl,K⟩|⟨g,cap,E,rfl,_,l,D,a,_⟩
 ·obtain rfl:xs=[]:=BJ K
  exact gN.none_ w
 ·exact ae3
theorem St.rZ(h:St I w L)(z:At (nm C size v xs) L R:=by exact aU):gN C size w v xs:=h.qq z
theorem St.PD(h:St I w L)(z:At (nm C size v xs) L R:=by exact aU):St I w (nm C size v xs::L):=h.jd z
theorem St.Dx(h:St I w (kJ C e size v xs::L)):St I w (nm C size v xs::L):=by
 refine(St.xZ h).bC (λO J=> ?_);rcases J.2 with⟨rfl,K⟩|⟨g,cap,E,rfl,_,l,D,a,_⟩
 ·obtain rfl:xs=[]:=BJ K
  exact gN.none_ O
 ·exact ae3
theorem St.Kh(h:St I w L)(C:α->LV)(size:Nat):St I w (nm C size sN []::L):=h.bH (λO _=>gN.none_ O)
theorem St.Jo(h:St I w L)(C:α->LV)(e:TypeId)(size:Nat):St I w (kJ C e size sN []::L):=h.mq e size
theorem St.oz{n c:Nat}(h:St I w (kJ C e size (.slice A n c) xs::L)):n=xs.length/\St I w (ct e size (.slice A n c) n (xs.flatMap C)::L):=by
 have K:=(h.jg At.here).sl.1;subst K;exact⟨rfl,h⟩
theorem St.lW{n:Nat}(h:St I w (ct e size v n (xs.flatMap C)::L))(W:n=xs.length):St I w (kJ C e size v xs::L):=by
 subst W;exact h
theorem St.Lf{n:Nat}{x:α}(h:St I w (ct e size v (n+1) (xs.flatMap C++C x)::L))(W:n=xs.length):St I w (kJ C e size v (xs++[x])::L):=by
 subst W;rw[<-IB]at h;exact h.lW abN
theorem St.Fl(F:∀x,(C x).length=size)(E:0<size){A A':OA}{n c:Nat}{x:α}{r:List α}(h:St I w L)(z:At (nm C size (.slice A n c) (x::r)) L R)(o:∀T,A=some T->c≠1->A'=some (T.add size)):St I w (nm C size (.slice A' (n-1) (c-1)) r::L):=
 (h.PD z).bC (λ_ M=>M.tail F E o)
theorem St.Wx(F:∀x,(C x).length=size){b n c k j:Nat}{x y:α}{u:Value}(h:St I w (kJ C e size (.slice (aO b) n c) xs::L))(Q:xs[k]? =some x)(H:j<size)(E:C y=(C x).set j u):
 St I (w.setCell ⟨b,k*size+j,none⟩ u) (kJ C e size (.slice (aO b) n c) (xs.set k y)::L)/\(w.cell? ⟨b,k*size+j,none⟩).isSome=true/\w.frozen? ⟨b,k*size+j,none⟩=false:=by
 obtain⟨K,Z⟩:=h.oz;have t:=(nQ.1 Q).1;have B:(k+1)*size<=n*size:=vz _ oM;rw[xh,Eh]at B;have G:=Z.pf (k*size+j) [u] abS;have R:=iX (Z.row 0 rfl) (k*size+j) 1 oM 0 oM;rw[yd]at R;refine⟨?_,R.1,R.2⟩;have Y:bm (xs.flatMap C) (k*size+j) [u]=(xs.set k y).flatMap C:=by
  rw[Ct F E H xs k Q];unfold bm;rw[zb2,iP (by rw[sQ F,<-K];omega)];exact abN
 rw[Y]at G;exact G.lW (by rw[Yj];exact K)
end
end
theorem St.Vc{α:Type}{I:aK}{w:World}{L:List az}{e:TypeId}{size:Nat}{R:World->LV->α->Prop}{n c:Nat}{xs:List α}(h:St I w (aB e size R (.slice A n c) xs::L))(Y:0<size){k:Nat}{x:α}(Q:xs[k]? =some x):
 ∃T K,A=some T/\K.length=size/\(∀j u,K[j]? =some u->w.cell? (T.add (k*size+j))=some u)/\R w K x/\n=xs.length/\St I w (bj (λO=>R O K x)::aB e size R (.slice A n c) xs::L):=by
 obtain⟨V,W,F,Z⟩:=h.cu;have r:=(nQ.1 Q).1;have B:(k+1)*size<=n*size:=vz _ oM;rw[xh,Eh]at B;have t:=Z.sl;have U:=Z.get 1 rfl k x Q;obtain⟨T,o,_,_,D⟩:=t.2 oM;refine⟨T,(V.drop (k*size)).take size,o,by rw[fV,km];omega,λj u y=> ?_,U,W,?_⟩
 ·refine D (k*size+j) u ?_
  exact aei
 ·have G:=(Z.copy 1 rfl).bC (R':=λO=>R O ((V.drop (k*size)).take size) x) (λO U=>U k x Q)
  have M:=G.sX;subst W;exact(St.eu (f:=λV=>aX (ct e size (.slice A xs.length c) xs.length V) (bj (λw=>∀(i:Nat) x,xs[i]? =some x->R w ((V.drop (i*size)).take size) x))) V M.aM).swap
def JM.all(J:JM):List (LI):=J.held.map Prod.snd
theorem Tu{I:aK}{L:List az}(g j:Nat)(J:JM)(w:World)(N:vV J)(h:St I w (jR g j J::L)):
 Calls prog 90 #[pO g] w λe O=>∃vs,e= .returned vs/\St I O (aG 1 dG vs J.all::jR g j J::L):=by
 obtain⟨A,c,Z⟩:=h.jO;obtain⟨W,Y,t,V,M,F⟩:=J;have hn:F.length<=100:=by have:=N.h0;have:=N.n0;simp only at*;omega
 have hb:∀x∈F,x.2.length<=43:=λx B=>(N.b0 x B).1;have E:Hid (JM.all ⟨W,Y,t,V,M,F⟩=F.map Prod.snd):=rfl;have Z:St I w (ab g 196 #[pO j,iI W,iI (Y:Nat),iW t,iW V,iW M,.slice A F.length c]::aB 262 2 fO (.slice A F.length c) F::L):=Z;have c6:=(Z.ah 0 rfl).cell 6;generalize d:F.length=n at*;refine iG d hb Z λb HB H=>?_;clear h Z N d hb
 go_enter func90,ntmps90
 go_wp2_with fail
 clear c6
 go_loopg [3,11] n (λgh out i wr=>∃k q X y,gh=n-k/\k<=n/\i= iI (k:Nat)/\out= .slice X q y/\q=k/\St I wr (aB 27 1 dG (.slice X q y) ((F.map Prod.snd).take k)::aB 262 2 fO (.slice A n c) F::ab g 196 #[pO j,iI W,iI (Y:Nat),iW t,iW V,iW M,.slice A n c]::L))
 case atStart=>exact⟨0,0,none,0,rfl,oM,rfl,rfl,rfl,(H.swap).eU 27 1 dG⟩
 case round=>
  obtain⟨k,q,X,y,hg,hk,rfl,rfl,d,h⟩:=hrel;have HG:=aa hg;clear hg H;by_cases A0:k<n
  ·have B:=g7 (l:=F) (i:=k) (by rw[b.out];exact A0)
   generalize F[k]'(by rw[b.out];exact A0)=x at B;obtain⟨T,cs,rfl,_,Q,⟨r,P,rfl,u⟩,hz,K⟩:=h.swap.Vc dC B;have D0:x.2.length<=43:=HB.out x (qP B);have D:(F.map Prod.snd)[k]? =some x.2:=by rw[zA,B];rfl
   obtain⟨xe,p⟩:=x;have k0:wr.cell? (T.add (k*2))=some (iW xe):=Q 0 _ rfl;have R:wr.cell? ((T.add (k*2)).add 1)=some (.slice r p.length P):=by rw[eF];exact Q 1 _ rfl
   have R:wr.cell? ⟨(T.add (k*2)).block,(T.add (k*2)).off+1,none⟩=some (.slice r p.length P):=R;have D0:p.length<=43:=D0;have D:(F.map Prod.snd)[k]? =some p:=D;have u:ay wr .u8 (.slice r p.length P) p:=u;have HX:=aa D;have K:=K.bC (R':=λO=>ay O .u8 (.slice r p.length P) p) (λO z=>by obtain⟨A9,c9,G,z⟩:=z;injection G with _ G;injection G with G _;rw[G];exact z);refine iG (λG0:Obj=>((K.oH G0).get 0 rfl).sl.2.2.2) d h λE0 o H=>?_;generalize B0:p.length=nx at*;have H0:=aa B0;clear B D Q h u d B0 K hz
   go_wp2_with fail
   refine(ef r nx P p _ (E0 _) oM (H.oH _)).mono ?_;rintro e w2⟨v2,rfl,h⟩;obtain⟨a,S,rfl⟩:=h.slice;obtain⟨I0,d,C0,C⟩:=(h.ints.swap).cu;refine bq (C.oH (.cells #[.slice a nx S] 27)) C0 λH3 F0=>?_;have J0:q<=1000:=by have:=o.out;omega
   clear h C d C0 k0 R H
   go_wp2_with (at_builtin;refine St.fj pz H3 rfl _ _ rfl rfl (aO w2.heap.size) 1 1 rfl [.slice a nx S] (ux _ _ _) acg oM oM ?_;intro A4 c4 w4 h4)
   go_roundg (n-(k+1))
   case measure=>exact adi
   case rel=>
    refine⟨k+1,q+1,A4,c4,rfl,oM,by go_num,rfl,by rw[o.out],?_⟩;rw[sk HX.out];have U:=(h4.tW.bC (R':=λO=>dG O [.slice a nx S] p) (λO z=>⟨_,rfl,z⟩));exact U.sX.fS (by rw[fV,qI,o.out,b.out];omega) rfl F0
  ·obtain rfl:k=n:=oM
   rw[oJ (by rw[qI,b.out];exact io _)]at h;refine bq h d λH o=>?_;clear h d
   go_wp2_with fail
   go_ret
   refine⟨_,rfl,?_⟩;rw[E.out];obtain⟨_,_,_,U⟩:=H.out.cu;have h6:=U.rows (by rw[qI,b.out];exact o.out);have h7:=h6.pk 3 [2,1,0];exact(St.zX b.symm h7).swap
section
open Go.Shelf
def JM.oN(J:JM)(b:LI):JM:={J with held:=J.held++[(J.ep,b)]}
def JM.wO(J:JM)(D:DS)(b:LI):Int:=D.eR (J.sec J.next) (aR J.next J.ep b)
def JM.CM(J:JM)(D:DS)(b:LI):DS:=D.write (J.sec J.next) (aR J.next J.ep b)
theorem KW{I:aK}{L:List az}(hT:kL I)(g j kk:Nat)(D:DS)(J:JM)(d:OA)(C S:Nat)(b:LI)(w:World)(hD:dE D kk)(Q0:kk<900000)(z:vV J)(B:J.held.length<J.n)(hb:Bytes b)(hn:C<=43)(h:St I w (ai .u8 (.slice d C S) b::jR g j J::di j D::L)):
 Rt I w 220 #[pO g,.slice d C S] (iI (J.wO D b)) (jR g j (J.oN b)::di j (J.CM D b)::L):=by
 have E0:C=b.length:=(h.get 0 rfl).sl.1;obtain⟨A,c,Z⟩:=h.swap.jO;obtain⟨U,Y,W,o,i,F⟩:=J;have B:F.length<Y:=B;refine bq (show 0<=U/\U<=1000 from z.a0) (show 1<=Y/\Y<=100 from z.n0) λG0 a=>?_;have O0:0<=W/\W<=4000000000:=z.f0;refine bq (show 0<=o/\o<4294967296 from z.e0) hD λH0 HD=>?_;have Z:St I w (ab g 196 #[pO j,iI U,iI (Y:Nat),iW W,iW o,iW i,.slice A F.length c]::aB 262 2 fO (.slice A F.length c) F::ai .u8 (.slice d C S) b::di j D::L):=Z;obtain⟨k,E⟩:=nM (F.length);rw[<-E]at Z B;have P0:k<100:=by have:=a.out;omega
 obtain⟨q,l⟩:=nM (W+(k:Int));obtain⟨y,T⟩:=nM (U+2+q%(Y:Nat));obtain⟨N,H⟩:=nM (aR q o b);have EI:=aa (show JM.wO ⟨U,Y,W,o,i,F⟩ D b=D.eR y N by rw[H,T,l,E];rfl);have EB:=aa (show JM.CM ⟨U,Y,W,o,i,F⟩ D b=D.write y N by rw[H,T,l,E];rfl);have R0:Y<=100:=a.2;have x:=aa (show 0<=q/\q<4294967296 by omega);have wq:IntKind.u32.wrap q=q:=eP x;have d1:decide (q>4294967295)=false:=decide_eq_false (by omega);have M0:decide (4294967295<q)=false:=d1;have d2:((k:Int)==(Y:Int))=false:=jM oM;have d3:decide ((k:Int)=(Y:Int))=false:=decide_eq_false (by omega);have d4:(k==Y)=false:=beq_eq_false_iff_ne.2 oM;have d5:decide (k=Y)=false:=decide_eq_false (by omega);have c2:=(Z.ah 0 rfl).cell 2;have c4:=(Z.ah 0 rfl).cell 4;have x6:=(Z.ah 0 rfl).cell 6;have G:=aa (λn=>DW g j U Y W o i A k c (w.drewN n) oM oM ((Z.ah 0 rfl).drewN n));rw[<-l]at G;refine ye Z E.symm E0 T H hb λA0 HK B0 F0 I0 HB=>?_;have dn:decide ((C:Int)>43)=false:=decide_eq_false (by omega);have N0:decide (43<C)=false:=decide_eq_false (by omega);clear h Z z hD E l T H E0 hb B O0
 go_enter func220,ntmps220
 go_wp2_with fail
 go_quiet ((go_at_call 140;exact Calls.quiet_of (G _)))
 go_wp2_with (go_at_call 140;refine(G _).mono ?_;rintro e w6⟨rfl,nn,rfl⟩)
 refine(zC hT q o d C S b _ x H0 hn HB ((A0.drewN _).pk 3 [2,0,1])).mono ?_;rintro u w2⟨t,K,rfl,h⟩;rw[<-I0.out]at h;have h0:=h.pk 4 [2,3,1,0];clear h A0 G c2 c4 x6 d1 M0 d2 d3 d4 d5 dn N0
 go_wp2_with fail
 refine an (I:=I) (L0:=ai .u8 (.slice t 64 K) N::di j D::L) [⟨none,some 16,λe=>ab g 196 #[pO j,iI U,iI (Y:Nat),iW W,iW o,iW i,.slice A k c]⟩,⟨none,some 13,λe=>aB 262 2 fO (.slice A k c) F⟩,⟨none,none,λe=>ai .u8 (.slice d C S) b⟩,⟨some 10,none,λe=>bj (λw=>fO w [iW o,.slice (e 10).A C (e 10).n] (o,b))⟩,⟨some 12,none,λe=>ab (e 12).n 262 #[iW o,.slice (e 10).A C (e 10).n]⟩,⟨some 13,none,λe=>aB 262 2 fO (.slice (e 13).A (k+1) (e 13).n) (F++[(o,b)])⟩,⟨some 16,none,λe=>ab g 196 #[pO j,iI U,iI (Y:Nat),iW W,iW o,iW i,.slice (e 13).A (k+1) (e 13).n]⟩] [[],[],[1],[1,2],[1,2,3],[],[5],[5,6],[5,6,7],[],[9],[5,6,7,8,9,10],[5,6,7,8,9,10,11],[1,2,3,4,5,6,7,8,9,10,11,12],rG 14,rG 15,rG 16] (rG 17) rfl kR kR kR (by rfl) (λ_=>rfl) h0.fk ?_;refine PP ?_;refine bp 23 (λe=> #[.slice d C S]) (λe=> .slice (e 10).A C (e 10).n) rfl (λe p O h=>by(
  have h:=h.fn;refine(ef d C S b _ (h.qq (Q:=λw=>ay w .u8 (.slice d C S) b)).sl.2.2.2 oM h).mono ?_;rintro u P⟨v,rfl,Z⟩;obtain⟨X,r,rfl⟩:=Z.slice;have V:=(St.ints (k:= .u8) (xs:=b) Z).bC (R':=λw=>fO w [iW o,.slice X C r] (o,b)) (λJ0 hi=>⟨X,r,by rw[show(o,b).2.length=C from B0.out.symm],by rw[show(o,b).2.length=C from B0.out.symm];exact hi⟩);exact⟨⟨X,r,default⟩,rfl,V.pk 4 [1,2,3,0]⟩)) ?_
 simp only[aW];refine mH (λe=> .agg #[iW o,.slice (e 10).A C (e 10).n]) rfl (λe p O h=>gS) ?_;simp only[aW];refine GP (λe=> .slice (some ⟨(e 12).n,0,none⟩) 1 1) rfl (λe p O h=>by(
  have h:=h.fn;exact⟨⟨none,p.heap.size,default⟩,_,eY rfl rfl (JI _ _ _ _ _),((h.alloc 262 #[iW o,.slice (e 10).A C (e 10).n])).fk⟩)) ?_
 simp only[aW];refine GP (λe=> .slice (e 13).A (k+1) (e 13).n) rfl (λe p O h=>by(
  have h:=h.fn;have hz:=Lk (cs:=[iW o,.slice (e 10).A C (e 10).n]) (h.ah 4 rfl);obtain⟨X,r,J0,K0,V⟩:=((h.jd (Q:=λw=>fO w [iW o,.slice (e 10).A C (e 10).n] (o,b))).pk 3 [2,0,1]).Kg BX _ ⟨(e 12).n,0,none⟩ 1 hz (Fy _ _ _ _) rfl oM oM;exact⟨⟨X,r,default⟩,_,lY rfl rfl rfl K0,V.fk⟩)) ?_
 simp only[aW];refine xQ ?_;refine lM (λe=> .pointer (some ⟨g,6,none⟩)) (λe=> .slice (e 13).A (k+1) (e 13).n) rfl rfl (λe p O h=>by(
  have h:=h.fn;have x6:=(h.ah 0 rfl).cell 6;have f:=(h.ah 0 rfl).frozen;have Z:=(h.fi 0).bx 6 (.slice (e 13).A (k+1) (e 13).n) #[pO j,iI U,iI (Y:Nat),iW W,iW o,iW i,.slice (e 13).A (k+1) (e 13).n];exact⟨_,gS,Z.fk⟩)) ?_
 simp only[Act.put];refine aA ?_;intro e w1 h;have h:=h.fn;obtain⟨M,C0⟩:∃M,(e 13).A=M:=⟨_,rfl⟩;obtain⟨R,D0⟩:∃R,(e 13).n=R:=⟨_,rfl⟩;rw[C0,D0]at h;have H7:=aa (h.pk 7 [4,5,6,3]);clear h h0
 go_wp2_with fail
 clear C0 D0;refine an (I:=I) (L0:=aB 262 2 fO (.slice M (k+1) R) (F++[(o,b)])::L) [⟨none,none,λe=>ab g 196 #[pO j,iI U,iI (Y:Nat),iW W,iW o,iW i,.slice M (k+1) R]⟩,⟨none,none,λe=>ai .u8 (.slice t 64 K) N⟩,⟨none,some 8,λe=>di j D⟩,⟨some 8,none,λe=>di j (D.write y N)⟩] [[],[0],[0,1],rG 3,[],[],[4,5],[],rG 8,rG 9] (rG 10) rfl kR kR kR (by rfl) (λ_=>rfl) H7.fk ?_;refine KI ?_;refine bp 141 (λe=> #[pO g,iW q]) (λe=> iI y) rfl (λe p O h=>by(
  have h:=h.fn;refine(GW g j U Y W o i q M (k+1) R _ (by have:=x.out;omega) G0 a (h.ah 0 rfl)).mono ?_;rintro u P⟨rfl,nn,hw⟩;rw[<-F0.out];have E:St I P (ab g 196 #[pO j,iI U,iI (Y:Nat),iW W,iW o,iW i,.slice M (k+1) R]::ai .u8 (.slice t 64 K) N::di j D::O):=(by rw[hw];exact(h.drewN nn).sub);exact⟨⟨none,0,default⟩,rfl,E⟩)) ?_
 simp only[aW];refine nL ?_;refine bp 206 (λe=> #[pO j,iI y,.slice t 64 K]) (λe=> iI (D.eR y N)) rfl (λe p O h=>by(
  have h:=h.fn;refine(yG y (.slice t 64 K) N 0 HD.ok (by have:=HD.p;omega) rfl ((h.fi 1).fi 2)).mono ?_;rintro u P⟨rfl,Z⟩;exact⟨⟨none,0,default⟩,rfl,Z.pk 3 [2,1,0]⟩)) ?_
 simp only[aW];refine nL ?_;refine aA ?_;intro e w1 h;have h:=h.fn;have H9:=aa (h.pk 4 [0,3,2]);clear h H7
 go_wp2_with fail
 go_ret
 rw[EI.out,EB.out];exact⟨rfl,St.zX (by rw[dB,HK.out];rfl) H9⟩
end
def aaU(X:LI)(I:aK)(L:List az)(O:World)(e:Ending):Prop:=
 ∃p,e= .returned (.tuple #[.pointer p,iI (vj X)])/\(vj X=0->∃g,p=some ⟨g,0,none⟩/\St I O (dq g (Rd.gB ⟨X,false⟩ 4).1::L))/\(vj X≠0->p=none)/\St I O L
theorem WL{I:aK}{L:List az}(v:Value)(X:LI)(w:World)(hb:Bytes X)(hl:X.length<=1000000)(h:St I w (ai .u8 v X::L)):
 Calls prog 84 #[v] w λe O=>aaU X I L O e:=by
 have Y0:Rd.Ok (Rd.mk X false):=⟨hb,by show X.length<=140737488355328;omega,λh=>by cases h⟩;refine bq (λk=>Y0.gB k) h λD1 H=>?_;clear h hb hl Y0
 go_enter func84,ntmps84
 go_wp2_with fail
 refine(ou v X _ H).mono ?_;rintro e w1⟨S,rfl,h⟩;have H1:=aa (h.tO);clear H h
 go_wp2_with fail
 have G:=((H1.alloc 253 #[pO S]).TI).alloc 4 #[.bool true];simp only[World.size_alloc]at G;generalize w1.heap.size=s at*;have C:=aa (G.pk 5 [3,0,4,1,2]);clear H1 G
 go_loopg [17] 4 (λgh i wr=>∃(k:Nat) (V:Nat->RV),gh=4-k/\k<=4/\i= iI (k:Nat)/\(∀i,k<=i->i<4->(V i).log= sN)/\St I wr (ab s 253 #[pO S]::ab (s+1+1) 4 #[.bool (lF (Rd.gB ⟨X,false⟩ k).1 k)]::pu S (Rd.gB ⟨X,false⟩ k).2::iy (s+1) V (Rd.gB ⟨X,false⟩ k).1::dD V (Rd.gB ⟨X,false⟩ k).1::L))
 case atStart=>exact⟨0,λ_=>xL,rfl,oM,rfl,λ_ _ _=>rfl,C⟩
 case round=>
  clear C;obtain⟨k,V,F,hk,rfl,hv,h⟩:=hrel;refine bq F hv λHG T=>?_;clear F hv;by_cases t:k<4
  ·have R0:=Rd.Pe ⟨X,false⟩ k k (io _)
   have hN:=QQ ⟨X,false⟩ k;have N:=Jb ⟨X,false⟩ k;have hR:(Rd.gB ⟨X,false⟩ (k+1)).2=(Rd.gB ⟨X,false⟩ k).2.h5.2:=rfl;have OK:=D1.out k;have H:=aa h;clear h;generalize K0:lF (Rd.gB ⟨X,false⟩ k).1 k=ok at*;generalize(Rd.gB ⟨X,false⟩ k).2=r at*;generalize(Rd.gB ⟨X,false⟩ k).1=m at*;generalize o:Rd.gB ⟨X,false⟩ (k+1)=z at*;have HZ:=aa o;clear o;refine ye R0 hN N hR OK (show r.h1.2.Ok from OK.num 8) λA1 HN HS HR J0 F0=>?_;have O0:Hid (r.h2.2.Ok):=(OK.num 8).num 4;have D0:Hid (r.h3.2.Ok):=O0.ah 4;have C1:Hid (r.h4.2.Ok):=D0.num 1;have b2:0<=r.h2.1/\r.h2.1<4294967296:=Rd.lB F0;have b4:0<=r.h4.1/\r.h4.1<256:=Rd.mJ D0;obtain⟨G1,I1⟩:=b2;have u2:IntKind.u32.wrap r.h2.1=r.h2.1:=IntWalk.u32_in _ oM;obtain⟨l,V0⟩:=BE b4.1;have J1:l<256:=oM
   have G0:=aa V0;clear R0 hN N hR OK b4 V0 K0;have k0:(0:Int)<=(k:Int):=oM
   have k4:(k:Int)<4:=oM
   go_wp2_with fail
   refine rT (λW=>W.cell? (aD s 0)=some (pO S)) 10 9 [0,1,2,4] #[true,true,true,false,true,false,false,false,false,false,false,false,false] kR kR
    (λd=>by cases d<;>exact λ_ _ _ _ h=>h) (λW J=> ?_)
   have H0:=aa (show St I W (ab s 253 #[pO S]::ab (s+1+1) 4 #[.bool (ok)]::pu S r::iy (s+1) V m::dD V m::L)by
    rw[J];exact H.drew)
   clear J H;refine⟨(H0.ah 0 rfl).cell 0,?_⟩
   iterate 4 (refine bJ rfl rfl (λW J=>gS) ?_;simp only[aW])
   refine take_nil ?_;refine Ly 3 kR (BW (f:=136) (args:= #[pO S,iI 8]) rfl rfl (by go_simp) ((bN S r 8 _ J0.hb J0.hl J0.hz H0.tW).mono ?_));rintro e w2⟨rfl,h⟩;have I0:Hid (St I w2 (ab s 253 #[pO S]::ab (s+1+1) 4 #[.bool (ok)]::pu S r.h1.2::iy (s+1) V m::dD V m::L)):=h.sX;refine⟨_,rfl,λ_=>(I0.ah 0 rfl).cell 0,?_⟩;clear H0 h;simp only[aW];refine Ly 5 kR (BW (f:=136) (args:= #[pO S,iI 4]) rfl rfl (by go_simp) ((bN S r.h1.2 4 _ F0.hb F0.hl F0.hz I0.tW).mono ?_));rintro e w3⟨rfl,h⟩;have B0:Hid (St I w3 (ab s 253 #[pO S]::ab (s+1+1) 4 #[.bool (ok)]::pu S r.h2.2::iy (s+1) V m::dD V m::L)):=h.sX;refine⟨_,rfl,λ_=>(B0.ah 0 rfl).cell 0,?_⟩;clear I0 h;rw[show(r.num 8).1=r.h1.1 from rfl,show(r.h1.2.num 4).1=r.h2.1 from rfl];simp only[aW];refine Tv (n:=6) [6] #[true,true,true,true,true,true,true,false,false,false,false,false,false] kR kR (λd=>by cases d<;>exact λ_ _ _ _ h=>h) ((B0.ah 0 rfl).cell 0) kR ?_;refine bJ (v:= iW r.h2.1) rfl rfl (λW J=>by(go_simp;try exact congrArg (λz=>Result.ok (Next.value (iW z)) W) u2)) ?_;simp only[aW];refine take_nil ?_;refine ly [7,8,9,10,11,12] _ _ _ kR ?_
   iterate 2 (refine bF rfl rfl gS (λ_=>(B0.ah 0 rfl).cell 0) ?_;simp only[aW])
   have B:=(B0.pk 5 [3,4,0,1,2]);obtain⟨⟨u,D⟩,a⟩:=j8 (B.ah 0 rfl) t (j:=0) oM;have U:=(B.tW.sX.swap.swap.bH (R:=λ_=>True) (λ_ _=>trivial)).sX.CP t (j:=0) oM (x:={m k with ax:=r.h1.1}) (p:=V k) (u:= iU r.h1.1) rfl (λO M _=>⟨M.b,M.log⟩);simp only[yd]at D a U;refine cE rfl rfl 31 _ _ (.pointer (some ⟨s+1,k*7,none⟩)) (iU r.h1.1) rfl rfl rfl (by go_simp) (λ_=>(U.ah 2 rfl).cell 0) ?_;simp only[Act.put];clear D a
   iterate 2 (refine bF rfl rfl gS nD ?_;simp only[aW])
   obtain⟨⟨u,D⟩,a⟩:=j8 (U.ah 0 rfl) t (j:=1) oM;have g:=(U.bH (R:=λ_=>True) (λ_ _=>trivial)).sX.CP t (j:=1) oM (x:={m k with ax:=r.h1.1,seq:=r.h2.1}) (p:=V k) (u:= iW r.h2.1) (by rw[aT,aT];rfl) (λO M _=>by rw[aT,aT]at M;exact⟨M.b,M.log⟩);refine cE rfl rfl 60 _ _ (.pointer (some ⟨s+1,k*7+1,none⟩)) (iW r.h2.1) rfl rfl rfl gS nD ?_;clear D a;rw[nY,nY,ud,A1.out]at g;have H5:Hid (St I _ (ab s 253 #[pO S]::ab (s+1+1) 4 #[.bool (ok)]::pu S r.h2.2::iy (s+1) V (aI m k ⟨r.h1.1,r.h2.1,λ_=>[],[]⟩)::dD V (aI m k ⟨r.h1.1,r.h2.1,λ_=>[],[]⟩)::L)):=g.pick 5 [2,3,4,0,1];clear B U g B0;simp only[Act.put];refine cD ?_;generalize World.setCell _ _ _=w5 at H5⊢;have N0:=aa (show∀i,k<=i->i<4->(V i).log= sN from T);clear T
   go_wp2_with fail
   go_loopg [36] 4 (λgh i wq=>∃(j:Nat) (V:Nat->RV),gh=4-j/\j<=4/\i= iI (j:Nat)/\(∀i,k<=i->i<4->(V i).log= sN)/\St I wq (ab s 253 #[pO S]::ab (s+1+1) 4 #[.bool (ok&&ma (r.h2.2.ah j).1 j)]::pu S (r.h2.2.ah j).2::iy (s+1) V (aI m k ⟨r.h1.1,r.h2.1,(r.h2.2.ah j).1,[]⟩)::dD V (aI m k ⟨r.h1.1,r.h2.1,(r.h2.2.ah j).1,[]⟩)::L))
   case atStart=>exact⟨0,V,rfl,oM,rfl,N0,by rw[show(ok&&ma (r.h2.2.ah 0).1 0)=ok from ZP ok];exact H5.out⟩
   case round=>
    clear H5 N0;obtain⟨j,V,F,hj,rfl,hv,h⟩:=hrel;refine bq F hv λHJ T=>?_;clear F hv;by_cases P0:j<4
    ·have j0:(0:Int)<=(j:Int):=oM
     have j4:(j:Int)<4:=oM
     have H:=aa h;clear h
     go_wp2_with fail
     refine bT (λ_=>True) 8 [0,1,2,4,5] [3,6,7] kR kR (λd=>by cases d<;>exact λ_ _ _ _ h=>h) (λW J=> ?_);have N:=aa (show St I W (ab s 253 #[pO S]::ab (s+1+1) 4 #[.bool (ok&&ma (r.h2.2.ah j).1 j)]::pu S (r.h2.2.ah j).2::iy (s+1) V (aI m k ⟨r.h1.1,r.h2.1,(r.h2.2.ah j).1,[]⟩)::dD V (aI m k ⟨r.h1.1,r.h2.1,(r.h2.2.ah j).1,[]⟩)::L)by
      rw[J];exact H.drew)
     clear J H;refine⟨trivial,?_⟩
     iterate 5 (refine bJ rfl rfl (λW J=>by(clear J;go_simp;try rfl)) ?_;simp only[aW])
     refine take_nil ?_;refine fm (f:=134) (args:= #[pO s,.pointer (some ⟨s+1+1,0,none⟩)]) rfl rfl gS ((Rv s (s+1+1) S _ _ _ (O0.ah j) N.out).mono ?_);rintro e w2⟨v2,rfl,h⟩;obtain⟨P,y,rfl,_,_,_⟩:=h.get 0 rfl;refine⟨_,rfl,λ_=>trivial,?_⟩;simp only[aW];have E0:(ok&&ma (r.h2.2.ah j).1 j&&fJ (r.h2.2.ah j).2.gI.1)=(ok&&ma (r.h2.2.ah (j+1)).1 (j+1)):=by
      rw[Zu];exact congrArg _ (JE (r.h2.2.ah j).1 j (r.h2.2.ah j).2.gI.1).symm
     rw[E0]at h;have G:=h.pk 6 [4,5,0,1,2,3];obtain⟨⟨u,D⟩,a⟩:=j8 (G.ah 0 rfl) t (j:=2+j) oM;have U:=G.CP t (j:=2+j) oM (x:=⟨r.h1.1,r.h2.1,(r.h2.2.ah (j+1)).1,[]⟩) (p:={V k with b:=aI (V k).b j (.slice P (r.h2.2.ah j).2.gI.1.length y)}) (u:= .slice P (r.h2.2.ah j).2.gI.1.length y) (by rw[aT];rcases vU P0 with rfl|rfl|rfl|rfl<;>rfl)
      (λO M hi=>by
       rw[aT]at M;refine⟨λi F1=> ?_,M.log⟩;by_cases Y:i=j
       ·subst Y
        show ay O .u8 (aI (V k).b i _ i) (aI (r.h2.2.ah i).1 i _ i);rw[aT,aT];exact hi
       ·show ay O .u8 (aI (V k).b j _ i) (aI (r.h2.2.ah j).1 j _ i)
        rw[bS _ _ _ _ Y,bS _ _ _ _ Y];exact M.b i F1)
     rw[<-Zt]at D a U;rw[nY]at U;have H4:=aa (U.pk 5 [2,3,4,0,1]);clear h G U N E0;refine bF rfl rfl gS (λ_=>trivial) ?_;simp only[aW];refine cE rfl rfl 27 _ _ (.pointer (some ⟨s+1,k*7+2+j,none⟩)) (.slice P (r.h2.2.ah j).2.gI.1.length y) rfl rfl rfl gS (λ_=>trivial) ?_;simp only[Act.put];refine cD ?_;clear D a
     go_wp2_with fail
     go_roundg (4-(j+1))
     case measure=>have:=HJ.out;omega
     case rel=>exact⟨j+1,_,rfl,oM,by go_num,λi Z G=>(by
      by_cases Y:i=k
      ·subst Y
       rw[aT];exact T _ Z G
      ·rw[bS _ _ _ _ Y]
       exact T _ Z G),H4⟩
    ·obtain rfl:j=4:=oM
     have Z:=(show St I wr (ab s 253 #[pO S]::ab (s+1+1) 4 #[.bool (ok&&ma r.h3.1 4)]::pu S r.h3.2::iy (s+1) V (aI m k ⟨r.h1.1,r.h2.1,r.h3.1,[]⟩)::dD V (aI m k ⟨r.h1.1,r.h2.1,r.h3.1,[]⟩)::L)from h);have hl:(aI m k ⟨r.h1.1,r.h2.1,r.h3.1,[]⟩) k=⟨r.h1.1,r.h2.1,r.h3.1,[]⟩:=aT _ _ _;have Q0:=T.out k (io _) t;generalize S0:(ok&&ma r.h3.1 4)=ok2 at*;refine nK S0 Z hl Q0 λB1 H1 HL Z0=>?_;have x0:=(Z.ah 0 rfl).cell 0;clear h Z S0 hl Q0 HJ
     go_wp2_with fail
     refine qK (bN S r.h3.2 1 _ D0.hb D0.hl D0.hz H1.tW) λw6 h=>?_;have H6:=aa (((show St I w6 (ab s 253 #[pO S]::ab (s+1+1) 4 #[.bool (ok2)]::pu S r.h4.2::iy (s+1) V (aI m k ⟨r.h1.1,r.h2.1,r.h3.1,[]⟩)::dD V (aI m k ⟨r.h1.1,r.h2.1,r.h3.1,[]⟩)::L)from h.sX).eU 27 1 dG).pk 6 [1,2,3,4,5,0]);clear H1 h;clear x0;rw[show(r.h3.2.num 1).1=r.h4.1 from rfl,G0.out]
     go_wp2_with fail
     go_loopg [49] l (λgh i wq=>∃(j:Nat) (A:OA) (q c:Nat),gh=l-j/\j<=l/\i= iU (j:Nat)/\q=j/\St I wq (ab s 253 #[pO S]::ab (s+1+1) 4 #[.bool (ok2&&(r.h4.2.dx j).1.all fJ)]::pu S (r.h4.2.dx j).2::ab (s+1) 90 ((ni (aI m k ⟨r.h1.1,r.h2.1,r.h3.1,[]⟩) V).setIfInBounds (k*7+6) (.slice A q c))::dD V (aI m k ⟨r.h1.1,r.h2.1,r.h3.1,[]⟩)::aB 27 1 dG (.slice A q c) (r.h4.2.dx j).1::L))
     case atStart=>exact⟨0,none,0,0,rfl,oM,rfl,rfl,by rw[Mb _ _ t Z0.out,show(ok2&&(r.h4.2.dx 0).1.all fJ)=ok2 from ZP ok2];exact H6.out⟩
     case round=>
      clear H6;obtain⟨j,A,q,c,F,hj,rfl,W0,h⟩:=hrel;refine bq F W0 λHJ M0=>?_;have ql:q<=256:=oM
      clear F W0;by_cases P0:j<l
      ·have j0:(0:Int)<=(j:Int):=oM
       have j4:(j:Int)<(l:Int):=oM
       have H:=aa h;clear h
       go_wp2_with fail
       refine bT (λW=>W.cell? ⟨s+1,k*7+6,none⟩=some (.slice A q c)) 9 (rG 6) [6,7,8,9,10,11] kR kR (λd=>by cases d<;>exact λ_ _ _ _ h=>h) (λW J=> ?_);have N:=aa (show St I W (ab s 253 #[pO S]::ab (s+1+1) 4 #[.bool (ok2&&(r.h4.2.dx j).1.all fJ)]::pu S (r.h4.2.dx j).2::ab (s+1) 90 ((ni (aI m k ⟨r.h1.1,r.h2.1,r.h3.1,[]⟩) V).setIfInBounds (k*7+6) (.slice A q c))::dD V (aI m k ⟨r.h1.1,r.h2.1,r.h3.1,[]⟩)::aB 27 1 dG (.slice A q c) (r.h4.2.dx j).1::L)by
        rw[J];exact H.drew)
       clear J H;refine⟨((N.out.ah 3 rfl).cell _).trans (l3 _ V t _),?_⟩
       iterate 6 (refine bJ rfl rfl (λW J=>gS) ?_;simp only[aW])
       refine take_nil ?_;refine fm (f:=134) (args:= #[pO s,.pointer (some ⟨s+1+1,0,none⟩)]) rfl rfl gS ((Rv s (s+1+1) S _ _ _ (C1.dx j) N.out).mono ?_);rintro e w2⟨v2,rfl,h⟩;obtain⟨P,y,rfl,_,_,_⟩:=h.get 0 rfl;have E0:(ok2&&(r.h4.2.dx j).1.all fJ&&fJ (r.h4.2.dx j).2.gI.1)=(ok2&&(r.h4.2.dx (j+1)).1.all fJ):=by
        rw[Zu];exact congrArg _ (Ka (r.h4.2.dx j).1 (r.h4.2.dx j).2.gI.1).symm
       rw[E0]at h;have B:=(h.pk 7 [6,0,1,2,3,4,5]).oH (.cells #[.slice P (r.h4.2.dx j).2.gI.1.length y] 27);have C:=aa h.tail;refine⟨_,rfl,λ_=>((C.ah 3 rfl).cell _).trans (l3 _ V t _),?_⟩;clear h N E0;simp only[aW];refine bY rfl rfl 85 1 0 _ (.slice P (r.h4.2.dx j).2.gI.1.length y) rfl rfl (vR _ _ _ _) (λ_=>((B.ah 5 rfl).cell _).trans (l3 _ V t _)) ?_;simp only[aW];obtain⟨xs,hq,X0,o⟩:=B.cu;refine qb pz o rfl rfl _ _ rfl rfl (aO w2.heap.size) 1 1 rfl [.slice P (r.h4.2.dx j).2.gI.1.length y] (ux _ _ _) acg oM oM (λA4 c4 w4 U=>⟨λ_=>((U.ah 6 rfl).cell _).trans (l3 _ V t _),?_⟩);simp only[aW];have g:=((U.tW.bC (R':=λO=>dG O [.slice P (r.h4.2.dx j).2.gI.1.length y] (r.h4.2.dx j).2.gI.1) (λO hi=>⟨_,rfl,hi⟩)).sX).fS hq rfl X0;clear hq X0;have h6:=g.pk 6 [4,5,0,1,2,3];have D:=((h6.ah 0 rfl).cell (k*7+6)).trans (l3 _ V t _);have a:=(h6.ah 0 rfl).frozen (k*7+6);have h7:=h6.bE (k*7+6) (.slice A4 (q+1) c4);rw[Array.setIfInBounds_setIfInBounds]at h7;have H7:=aa (h7.pk 6 [3,4,5,0,1,2]);clear C B o U g h6 h7
       iterate 2 (refine bF rfl rfl gS nD ?_;simp only[aW])
       refine cE rfl rfl 85 _ _ (.pointer (some ⟨s+1,k*7+6,none⟩)) (.slice A4 (q+1) c4) rfl rfl rfl gS nD ?_;simp only[Act.put];refine cD ?_;clear D a
       go_wp2_with fail
       go_roundg (l-(j+1))
       case measure=>have:=HJ.out;omega
       case rel=>exact⟨j+1,A4,q+1,c4,rfl,oM,by go_num,by have:=M0.out;omega,H7⟩
      ·obtain rfl:j=l:=oM
       have Z:=h;rw[show j=r.h4.1.toNat by rw[G0.out];rfl]at Z;obtain⟨p,U0,G⟩:=(St.pick (L':=ab (s+1) 90 ((ni (aI m k ⟨r.h1.1,r.h2.1,r.h3.1,[]⟩) V).setIfInBounds (k*7+6) (.slice A q c))::dD V (aI m k ⟨r.h1.1,r.h2.1,r.h3.1,[]⟩)::aB 27 1 dG (.slice A q c) (r.h4.2.dx r.h4.1.toNat).1::ab s 253 #[pO S]::ab (s+1+1) 4 #[.bool (ok2&&(r.h4.2.dx r.h4.1.toNat).1.all fJ)]::pu S (r.h4.2.dx r.h4.1.toNat).2::L) Z 6 [3,4,5,0,1,2]).VY t (x:=r.rg) (by rw[HL.out];rfl);rw[nY]at G;have hn:=(Rd.og r.h4.2 r.h4.1.toNat);have hq:q=r.h5.1.length:=by rw[M0.out];refine Eq.trans ?_ hn.symm;rw[G0.out];rfl
       generalize T0:(ok2&&(r.h4.2.dx r.h4.1.toNat).1.all fJ)=ok3 at G;have hF:=HN.out ok3 (by rw[<-T0,<-B1.out];rfl);have HF:=aa hF;have C0:Hid (∀i,k+1<=i->i<4->(aI V k p i).log= sN):=aa (λi Z G=>by rw[bS _ _ _ _ oM];exact T i oM G);have key:∀b:Bool,lF z.1 (k+1)=b->St I (wr.setCell ⟨s+1+1,0,none⟩ (.bool b)) (ab s 253 #[pO S]::ab (s+1+1) 4 #[.bool (lF z.1 (k+1))]::pu S z.2::iy (s+1) (aI V k p) z.1::dD (aI V k p) z.1::L):=λb hb=>by
        rw[hb,HS.out,HR.out];exact((G.pk 5 [3,2,4,0,1]).bE 0 (.bool b)).pick 5 [1,0,2,3,4]
       have x0:=dK (G.ah 0 rfl) t (j:=0) (u:= iU r.h1.1) oM (by rw[aT,aT];rfl);have x1:=dK (G.ah 0 rfl) t (j:=1) (u:= iW r.h2.1) oM (by rw[aT,aT];rfl);have x6:=dK (G.ah 0 rfl) t (j:=6) (u:= .slice A q c) oM (by rw[aT,aT,<-U0];rfl);simp only[yd]at x0;have y0:=(G.ah 3 rfl).cell 0;have f0:=(G.ah 3 rfl).frozen 0;have L0:=aa hq;clear h Z G U0 hq hn T0 hF
       cases ok3 with
       |false=>
        have K:=aa (key false (by rw[HF.out];rfl));clear key
        exact ac5
       |true=>
        by_cases A0:q<=4
        ·have d1:decide ((q:Int)<=4)=true:=decide_eq_true (by omega)
         have Q:decide (r.h5.1.length<=4)=true:=dZ (by rw[<-L0.out];exact A0);by_cases hp:0<r.h1.1
         ·have d2:decide (0<r.h1.1)=true:=dZ hp
          have K:=aa (key true (by rw[HF.out,Q,d2];rfl));clear key Q A0 hp
          exact ac5
         ·have d2:decide (0<r.h1.1)=false:=dQ hp
          by_cases o:r.h2.1=0
          ·have d3:(r.h2.1==0)=true:=Bl o
           have K:=aa (key true (by rw[HF.out,Q,d2,d3];rfl));clear key Q A0 hp o
           exact ac5
          ·have d3:(r.h2.1==0)=false:=jM o
           have K:=aa (key false (by rw[HF.out,Q,d2,d3];rfl));clear key Q A0 hp o
           exact ac5
        ·have d1:decide ((q:Int)<=4)=false:=decide_eq_false (by omega)
         have Q:decide (r.h5.1.length<=4)=false:=dQ (by rw[<-L0.out];exact A0);have K:=aa (key false (by rw[HF.out,Q];rfl));clear key Q A0
         exact ac5
  ·obtain rfl:k=4:=oM
   have E:=aa (show vj X=if(Rd.gB ⟨X,false⟩ 4).2.kw≠0 then(Rd.gB ⟨X,false⟩ 4).2.kw else if lF (Rd.gB ⟨X,false⟩ 4).1 4=true then 0 else 1 from rfl);generalize K0:lF (Rd.gB ⟨X,false⟩ 4).1 4=ok at*;have x0:=(h.ah 0 rfl).cell 0;have H:=aa h;clear h T K0
   go_wp2_with fail
   refine qK (qU S _ _ H.tW) λw2 h=>?_;have G:=h.sX;have y0:=(G.ah 1 rfl).cell 0;have C:=aa G;clear h G H x0;generalize(Rd.gB ⟨X,false⟩ 4).2.kw=ee at*;have HP:=aa (C.pk 5 [3,4]);clear C;by_cases Y:ee=0
   ·subst Y
    rw[iN dC]at E
    cases ok with
    |true=>
     have E1:Hid (vj X=0):=E
     go_wp2_with fail
     go_ret2
     exact⟨some ⟨s+1,0,none⟩,by rw[E1.out];try rfl,λ_=>⟨s+1,rfl,HP.kS⟩,λh=>absurd E1 h,HP.tail.tail⟩
    |false=>
     have E1:Hid (vj X=1):=E
     go_wp2_with fail
     go_ret2
     exact⟨none,by rw[E1.out];try rfl,λh=>absurd (E1.symm.trans h) dC,λ_=>rfl,HP.tail.tail⟩
   ·rw[iP Y]at E
    have d1:(ee==0)=false:=jM Y;have d2:(ee !=0)=true:=by simp[Y]
    have HE:=aa Y;clear Y
    go_wp2_with fail
    go_ret2
    exact⟨none,by rw[E.out];try rfl,λh=>absurd (E.symm.trans h) HE,λ_=>rfl,HP.tail.tail⟩
section
open Go.Shelf
variable {cx:CX}
def keyOf(x:PU):Int×Int:=(x.region,x.index)
end
end Go.Proofs.YtblpaldggenbaaaGreatDoor
