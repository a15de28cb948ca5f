/- A part. -/
import Derived.Test.YtblpaldggenbaaaGreatDoorMb
namespace Go.Proofs.YtblpaldggenbaaaGreatDoor
open Go.RowKit Go.Proofs.Tryz
set_option maxRecDepth 100000
set_option maxHeartbeats 64000000
variable{cs:Vq}
section
section
variable {P:Program} {ops:Array Oper} {Q:Exit->Act->World->Prop} {S:World->Prop}
def Oper.ON(P:Program)(K:Value->World->Prop):Result Next->Prop
 | .ok (.value v) O=>K v O
 | .ok .skip O=>K undef O
 | .ok (.enter f args) O=>Calls P f args O λe g=>∃v,e= .returned v/\K v g
 |_=>False
theorem Oper.Cy{o:Oper}{a:Act}{next:Act->World->Prop}{K:Value->World->Prop}{r:Result Next}(h:Oper.ON P K r)(W:∀v O,K v O->next (a.put o.dst v) O):o.upon P a next Q r:=by
 cases r with
 |ok n O=>
  cases n with
  |value v=>exact W _ _ h
  |skip=>exact W _ _ h
  |enter f args=>exact Calls.mono h (λe g ⟨v,Y,d⟩=>by subst Y;exact W _ _ d)
  |_=>exact h.elim
 |halt x O=>exact h.elim
def uO(P:Program)(ops:Array Oper)(S:World->Prop)(o:Oper)(v:Value)(a:Act):Prop:=
 if Region.wanted o (yielded ops a.tmps)=true then∀W,S W->Oper.ON P (λu g=>u=v/\S g) ((execOp a.eval o).run P W)else v=undef
def ri(P:Program)(ops:Array Oper)(S:World->Prop)(K:Act->Prop):List Nat->Act->Prop
 |[],a=>K a
 |i::r,a=>∃o v,ops[i]? =some o/\uO P ops S o v a/\ri P ops S K r (a.put o.dst v)
def SG(ops:Array Oper):Bool:=
 Region.noSelect ops&&(List.range ops.size).all λi=>match ops[i]? with
  |none=>true
  |some o=>o.after.all (λe=> !Region.binds .any e||decide (e.on<i))&&
   (List.range ops.size).all λj=>match(ops[j]?).bind (·.dst)with
    |none=>true
    |some d=>(!(o.looksAt ops).contains d||o.after.any λe=>Region.binds .any e&&e.on==j)&&(j==i||o.dst !=some d)
structure NU(ops:Array Oper):Prop where
 Zl:∀(j:Nat) (o:Oper) cs b,ops[j]? =some o->o.op≠ .select cs b
 up:∀(i:Nat) (o:Oper) e,ops[i]? =some o->e∈o.after->Region.binds .any e=true->e.on<i
 look:∀(i:Nat) (o:Oper) (j:Nat) (oj:Oper) (d:Tmp),ops[i]? =some o->ops[j]? =some oj->oj.dst=some d->d∈o.looksAt ops->∃e∈o.after,Region.binds .any e=true/\e.on=j
 Gn:∀(i:Nat) (o:Oper) (j:Nat) (oj:Oper) (d:Tmp),ops[i]? =some o->ops[j]? =some oj->oj.dst=some d->o.dst=some d->j=i
theorem NU.of(h:SG ops=true):NU ops:=by
 simp only[SG,mf,AR,Ow]at h;have lt:∀{i:Nat} {o:Oper},ops[i]? =some o->i<ops.size:=λz=>(CE.1 z).1;refine⟨Region.noSelect_spec h.1,λi o e z Y B=> ?_,λi o j J d z H y F=> ?_,λi o j J d z H y q=> ?_⟩
 ·have Z:=h.2 i (lt z)
  rw[z]at Z;simp only[mf,Array.all_eq_true']at Z;have:=Z.1 e Y;rw[B]at this;simpa using this
 ·have Z:=h.2 i (lt z)
  rw[z]at Z;simp only[mf,AR,Ow]at Z;have G:=Z.2 j (lt H);rw[H]at G;simp only[zc7,y,mf,OR]at G;rcases G.1 with M|M
  ·rw[List.contains_iff_mem.2 F]at M
   cases M
  ·simp only[ZY]at M
   obtain⟨e,Y,S⟩:=M;rw[mf,beq_iff_eq]at S;exact⟨e,Y,S⟩
 ·have Z:=h.2 i (lt z)
  rw[z]at Z;simp only[mf,AR,Ow]at Z;have G:=Z.2 j (lt H);rw[H]at G;simp only[zc7,y,mf,OR,beq_iff_eq]at G;rcases G.2 with M|M
  ·exact M
  ·rw[q]at M
   simp at M
theorem Jk{a b:Act}{x:Operand}(h:∀t,x= .tmp t->a.tmps[t]? =b.tmps[t]?):a.eval x=b.eval x:=by
 cases x with
 |tmp t=>simp[Act.eval,h t rfl]
 |_=>rfl
theorem xA{o:Oper}{a b:Act}(V:∀cs b,o.op≠ .select cs b)(h:∀d,d∈o.looksAt ops->a.tmps[d]? =b.tmps[d]?):execOp a.eval o=execOp b.eval o/\Region.wanted o (yielded ops a.tmps)=Region.wanted o (yielded ops b.tmps):=by
 refine⟨execOp_congr o V λx J=>Jk λt R=>h t ?_,?_⟩
 ·subst R
  exact XE _ (List.mem_filterMap.2 ⟨.tmp t,by simpa using J,rfl⟩)
 ·unfold Region.wanted
  cases C:o.guard with
  |none=>rfl
  |some B=>
   obtain⟨g,c⟩:=B;have E:yielded ops a.tmps g=yielded ops b.tmps g:=by
    unfold yielded
    cases R:(ops[g]?).bind (·.dst)with
    |none=>rfl
    |some t=>
     have:=h t (ZF _ (by simp[C,R]));simp[this]
   simp only[E]
theorem xC{o:Oper}{v:Value}{a b:Act}(V:∀cs b,o.op≠ .select cs b)(h:∀d,d∈o.looksAt ops->a.tmps[d]? =b.tmps[d]?)(q:uO P ops S o v a):uO P ops S o v b:=by
 obtain⟨Z,G⟩:=xA (ops:=ops) V h;unfold uO at*;rwa[Z,G]at q
theorem oZ(a:Act)(d:Option Tmp)(v:Value):(a.put d v).tmps.size=a.tmps.size:=by cases d<;>simp[Act.put]
theorem put_defers(a:Act)(d:Option Tmp)(v:Value):(a.put d v).defers=a.defers:=by cases d<;>rfl
theorem kV(a:Act){d:Option Tmp}{s:Nat}(v:Value)(h:d≠some s):(a.put d v).tmps[s]? =a.tmps[s]? :=by
 cases d with
 |none=>rfl
 |some t=>
  have X:t≠s:=λe=>h (by rw[e]);simp[Act.put,Array.getElem?_setIfInBounds_ne X]
theorem ub(a:Act){s:Nat}(v:Value)(h:s<a.tmps.size):(a.put (some s) v).tmps[s]? =some v:=by simp[Act.put,h]
theorem Lv(A:NU ops){K:Act->Prop}:∀(m i:Nat) (a:Act),i+m=ops.size->ri P ops S K (List.range' i m) a->
 ∃L,K L/\L.defers=a.defers/\L.tmps.size=a.tmps.size/\(∀s,(∀j J,ops[j]? =some J->i<=j->J.dst≠some s)->L.tmps[s]? =a.tmps[s]?)/\
  ∀j J,ops[j]? =some J->i<=j->∃v,uO P ops S J v L/\∀d,J.dst=some d->d<L.tmps.size->L.tmps[d]? =some v
 |0,i,a,W,h=>⟨a,h,rfl,rfl,λ_ _=>rfl,λj J H R=>by have:=(CE.1 H).1;omega⟩
 |m+1,i,a,W,h=>by
  rw[List.range'_succ]at h;obtain⟨o,v,z,X,U⟩:=h;obtain⟨L,N,u,l,V,G⟩:=Lv A m (i+1) _ oM U;rw[put_defers]at u;rw[oZ]at l;refine⟨L,N,u,l,λs O=> ?_,λj J H R=> ?_⟩
  ·rw[V s (λj J H R=>O j J H oM),kV _ _ (O i o z (io _))]
  ·by_cases n:j=i
   ·subst n
    rw[z]at H;injection H with H;subst H;refine⟨v,xC (A.Zl _ _ · · z) (λd F=> ?_) X,λd b t=> ?_⟩
    ·have O:∀q p,ops[q]? =some p->j<=q->p.dst≠some d:=λq p y B Y=>by
      obtain⟨e,E,D,M⟩:=A.look j o q p d z y Y F;have:=A.up j o e z E D;omega
     rw[V d (λq p y B=>O q p y oM),kV _ _ (O j o z (io _))]
    ·rw[V d (λq p y B Y=>by have:=A.Gn j o q p d z y Y b;omega),b,ub _ _ (by rw[<-l];exact t)]
   ·exact G j J H oM
theorem kG{listed:Array Bool}{i:Nat}(h:listed.getD i true=false):i<listed.size/\(listed.setIfInBounds i true).toList.count false+1=listed.toList.count false:=by
 have t:i<listed.size:=by
  rcases YQ i listed.size with E|E
  ·exact E
  ·simp[Sb E]at h
 refine⟨t,?_⟩;have o:listed.toList[i]'(by simpa using t)=false:=by simpa[t]using h
 have K:0<listed.toList.count false:=List.count_pos_iff.2 (o▸Oq _);rw[ZX,List.count_set (by simpa using t),o,iP (by rfl),iN abN];omega
theorem IV{id:Nat}{a:Act}{w:World}{l:List Oper}(S:World->Prop)(p:List Nat)(H0:List.range' 0 l.toArray.size=p)(hm:P.follows .mixedOrders=true)(hB:SG l.toArray=true)(hS:S w.drew)
 (A0:ri P l.toArray S (λL=>∀W,S W->Q .normal L W) p a):(Code.region id l.toArray true).wp P Q a w:=by
 subst H0;have C:=NU.of hB;generalize l.toArray=ops at*;obtain⟨L,hK,y,hz,hs,B0⟩:=Lv C ops.size 0 a oM A0;have L0:∀(k:Nat) (listed:Array Bool) (b:Act) (W:World),listed.size=ops.size->listed.toList.count false=k->S W->b.defers=L.defers->b.tmps.size=L.tmps.size->
  (∀s,(∀j J,ops[j]? =some J->J.dst=some s->listed.getD j false=true)->b.tmps[s]? =L.tmps[s]?)->wpAny P .any ops Q k listed b W:=by
  have done:∀(listed:Array Bool) (b:Act) (W:World),listed.size=ops.size->S W->b.defers=L.defers->b.tmps.size=L.tmps.size->
   (∀s,(∀j J,ops[j]? =some J->J.dst=some s->listed.getD j false=true)->b.tmps[s]? =L.tmps[s]?)->Region.ready .any ops listed=[]->Q .normal b W:=by
   intro listed b W E X z Z T R;have all:∀n i,i<n->i<ops.size->listed.getD i false=true:=by
    intro n
    induction n with
    |zero=>intro i Y;omega
    |succ n K=>
     intro i Y G0
     cases D:listed.getD i false with
     |true=>rfl
     |false=>
      exfalso;have V:=Qk G0;have U:i∈Region.ready .any ops listed:=mem_ready.2 ⟨by
       have N:i<listed.size:=oM
       simpa[N]using D,_,V,λe F B=>K e.on (by have:=C.up i _ e V F B;omega) (by have:=C.up i _ e V F B;omega)⟩
      rw[R]at U
      cases U
   have F:b=L:=by
    obtain⟨I,x⟩:=b;obtain⟨h,O⟩:=L;obtain rfl:x=O:=z;have:I=h:=Array.ext_getElem? λs=>T s (λj J H _=>all (j+1) j oM (CE.1 H).1);rw[this]
   rw[F];exact hK W X
  intro k
  induction k with
  |zero=>
   intro listed b W E hc X z Z T;have R:Region.ready .any ops listed=[]:=by
    cases U:Region.ready .any ops listed with
    |nil=>rfl
    |cons i r=>
     exact aeb
   exact⟨R,done listed b W E X z Z T R⟩
  |succ k K=>
   intro listed b W E hc X z Z T;refine⟨done listed b W E X z Z T,λi Y=> ?_⟩;obtain⟨K0,o,q,C0⟩:=mem_ready.1 Y;obtain⟨N,M0⟩:=kG K0;obtain⟨v,J0,hv⟩:=B0 i o q (iD _);have u:uO P ops S o v b:=xC (C.Zl _ _ · · q) (λd D=>(T d (λj J H y=>by
    obtain⟨e,D0,E0,F0⟩:=C.look i o j J d q H y D;rw[<-F0];exact C0 e D0 E0)).symm) J0
   have next:∀g,S g->wpAny P .any ops Q k (listed.setIfInBounds i true) (b.put o.dst v) g:=λg G=>by
    refine K _ _ g (by rw[zc8];exact E) oM G (by rw[put_defers];exact z) (by rw[oZ];exact Z) (λs M=> ?_);by_cases A:o.dst=some s
    ·by_cases t:s<b.tmps.size
     ·rw[A,ub _ _ t,hv s A (by rw[<-Z];exact t)]
     ·rw[Sb (by rw[oZ];exact Wm t),Sb (by rw[<-Z];exact Wm t)]
    ·rw[kV _ _ A]
     refine T s (λj J H y=> ?_);have:=M j J H y;by_cases c:i=j
     ·subst c
      rw[q]at H;injection H with H;subst H;exact absurd y A
     ·rwa[getD_set_ne false c]at this
   unfold wpOp;simp only[q];unfold uO at u
   split
   ·rename_i M
    rw[iP M]at u;exact .inl (Oper.Cy (u W X) (λN0 g ⟨hu,G⟩=>by rw[hu];exact next g G))
   ·rename_i M
    rw[iN M]at u;rw[<-u];exact next W X
 refine wp_region_any hm (L0 ops.size _ a _ abN abN hS y.symm hz.symm (λs I0=> ?_));rw[hs s (λj J H _ y=>by
  have:=I0 j J H y;simp[Array.getD]at this)]
theorem TX{K:Act->Prop}{a:Act}(h:K a):ri P ops S K [] a:=h
theorem Kk{l:List Oper}{K:Act->Prop}{i:Nat}{r:List Nat}{a:Act}{o:Oper}{v:Value}(q:l[i]? =some o)(M:Region.wanted o (yielded l.toArray a.tmps)=true)
 (d:∀W,S W->(execOp a.eval o).run P W= .ok (.value v) W) (h:ri P l.toArray S K r (a.put o.dst v)):ri P l.toArray S K (i::r) a:=
 ⟨o,v,by simpa using q,by unfold uO;rw[iP M];intro W J;rw[d W J];exact⟨rfl,J⟩,h⟩
theorem PT{l:List Oper}{K:Act->Prop}{i:Nat}{r:List Nat}{a:Act}{o:Oper}(q:l[i]? =some o)(M:Region.wanted o (yielded l.toArray a.tmps)=false)
 (h:ri P l.toArray S K r (a.put o.dst undef)):ri P l.toArray S K (i::r) a:=
 ⟨o,undef,by simpa using q,by unfold uO;rw[iN (by rw[M];exact iu)],h⟩
end
end
section
inductive At(X:az):List az->List az->Prop
 |here {L:List az}:At X (X::L) L
 |there {Y:az} {L R:List az}:At X L R->At X (Y::L) (Y::R)
inductive Sub:List az->List az->Prop
 |refl (L:List az):Sub L L
 |drop {X:az} {L L':List az}:Sub L L'->Sub (X::L) L'
 |take {X:az} {L R L':List az}:At X L R->Sub R L'->Sub L (X::L')
theorem At.idx{X:az}{L R:List az}(h:At X L R):∃m:Nat,L[m]? =some X:=by
 induction h with
 |here=>exact⟨0,rfl⟩
 |there _ K=>obtain⟨m,p⟩:=K;exact⟨m+1,p⟩
theorem St.perm{I:aK}{w:World}{L N:List az}(h:St I w L)(P:L.Perm N):St I w N:=by
 obtain⟨c,K,p⟩:∃c:List Nat,c.Nodup/\c.map (L[·]?)=N.map some:=by
  suffices∀{A S:List az},A.Perm S->∃c:List Nat,c.Nodup/\c.length=A.length/\(∀i∈c,i<A.length)/\c.map (A[·]?)=S.map some by
   obtain⟨c,Z,_,_,G⟩:=this P;exact⟨c,Z,G⟩
  intro A S P
  induction P with
  |nil=>exact⟨[],by simp,rfl,by simp,rfl⟩
  |cons x _ W=>
   obtain⟨c,Z,G,M,E⟩:=W;refine⟨0::c.map (·+1),?_,by simp[G],?_,?_⟩
   ·rw[XQ]
    exact⟨by simp,Zg _ (λa b q e=>q oM) Z⟩
   ·intro i z
    rcases qQ.1 z with rfl|z
    ·exact abN
    ·obtain⟨j,H,rfl⟩:=um.1 z
     have:=M j H;exact abS
   ·rw[nG,Vn,nG,<-E]
    rfl
  |swap x y l=>
   refine⟨1::0::(List.range l.length).map (·+2),?_,by simp,?_,?_⟩
   ·rw[XQ,XQ]
    refine⟨?_,?_,Zg _ (λa b q e=>q oM) zc4⟩
    ·exact abN
    ·exact abN
   ·intro i z
    simp only[qQ,um,Ow]at z;rcases z with rfl|rfl|⟨j,H,rfl⟩
    ·exact abN
    ·exact abN
    ·exact abS
   ·rw[nG,nG,Vn,nG,nG]
    congr 2
    apply XC;intro i;by_cases z:i<l.length
    ·simp[VK z,g7 z]
    ·rw[KV abS,KV abS]
  |trans Z G n o=>
   obtain⟨c,O,V,d,g⟩:=n;obtain⟨r,u,J,Q,F⟩:=o;have t:=Z.length_eq;refine⟨r.map (λj=>c.getD j 0),?_,by simp;omega,?_,?_⟩
   ·refine Zg (R:=λa b=>a≠b/\a<c.length/\b<c.length) _ (λa b q e=> ?_) ?_
    ·rw[Iy,Iy,g7 q.2.1,g7 q.2.2,SR,SR]at e
     exact(Nat.lt_or_gt_of_ne q.1).elim (λZ=>Zh.1 O a b q.2.1 q.2.2 Z e) (λZ=>Zh.1 O b a q.2.2 q.2.1 Z e.symm)
    ·exact List.Pairwise.imp_of_mem (λT B q=>⟨q,by have:=Q _ T;omega,by have:=Q _ B;omega⟩) u
   ·intro i z
    obtain⟨j,H,rfl⟩:=um.1 z;have:=Q j H;rw[Iy,g7 (show j<c.length by omega),SR];exact d _ (Oq _)
   ·rw[Vn,<-F]
    apply Xp;intro j H;have k:=Q j H;have:=congrArg (·[j]?) g;simp only[zA]at this;rw[g7 (show j<c.length by omega),g7 k]at this;simp only[Zp,Wj]at this;show _[_]? =_;simp only;rw[Iy,g7 (show j<c.length by omega),SR,this,g7 k]
 exact h.DC c K p
theorem At.perm{X:az}{L R:List az}(h:At X L R):L.Perm (X::R):=by
 induction h with
 |here=>exact List.Perm.refl _
 |there _ K=>exact(K.cons _).trans (List.Perm.swap _ _ _)
theorem Sub.st{L N:List az}(h:Sub L N):∃C,L.Perm (N++C):=by
 induction h with
 |refl L=>exact⟨[],by simp⟩
 | @drop X L N _ K=>
  obtain⟨C,Z⟩:=K;exact⟨X::C,(Z.cons X).trans XM.symm⟩
 |take T _ K=>
  obtain⟨C,Z⟩:=K;exact⟨C,T.perm.trans (Z.cons _)⟩
theorem St.sub{I:aK}{w:World}{L L':List az}(h:St I w L)(V:Sub L L':=by(repeat(first|with_reducible exact Sub.refl _|(with_reducible apply Sub.take;focus(repeat(first|with_reducible exact At.here|with_reducible apply At.there)))|with_reducible apply Sub.drop))):St I w L':=by
 obtain⟨C,P⟩:=V.st;have Z:=h.perm P;refine Z.DC (List.range L'.length) zc4 ?_;apply XC;intro i;by_cases z:i<L'.length
 ·rw[zA,VK z,zA,g7 z,Zp,Zp,TE z,g7 z]
 ·rw[KV abS,KV abS]
section
variable {I:aK} {w:World} {L R:List az}
theorem St.Um{g:Nat}{t:TypeId}(h:St I w L)(z:At (ab g t cs) L R:=by(repeat(first|with_reducible exact At.here|with_reducible apply At.there))):eK w g t cs:=by
 obtain⟨m,p⟩:=z.idx;exact h.ah m p
theorem St.qq{Q:World->Prop}(h:St I w L)(z:At (bj Q) L R:=by(repeat(first|with_reducible exact At.here|with_reducible apply At.there))):Q w:=by
 obtain⟨m,p⟩:=z.idx;exact h.get m p
theorem St.jd{Q:World->Prop}(h:St I w L)(z:At (bj Q) L R:=by(repeat(first|with_reducible exact At.here|with_reducible apply At.there))):St I w (bj Q::L):=by
 obtain⟨m,p⟩:=z.idx;exact h.copy m p
theorem St.bx{g:Nat}{t:TypeId}(h:St I w (ab g t cs::L))(i:Nat)(u:Value)(r:Vq)(e:cs.setIfInBounds i u=r:=by rfl):St I (w.setCell ⟨g,i,none⟩ u) (ab g t r::L):=e▸h.bE i u
theorem St.front{X:az}(h:St I w L)(z:At X L R:=by(repeat(first|with_reducible exact At.here|with_reducible apply At.there))):St I w (X::R):=h.perm z.perm
end
end
section
structure XZ where
 A:OA
 n:Nat
 v:Value
instance abJ:Inhabited XZ:=⟨⟨none,0,.bool false⟩⟩
abbrev Env:=Nat->XZ
def lj(e:Env)(i:Nat)(x:XZ):Env:=λk=>if k=i then x else e k
theorem sS(e:Env)(i:Nat):lj e i (e i)=e:=by
 funext k
 unfold lj
 split
 ·exact adE
 ·rfl
structure g9 where
 p:Option Nat
 c:Option Nat
 R:Env->az
def zq(cl:List (List Nat))(i:Nat):List Nat:=cl.getD i []
def mZ(cl:List (List Nat))(p:Option Nat)(e:Env):Env:=match p with
 |none=>λ_=>default
 |some i=>λk=>if(k==i||(zq cl i).contains k)=true then e k else default
def BV(cl:List (List Nat))(i:Nat):Option Nat->Bool
 |none=>true
 |some p=>(zq cl i).contains p
def Hs(cl:List (List Nat))(i:Nat):Option Nat->Bool
 |none=>true
 |some c=>c==i||(zq cl c).contains i
def dw(cl:List (List Nat))(i:Nat)(r:g9):Bool:=BV cl i r.p&&Hs cl i r.c
def lX(cl:List (List Nat))(i:Nat)(r:g9):Bool:=(dw cl i r&&r.c !=some i)||r.p==some i
def TD(listed:Array Bool):Option Nat->Bool
 |none=>true
 |some p=>listed.getD p false
def FR(listed:Array Bool):Option Nat->Bool
 |none=>true
 |some c=> !(listed.getD c false)
def j5(listed:Array Bool)(r:g9):Bool:=TD listed r.p&&FR listed r.c
def eG(rs:List g9)(f:g9->Bool)(e:Env):List az:=(rs.filter f).map (·.R e)
section
variable {P:Program} {ops:Array Oper} {Q:Exit->Act->World->Prop} {I:aK} {S:List g9} {T:List (List Nat)} {L0:List az}
def clB(ops:Array Oper)(T:List (List Nat)):Bool:=
 (List.range ops.size).all λi=>match ops[i]? with
  |none=>true
  |some o=>(zq T i).all λk=>decide (k<i)&&o.after.any λe=>Region.binds .any e&&(e.on==k||(zq T e.on).contains k)
def rsB(ops:Array Oper)(T:List (List Nat))(S:List g9):Bool:=
 S.all λr=>(match r.p with|none=>true|some p=>decide (p<ops.size))&&(match r.c with|none=>true|some c=>decide (c<ops.size)&&BV T c r.p)
def mT(P:Program)(ops:Array Oper)(I:aK)(S:List g9)(T:List (List Nat))(i:Nat)(o:Oper)(g:Env->Value)(e:Env)(a:Act):Prop:=
 if Region.wanted o (yielded ops a.tmps)=true then
  ∀w L,St I w (eG S (dw T i) e++L)->Oper.ON P (λu O=>∃x,u=g (lj e i x)/\St I O (eG S (lX T i) (lj e i x)++L)) ((execOp a.eval o).run P w)
 else g e=undef/\S.all (λr=>r.p !=some i&&r.c !=some i)=true
def du(P:Program)(ops:Array Oper)(I:aK)(S:List g9)(T:List (List Nat))(K:(Env->Act)->Prop):List Nat->(Env->Act)->Prop
 |[],a=>K a
 |i::r,a=>∃(o:Oper) (g:Env->Value),ops[i]? =some o/\(∀e,g (mZ T (some i) e)=g e)/\(∀e,mT P ops I S T i o g e (a e))/\du P ops I S T K r (λe=>(a e).put o.dst (g e))
theorem uU{i:Nat}{o:Oper}{g:Env->Value}{e:Env}{a b:Act}(V:∀cs b,o.op≠ .select cs b)(h:∀d,d∈o.looksAt ops->a.tmps[d]? =b.tmps[d]?)(q:mT P ops I S T i o g e a):mT P ops I S T i o g e b:=by
 obtain⟨Z,G⟩:=xA (ops:=ops) V h;unfold mT at*;rwa[Z,G]at q
theorem Gr(A:NU ops){K:(Env->Act)->Prop}:∀(m i:Nat) (a:Env->Act),i+m=ops.size->du P ops I S T K (List.range' i m) a->
 ∃L:Env->Act,K L/\(∀e,(L e).defers=(a e).defers)/\(∀e,(L e).tmps.size=(a e).tmps.size)/\(∀e s,(∀j J,ops[j]? =some J->i<=j->J.dst≠some s)->(L e).tmps[s]? =(a e).tmps[s]?)/\
  ∀j J,ops[j]? =some J->i<=j->∃g:Env->Value,(∀e,g (mZ T (some j) e)=g e)/\(∀e,mT P ops I S T j J g e (L e))/\∀e d,J.dst=some d->d<(L e).tmps.size->(L e).tmps[d]? =some (g e)
 |0,i,a,W,h=>⟨a,h,λ_=>rfl,λ_=>rfl,λ_ _ _=>rfl,λj J H R=>by have:=(CE.1 H).1;omega⟩
 |m+1,i,a,W,h=>by
  rw[List.range'_succ]at h;obtain⟨o,g,z,C,X,U⟩:=h;obtain⟨L,N,u,l,V,G⟩:=Gr A m (i+1) _ oM U;have u:∀e,(L e).defers=(a e).defers:=λe=>by have:=u e;rwa[put_defers]at this
  have l:∀e,(L e).tmps.size=(a e).tmps.size:=λe=>by have:=l e;rwa[oZ]at this
  refine⟨L,N,u,l,λe s O=> ?_,λj J H R=> ?_⟩
  ·rw[V e s (λj J H R=>O j J H oM),kV _ _ (O i o z (io _))]
  ·by_cases n:j=i
   ·subst n
    rw[z]at H;injection H with H;subst H;refine⟨g,C,λe=>uU (A.Zl _ _ · · z) (λd F=> ?_) (X e),λe d b t=> ?_⟩
    ·have O:∀q p,ops[q]? =some p->j<=q->p.dst≠some d:=λq p y B Y=>by
      obtain⟨x,E,D,M⟩:=A.look j o q p d z y Y F;have:=A.up j o x z E D;omega
     rw[V e d (λq p y B=>O q p y oM),kV _ _ (O j o z (io _))]
    ·rw[V e d (λq p y B Y=>by have:=A.Gn j o q p d z y Y b;omega),b,ub _ _ (by rw[<-l];exact t)]
   ·exact G j J H oM
theorem tY{α:Type}(p q:α->Bool)(l:List α):(l.filter p).Perm (l.filter (λx=>p x&&q x)++l.filter (λx=>p x&& !q x)):=by
 induction l with
 |nil=>exact List.Perm.refl _
 |cons x r K=>
  cases P:p x<;>cases d:q x
  ·simpa[Ef,P,d]using K
  ·simpa[Ef,P,d]using K
  ·simp only[Ef,P,d,Re,if_true,Zr,Bool.false_eq_true,if_false]
   exact(K.cons x).trans XM.symm
  ·simp only[Ef,P,d,Re,if_true,ZH,Bool.false_eq_true,if_false,Oe]
   exact K.cons x
theorem filter_eq{α:Type}{p q:α->Bool}{l:List α}(h:∀x∈l,p x=q x):l.filter p=l.filter q:=by
 induction l with
 |nil=>rfl
 |cons x r K=>rw[Ef,Ef,h x abN,K (λy E=>h y (by simp[E]))]
theorem Ui{f:g9->Bool}{e A:Env}(h:∀r∈S,f r=true->r.R e=r.R A):eG S f e=eG S f A:=by
 unfold eG;exact Xp (λr U=>h r (Ea.1 U).1 (Ea.1 U).2)
theorem rp{l:Array Bool}{i k:Nat}(h:i<l.size):(l.setIfInBounds i true).getD k false=(l.getD k false||k==i):=by
 by_cases Q:i=k
 ·subst Q
  simp[Array.getD,h]
 ·rw[getD_set_ne false Q]
  have:(k==i)=false:=by simpa using λe:k=i=>Q e.symm
  rw[this,Vk]
theorem an{id:Nat}{a:Act}{w:World}{l:List Oper}(S:List g9)(T:List (List Nat))(is:List Nat)(L1:List.range' 0 l.toArray.size=is)(hm:P.follows .mixedOrders=true)(hB:SG l.toArray=true)(hC:clB l.toArray T=true)
 (hW:rsB l.toArray T S=true) (hR:∀e,S.map (λr=>r.R (mZ T r.p e))=S.map (λr=>r.R e)) (hS:St I w (eG S (λr=>r.p.isNone) (λ_=>default)++L0))
 (E1:du P l.toArray I S T (λL=>∀e W,St I W (eG S (λr=>r.c.isNone) e++L0)->Q .normal (L e) W) is (λ_=>a)):(Code.region id l.toArray true).wp P Q a w:=by
 subst L1;have hD:=NU.of hB;generalize l.toArray=ops at*;obtain⟨L,hK,hd,A,hs,S0⟩:=Gr hD ops.size 0 _ oM E1;have Q0:∀r∈S,∀e,r.R (mZ T r.p e)=r.R e:=λr U e=>by
  have:=List.map_inj_left.1 (hR e) r U;exact this
 have P0:∀(i:Nat) (o:Oper),ops[i]? =some o->∀k∈zq T i,k<i/\∃e∈o.after,Region.binds .any e=true/\(e.on=k\/k∈zq T e.on):=by
  intro i o Y k hk;have t:=(CE.1 Y).1;simp only[clB,AR,Ow]at hC;have Z:=hC i t;rw[Y]at Z;simp only[AR,mf,decide_eq_true_eq,ZY]at Z;obtain⟨G,e,he,M,N⟩:=Z k hk;refine⟨G,e,he,M,?_⟩;rw[OR,beq_iff_eq]at N;rcases N with N|N
  ·exact .inl N
  ·exact .inr (by simpa using N)
 have B:∀r∈S,(∀p,r.p=some p->p<ops.size)/\∀c,r.c=some c->c<ops.size/\BV T c r.p=true:=by
  intro r U;simp only[rsB,AR,mf]at hW;obtain⟨Z,G⟩:=hW r U;refine⟨λp u=> ?_,λc D=> ?_⟩
  ·rw[u]at Z
   exact of_decide_eq_true Z
  ·rw[D]at G
   simp only[mf,decide_eq_true_eq]at G;exact G
 have Z0:∀(i:Nat) (x:XZ) (p:Option Nat) (e:Env),(∀k,p=some k->k≠i/\i∉zq T k)->mZ T p (lj e i x)=mZ T p e:=by
  intro i x p e u
  cases p with
  |none=>rfl
  |some k=>
   obtain⟨Z,G⟩:=u k rfl
   funext q
   unfold mZ;simp only
   split
   ·rename_i y
    unfold lj;rw[iN];intro e2;subst e2;rw[OR,beq_iff_eq]at y;rcases y with y|y
    ·exact Z y.symm
    ·exact G (by simpa using y)
   ·rfl
 have Q1:∀(k:Nat) (listed:Array Bool) (e:Env) (b:Act) (W:World),listed.size=ops.size->listed.toList.count false=k->(∀j,listed.getD j false=true->∀q∈zq T j,listed.getD q false=true)->St I W (eG S (j5 listed) e++L0)->b.defers=(L e).defers->b.tmps.size=(L e).tmps.size->
  (∀(s:Nat),(∀(j:Nat) (J:Oper),ops[j]? =some J->J.dst=some s->listed.getD j false=true)->b.tmps[s]? =(L e).tmps[s]?)->(∀(s:Nat),(∀(j:Nat) (J:Oper),ops[j]? =some J->J.dst≠some s)->∀e',b.tmps[s]? =(L e').tmps[s]?)->wpAny P .any ops Q k listed b W:=by
  have done:∀(listed:Array Bool) (e:Env) (b:Act) (W:World),listed.size=ops.size->St I W (eG S (j5 listed) e++L0)->b.defers=(L e).defers->b.tmps.size=(L e).tmps.size->
   (∀(s:Nat),(∀(j:Nat) (J:Oper),ops[j]? =some J->J.dst=some s->listed.getD j false=true)->b.tmps[s]? =(L e).tmps[s]?)->Region.ready .any ops listed=[]->Q .normal b W:=by
   intro listed e b W kN z K O X E0;have all:∀n i,i<n->i<ops.size->listed.getD i false=true:=by
    intro n
    induction n with
    |zero=>intro i Y;omega
    |succ n ih=>
     intro i Y K1
     cases F:listed.getD i false with
     |true=>rfl
     |false=>
      exfalso;have J0:=Qk K1;have U:i∈Region.ready .any ops listed:=mem_ready.2 ⟨by
       have t:i<listed.size:=oM
       simpa[t]using F,_,J0,λe he hb=>ih e.on (by have:=hD.up i _ e J0 he hb;omega) (by have:=hD.up i _ e J0 he hb;omega)⟩
      rw[E0]at U
      cases U
   have he:b=L e:=by
    obtain⟨bt,bd⟩:=b
    cases hf:L e with
    |mk ft fd=>
     rw[hf]at K X;obtain rfl:bd=fd:=K;have:bt=ft:=Array.ext_getElem? λs=>X s (λj J H _=>all (j+1) j oM (CE.1 H).1);rw[this]
   rw[he];have F:S.filter (j5 listed)=S.filter (λr=>r.c.isNone):=filter_eq (λr U=>by
    obtain⟨Z,G⟩:=B r U;unfold j5
    cases u:r.p with
    |none=>
     cases D:r.c with
     |none=>rfl
     |some c=>
      have:=all (c+1) c oM (G c D).1;simp only[TD,FR,this]
      rfl
    |some p=>
     have M:=all (p+1) p oM (Z p u)
     cases D:r.c with
     |none=>
      simp only[TD,FR,M]
      rfl
     |some c=>
      have:=all (c+1) c oM (G c D).1;simp only[TD,FR,this];simp)
   unfold eG at z;rw[F]at z;exact hK e W z
  intro k
  induction k with
  |zero=>
   intro listed e b W kN D h z K O X I0;have E0:Region.ready .any ops listed=[]:=by
    cases U:Region.ready .any ops listed with
    |nil=>rfl
    |cons i r=>
     exact aeb
   exact⟨E0,done listed e b W kN z K O X E0⟩
  |succ k ih=>
   intro listed e b W kN D h z K O X I0;refine⟨done listed e b W kN z K O X,λi Y=> ?_⟩;obtain⟨C1,o,E,V0⟩:=mem_ready.1 Y;obtain⟨t,R1⟩:=kG C1;have B0:listed.getD i false=false:=by simpa[Array.getD,t]using C1
   have U0:∀q∈zq T i,listed.getD q false=true:=λq y=>by
    obtain⟨_,x,hx,hb,Z⟩:=P0 i o E q y;have G:=V0 x hx hb;rcases Z with Z|Z
    ·rwa[Z]at G
    ·exact h _ G q Z
   have A1:∀j,listed.getD j false=true->j≠i/\i∉zq T j:=λj H=>⟨λe2=>(by rw[e2,B0]at H;cases H),λhm=>(by have:=h j H i hm;rw[B0]at this;cases this)⟩;obtain⟨O0,hg,O1,hv⟩:=S0 i o E (iD _);have A0:mT P ops I S T i o O0 e b:=uU (hD.Zl _ _ · · E) (λd F=>(X d (λj J H hd=>by
    obtain⟨x,G1,H1,I1⟩:=hD.look i o j J d E H hd F;rw[<-I1];exact V0 x G1 H1)).symm) (O1 e)
   have T0:∀r∈S,dw T i r=true->j5 listed r=true:=by
    intro r U C;unfold dw at C;unfold j5;rw[mf]at C⊢;refine⟨?_,?_⟩
    ·cases u:r.p with
     |none=>rfl
     |some p=>
      have Z:=C.1;rw[u]at Z;exact U0 p (by simpa[BV]using Z)
    ·cases D:r.c with
     |none=>rfl
     |some c=>
      have Z:=C.2;rw[D]at Z;simp only[Hs,OR,beq_iff_eq]at Z;show(!(listed.getD c false))=true;rcases Z with Z|Z
      ·rw[Z,B0];rfl
      ·cases M0:listed.getD c false with
       |false=>rfl
       |true=>
        have:=h c M0 i (by simpa using Z);rw[B0]at this
        cases this
   have M0:∀r∈S,j5 listed r=true->r.c=some i->dw T i r=true:=by
    intro r U _ D;unfold dw;rw[((B r U).2 i D).2,D];simp[Hs]
   have Y0:∀r,j5 listed r=true->∀p,r.p=some p->listed.getD p false=true:=λr F p u=>by
    unfold j5 at F;rw[u,mf]at F;exact F.1
   have next:∀(x:XZ) (g:World),St I g (eG S (lX T i) (lj e i x)++(eG S (λr=>j5 listed r&& !dw T i r) e++L0))->wpAny P .any ops Q k (listed.setIfInBounds i true) (b.put o.dst (O0 (lj e i x))) g:=λx g hN=>by
    have P1:∀(j:Nat) (J:Oper),ops[j]? =some J->listed.getD j false=true->∀d,J.dst=some d->(L (lj e i x)).tmps[d]? =(L e).tmps[d]? :=by
     intro j J H N1 d R;obtain⟨gj,X0,_,D1⟩:=S0 j J H (iD _);have B1:(L (lj e i x)).tmps.size=(L e).tmps.size:=(A _).trans (A _).symm;have J1:gj (lj e i x)=gj e:=by rw[<-X0,Z0 i x (some j) e (λq y=>by injection y with y;subst y;exact A1 _ N1),X0]
     by_cases C0:d<(L e).tmps.size
     ·rw[D1 e d R C0,D1 _ d R (by rw[B1];exact C0),J1]
     ·rw[Sb (by rw[B1];exact Wm C0),Sb (Wm C0)]
    refine ih (listed.setIfInBounds i true) (lj e i x) _ g (by rw[zc8];exact kN) oM ?_ ?_ ?_ ?_ (λs V=> ?_) (λs V e'=> ?_)
    ·intro j H q y
     rw[rp t,OR,beq_iff_eq]at H;rw[rp t];rcases H with H|H
     ·rw[h j H q y,Zs]
     ·subst H
      rw[U0 q y,Zs]
    ·refine hN.perm ?_
     rw[<-pI];refine zcw _ ?_;have e1:eG S (λr=>j5 listed r&& !dw T i r) e=eG S (λr=>j5 listed r&& !dw T i r) (lj e i x):=Ui (λr U F=>by
      rw[mf]at F;rw[<-Q0 r U e,<-Q0 r U (lj e i x),Z0 i x r.p e (λq y=>A1 _ (Y0 r F.1 q y))])
     rw[e1];unfold eG;rw[<-yu];refine List.Perm.map _ ?_;have e2:S.filter (j5 (listed.setIfInBounds i true))=S.filter (λr=>(j5 listed r&&r.c !=some i)||r.p==some i):=filter_eq (λr U=>by
      unfold j5;have Z:TD (listed.setIfInBounds i true) r.p=(TD listed r.p||r.p==some i):=by
       cases r.p with
       |none=>rfl
       |some p=>simp only[TD,rp t];rfl
      have G:FR (listed.setIfInBounds i true) r.c=(FR listed r.c&&r.c !=some i):=by
       cases r.c with
       |none=>rfl
       |some c=>simp only[FR,rp t,Bool.not_or];rfl
      rw[Z,G]
      cases u:r.p==some i with
      |false=>rw[Vk,Vk,Zu]
      |true=>
       rw[Xw,Xw,Re,mf];have G0:r.p=some i:=by simpa using u
       refine⟨?_,?_⟩
       ·cases D:r.c with
        |none=>rfl
        |some c=>
         have M:=((B r U).2 c D).2;rw[G0]at M;show(!(listed.getD c false))=true
         cases F:listed.getD c false with
         |false=>rfl
         |true=>
          have:=h c F i (by simpa[BV]using M);rw[B0]at this
          cases this
       ·cases D:r.c==some i with
        |false=>rw[bne,D];rfl
        |true=>
         have F1:r.c=some i:=by simpa using D
         have M:=((B r U).2 i F1).2;rw[G0]at M;have:=(P0 i o E i (by simpa[BV]using M)).1;omega)
     rw[e2];refine List.Perm.symm ((tY _ (lX T i) S).trans ?_);refine List.Perm.append (zdg (filter_eq (λr U=> ?_))) (zdg (filter_eq (λr U=> ?_)))
     ·unfold lX
      cases u:r.p==some i with
      |true=>rw[Xw,Xw];rfl
      |false=>
       rw[Vk,Vk]
       cases C:dw T i r with
       |true=>rw[T0 r U C,Re];cases(r.c !=some i)<;>rfl
       |false=>rw[Zx,ZV]
     ·unfold lX
      cases u:r.p==some i with
      |true=>
       rw[Xw,Xw];have G0:r.p=some i:=by simpa using u
       cases F:j5 listed r with
       |false=>rfl
       |true=>
        have:=Y0 r F i G0;rw[B0]at this
        cases this
      |false=>
       rw[Vk,Vk]
       cases F:j5 listed r with
       |false=>rfl
       |true=>
        rw[Re,Re]
        cases C:dw T i r with
        |true=>rw[Re];cases(r.c !=some i)<;>rfl
        |false=>
         rw[Zx]
         cases D:r.c==some i with
         |true=>
          have:=M0 r U F (by simpa using D);rw[C]at this
          cases this
         |false=>rw[bne,D];rfl
    ·rw[put_defers,K,hd,hd]
    ·rw[oZ,O,A,A]
    ·by_cases F0:o.dst=some s
     ·by_cases H0:s<b.tmps.size
      ·rw[F0,ub _ _ H0,hv _ s F0 (by rw[A,<-A e,<-O];exact H0)]
      ·rw[Sb (by rw[oZ];exact Wm H0),Sb (by rw[A,<-A e,<-O];exact Wm H0)]
     ·rw[kV _ _ F0]
      have K0:∀(j:Nat) (J:Oper),ops[j]? =some J->J.dst=some s->listed.getD j false=true:=λj J H R=>by
       have:=V j J H R;rw[rp t,OR,beq_iff_eq]at this;rcases this with Z|Z
       ·exact Z
       ·subst Z
        rw[E]at H;injection H with H;subst H;exact absurd R F0
      rw[X s K0];by_cases W0:∃(j:Nat) (J:Oper),ops[j]? =some J/\J.dst=some s
      ·obtain⟨j,J,H,R⟩:=W0
       exact(P1 j J H (K0 j J H R) s R).symm
      ·rw[<-X s K0]
       exact I0 s (λj J H R=>W0 ⟨j,J,H,R⟩) _
    ·rw[kV _ _ (V i o E)]
     exact I0 s V e'
   have R0:St I W (eG S (dw T i) e++(eG S (λr=>j5 listed r&& !dw T i r) e++L0)):=by
    refine z.perm ?_;rw[<-pI];refine zcw _ ?_;unfold eG;rw[<-yu];refine List.Perm.map _ ((tY _ (dw T i) S).trans (zcw _ (zdg (filter_eq (λr U=> ?_)))))
    cases C:dw T i r with
    |true=>rw[T0 r U C,Bool.and_self]
    |false=>rw[ZV]
   unfold wpOp;simp only[E];unfold mT at A0
   split
   ·rename_i V
    rw[iP V]at A0;refine .inl (Oper.Cy (A0 W _ R0) (λS1 g ⟨x,hu,B⟩=> ?_));rw[hu];exact next x g B
   ·rename_i V
    rw[iN V]at A0;have Z:=next (e i) W (by
     rw[sS];have M1:eG S (lX T i) e=eG S (dw T i) e:=by
      unfold eG;rw[filter_eq (λr U=> ?_)];have G:=AR.1 A0.2 r U;rw[mf]at G;unfold lX;have M:(r.p==some i)=false:=by simpa[bne]using G.1
      rw[G.2,M,ZP,Vk]
     rw[M1];exact R0)
    rw[sS,A0.1]at Z;exact Z
 have D0:∀k,(Array.replicate ops.size false).getD k false=false:=λk=>by
  by_cases hk:k<ops.size
  ·simp[Array.getD,hk]
  ·simp[Array.getD,hk]
 refine wp_region_any hm (Q1 ops.size _ (λ_=>default) a _ abN abN (λj H=>by rw[D0]at H;cases H) ?_ (hd _).symm (A _).symm (λs N0=> ?_) (λs N0 e'=> ?_))
 ·have:S.filter (j5 (Array.replicate ops.size false))=S.filter (λr=>r.p.isNone):=filter_eq (λr U=>by
   unfold j5
   cases r.p with
   |none=>
    cases r.c with
    |none=>rfl
    |some c=>simp only[TD,FR,D0];rfl
   |some p=>simp only[TD,D0];rfl)
  unfold eG at hS⊢;rw[this];exact hS.drew
 ·rw[hs _ s (λj J H _ R=>by
   have:=N0 j J H R;rw[D0]at this
   cases this)]
 ·rw[hs e' s (λj J H _=>N0 j J H)]
theorem aA{K:(Env->Act)->Prop}{a:Env->Act}(h:K a):du P ops I S T K [] a:=h
theorem zv{l:List Oper}{K:(Env->Act)->Prop}{i:Nat}{r:List Nat}{a:Env->Act}{o:Oper}(g:Env->Value)(q:l[i]? =some o)(M:∀e,Region.wanted o (yielded l.toArray (a e).tmps)=true)
 (d:∀e w L,St I w (eG S (dw T i) e++L)->(execOp (a e).eval o).run P w= .ok (.value (g e)) w) (C:∀e,g (mZ T (some i) e)=g e)
 (Q:∀e,eG S (lX T i) e=eG S (dw T i) e) (z:∀e x,g (lj e i x)=g e) (h:du P l.toArray I S T K r (λe=>(a e).put o.dst (g e))):du P l.toArray I S T K (i::r) a:=
 ⟨o,g,by simpa using q,C,λe=>by
  unfold mT;rw[iP (M e)];intro w L N;rw[d e w L N];exact⟨e i,(z e (e i)).symm,by rw[sS,Q];exact N⟩,h⟩
theorem Tx{l:List Oper}{K:(Env->Act)->Prop}{i:Nat}{r:List Nat}{a:Env->Act}{o:Oper}(g:Env->Value)(q:l[i]? =some o)(M:∀e,Region.wanted o (yielded l.toArray (a e).tmps)=true)(C:∀e,g (mZ T (some i) e)=g e)
 (d:∀e w L,St I w (eG S (dw T i) e++L)->∃x O,(execOp (a e).eval o).run P w= .ok (.value (g (lj e i x))) O/\St I O (eG S (lX T i) (lj e i x)++L)) (h:du P l.toArray I S T K r (λe=>(a e).put o.dst (g e))):du P l.toArray I S T K (i::r) a:=
 ⟨o,g,by simpa using q,C,λe=>by
  unfold mT;rw[iP (M e)];intro w L N;obtain⟨x,O,Z,G⟩:=d e w L N;rw[Z];exact⟨x,rfl,G⟩,h⟩
theorem o7{l:List Oper}{K:(Env->Act)->Prop}{i:Nat}{r:List Nat}{a:Env->Act}{o:Oper}(f:FuncId)(args:Env->Vq)(g:Env->Value)(q:l[i]? =some o)(M:∀e,Region.wanted o (yielded l.toArray (a e).tmps)=true)(C:∀e,g (mZ T (some i) e)=g e)
 (d:∀e w,(execOp (a e).eval o).run P w= .ok (.enter f (args e)) w)
 (D:∀e w L,St I w (eG S (dw T i) e++L)->Calls P f (args e) w λu O=>∃x,u= .returned (g (lj e i x))/\St I O (eG S (lX T i) (lj e i x)++L)) (h:du P l.toArray I S T K r (λe=>(a e).put o.dst (g e))):du P l.toArray I S T K (i::r) a:=
 ⟨o,g,by simpa using q,C,λe=>by
  unfold mT;rw[iP (M e)];intro w L N;rw[d e w];exact(D e w L N).mono (λu O ⟨x,y,G⟩=>⟨_,y,x,rfl,G⟩),h⟩
theorem JR{l:List Oper}{K:(Env->Act)->Prop}{i:Nat}{r:List Nat}{a:Env->Act}{o:Oper}(t:TypeId)(x y:Operand)(p u:Env->Value)(q:l[i]? =some o)(M:∀e,Region.wanted o (yielded l.toArray (a e).tmps)=true)(X:o.op= .store t x y)(J:∀e,(a e).eval x=p e)(E:∀e,(a e).eval y=u e)
 (d:∀e w L,St I w (eG S (dw T i) e++L)->∃O,(Instr.storeAt t (p e) (u e)).run P w= .ok () O/\St I O (eG S (lX T i) e++L)) (h:du P l.toArray I S T K r (λe=>(a e).put o.dst undef)):du P l.toArray I S T K (i::r) a:=
 ⟨o,λ_=>undef,by simpa using q,λ_=>rfl,λe=>by
  unfold mT;rw[iP (M e)];intro w L N;obtain⟨O,Z,G⟩:=d e w L N;unfold execOp;simp only[X,J,E,Sem.run_bind,Sem.run_pure,Result.andThen_ok,Z];exact⟨e i,rfl,by rw[sS];exact G⟩,h⟩
inductive tj:List g9->(g9->Bool)->Env->List az->List az->Prop
 |nil {f:g9->Bool} {e:Env} {L:List az}:tj [] f e L L
 |take {f:g9->Bool} {e:Env} {L L':List az} {p c:Option Nat} {R:Env->az} {S:List g9}:f ⟨p,c,R⟩=true->tj S f e L L'->tj (⟨p,c,R⟩::S) f e L (R e::L')
 |skip {f:g9->Bool} {e:Env} {L L':List az} {x:g9} {S:List g9}:f x=false->tj S f e L L'->tj (x::S) f e L L'
theorem tj.eq_{S:List g9}{f:g9->Bool}{e:Env}{L N:List az}(h:tj S f e L N):eG S f e++L=N:=by
 induction h with
 |nil=>rfl
 |take a _ K=>unfold eG at*;rw[Ef,iP a,nG,Oe,K]
 |skip a _ K=>unfold eG at*;rw[Ef,iN (by rw[a];exact iu),K]
theorem St.fn{w:World}{f:g9->Bool}{e:Env}{L N:List az}(h:St I w (eG S f e++L))(W:tj S f e L N:=by(repeat(first|exact tj.nil|(apply tj.take;focus rfl)|(apply tj.skip;focus rfl)))):St I w N:=by rw[<-W.eq_];exact h
theorem St.fk{w:World}{f:g9->Bool}{e:Env}{L C N:List az}(h:St I w C)(W:tj S f e L N:=by(repeat(first|exact tj.nil|(apply tj.take;focus rfl)|(apply tj.skip;focus rfl))))(V:Sub C N:=by((try simp only[lj,↓reduceIte,Nat.reduceEqDiff]);(repeat(first|with_reducible exact Sub.refl _|(with_reducible apply Sub.take;focus(repeat(first|with_reducible exact At.here|with_reducible apply At.there)))|with_reducible apply Sub.drop)))):St I w (eG S f e++L):=by rw[W.eq_];exact h.sub V
theorem St.fB{w:World}{f:g9->Bool}{e:Env}{L:List az}{g:Nat}{t:TypeId}(h:St I w (eG S f e++L))(j:Nat){r:g9}(U:S[j]? =some r:=by rfl)(a:f r=true:=by rfl)(c:r.R e=ab g t cs:=by rfl):eK w g t cs:=by
 have p:ab g t cs∈eG S f e++L:=XE _ (um.2 ⟨r,Ea.2 ⟨qP U,a⟩,c⟩);obtain⟨m,p⟩:=zcG p;exact h.ah m p
theorem eK.c{w:World}{g:Nat}{t:TypeId}(h:eK w g t cs)(i:Nat){u:Value}(y:cs[i]? =some u:=by rfl):w.cell? ⟨g,i,none⟩=some u:=(h.cell i).trans y
section
variable {l:List Oper} {K:(Env->Act)->Prop} {i:Nat} {r:List Nat} {a:Env->Act} {o:Oper}
theorem fr{g:Env->Value}(q:l[i]? =some o)(h:du P l.toArray I S T K r (λe=>(a e).put o.dst (g e)))(M:∀e,Region.wanted o (yielded l.toArray (a e).tmps)=true:=by exact λ_=>rfl)
 (d:∀e w L,St I w (eG S (dw T i) e++L)->(execOp (a e).eval o).run P w= .ok (.value (g e)) w:=by(intro e p O h;go_simp;try rfl)) (C:∀e,g (mZ T (some i) e)=g e:=by(intro e;rfl))
 (Q:∀e,eG S (lX T i) e=eG S (dw T i) e:=by(intro e;rfl)) (z:∀e x,g (lj e i x)=g e:=by(intro e x;rfl)):du P l.toArray I S T K (i::r) a:=zv g q M d C Q z h
theorem frx{g:Env->Value}(q:l[i]? =some o)(h:du P l.toArray I S T K r (λe=>(a e).put o.dst (g e)))(M:∀e,Region.wanted o (yielded l.toArray (a e).tmps)=true:=by exact λ_=>rfl)
 (d:∀e w L,St I w (eG S (dw T i) e++L)->(execOp (a e).eval o).run P w= .ok (.value (g e)) w:=by(intro e wx O h;(try(have f0:=St.fB h 0;(try have b:=f0.c 0);(try have j:=f0.c 1);(try have k:=f0.c 2);(try have n:=f0.c 3);(try have p:=f0.c 4);(try have t:=f0.c 5);(try have u:=f0.c 6);(try have y:=f0.c 7);(try have A:=f0.c 8);(try have B:=f0.c 9)));(try(have f1:=St.fB h 1;(try have D:=f1.c 0);(try have F:=f1.c 1);(try have G:=f1.c 2);(try have E:=f1.c 3);(try have H:=f1.c 4);(try have J:=f1.c 5);(try have X:=f1.c 6);(try have N:=f1.c 7);(try have R:=f1.c 8);(try have U:=f1.c 9)));(try(have f2:=St.fB h 2;(try have V:=f2.c 0);(try have W:=f2.c 1);(try have Y:=f2.c 2);(try have Z:=f2.c 3);(try have c:=f2.c 4);(try have A0:=f2.c 5);(try have B0:=f2.c 6);(try have C0:=f2.c 7);(try have D0:=f2.c 8);(try have E0:=f2.c 9)));(try(have f3:=St.fB h 3;(try have F0:=f3.c 0);(try have G0:=f3.c 1);(try have H0:=f3.c 2);(try have I0:=f3.c 3);(try have J0:=f3.c 4);(try have K0:=f3.c 5);(try have L0:=f3.c 6);(try have M0:=f3.c 7);(try have N0:=f3.c 8);(try have O0:=f3.c 9)));(try(have f4:=St.fB h 4;(try have P0:=f4.c 0);(try have Q0:=f4.c 1);(try have R0:=f4.c 2);(try have S0:=f4.c 3);(try have T0:=f4.c 4);(try have U0:=f4.c 5);(try have V0:=f4.c 6);(try have W0:=f4.c 7);(try have X0:=f4.c 8);(try have Y0:=f4.c 9)));(try(have f5:=St.fB h 5;(try have Z0:=f5.c 0);(try have A1:=f5.c 1);(try have B1:=f5.c 2);(try have C1:=f5.c 3);(try have D1:=f5.c 4);(try have E1:=f5.c 5);(try have F1:=f5.c 6);(try have G1:=f5.c 7);(try have H1:=f5.c 8);(try have I1:=f5.c 9)));(try(have f6:=St.fB h 6;(try have J1:=f6.c 0);(try have K1:=f6.c 1);(try have L1:=f6.c 2);(try have M1:=f6.c 3);(try have N1:=f6.c 4);(try have O1:=f6.c 5);(try have P1:=f6.c 6);(try have Q1:=f6.c 7);(try have R1:=f6.c 8);(try have S1:=f6.c 9)));go_simp;try rfl)) (C:∀e,g (mZ T (some i) e)=g e:=by(intro e;rfl))
 (Q:∀e,eG S (lX T i) e=eG S (dw T i) e:=by(intro e;rfl)) (z:∀e x,g (lj e i x)=g e:=by(intro e x;rfl)):du P l.toArray I S T K (i::r) a:=zv g q M d C Q z h
theorem mH(g:Env->Value)(q:l[i]? =some o)(d:∀e w L,St I w (eG S (dw T i) e++L)->(execOp (a e).eval o).run P w= .ok (.value (g e)) w)(h:du P l.toArray I S T K r (λe=>(a e).put o.dst (g e)))
 (M:∀e,Region.wanted o (yielded l.toArray (a e).tmps)=true:=by exact λ_=>rfl) (C:∀e,g (mZ T (some i) e)=g e:=by(intro e;rfl))
 (Q:∀e,eG S (lX T i) e=eG S (dw T i) e:=by(intro e;rfl)) (z:∀e x,g (lj e i x)=g e:=by(intro e x;rfl)):du P l.toArray I S T K (i::r) a:=zv g q M d C Q z h
theorem GP(g:Env->Value)(q:l[i]? =some o)
 (d:∀e w L,St I w (eG S (dw T i) e++L)->∃x O,(execOp (a e).eval o).run P w= .ok (.value (g (lj e i x))) O/\St I O (eG S (lX T i) (lj e i x)++L)) (h:du P l.toArray I S T K r (λe=>(a e).put o.dst (g e)))
 (M:∀e,Region.wanted o (yielded l.toArray (a e).tmps)=true:=by exact λ_=>rfl) (C:∀e,g (mZ T (some i) e)=g e:=by(intro e;rfl)):du P l.toArray I S T K (i::r) a:=Tx g q M C d h
theorem bp(f:FuncId)(args:Env->Vq)(g:Env->Value)(q:l[i]? =some o)
 (D:∀e w L,St I w (eG S (dw T i) e++L)->Calls P f (args e) w λu O=>∃x,u= .returned (g (lj e i x))/\St I O (eG S (lX T i) (lj e i x)++L)) (h:du P l.toArray I S T K r (λe=>(a e).put o.dst (g e)))
 (M:∀e,Region.wanted o (yielded l.toArray (a e).tmps)=true:=by exact λ_=>rfl) (C:∀e,g (mZ T (some i) e)=g e:=by(intro e;rfl))
 (d:∀e w,(execOp (a e).eval o).run P w= .ok (.enter f (args e)) w:=by(intro e p;go_simp;try rfl)):du P l.toArray I S T K (i::r) a:=o7 f args g q M C d D h
theorem lM{t:TypeId}{x y:Operand}(p u:Env->Value)(q:l[i]? =some o)(X:o.op= .store t x y)
 (d:∀e w L,St I w (eG S (dw T i) e++L)->∃O,(Instr.storeAt t (p e) (u e)).run P w= .ok () O/\St I O (eG S (lX T i) e++L)) (h:du P l.toArray I S T K r (λe=>(a e).put o.dst undef))
 (M:∀e,Region.wanted o (yielded l.toArray (a e).tmps)=true:=by exact λ_=>rfl) (J:∀e,(a e).eval x=p e:=by exact λ_=>rfl) (E:∀e,(a e).eval y=u e:=by exact λ_=>rfl):du P l.toArray I S T K (i::r) a:=JR t x y p u q M X J E d h
end
theorem nL{p q:Prop}(k:q)(h:Hid q->p:=by(intro k;(first|refine fr rfl ?_|refine frx rfl ?_);simp only[aW];exact k.out)):p:=h (aa k)
theorem xQ{p q:Prop}(k:q)(h:Hid q->p:=by(intro k;refine nL ?_;refine nL ?_;exact k.out)):p:=h (aa k)
theorem Cn{p q:Prop}(k:q)(h:Hid q->p:=by(intro k;refine nL ?_;refine xQ ?_;exact k.out)):p:=h (aa k)
theorem Ed{p q:Prop}(k:q)(h:Hid q->p:=by(intro k;refine xQ ?_;refine xQ ?_;exact k.out)):p:=h (aa k)
theorem sW{p q:Prop}(k:q)(h:Hid q->p:=by(intro k;refine xQ ?_;refine Cn ?_;exact k.out)):p:=h (aa k)
theorem KI{p q:Prop}(k:q)(h:Hid q->p:=by(intro k;refine Cn ?_;refine Cn ?_;exact k.out)):p:=h (aa k)
theorem Xi{p q:Prop}(k:q)(h:Hid q->p:=by(intro k;refine Cn ?_;refine Ed ?_;exact k.out)):p:=h (aa k)
theorem RU{p q:Prop}(k:q)(h:Hid q->p:=by(intro k;refine Ed ?_;refine Ed ?_;exact k.out)):p:=h (aa k)
theorem fs9{p q:Prop}(k:q)(h:Hid q->p:=by(intro k;refine Ed ?_;refine sW ?_;exact k.out)):p:=h (aa k)
theorem PP{p q:Prop}(k:q)(h:Hid q->p:=by(intro k;refine sW ?_;refine sW ?_;exact k.out)):p:=h (aa k)
theorem aaH{p q:Prop}(k:q)(h:Hid q->p:=by(intro k;refine sW ?_;refine KI ?_;exact k.out)):p:=h (aa k)
theorem Yi{p q:Prop}(k:q)(h:Hid q->p:=by(intro k;refine KI ?_;refine KI ?_;exact k.out)):p:=h (aa k)
theorem ZE{p q:Prop}(k:q)(h:Hid q->p:=by(intro k;refine RU ?_;refine RU ?_;exact k.out)):p:=h (aa k)
theorem lY{a:Act}{o:Oper}{w O:World}{v u g:Value}{t:TypeId}{s x:Operand}(X:o.op= .call {callee:= .builtin .append,args:= #[s,x],argTypes:= #[t,t]})(V:a.eval s=v)(J:a.eval x=u)
 (h:(Builtin.append_ #[t,t] o.type #[v,u]).run P w= .ok g O):(execOp a.eval o).run P w= .ok (.value g) O:=by
 unfold execOp;simp only[X,resolve,invoke,builtin,Sem.run_bind,Sem.run_pure,Result.andThen_ok,CB,nG,zF,V,J,h]
theorem eY{a:Act}{o:Oper}{w O:World}{v u:Value}{t:TypeId}{len k:Nat}{x:Operand}(X:o.op= .buildSlice t len #[(k,x)])(J:a.eval x=u)(h:(Instr.buildSlice t len #[(k,u)]).run P w= .ok v O):(execOp a.eval o).run P w= .ok (.value v) O:=by
 unfold execOp;simp only[X,J,CB,nG,zF,Sem.run_bind,Sem.run_pure,Result.andThen_ok,h]
end
end
section
section
variable {α:Type} {P:Program} {I:aK} {w:World} {L:List az} {t e:TypeId} {z:Value} {size bytes:Nat} {R:World->LV->α->Prop} {A:OA} {q c:Nat} {xs:List α}
theorem St.Kg{cs:LV}{x:α}(N:fY P t e z size bytes)(h:St I w (aB e size R (.slice A q c) xs::bj (λw=>R w cs x)::L))(l:TypeId)(a:Addr)(k:Nat)(D:Sl w Any size (some a) 1 cs)(Z:∀u∈cs,u.oneCell'=true)(F:cs.length=size)
 (B:(q+1)*bytes<=140737488355328) (W:q+1<=140737488355328):
 ∃X r O,(Builtin.append_ #[t,t] l #[.slice A q c,.slice (some a) 1 k]).run P w= .ok (.slice X (q+1) r) O/\St I O (aB e size R (.slice X (q+1) r) (xs++[x])::L):=by
 obtain⟨V,d,Y,G⟩:=h.cu;obtain⟨g,O,U,M⟩:=G.uW N l (some a) 1 k cs D Z B W;obtain⟨X,r,rfl⟩:=M.slice;exact⟨X,r,O,U,M.fS d F Y⟩
end
end
theorem OW(m:Nat)(x:Value)(J:x.cells= #[x]):madeCells x.cells m=(List.replicate m x).toArray:=by
 rw[J];apply ZL.1;unfold madeCells;rw[Yy,zcT,zdk];refine⟨by simp,λb B=> ?_⟩;obtain⟨i,_,rfl⟩:=um.1 B;simp[Nat.mod_one]
theorem WR(k:Nat)(Q:k<=100000)(w:World):(Instr.makeSlice 27 (iI k) (iI k)).run prog w= .ok (.slice (aO w.heap.size) k k) (w.alloc (.cells (bv (List.replicate k 0)).toArray 5)):=by
 obtain⟨q,X,x,a,y⟩:=info_parts qt.kF;have U:=run_make (P:=prog) (w:=w) 27 5 q _ underlying27 X x .i64 .i64 k k oM oM (by rw[y];omega) oM;simp only[rE]at U;rw[U];have e:madeCells (Value.cells (.int .u8 0)) (k*q.size)=(bv (List.replicate k 0)).toArray:=by
  rw[a,Uz,OW k (.int .u8 0) rfl];simp only[bv,zcU]
 rw[e]
theorem zL{P:Program}{a:Act}{o:Oper}{w O:World}{u v g:Value}{t:TypeId}{x y:Operand}(X:o.op= .makeSlice t x y)(J:a.eval x=u)(E:a.eval y=v)(h:(Instr.makeSlice t u v).run P w= .ok g O):(execOp a.eval o).run P w= .ok (.value g) O:=by
 unfold execOp;simp only[X,J,E,Sem.run_bind,Sem.run_pure,Result.andThen_ok,h]
theorem Fr.setRow{w:World}{g:Nat}{F:Nat->Prop}(hF:F g)(cs:Vq):Fr F w (w.setRow g cs):=by
 refine⟨rfl,rfl,rfl,by simp[World.setRow],λb t B=> ?_⟩;have:b≠g:=λe=>B (e▸hF);simp[World.setRow,YL,Vh this]
theorem eK.setRow{w:World}{g:Nat}{t:TypeId}(h:eK w g t cs)(r:Vq):eK (w.setRow g r) g t r:=by
 unfold eK at h⊢;simp[World.setRow,YL,h]
theorem St.storeAll{P:Program}{I:aK}{w:World}{L:List az}{g:Nat}{t l:TypeId}(h:St I w (ab g t cs::L))(r:Vq)(z:(P.info? l).map (·.size)=some r.size)(q:cs.size=r.size)(Z:∀u∈r.toList,u.oneCell'=true):
 ∃O,(Instr.storeAt l (pO g) (.agg r)).run P w= .ok () O/\St I O (ab g t r::L):=by
 refine⟨w.setRow g r,?_,?_⟩
 ·simp only[Instr.storeAt,Instr.sureAddr,Sem.run_bind,Sem.run_pure,Result.andThen]
  exact run_storeVar_row (P:=P) w g t l cs r (h.ah 0 rfl) z q (Array.all_eq_true_iff_forall_mem.2 (λv o=>Z v (by simpa using o)))
 ·obtain⟨M,F,_,_,J,_,Q⟩:=h.head
  exact Q _ _ F (Fr.setRow ((J.1 _).2 rfl) _) (λ_=>⟨J.1,J.2.setRow _⟩) (λ_ B=> .inl B)
def Ti:List az->Nat->az
  | [],_=>kd True
  | x::_,0=>x
  | _::l,n+1=>Ti l n
def era:List az->Nat->List az
  | [],_=>[]
  | _::l,0=>l
  | x::l,n+1=>x::era l n
def ZT:Nat->List Nat->List az->List az
  | n,[],L=>L.drop n
  | n,i::r,L=>Ti L i::ZT n r L
theorem At.Ti:∀(L:List az)(i:Nat),i<L.length->At (Go.Proofs.YtblpaldggenbaaaGreatDoor.Ti L i) L (era L i)
  | _::_,0,_=>.here
  | _::l,n+1,h=>.there (At.Ti l n (Nat.lt_of_succ_lt_succ h))
theorem St.pk{I:aK}{w:World}{L N:List az}(h:St I w L)(n:Nat)(i:List Nat)(_e:N=ZT n i L:=by(simp only[ZT,Ti,NC,Bg]<;>rfl))(y:(i.all (·<n)&&decide i.Nodup)=true:=by rfl)(F:i.map (L[·]?)++(L.drop n).map some=N.map some:=by rfl):St I w N:=h.pick n i y F
theorem St.fi{I:aK}{w:World}{L N:List az}(h:St I w L)(i:Nat)(e:N=Ti L i::era L i:=by(simp only[Ti,era]<;>rfl))(F:decide (i<L.length)=true:=by rfl):St I w N:=e▸h.front (At.Ti L i (of_decide_eq_true F))
def AQ(g:Nat)(xs:LI):az:=Bc λv=>aX (ab g 83 #[v]) (ct 5 1 v xs.length (bv xs))
theorem St.wr{I:aK}{w:World}{L:List az}{g:Nat}{xs:LI}(h:St I w (AQ g xs::L)):∃A c q,q=xs.length/\St I w (ab g 83 #[.slice A q c]::ct 5 1 (.slice A q c) q (bv xs)::L):=by
 obtain⟨v,h⟩:=h.ex;have h:=h.star;obtain⟨A,c,rfl⟩:=h.swap.slice;exact⟨A,c,_,rfl,h⟩
theorem St.uv{I:aK}{w:World}{L:List az}{g q:Nat}{v:Value}{xs:LI}(h:St I w (ab g 83 #[v]::ct 5 1 v q (bv xs)::L))(d:q=xs.length):St I w (AQ g xs::L):=by
 subst d;exact h.aM.eu (f:=λv=>aX (ab g 83 #[v]) (ct 5 1 v xs.length (bv xs))) v
theorem Uy:(prog.info? 5).map (λi=>(i.zero,i.size,i.bytes))=some (some (.int .u8 0),1,1):=kR
theorem Qf(w:World)(x:Int):(Instr.buildSlice 27 1 #[(0,.int .u8 x)]).run prog w= .ok (.slice (aO w.heap.size) 1 1) (w.alloc (.cells #[.int .u8 x] 5)):=by
 go_simp
theorem Fa{I:aK}{w:World}{L:List az}{e:TypeId}{size:Nat}{v:Value}{n:Nat}{xs:LV}{g:Nat}{t:TypeId}{u:Value}(h:St I w (ct e size v n xs::ab g t #[u]::L)):
 (Instr.storeAt 27 (pO g) v).run prog w= .ok () (w.setCell ⟨g,0,none⟩ v):=by
 have Z:=(h.ah 1 rfl).cell 0;have G:=(h.ah 1 rfl).frozen 0;rcases(h.row 0 rfl).2 with⟨rfl,_⟩|⟨d,cap,E,rfl,_⟩<;>go_simp
theorem Wy{I:aK}{L:List az}(g:Nat)(n size:Int)(w:World)(V:size<1\/8<size)(h:St I w L):
 Rt I w 25 #[pO g,iU n,iI size] (.tuple #[]) L:=by
 rcases V with V|V
 rotate_left
 have Z:¬size<1:=oM
 rotate_left
 all_goals
  go_enter func25,ntmps25
  go_wp2
  ((try simp only[Exit.inBlock,Exit.then]);refine bodyPost_ret (results_none rfl _ _ _) rfl ?_)
  exact⟨rfl,h⟩
theorem TJ{I:aK}{L:List az}(g:Nat)(n:Int)(k:Nat)(xs:LI)(w:World)(Z:1<=k)(P:k<=8)(hl:xs.length<=1000000000)(h:St I w (AQ g xs::L)):
 Rt I w 25 #[pO g,iU n,iI k] (.tuple #[]) (AQ g (xs++aV n k)::L):=by
 have H:=aa h;clear h;have A0:¬(k:Int)<1:=oM
 have B0:¬(8:Int)<k:=oM
 go_enter func25,ntmps25
 go_wp2
 go_loopg [14] k (λU i wr=>∃j:Nat,U=k-j/\j<=k/\i= iI j/\St I wr (AQ g (xs++aV n j)::L))
 case atStart=>exact⟨0,rfl,iD _,rfl,by rw[Cm,xd];exact H.out⟩
 case round=>
  clear H;obtain⟨j,C,hj,rfl,V⟩:=hrel;have a:=aa C;have t:=au n j;have C0:(xs++aV n j).length<=1000000008:=by rw[dB];omega
  have G:=aa V;clear C V t;by_cases M:j<k
  ·obtain⟨A,c,q,o,V⟩:=G.out.wr
   clear G;have p:=aa (Nl n j);generalize e:xs++aV n j=ys at*;refine bq e o λF E=>?_;have D0:q<=1000000008:=oM
   clear e o;generalize S:Value.slice A q c=v at V;have T:=aa S;clear S;have D:=(V.ah 0 rfl).cell 0;have f0:=(V.ah 0 rfl).frozen 0;have H:=aa V;clear V
   go_wp2
   have N:IntKind.i64.wrap (8*(j:Int))=8*(j:Int):=IntWalk.i64_in _ oM;have X:(0:Int)<=8*(j:Int):=oM
   have z:8*(j:Int)<=64:=oM
   have R:(8*(j:Int)).toNat=8*j:=oM
   refine bT (λW=>W.cell? (aD g 0)=some v/\W.frozen? ⟨g,0,none⟩=false) 12 (rG 10) [10,11,12,13,14] kR kR
    (λd=>by cases d<;>exact λ_ _ _ _ h=>h) (λW J=> ?_)
   refine⟨⟨by rw[J];exact D,by rw[J];exact f0⟩,?_⟩
   iterate 10 (refine bJ rfl rfl (λW J=>by(rcases J with⟨_,_⟩;go_simp;try rfl)) ?_;simp only[aW])
   clear N X z R;refine take_nil ?_;have V:=H.grow (show Fr jo wr W by rw[J];exact(Fr.refl _ _).drew);clear J H D f0;have B:IntKind.u8.wrap (n/2^(8*j))=n/256^j%256:=by rw[IntKind.wrap_u8,Int.pow_mul];rfl
   generalize IntKind.u8.wrap (n/2^(8*j))=x at B⊢;have Q:=aa B;clear B;refine bY rfl rfl 27 1 0 _ (.int .u8 x) rfl rfl (Qf W x) (λ_=>⟨?_,?_⟩) ?_
   ·exact((V.oH _).ah 0 rfl).cell 0
   ·exact((V.oH _).ah 0 rfl).frozen 0
   simp only[aW];have Y:=V.oH (.cells #[.int .u8 x] 5);refine AG rfl rfl _ _ 27 rfl 0 5 _ 1 1 underlying27 Uy kR oM v q (bv ys) rfl (Y.row 1 rfl) ⟨W.heap.size,0,none⟩ 1 1 rfl [.int .u8 x] rfl ?_ (jJ [x]) oM oM (iD _) (λl O r hF K=> ?_)
   ·intro i E0 y
    match i,y with
    |0,y=>exact(V.alloc 5 #[.int .u8 x]|>.ah 0 rfl|>.cell 0).trans y
    |i+1,y=>simp at y
   have u:=Y.swap.oN (n':=(ys++[x]).length) (xs':=bv (ys++[x])) (Nn r (by simp[E.out]) (Un ys x).symm) hF K;clear V Y r hF K;have D:=(u.ah 1 rfl).cell 0;have f0:=(u.ah 1 rfl).frozen 0;refine⟨λ_=>⟨D,f0⟩,?_⟩;simp only[aW]
   (refine bF rfl rfl gS nD ?_;simp only[aW])
   (refine bF rfl rfl gS nD ?_;simp only[aW])
   refine cE rfl rfl 27 _ _ (pO g) l rfl rfl rfl (Fa u) nD ?_;simp only[Act.put];refine cD ?_;have b:=u.swap.bE 0 l;generalize O.setCell ⟨g,0,none⟩ l=w3 at b⊢;have H:=aa (St.uv b rfl);clear u b D f0
   go_wp2
   go_roundg (k-(j+1))
   case measure=>exact adI
   case rel=>exact⟨j+1,rfl,M,rfl,by rw[p.out,<-pI,F.out,<-Q.out];exact H.out⟩
  ·obtain rfl:j=k:=oM
   go_wp2
   go_end0
   exact⟨rfl,G⟩
theorem dk{I:aK}{L:List az}(g:Nat)(n size:Int)(xs:LI)(w:World)(F:xs.length<=1000000000)(h:St I w (AQ g xs::L)):
 Rt I w 25 #[pO g,iU n,iI size] (.tuple #[]) (AQ g (xs++bM n size)::L):=by
 unfold bM;by_cases V:size<1\/8<size
 ·rw[iP V,xd]
  exact Wy g n size w V h
 ·rw[iN V]
  obtain⟨k,rfl⟩:=BE (show 0<=size by omega);exact TJ g n k xs w oM oM F h
theorem qu{I:aK}{L:List az}(g:Nat)(xs:LI)(w:World)(F:xs.length<=1000000000)(h:St I w (AQ g xs::L)):
 Calls prog 27 #[pO g] w λe O=>∃v,e= .returned v/\St I O (ct 5 1 v xs.length (bv xs)::AQ g xs::L):=by
 obtain⟨A,c,q,d,h⟩:=h.wr;have D:=(h.ah 0 rfl).cell 0;refine bq (ef A q c xs w h.swap.sl oM h) d λM E=>?_;clear h d
 go_enter func27,ntmps27
 go_wp2_with fail
 refine M.mono ?_;rintro e z⟨u,rfl,Z⟩
 go_wp2_with fail
 go_ret
 rw[<-E.out];exact⟨u,rfl,(St.uv Z.sX E).swap⟩
theorem Nt(X:LI):X.take 1000=X.take (min 1000 X.length):=by
 rcases ZC 1000 X.length with Z|Z
 ·rw[Hc Z]
 ·rw[Nat.min_eq_right Z,oJ Z,MT]
theorem Ty(X:LI):bG X=bM (min 1000 X.length:Nat) 2++X.take (min 1000 X.length):=by
 unfold bG;rw[Nt,fV,Hc (Nat.min_le_right _ _)]
 rfl
theorem tF{I:aK}{L:List az}(g:Nat)(v:Value)(X xs:LI)(w:World)(F:xs.length<=900000000)(h:St I w (AQ g xs::bj (λO=>ay O .u8 v X)::L)):
 Rt I w 26 #[pO g,v] (.tuple #[]) (AQ g (xs++bG X)::bj (λO=>ay O .u8 v X)::L):=by
 obtain⟨A,c,rfl,J,C,_⟩:=h.get 1 rfl;unfold maxLen at C;have K:(0:Int)<=(X.length:Int):=oM
 refine bq (Ty X) (fV (i:=min 1000 X.length) (l:=X)) λV p=>?_;generalize W:X.length=n at*;have U:=aa W;clear W;have r:Hid (∀k O,k<=n->ay O .u8 (.slice A n c) X->Sl O Any 1 A k (bv (X.take k))):=aa (λk O y Q=>by
  have Z:=(Q.cut y).sl;exact Z.2.2.2)
 have u:=dU n 2;have a:=dU 1000 2;rcases(by omega:n<=1000\/1000<n)with Z|Z;have G:(n:Int)<=1000:=oM
 have M:(n:Int)<=(c:Int):=oM
 rw[Nat.min_eq_right Z]at V p;have H:=aa h;clear h Z a
 go_enter func26,ntmps26
 go_wp2_with fail
 refine qK (dk g n 2 xs _ oM H) λz Z=>?_;clear H;obtain⟨P,R,q,d,Z⟩:=Z.wr;have D:=(Z.ah 0 rfl).cell 0;have f0:=(Z.ah 0 rfl).frozen 0;rw[dB]at d;have b:q<=900000008:=oM
 refine bq d Z λE H=>?_;clear Z d
 go_wp2_with (at_builtin;refine St.fj qt H.swap rfl _ _ rfl rfl A _ c rfl (bv (X.take n)) (r n _ oM (H.get 2 rfl)) (jJ _) oM oM ?_;intro S j z Z;have Y:=(Z.ah 1 rfl).cell 0;have f1:=(Z.ah 1 rfl).frozen 0)
 rotate_left
 have G:¬(n:Int)<=1000:=oM
 have M:(1000:Int)<=(c:Int):=oM
 rw[Hc (show 1000<=n by omega)]at V p;rw[show((1000:Nat):Int)=1000 from rfl]at V;have H:=aa h;clear h u
 go_enter func26,ntmps26
 go_wp2_with fail
 refine qK (dk g 1000 2 xs _ oM H) λz Z=>?_;clear H;obtain⟨P,R,q,d,Z⟩:=Z.wr;have D:=(Z.ah 0 rfl).cell 0;have f0:=(Z.ah 0 rfl).frozen 0;rw[dB]at d;have b:q<=900000008:=oM
 refine bq d Z λE H=>?_;clear Z d
 go_wp2_with (at_builtin;refine St.fj qt H.swap rfl _ _ rfl rfl A _ c rfl (bv (X.take 1000)) (r 1000 _ oM (H.get 2 rfl)) (jJ _) oM oM ?_;intro S j z Z;have Y:=(Z.ah 1 rfl).cell 0;have f1:=(Z.ah 1 rfl).frozen 0)
 rotate_left
 all_goals
  go_end0
  refine⟨rfl,St.uv (((Z.swap.bE 0 _).swap.Wg rfl ?_).swap) ?_⟩
  ·rw[V.out];simp[bv]
  ·rw[V.out,E.out,dB,dB,p.out];omega
theorem yY{I:aK}{L:List az}(g:Nat)(r:Rd)(w:World)(B:Bytes r.xs)(F:r.xs.length<=140737488355328)(o:r.s=true->r.xs=[])(h:St I w (pu g r::L)):
 Calls prog 135 #[pO g] w λe O=>∃v,e= .returned v/\St I O (ai .u8 v r.gI.1::pu g r.gI.2::L):=by
 have b:=aa (bN g r 2 w B F o h);have a:=r.MZ 2 B F;have l:=r.UP B;clear h o;unfold Rd.gI;generalize(r.num 2).1=n at*;generalize(r.num 2).2=i at*;obtain⟨E,t,K,q⟩:=a;clear q;have T:=aa (λw (h:St I w (pu g i::L))=>Lg g i (Rd.count n i) w h);have Y:=i.take_len (Rd.count n i);have c:Rd.count n i=if 1000<n then i.xs.length+1 else n.toNat:=rfl;generalize(i.take (Rd.count n i)).1=out at*;generalize(i.take (Rd.count n i)).2=r2 at*;generalize Rd.count n i=k at*
 go_enter func135,ntmps135
 have M:=aa c;clear c
 go_wp2_with fail
 refine qK b λz h=>?_;clear b;have A:IntKind.i64.wrap n=n:=IntWalk.i64_in _ oM;obtain⟨u,W⟩:=i;obtain⟨d,S,C,x,Z⟩:=h.rd;simp only at C Z E t;have D:=(Z.ah 0 rfl).cell 0;have H:=aa h;clear h Z;by_cases j:1000<n;have Q:k=u.length+1:=by rw[M.out,iP j]
 subst Q
 rotate_left
 have Q:n=(k:Int):=by rw[M.out,iN j];omega
 subst Q;clear A C x t l K
 rotate_left
 all_goals
  go_wp2_with fail
  refine(T _ H).mono ?_;rintro e y⟨v,rfl,h⟩;obtain⟨P,R,rfl,_,_,V⟩:=h.get 0 rfl;have p:=aa (ef P out.length R out y V oM h.tail);clear T H h V
  go_wp2_with fail
  refine p.mono ?_;rintro e X⟨v,rfl,h⟩
  go_wp2_with fail
  go_ret
  exact⟨v,rfl,h.ints⟩
structure SF where
 k:Int
 n:Int
 b:LI
def isKind(k:Int):Bool:=k==1||k==2||k==4||k==8||k==9
def LR(f:SF):LI:=if f.k=9 then bG f.b else bM f.n f.k
def sr(f:SF):Bool:=f.k==9&&decide (1000<f.b.length)
def Rd.Pq(r:Rd)(k:Int):SF×Rd:=if k=9 then(⟨9,0,r.gI.1⟩,r.gI.2)else(⟨k,(r.num k).1,[]⟩,(r.num k).2)
def SF.norm(f:SF):SF:=if f.k=9 then⟨9,0,f.b⟩else⟨f.k,f.n%256^f.k.toNat,[]⟩
theorem uL{k:Int}(h:isKind k=true):k=9\/∃m:Nat,k=m/\1<=m/\m<=8:=by
 unfold isKind at h;simp only[OR,beq_iff_eq]at h;rcases h with(((h|h)|h)|h)|h
 ·exact .inr ⟨1,h,oM,oM⟩
 ·exact .inr ⟨2,h,oM,oM⟩
 ·exact .inr ⟨4,h,oM,oM⟩
 ·exact .inr ⟨8,h,oM,oM⟩
 ·exact .inl h
theorem Rd.PF(f:SF)(K:0<=f.n)(Q:isKind f.k=true)(F:sr f=false)(rest:LI):Rd.Pq ⟨LR f++rest,false⟩ f.k=(f.norm,⟨rest,false⟩):=by
 obtain⟨k,n,b⟩:=f;obtain⟨n,rfl⟩:=BE K;simp only at Q;unfold Rd.Pq LR SF.norm;rcases uL Q with rfl|⟨m,rfl,Z,W⟩
 ·have g:b.length<=1000:=by
   unfold sr at F;simp at F;exact F
  simp only[iP];unfold Rd.gI bG;rw[oJ g,pI];have G:=Rd.pP b.length 2 oM oM (b++rest);rw[show((2:Nat):Int)=2 from rfl,show b.length%256^2=b.length from Ye oM]at G;rw[G];have M:Rd.count (b.length:Int) ⟨b++rest,false⟩=b.length:=by
   unfold Rd.count;rw[iN oM];omega
  rw[M,Rd.take_append]
 ·have X:¬((m:Nat):Int)=9:=oM
  simp only[iN X];have e:bM (n:Int) (m:Int)=aV n m:=by
   unfold bM;rw[iN oM];exact abN
  rw[e,Rd.pP n m Z W rest];exact abN
theorem Rd.Pt{r:Rd}{k:Int}(B:Bytes r.xs)(Q:isKind k=true)(h:(r.Pq k).2.s=false):
 r.s=false/\r.xs=LR (r.Pq k).1++(r.Pq k).2.xs/\(r.Pq k).1.k=k/\sr (r.Pq k).1=false/\0<=(r.Pq k).1.n:=by
 unfold Rd.Pq at h⊢;rcases uL Q with rfl|⟨m,rfl,Z,W⟩
 ·simp only[iP]at h⊢
  unfold Rd.gI at h⊢;obtain⟨l,c,L⟩:=Rd.BG h;have G:=Rd.zG (m:=2) B oM oM l;rw[show((2:Nat):Int)=2 from rfl]at G;obtain⟨M,P,C⟩:=G;have d:=r.UP B;generalize(r.num 2).1=n at*;generalize(r.num 2).2=r1 at*;have a:¬1000<n:=by
   intro j;have e:Rd.count n r1=r1.xs.length+1:=by unfold Rd.count;rw[iP j]
   rw[e]at h;unfold Rd.take at h;rw[iP (.inr (Nat.lt_succ_self _))]at h
   cases h
  have e:Rd.count n r1=n.toNat:=by unfold Rd.count;rw[iN a]
  rw[e]at c L⊢;generalize(r1.take n.toNat).1=b at*;generalize(r1.take n.toNat).2.xs=zs at*;refine⟨M,?_,trivial,?_,cO 0⟩
  ·unfold LR bG
   rw[iP rfl];simp only;rw[oJ oM,L,P,c,pI,show((n.toNat:Nat):Int)=n by omega]
  ·unfold sr
   exact abS
 ·have X:¬((m:Nat):Int)=9:=oM
  simp only[iN X]at h⊢;obtain⟨l,c,L⟩:=Rd.zG B Z W h;refine⟨l,?_,trivial,?_,L⟩
  ·unfold LR bM
   simp only;rw[iN X,iN oM];simpa using c
  ·unfold sr
   exact abN
def wF(r:RQ):LI:=bM r.op 1++bM r.region 1++bM r.index 1++bM r.token 8++bM r.seq 4++bG r.data
def aZ(r:RQ):LI:=if r.b9=0 then wF r else []
def Rd.nR(r:Rd):RQ×Rd:=
 (⟨(r.num 1).1,((r.num 1).2.num 1).1,(((r.num 1).2.num 1).2.num 1).1,((((r.num 1).2.num 1).2.num 1).2.num 8).1,(((((r.num 1).2.num 1).2.num 1).2.num 8).2.num 4).1,(((((r.num 1).2.num 1).2.num 1).2.num 8).2.num 4).2.gI.1⟩,
  (((((r.num 1).2.num 1).2.num 1).2.num 8).2.num 4).2.gI.2)
def nX(X:LI):Int:=if(Rd.nR ⟨X,false⟩).2.kw=0 then(Rd.nR ⟨X,false⟩).1.b9 else(Rd.nR ⟨X,false⟩).2.kw
def pX(X:LI):RQ:=if nX X=0 then(Rd.nR ⟨X,false⟩).1 else⟨0,0,0,0,0,[]⟩
theorem TM{r:Rd}(h:r.Ok):(Rd.nR r).1.ok:=
 ⟨(Rd.yt (((h.num 1).num 1).num 1)).1,(Rd.yt (((h.num 1).num 1).num 1)).2,(Rd.lB ((((h.num 1).num 1).num 1).num 8)).1,(Rd.lB ((((h.num 1).num 1).num 1).num 8)).2⟩
theorem Ln{bs:LI}(h:Rd.Ok ⟨bs,false⟩):(pX bs).ok:=by
 unfold pX
 split
 ·exact TM h
 ·exact⟨dC,dC,dC,dC⟩
theorem eX{fn:Func}{t k:Nat}{ty:TypeId}{P:Program}{w:World}{v:Value}{a:Addr}(h:fn.results= #[.cell t ty,.tmp k])(b:Vq)(T:b.getD t undef= .pointer (some a))(F:(loadVar ty a).run P w= .ok v w):
 (results fn b).run P w= .ok (.tuple #[v,b.getD k undef]) w:=by
 exact adm
theorem wg{I:aK}{L:List az}(v:Value)(X:LI)(w:World)(B:Bytes X)(hl:X.length<=1000000)(h:St I w (ai .u8 v X::L)):
 Calls prog 91 #[v] w λe O=>∃A n c,e= .returned (.tuple #[nv (pX X) (.slice A n c),iI (nX X)])/\St I O (ai .u8 (.slice A n c) (pX X).data::L):=by
 obtain⟨A0,c0,rfl,_,_,_⟩:=h.get 0 rfl;have P:Rd.Ok (Rd.mk X false):=⟨B,by show X.length<=140737488355328;omega,λh=>by cases h⟩;refine nK (show nX X=if(Rd.nR ⟨X,false⟩).2.kw=0 then(Rd.nR ⟨X,false⟩).1.b9 else(Rd.nR ⟨X,false⟩).2.kw from rfl) (show pX X=if nX X=0 then(Rd.nR ⟨X,false⟩).1 else⟨0,0,0,0,0,[]⟩from rfl) ((h.alloc 175 #[iI 0,iI 0,iI 0,iU 0,iW 0,sN]).swap) P λi J H y=>?_;clear h P B hl
 go_enter func91,ntmps91
 go_wp2_with fail
 refine(ou _ X _ H).mono ?_;rintro e w1⟨g,rfl,h⟩;have F:=aa (h.tO);clear H h
 go_wp2_with fail
 refine bq (Rd.mJ y) (y.num 1) λB0 G=>?_;refine qH (bN g _ 1 _ y.hb y.hl y.hz F) λu1 N=>?_;clear F;unfold Rd.nR at i J;generalize((Rd.mk X false).num 1).2=r1 at*;generalize((Rd.mk X false).num 1).1=a0 at*;obtain⟨b0,d0⟩:=B0.out
 go_wp2_with fail
 refine bq (Rd.mJ G) (G.num 1) λC0 p=>?_;refine qH (bN g _ 1 _ G.hb G.hl G.hz N) λu2 K=>?_;clear N;generalize(r1.num 1).2=r2 at*;generalize(r1.num 1).1=a1 at*;obtain⟨b1,d1⟩:=C0.out
 go_wp2_with fail
 refine bq (Rd.mJ p) (p.num 1) λD0 D=>?_;refine qH (bN g _ 1 _ p.hb p.hl p.hz K) λu3 l=>?_;clear K;generalize(r2.num 1).2=r3 at*;generalize(r2.num 1).1=a2 at*;obtain⟨b2,d2⟩:=D0.out
 go_wp2_with fail
 refine bq (Rd.yt D) (D.num 8) λE0 z=>?_;refine qH (bN g _ 8 _ D.hb D.hl D.hz l) λu4 V=>?_;clear l;generalize(r3.num 8).2=r4 at*;generalize(r3.num 8).1=a3 at*;obtain⟨b3,d3⟩:=E0.out
 go_wp2_with fail
 refine bq (Rd.lB z) (z.num 4) λF0 E=>?_;refine qH (bN g _ 4 _ z.hb z.hl z.hz V) λu5 j=>?_;clear V;generalize(r4.num 4).2=r5 at*;generalize(r4.num 4).1=a4 at*;obtain⟨b4,d4⟩:=F0.out
 go_wp2_with fail
 have H0:=aa E.gI;refine(yY g r5 _ E.hb E.hl E.hz j).mono ?_;rintro e u6⟨v6,rfl,h⟩;generalize r5.gI.2=r6 at*;generalize r5.gI.1=data at*;obtain⟨q,d,rfl,_,_,_⟩:=h.get 0 rfl;generalize Z:data.length=nd at*;refine bq Z (h.alloc 175 #[iI a0,iI a1,iI a2,iU a3,iW a4,.slice q nd d]) λG0 T=>?_;clear j h Z
 go_wp2_with fail
 refine qK (qU g r6 _ T.tW) λu7 h=>?_;generalize r6.kw=ee at*;obtain⟨e0,e1,e2,e3,e4,e5⟩:=(h.ah 1 rfl).ng;obtain⟨z0,z1,z2,z3,z4,z5⟩:=(h.ah 3 rfl).ng;have fz:=(h.ah 3 rfl).frozen;have C:=aa h;clear T h;by_cases Y:ee=0
 ·subst Y
  rw[iP rfl]at i
  go_wp2_with fail
  refine qK (vv ⟨a0,a1,a2,a3,a4,data⟩ q nd d _ G0.symm) λu8 a=>?_;have h:=C.grow a;obtain⟨e0,e1,e2,e3,e4,e5⟩:=(h.ah 1 rfl).ng;obtain⟨z0,z1,z2,z3,z4,z5⟩:=(h.ah 3 rfl).ng;have fz:=(h.ah 3 rfl).frozen;have o:=aa h;clear C h a;generalize RQ.b9 ⟨a0,a1,a2,a3,a4,data⟩=ww at*;by_cases M:ww=0
  ·subst M
   go_wp2_with fail
   have u:=(((((o.pk 4 [3,2]).bE 0 (iI a0)).bE 1 (iI a1)).bE 2 (iI a2)).bE 3 (iU a3)).bE 4 (iW a4)|>.bE 5 (.slice q nd d);have Q:eK _ w.heap.size 175 #[iI a0,iI a1,iI a2,iU a3,iW a4,.slice q nd d]:=u.ah 0 rfl;obtain⟨U,R,W,S,x,b⟩:=Q.ng;refine bodyPost_ret (v:= .tuple #[.agg #[iI a0,iI a1,iI a2,iU a3,iW a4,.slice q nd d],iI 0]) (eX (fn:=Tryz.f91) (t:=2) (k:=3) (ty:=175) rfl _ rfl ?_) rfl ⟨q,nd,d,?_,?_⟩
   ·go_simp
   ·rw[J.out,i.out];rfl
   ·rw[J.out,iP i.out]
    exact u.tail
  ·have J0:(ww !=0)=true:=by simp[M]
   have r:=aa M;clear M
   go_wp2_with fail
   have u:=(((((o.pk 4 [3,2]).bE 0 (iI 0)).bE 1 (iI 0)).bE 2 (iI 0)).bE 3 (iU 0)).bE 4 (iW 0)|>.bE 5 sN;have Q:eK _ w.heap.size 175 #[iI 0,iI 0,iI 0,iU 0,iW 0,sN]:=u.ah 0 rfl;obtain⟨U,R,W,S,x,b⟩:=Q.ng;refine bodyPost_ret (v:= .tuple #[.agg #[iI 0,iI 0,iI 0,iU 0,iW 0,sN],iI ww]) (eX (fn:=Tryz.f91) (t:=2) (k:=3) (ty:=175) rfl _ rfl ?_) rfl ⟨none,0,0,?_,?_⟩
   ·go_simp
   ·rw[J.out,iN acw,i.out]
   ·exact aeT
 ·rw[iN Y]at i
  have I0:(ee !=0)=true:=by simp[Y]
  have heq:(ee==0)=false:=jM Y;have r:=aa Y;clear Y
  go_wp2_with fail
  have u:=(((((C.pk 4 [3,2]).bE 0 (iI 0)).bE 1 (iI 0)).bE 2 (iI 0)).bE 3 (iU 0)).bE 4 (iW 0)|>.bE 5 sN;have Q:eK _ w.heap.size 175 #[iI 0,iI 0,iI 0,iU 0,iW 0,sN]:=u.ah 0 rfl;obtain⟨U,R,W,S,x,b⟩:=Q.ng;refine bodyPost_ret (v:= .tuple #[.agg #[iI 0,iI 0,iI 0,iU 0,iW 0,sN],iI ee]) (eX (fn:=Tryz.f91) (t:=2) (k:=3) (ty:=175) rfl _ rfl ?_) rfl ⟨none,0,0,?_,?_⟩
  ·go_simp
  ·rw[J.out,iN acw,i.out]
  ·exact aeT
theorem GJ(r:RQ):(wF r).length<=1100:=by
 have:=dU r.op 1;have:=dU r.region 1;have:=dU r.index 1;have:=dU r.token 8;have:=dU r.seq 4;have:=iJ r.data;unfold wF;simp only[dB];omega
theorem wX{I:aK}{L:List az}(r:RQ)(A:OA)(n c:Nat)(w:World)(U:r.ok)(h:St I w (ai .u8 (.slice A n c) r.data::L)):
 Calls prog 166 #[nv r (.slice A n c)] w λe O=>∃v,e= .returned (.tuple #[v,iI r.b9])/\St I O (ai .u8 v (aZ r)::L):=by
 have d:n=r.data.length:=(h.get 0 rfl).sl.1;refine nK (vv r A n c) d U h λQ y C H=>?_;clear h d U;by_cases M:r.b9=0
 ·obtain⟨k,z1,z2,z3,z4,z5,z6⟩:=RQ.gT M
  have E:Hid (aZ r=wF r):=aa (iP M);have B:=aa (GJ r);unfold wF at E B;rw[M]at Q;rw[M];clear M;obtain⟨t,region,index,token,seq,data⟩:=r;simp only at k z1 z2 z3 z4 z5 z6;obtain⟨t0,t1,J,p⟩:=C.out;simp only at t0 t1 J p
  go_enter func166,ntmps166
  go_wp2_with fail
  refine qK (Q _ y) λz a=>?_;have Z:=(H.alloc 175 #[iI t,iI region,iI index,iU token,iW seq,.slice A n c]).grow a;obtain⟨S,u,Y,P,g,b⟩:=(Z.ah 0 rfl).ng;have i:=St.uv (xs:=[]) ((Z.mq 5 1).alloc 83 #[sN]) rfl;obtain⟨S,u,Y,P,g,b⟩:=(i.ah 1 rfl).ng;have G:=i.alloc 3 #[iI t,iI region,iI index];have D:=(G.ah 0 rfl).cell 0;have V:=(G.ah 0 rfl).cell 1;have R:=(G.ah 0 rfl).cell 2;simp only[World.size_alloc]at G D V R;have N:=aa G.swap;clear H a Z G i
  go_wp2_with fail
  refine wp_loop_rounds 4 ?_;rw[rounds_succ]
  go_wp2_with fail
  refine qK (dk z.heap.size t 1 _ _ abN N) λw2 h=>?_;have V:=(h.ah 1 rfl).cell 1;have K:=aa h;clear N h D R
  go_wp2_with fail
  rw[rounds_succ]
  go_wp2_with fail
  refine qK (dk z.heap.size region 1 _ _ (by have:=B.out;simp only[dB]at this⊢;simp;omega) K) λw3 h=>?_;have R:=(h.ah 1 rfl).cell 2;have q:=aa h;clear K h V
  go_wp2_with fail
  rw[rounds_succ]
  go_wp2_with fail
  refine qK (dk z.heap.size index 1 _ _ (by have:=B.out;simp only[dB]at this⊢;simp;omega) q) λw4 h=>?_;obtain⟨S,u,Y,P,g,b⟩:=(h.ah 2 rfl).ng;have l:=aa h;clear q h R
  go_wp2_with fail
  rw[rounds_succ]
  go_wp2_with fail
  refine qK (dk z.heap.size token 8 _ _ (by have:=B.out;simp only[dB]at this⊢;simp;omega) l) λw5 h=>?_;obtain⟨S,u,Y,P,g,b⟩:=(h.ah 2 rfl).ng;have j:=aa h;clear l h
  go_wp2_with fail
  refine qK (dk z.heap.size seq 4 _ _ (by have:=B.out;simp only[dB]at this⊢;simp;omega) j) λw6 h=>?_;obtain⟨S,u,Y,P,g,b⟩:=(h.ah 2 rfl).ng;have W:=h.pk 4 [0,3];have T:=aa W;clear j h W
  go_wp2_with fail
  refine qH (tF z.heap.size _ data _ _ (by have:=B.out;simp only[dB]at this⊢;simp;omega) T) λw7 X=>?_;clear T
  go_wp2_with fail
  refine(qu z.heap.size _ _ (by have:=B.out;simp only[dB]at this⊢;simp;omega) X).mono ?_;rintro e w8⟨v,rfl,h⟩;have o:=aa (h.ints.pk 3 [0]);clear X h
  go_wp2_with fail
  go_ret2
  exact⟨v,rfl,by rw[E.out];simpa using o.out⟩
 ·have E:Hid (aZ r=[]):=aa (iN M)
  have hb:(r.b9 !=0)=true:=by simp[M]
  obtain⟨t,region,index,token,seq,data⟩:=r;generalize RQ.b9 ⟨t,region,index,token,seq,data⟩=x at*;clear M
  go_enter func166,ntmps166
  go_wp2_with fail
  refine qK (Q _ y) λz a=>?_;have F:=aa ((H.oH _).grow a);clear H a
  go_wp2_with fail
  go_ret2
  exact⟨_,rfl,by rw[E.out];exact F.tail.bH (λO _=>ay.none_ O _)⟩
theorem rH(n:Int)(k:Nat)(Z:1<=k)(W:k<=8)(K:0<=n)(d:n<256^k)(rest:LI):Rd.num ⟨bM n k++rest,false⟩ (k:Int)=(n,⟨rest,false⟩):=by
 obtain⟨m,rfl⟩:=BE K;have e:bM (m:Int) (k:Int)=aV m k:=by
  unfold bM;rw[iN oM,rE]
 have p:m<256^k:=by
  have:((256^k:Nat):Int)=(256:Int)^k:=by simp
  omega
 rw[e,Rd.pP m k Z W,Ye p]
theorem oX(b:LI)(h:b.length<=1000)(rest:LI):Rd.gI ⟨bG b++rest,false⟩=(b,⟨rest,false⟩):=by
 have Z:=Rd.PF ⟨9,0,b⟩ (cO 0) rfl (by unfold sr;simp;omega) rest;have e:LR ⟨9,0,b⟩=bG b:=iP rfl;rw[e]at Z;unfold Rd.Pq at Z;rw[iP rfl]at Z;have G:=congrArg (λp=>p.1.b) Z;have M:=congrArg Prod.snd Z;simp only at G M;exact Prod.ext (G.trans (by simp[SF.norm])) M
theorem xr{r:RQ}(U:r.ok)(M:r.b9=0):nX (wF r)=0/\pX (wF r)=r:=by
 obtain⟨l,y,T,i,C,D,j⟩:=RQ.gT M;obtain⟨t0,t1,J,d⟩:=U;have e:Rd.nR ⟨wF r,false⟩=(r,⟨[],false⟩):=by
  unfold wF Rd.nR;have u:∀rest,Rd.num ⟨bM r.op 1++rest,false⟩ 1=(r.op,⟨rest,false⟩):=rH r.op 1 oM oM oM oM;have Y:∀rest,Rd.num ⟨bM r.region 1++rest,false⟩ 1=(r.region,⟨rest,false⟩):=rH r.region 1 oM oM oM oM;have P:∀rest,Rd.num ⟨bM r.index 1++rest,false⟩ 1=(r.index,⟨rest,false⟩):=rH r.index 1 oM oM oM oM;have g:∀rest,Rd.num ⟨bM r.token 8++rest,false⟩ 8=(r.token,⟨rest,false⟩):=rH r.token 8 oM oM oM (by simpa using t1);have b:∀rest,Rd.num ⟨bM r.seq 4++rest,false⟩ 4=(r.seq,⟨rest,false⟩):=rH r.seq 4 oM oM oM (by simpa using d);have R:=oX r.data oM [];rw[xd]at R;simp only[pI,u,Y,P,g,b,R]
 have S:nX (wF r)=0:=by
  unfold nX;rw[e];show(if Rd.kw ⟨[],false⟩=0 then r.b9 else _)=0;rw[iP dC,M]
 refine⟨S,?_⟩;unfold pX;rw[iP S,e]
theorem kT{b:LI}(h:Bytes b):Bytes (bG b):=(cd _ _).append (h.take _)
theorem nJ{r:RQ}(h:Bytes r.data):Bytes (aZ r):=by
 unfold aZ
 split
 ·exact(((((iK _ _).append (iK _ _)).append (iK _ _)).append (iK _ _)).append (iK _ _)).append (kT h)
 ·exact Bytes.nil
structure dO where
 seq:Int
 cS:Bool
 dh:Bool
 aq:List RQ
 bu:Int
def dO.zero:dO:=⟨0,false,false,[],0⟩
structure qO where
 m:Int
 t:Int
 u:Int
def qO.zero:qO:=⟨0,0,0⟩
structure aY where
 a9:Bool
 seq:Int
 iZ:Int
 h:Nat->qO
 la:Nat->Int
 bl:List PU
 wr:List PU
 r:Nat->dO
structure CX where
 id:Int
 c:aY
 p:Nat->Value
abbrev cH(x:CX)(v u:Value):Vq:=
 #[iI x.id,.bool x.c.a9,iW x.c.seq,iU x.c.iZ,
  iI (x.c.h 0).m,iU (x.c.h 0).t,iU (x.c.h 0).u,iI (x.c.h 1).m,iU (x.c.h 1).t,iU (x.c.h 1).u,
  iI (x.c.h 2).m,iU (x.c.h 2).t,iU (x.c.h 2).u,iI (x.c.h 3).m,iU (x.c.h 3).t,iU (x.c.h 3).u,
  iU (x.c.la 0),iU (x.c.la 1),iU (x.c.la 2),iU (x.c.la 3),v,u,
  iW (x.c.r 0).seq,.bool (x.c.r 0).cS,.bool (x.c.r 0).dh,x.p 0,iI (x.c.r 0).bu,
  iW (x.c.r 1).seq,.bool (x.c.r 1).cS,.bool (x.c.r 1).dh,x.p 1,iI (x.c.r 1).bu,
  iW (x.c.r 2).seq,.bool (x.c.r 2).cS,.bool (x.c.r 2).dh,x.p 2,iI (x.c.r 2).bu,
  iW (x.c.r 3).seq,.bool (x.c.r 3).cS,.bool (x.c.r 3).dh,x.p 3,iI (x.c.r 3).bu]
structure gZ where
 i:Int
 d:LI
structure AI where
 a:Int
 i:Int
 d:LI
structure fT where
 t:Int
 p:List gZ
 s:Int
 k:List AI
abbrev yw:=Nat->LI
def noB:yw:=λ_=>[]
def ti(b:yw)(p:gZ):yw:=if 0<=p.i/\p.i<4 then aI b p.i.toNat p.d else b
def jG(b:yw)(l:List gZ):yw:=l.foldl ti b
def NE(b:yw)(i:Int):LI:=if 0<=i/\i<4 then b i.toNat else []
def px(s:fT)(b:yw)(k:AI):Bool:=decide (NE (jG b (s.p.take k.a.toNat)) k.i=k.d)
def jj{α:Type}(p:α->Bool):Nat->List α->Int
 |_,[]=> -1
 |i,x::r=>if p x=true then(i:Int)else jj p (i+1) r
theorem sx{α:Type}(p:α->Bool)(l:List α):∀i:Nat,(jj p i l= -1/\l.any p=false)\/∃(k:Nat) (x:α),jj p i l=((i+k:Nat):Int)/\l[k]? =some x/\p x=true/\(l.take k).any p=false:=by
 induction l with
 |nil=>exact λi=> .inl ⟨rfl,rfl⟩
 |cons y r K=>
  intro i;by_cases E:p y=true
  ·exact .inr ⟨0,y,iP E,rfl,E,rfl⟩
  ·have e:jj p i (y::r)=jj p (i+1) r:=iN E
   have E:p y=false:=by simpa using E
   rcases K (i+1)with⟨Z,G⟩|⟨k,x,Z,G,M,S⟩
   ·exact .inl ⟨e.trans Z,by rw[XP,E,G];rfl⟩
   ·exact .inr ⟨k+1,x,by rw[e,Z];congr 1;omega,G,M,by rw[IE,XP,E,S];rfl⟩
theorem Rc{α:Type}(p:α->Bool)(l:List α):decide (jj p 0 l≥0)=l.any p:=by
 rcases sx p l 0 with⟨Z,G⟩|⟨k,x,Z,G,M,_⟩
 ·rw[Z,G];rfl
 ·rw[Z,zda.2 ⟨x,qP G,M⟩]
  exact decide_eq_true (by omega)
end Go.Proofs.YtblpaldggenbaaaGreatDoor
