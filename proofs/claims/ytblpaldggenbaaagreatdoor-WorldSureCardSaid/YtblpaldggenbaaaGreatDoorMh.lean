/- A part. -/
import Derived.Test.YtblpaldggenbaaaGreatDoorMg
namespace Go.Proofs.YtblpaldggenbaaaGreatDoor
open Go.RowKit Go.Proofs.Tryz
set_option maxRecDepth 100000
set_option maxHeartbeats 64000000
variable{L:List az}{I:aK}{w:World}{g gd:Nat}{P:Program}{D:DS}{n:Nat}{A:OA}{b:LI}
def Sa(D:DS)(a g:Int)(i:Nat):PM:=cg D (a+2+g*21+(i:Nat))
def Sk(p:PM)(i:Nat)(l d:Int)(len:Nat):Bool:=p.ok&& !(p.q !=((i:Nat):Int)+1)&& !(p.e !=l)&& !((p.b.length:Int) !=min 43 (d-(len:Nat)))
def ml(D:DS)(a g l d:Int):Nat->Option (LI)
 |0=>some []
 |i+1=>(ml D a g l d i).bind λout=>if((i:Nat):Int)*43<d then(if Sk (Sa D a g i) i l d out.length=true then some (out++(Sa D a g i).b)else none)else some out
def jk(D:DS)(a:Int):Option (LI):=if(cM D a).ok=false\/(cM D a).sz>903 then none else ml D a (cM D a).ar (cM D a).nu (cM D a).sz 21
def ii(D:DS)(a:Int):Int:=if(jk D a).isSome=true then 0 else 41
def gg(D:DS)(a:Int):LI:=(jk D a).getD []
theorem sn{D:DS}{a g l d:Int}{i:Nat}(h:ml D a g l d i=none):∀j,ml D a g l d (i+j)=none
 |0=>h
 |j+1=>by
  show(ml D a g l d (i+j)).bind _=none;rw[sn h j]
  rfl
theorem Ci{D:DS}{a ar nu d:Int}{i:Nat}(h:¬((i:Nat):Int)*43<d):∀j,ml D a ar nu d (i+j)=ml D a ar nu d i
 |0=>rfl
 |j+1=>by
  show(ml D a ar nu d (i+j)).bind _=_;rw[Ci h j]
  cases ml D a ar nu d i with
  |none=>rfl
  |some out=>exact iN (show¬(((i+j:Nat):Int)*43<d)by omega)
theorem MM{a g l d:Int}{i:Nat}{out:LI}(h:ml D a g l d i=some out)(z:((i:Nat):Int)*43<d):ml D a g l d (i+1)=if Sk (Sa D a g i) i l d out.length=true then some (out++(Sa D a g i).b)else none:=by
 show(ml D a g l d i).bind _=_;rw[h];exact iP z
theorem Rm(hT:kL I)(g k:Nat)(D:DS)(a:Int)(w:World)(C:dE D k)(ha:0<=a/\a+44<=(D.n:Int))(h:St I w (di g D::L)):
 Calls prog 83 #[pO g,iI a,iI 21] w λA0 O=>∃A c,A0= .returned (.tuple #[.slice A (gg D a).length c,iI (ii D a)])/\St I O (ai .u8 (.slice A (gg D a).length c) (gg D a)::di g D::L):=by
 refine bq C ha λr Q=>?_;have M0:=C.ok.n2;refine AS h (iF C.b a) (show jk D a=if(cM D a).ok=false\/(cM D a).sz>903 then none else ml D a (cM D a).ar (cM D a).nu (cM D a).sz 21 from rfl) (show ii D a=if(jk D a).isSome=true then 0 else 41 from rfl) (show gg D a=(jk D a).getD []from rfl) λF0 e X E1 E2=>?_;have n:=aa (λ(hn:jk D a=none)=>(⟨E1.trans (by rw[hn];rfl),E2.trans (by rw[hn];rfl)⟩:ii D a=41/\gg D a=[]));clear h C
 go_enter func83,ntmps83
 go_wp2_with fail
 refine qH (BK g D a _ Q M0 F0) λw1 H1=>?_;clear F0
 go_wp2_with fail
 refine qK (EM hT g k D a _ r ab6 H1) λw2 h=>?_;generalize cM D a=m at*;obtain⟨ar,nu,d,ok⟩:=m;have e:Hid (0<=ar/\ar<=1/\0<=nu/\nu<4294967296/\0<=d/\d<65536):=e;have X:Hid (jk D a=if ok=false\/d>903 then none else ml D a ar nu d 21):=X;have h1:=h.alloc 246 #[iI ar,iW nu,iI d];have P:=(h1.ah 0 rfl).cell 2;have G:=aa h1;clear h h1 H1;by_cases E:ok=false\/d>903
 ·have U:=aa (n (X.trans (iP E)))
  obtain⟨t2,z⟩:∃t2,decide (d>903)=t2:=⟨_,rfl⟩;have W0:decide (903<d)=t2:=z;have I0:(!ok||t2)=true:=by rw[<-z];simpa using E
  have K:=aa (G.tail.bH (R:=λw=>ay w .u8 sN []) (λO _=>ay.none_ O .u8));clear E
  cases ok
  case' true=>cases t2
  case' true.false=>exact absurd I0 dC
  all_goals
   clear I0
   go_wp2_with fail
   go_quiet ((go_at_call 130;exact Calls.quiet_of (Jv _)))
   go_wp2_with fail
   go_ret2
   rw[U.out.1,U.out.2];exact⟨none,0,rfl,K.drewN _⟩
 ·have T:=aa (X.trans (iN E))
  have N0:ok=true:=by cases ok with
   |true=>rfl
   |false=>exact absurd (.inl rfl) E
  subst N0;have kN:d<=903:=by
   rcases Int.lt_or_le 903 d with h|h
   ·exact absurd (.inr h) E
   ·exact h
  have d2:decide (d>903)=false:=decide_eq_false (by omega);have S0:decide (903<d)=false:=d2;clear E
  go_wp2_with fail
  go_quiet ((go_at_call 130;exact Calls.quiet_of (Jv _)))
  have h3:=(G.drewN nq).mq 5 1;obtain⟨gm,J0⟩:=nM (w2.heap.size);rw[<-J0]at h3⊢;have K:=aa h3;clear h3 G J0 P
  go_wp2_with fail
  go_loopg [11,12] 22 (λgh ov iv wr=>∃(i q:Nat) (A:OA) (c:Nat) (out:LI),gh=22-i/\i<=21/\iv= iI (i:Nat)/\ov= .slice A q c/\q=out.length/\q<=i*43/\ml D a ar nu d i=some out/\St I wr (ct 5 1 (.slice A q c) q (bv out)::ab gm 246 #[iI ar,iW nu,iI d]::di g D::L))
  case atStart=>exact⟨0,0,none,0,[],rfl,oM,rfl,rfl,rfl,oM,rfl,K⟩
  case round=>
   clear K;obtain⟨i,q,A,c,out,hg,hi,rfl,rfl,hq,V0,K0,h⟩:=hrel;refine iG hg hq K0 λHG M G0=>?_;have c0:=(h.ah 1 rfl).cell 0;have P:=(h.ah 1 rfl).cell 2;have K:=aa h;have v1:IntKind.i64.wrap ((i:Int)*43)=(i:Int)*43:=IntWalk.i64_in _ oM;clear hg hq K0 h;by_cases t:(i:Int)*43<d
   ·have T0:i<=20:=oM
    have v2:IntKind.i64.wrap (a+2)=a+2:=IntWalk.i64_in _ ab6;have v3:IntKind.i64.wrap (ar*21)=ar*21:=IntWalk.i64_in _ (by have:=e.out;omega);have v4:IntKind.i64.wrap (a+2+ar*21)=a+2+ar*21:=IntWalk.i64_in _ (by have:=e.out;have:=Q.out;omega);obtain⟨y,N⟩:=nM (a+2+ar*21+(i:Int));have v5:IntKind.i64.wrap (a+2+ar*21+(i:Int))=y:=(IntWalk.i64_in _ (by have:=e.out;have:=Q.out;omega)).trans N.symm;have v6:IntKind.i64.wrap ((i:Int)+1)=(i:Int)+1:=IntWalk.i64_in _ oM;have v8:IntKind.i64.wrap (d-(q:Int))=d-(q:Int):=IntWalk.i64_in _ (by have:=e.out;omega);refine bq N (MM G0 t) λQ0 b=>?_;have hp:Sa D a ar i=cg D y:=by rw[N];rfl
    rw[hp]at b;clear hp N;have d3:decide ((i:Int)*43<d)=true:=dZ t;clear t
    go_wp2_with fail
    refine(vJ y r.ok (K.fi 2)).mono ?_;rintro A0 w4⟨A1,c1,rfl,h⟩;have S:=aa h;clear h K c0 P
    go_wp2_with fail
    refine(ze hT A1 _ c1 _ _ (DS.fZ r.b y) (by have:=DS.rO D y;omega) S).mono ?_;rintro A0 w5⟨A2,P,rfl,h⟩;have B0:cg D y=cW (D.read y):=rfl;rw[<-B0]at h⊢;have l:=aa (iT (DS.fZ r.b y));rw[<-B0]at l;generalize cg D y=p at*;obtain⟨x,B,H,L0⟩:=p;have l:Hid (0<=x/\x<4294967296/\0<=B/\B<4294967296/\H.length<=43):=l;have b:Hid (ml D a ar nu d (i+1)=if(L0&& !(x !=((i:Nat):Int)+1)&& !(B !=nu)&& !((H.length:Int) !=min 43 (d-(out.length:Nat))))=true then some (out++H)else none):=b;rw[<-M.out]at b;have V:=aa (h.pk 5 [3,0,4,2]);have c1:=(V.ah 2 rfl).cell 1;have R0:=(V.ah 2 rfl).cell 2;clear h B0 S;have v7:IntKind.i64.wrap x=x:=IntWalk.i64_in _ (by have:=l.out;omega);obtain⟨t2,z⟩:∃t2,(x !=(i:Int)+1)=t2:=⟨_,rfl⟩;obtain⟨t3,P0⟩:∃t3,(B !=nu)=t3:=⟨_,rfl⟩;rw[z,P0]at b
    cases L0
    case' true=>cases t2
    case' true.true=>skip
    case' true.false=>cases t3
    case' true.false.true=>skip
    case true.false.false=>
     have O0:=l.2.2.2.2;obtain⟨W,C0⟩:=nM (H.length);rw[<-C0]at O0 V b⊢;have H0:=aa C0;clear C0;by_cases hm:d-(q:Int)<43
     ·have dm:decide (d-(q:Int)<43)=true:=dZ hm
      rw[Int.min_eq_right oM]at b;by_cases F:(W:Int)=d-(q:Int)
      ·exact ade
      ·exact afm
     ·have dm:decide (d-(q:Int)<43)=false:=dQ hm
      have U0:43<=d-(q:Int):=oM
      rw[Int.min_eq_left oM]at b;by_cases F:(W:Int)=43
      ·exact ade
      ·exact afm
    all_goals
     have o:=aa (b.trans (iN abN));exact ac9
   ·have D0:=Ci (D:=D) (a:=a) (ar:=ar) (nu:=nu) t (21-i)
    rw[show i+(21-i)=21 by omega,G0.out]at D0;have EV:=aa (T.trans D0);have d3:decide ((i:Int)*43<d)=false:=dQ t;clear t D0;have S:=aa (St.ints (k:= .u8) (xs:=out) K)
    go_wp2_with fail
    go_ret2
    rw[E1.out,E2.out,EV.out];refine⟨A,c,?_,?_⟩
    ·rw[M.out];rfl
    ·show St I _ (ai .u8 (.slice A out.length c) out::_)
     rw[<-M.out];exact S.sub
section
open Go.Shelf
attribute [local go_sem] Oper.semAt_some
abbrev Oo(fn:FuncId)(tmps:Vq)(T:Array Tmp)(assign body:Code)(D:Nat)(p:LoopState)(j:Option Code):Loop:={state:=p,pending:=j,fn:=fn,tmps:=tmps,params:=T,assign:=assign,body:=body,defers:=D}
theorem Be{g:Operand}{T:Array Tmp}{assign b:Code}{Q:Exit->Act->World->Prop}{a:Act}{gf:Nat}{lb:Vq}
 (C:a.eval g= .func (.func gf) #[] lb) (o:∀args w,(callFunc gf args).run P w= .ok (.enter gf args) w) (h:St I w L)
 (p:∀(r:FuncId) (z D:Nat) (u:World) (q:LoopState->Option Code->Loop),q=(λs j=>Oo r a.tmps T assign b D s j)->St I u (fb z (.loop (q .ready none))::fb D (.deferred (some []))::L)->
  CallsIn Fence.wide (n-1) P gf (#[.func (.yield z) #[] #[]]++lb) u λe k=>(∃v,e= .returned v)/\∃N s j,s≠LoopState.busy/\St I k (fb z (.loop (q s j))::fb D (.deferred (some []))::N)/\
   (∀l,St I l (fb D (.deferred (some []))::N)->match j with
    |none=>Q .normal {a with defers:={target:= .collected D,args:= #[]}::a.defers} l
    |some c=>c.wpIn Fence.wide n P Q {a with defers:={target:= .collected D,args:= #[]}::a.defers} l)):
 (Code.rangeFunc g T assign b).wpIn Fence.wide n P Q a w:=by
 refine wpIn_rangeFunc ?_;intro r _;have Z:=(h.CF (.deferred (some []))).CF (.loop (Oo r a.tmps T assign b w.heap.size .ready none));rw[World.size_alloc]at Z;refine⟨w.heap.size+1,[{target:= .collected w.heap.size,args:= #[]}],(w.alloc (.deferred (some []))).alloc (.loop (Oo r a.tmps T assign b w.heap.size .ready none)),{target:= .fn (.func gf) lb,args:= #[.func (.yield (w.heap.size+1)) #[] #[]]},(w.alloc (.deferred (some []))).alloc (.loop (Oo r a.tmps T assign b w.heap.size .ready none)),gf,
  #[.func (.yield (w.heap.size+1)) #[] #[]]++lb,(w.alloc (.deferred (some []))).alloc (.loop (Oo r a.tmps T assign b w.heap.size .ready none)),?_,?_,?_,?_,λy=> ?_,?_⟩
 ·exact run_enterLoop_outer _ _ _ _ _
 ·simp only[resolve,C]
  exact acG
 ·intro i _
  trivial
 ·simp[invoke,go_sem,o]
 ·simp[Fence.wide]at y
 ·refine(p r (w.heap.size+1) w.heap.size _ _ rfl Z).mono ?_
  rintro e k⟨⟨v,rfl⟩,N,s,j,V,G,d⟩;have F:=G.obj 0 rfl;refine⟨j,_,run_endLoop F V,?_⟩
  cases j with
  |none=>exact d _ (G.uo _).tail
  |some c=>exact d _ (G.uo _).tail
theorem Mc{z D:Nat}{r:FuncId}{tmps args:Vq}{T:Array Tmp}{assign b:Code}{W:World}{q:LoopState->Option Code->Loop}(w:q=λs j=>Oo r tmps T assign b D s j)(L':List az)(Z:List az->Prop)(i:Act)
 (h:St I W (fb z (.loop (q .ready none))::L)) (V:args.size=T.size)
 (c:∀(u:World) (K:Act->World->Prop),K i u->assign.wpIn (Fence.wide.inRound z) n P (Exit.then K (λ_ _ _=>False)) {tmps:=(T.zip args).foldl (λt (p,v)=>t.setIfInBounds p v) tmps,defers:=[]} u)
 (g:∀u,St I u (fb z (.loop (q .busy none))::L)->b.wpIn (Fence.wide.inRound z) n P (λe _ k=>(e= .normal/\St I k (fb z (.loop (q .busy none))::L'))\/(e= .ret/\∃O,Z O/\St I k (fb z (.loop (q .busy none))::O))) i u):
 YieldAt Fence.wide n P z args W λe k=>(e= .returned (.bool true)/\St I k (fb z (.loop (q .ready none))::L'))\/(e= .returned (.bool false)/\∃O,Z O/\St I k (fb z (.loop (q .done (some .ret)))::O)):=by
 subst w;have F:=h.obj 0 rfl;refine⟨r,_,assign,b,run_yield F V,roundIn_of_wpIn trivial (c W _ ⟨_,run_beginRound F rfl,?_⟩)⟩;refine wpIn_mono (g _ (h.uo _)) ?_;rintro e d l(⟨rfl,M⟩|⟨rfl,O,o,M⟩)
 ·have a:=M.obj 0 rfl
  exact⟨_,_,run_endRound none a,.inl ⟨rfl,M.uo _⟩⟩
 ·have a:=M.obj 0 rfl
  exact⟨_,_,run_endRound (some .ret) a,.inr ⟨rfl,O,o,M.uo _⟩⟩
theorem ay.part{k:IntKind}{n c m p:Nat}{N:LI}(h:ay w k (.slice A n c) N)(y:m+p<=n)(P:0<p):ay w k (.slice (A.map (·.add m)) p p) ((N.drop m).take p):=by
 obtain⟨K,Z,G,M⟩:=h.sl;have S:=h.drop (m:=m) oM (A.map (·.add m)) (λ_=>rfl);have U:=S.cut (m:=p) oM;obtain⟨u,_,_,V⟩:=U.sl;refine⟨_,p,by rw[<-u],by rw[<-u];exact io _,by unfold maxLen;omega,by rw[<-u];exact V⟩
theorem UJ(b:LI)(A:OA)(n c X F z m:Nat)(T:Nat->List az)(Z:List az->Prop)(w:World)(hn:n<=1000)
 (G:∀(j:Nat) (W:World) (S:OA) (p:Nat),43*j<n->p=min 43 (n-43*j)->St I W (ai .u8 (.slice S p p) ((b.drop (43*j)).take 43)::ab X 27 #[.slice A n c]::ab F 3 #[iI 43]::ai .u8 (.slice A n c) b::T j)->
  YieldAt Fence.wide (m-1) prog z #[.slice S p p] W λe g=>(e= .returned (.bool true)/\St I g (ab X 27 #[.slice A n c]::ab F 3 #[iI 43]::ai .u8 (.slice A n c) b::T (j+1)))\/(e= .returned (.bool false)/\∃Y,Z Y/\St I g Y))
 (h:St I w (ab X 27 #[.slice A n c]::ab F 3 #[iI 43]::ai .u8 (.slice A n c) b::T 0)):
 CallsIn Fence.wide m prog 234 #[.func (.yield z) #[] #[],pO X,pO F] w λe O=>(∃v,e= .returned v)/\(St I O (ab X 27 #[.slice A n c]::ab F 3 #[iI 43]::ai .u8 (.slice A n c) b::T ((n+42)/43))\/∃Y,Z Y/\St I O Y):=by
 obtain⟨P,D0,B0,_⟩:=(h.get 2 rfl).sl;refine iG P G h λa C H=>?_;clear h G P;refine callsIn_of_wp func234 rfl trivial ?_ rfl;simp only[ntmps234,RT,qR,MJ,Nat.reduceAdd,Nat.reduceSub,Xv,XD,Xu,Xx,zm,Oe]
 gi_wp2_with fail
 gi_loopw [4] (λi wr=>∃j k:Nat,k=43*j/\k<n+43/\i= iI (k:Nat)/\St I wr (ab X 27 #[.slice A n c]::ab F 3 #[iI 43]::ai .u8 (.slice A n c) b::T j)) (λi _=>n-(intOf i).toNat)
 case atStart=>exact⟨0,0,rfl,oM,rfl,H⟩
 case round=>
  obtain⟨j,k,Q,r,rfl,h⟩:=hrel;have U:=(h.ah 0 rfl).cell 0;have R:=(h.ah 1 rfl).cell 0;have L:=aa (λW S p=>C j W S p);clear H;have H:=aa h;clear h;rw[<-Q]at L;have q:=aa Q;clear Q;by_cases x:k<n
  ·gi_wp2_with fail
   refine wpIn_wide.2 ?_;have i0:(0:Int)<=(k:Int):=oM
   have i1:(k:Int)<=(n:Int):=oM
   have i2:(n:Int)<=(c:Int):=oM
   refine bT (λW=>W.cell? (aD X 0)=some (.slice A n c)/\W.cell? (aD F 0)=some (iI 43)) 7 (rG 7) [] kR kR (λd=>by cases d<;>exact λ_ _ _ _ h=>h) (λW J=> ?_);have N:=aa (show St I W (ab X 27 #[.slice A n c]::ab F 3 #[iI 43]::ai .u8 (.slice A n c) b::T j)by
    rw[J];exact H.drew)
   clear J H U R;refine⟨⟨(N.out.ah 0 rfl).cell 0,(N.out.ah 1 rfl).cell 0⟩,?_⟩
   iterate 7 (refine bJ rfl rfl (λW J=>by(rcases J with⟨_,_⟩;go_simp;try rfl)) ?_;simp only[aW])
   refine take_nil (cD ?_);obtain⟨p,o⟩:=nM (min 43 (n-k));rw[show(if((n-k:Nat):Int)<43 then((n-k:Nat):Int)else 43)=(p:Int)by split<;>omega];have U:=(N.out.ah 0 rfl).cell 0;have R:=(N.out.ah 1 rfl).cell 0;have p1:0<p:=oM
   have p2:(k:Int)+(p:Int)<=(c:Int):=oM
   have p3:(k:Int)<=(k:Int)+(p:Int):=oM
   have p4:(0:Int)<=(k:Int)+(p:Int):=oM
   have C0:k+43<2000:=oM
   have E0:p<=43:=oM
   obtain⟨fn,tm,A0,bd,E,B⟩:=L.out W (A.map (·.add k)) p x o (by
    have D:=(N.out.copy 2 rfl).bC (R':=λw=>ay w .u8 (.slice (A.map (·.add k)) p p) ((b.drop k).take p)) (λO t=>t.part oM p1);rwa[show(b.drop k).take p=(b.drop k).take 43 by
     have:=a.out;rcases ZC 43 (n-k)with u|u
     ·rw[show p=43 by omega]
     ·rw[oJ ab2,oJ ab2]]at D)
   clear o r
   gi_wp2_with fail
   refine⟨λy=>by simp[Fence.wide]at y,B.mono ?_⟩;rintro e W3(⟨rfl,M⟩|⟨rfl,Y,l,M⟩)
   ·have U:=(M.ah 0 rfl).cell 0
    have R:=(M.ah 1 rfl).cell 0;have K:=aa M;clear M B N E
    gi_wp2_with fail
    go_roundw
    case rel=>exact⟨j+1,k+43,by have:=q.out;omega,oM,by go_num,K⟩
    case measure=>exact adY
   ·have K:=aa M
    have V:=aa l;clear M B N E l
    gi_wp2_with fail
    ((try simp only[Exit.inBlock,Exit.then]);refine bodyPost_ret (results_none rfl _ _ _) rfl ?_)
    exact⟨⟨_,rfl⟩,.inr ⟨Y,V,K⟩⟩
  ·gi_wp2_with fail
   go_end0
   refine⟨⟨_,rfl⟩,.inl ?_⟩;rw[show(n+42)/43=j by have:=q.out;omega];exact H.out
theorem Mm(A:OA)(n c:Nat)(w:World)(h:St I w L):
 Calls prog 231 #[.slice A n c,iI 43] w λe O=>∃X F,e= .returned (.func (.func 234) #[] #[pO X,pO F])/\St I O (ab X 27 #[.slice A n c]::ab F 3 #[iI 43]::L):=by
 have H:=aa ((h.alloc 27 #[.slice A n c]).alloc 3 #[iI 43]);clear h
 go_enter func231,ntmps231
 exact aep
end
section
open Go.Shelf
attribute [local go_sem] Oper.semAt_some
def iM(b:LI)(j:Nat):LI:=(b.drop (43*j)).take 43
def Hp(a g:Int)(j:Nat):Int:=a+2+g*21+(j:Nat)
def fE(D:DS)(a g l:Int)(b:LI):Nat->DS×Int
 |0=>(D,0)
 |j+1=>if(fE D a g l b j).2=0 then((fE D a g l b j).1.write (Hp a g j) (aR (((j:Nat):Int)+1) l (iM b j)),(fE D a g l b j).1.eR (Hp a g j) (aR (((j:Nat):Int)+1) l (iM b j)))else fE D a g l b j
def cR(D:DS)(a:Int)(b:LI):Sc:=⟨1-(cM D a).ar,(cM D a).nu+1,(b.length:Nat),true⟩
def cJ(D:DS)(a:Int)(b:LI):DS×Int:=fE D a (cR D a b).ar (cR D a b).nu b ((b.length+42)/43)
def qi(D:DS)(a:Int)(b:LI):Int:=if(cM D a).nu=4294967295 then 42 else if(cJ D a b).2=0 then ic (cJ D a b).1.sync a (eW (cR D a b))else(cJ D a b).2
def fH(D:DS)(a:Int)(b:LI):DS:=if(cM D a).nu=4294967295 then D else if(cJ D a b).2=0 then cG (cJ D a b).1.sync a (eW (cR D a b))else(cJ D a b).1
theorem Dr{a g l:Int}{j:Nat}(h:(fE D a g l b j).2=0):fE D a g l b (j+1)=((fE D a g l b j).1.write (Hp a g j) (aR (((j:Nat):Int)+1) l (iM b j)),(fE D a g l b j).1.eR (Hp a g j) (aR (((j:Nat):Int)+1) l (iM b j))):=iP h
theorem sH{D:DS}{a g l:Int}{b:LI}{j:Nat}(h:(fE D a g l b j).2≠0):∀i,fE D a g l b (j+i)=fE D a g l b j
 |0=>rfl
 |i+1=>by
  have:=sH h i;show(if(fE D a g l b (j+i)).2=0 then _ else _)=_;rw[iN (by rw[this];exact h)];exact this
theorem rC(h:Bytes b)(j:Nat):Bytes (iM b j):=(h.drop _).take _
theorem yv{D:DS}{k:Nat}{a ar nu:Int}{b:LI}(h:dE D k)(B:Bytes b):∀j,dE (fE D a ar nu b j).1 (k+j)/\(fE D a ar nu b j).1.n=D.n
 |0=>⟨h,rfl⟩
 |j+1=>by
  obtain⟨Z,G⟩:=yv h B j;unfold fE
  split
  ·exact⟨Z.write _ (eA _ _ (rC B j)),by rw[DS.zB];exact G⟩
  ·exact⟨Z.mono oM,G⟩
theorem rX(m:Sc):Bytes (eW m):=((cd _ _).append (cd _ _)).append (cd _ _)
theorem qh(m:Sc):(eW m).length=7:=by simp only[eW,dB,au]
theorem Gg{k:Nat}(a:Int)(h:dE D k)(B:Bytes b)(F:b.length<=903):dE (fH D a b) (k+22)/\(fH D a b).n=D.n:=by
 have Z:=yv (a:=a) (ar:=(cR D a b).ar) (nu:=(cR D a b).nu) h B ((b.length+42)/43);have p:(b.length+42)/43<=21:=oM
 unfold fH
 split
 ·exact⟨h.mono oM,rfl⟩
 ·split
  ·exact⟨((Z.1.sync).save a (rX _)).mono oM,by rw[Lr,DS.kD];exact Z.2⟩
  ·exact⟨Z.1.mono oM,Z.2⟩
theorem oD{r:Func}{t:Nat}{l:TypeId}{v:Value}{a:Addr}(h:r.results= #[.cell t l])(b:Vq)(T:b.getD t undef= .pointer (some a))(F:(loadVar l a).run P w= .ok v w):
 (results r b).run P w= .ok v w:=th h b T F
theorem Qs(hT:kL I)(g k:Nat)(D:DS)(a:Int)(A:OA)(n c:Nat)(b:LI)(w:World)(hD:dE D k)(hk:k<=800000)(ha:0<=a/\a+44<=(D.n:Int))(hn:n<=903)(hb:Bytes b)(h:St I w (di g D::ai .u8 (.slice A n c) b::L)):
 Rt I w 228 #[pO g,iI a,iI 21,.slice A n c] (iI (qi D a b)) (di g (fH D a b)::L):=by
 have G1:n=b.length:=(h.get 1 rfl).sl.1;refine iG G1 hD ha λD0 HD Q=>?_;have Z1:=hD.ok.n2;refine ye hb (iF hD.b a) (show qi D a b=if(cM D a).nu=4294967295 then 42 else if(cJ D a b).2=0 then ic (cJ D a b).1.sync a (eW (cR D a b))else(cJ D a b).2 from rfl) (show fH D a b=if(cM D a).nu=4294967295 then D else if(cJ D a b).2=0 then cG (cJ D a b).1.sync a (eW (cR D a b))else(cJ D a b).1 from rfl) (show cJ D a b=fE D a (cR D a b).ar (cR D a b).nu b ((b.length+42)/43)from rfl) (show cR D a b=⟨1-(cM D a).ar,(cM D a).nu+1,(b.length:Nat),true⟩from rfl) λHB d i J E3 Y=>?_;have Z:=h.alloc 49 #[pO g];have G:=Z.alloc 3 #[iI a];have M:=G.alloc 3 #[iI 21];have S:=M.alloc 32 #[iI 0];simp only[World.size_alloc]at G M S;have c4:=(S.ah 3 rfl).cell 0;have c5:=(S.ah 2 rfl).cell 0;have c6:=(S.ah 1 rfl).cell 0;have P0:=aa (S.fi 4);clear h Z G M S hD hb G1;refine(callsIn_wide (n:=12)).1 ?_;refine callsIn_of_wp_marks func228 rfl trivial ?_ rfl;simp only[ntmps228,RT,qR,MJ,Nat.reduceAdd,Nat.reduceSub,Xv,XD,Xu,Xx,zm,Oe]
 gi_wp2_with fail
 refine⟨trivial,(callsIn_wide.2 (BK g D a _ Q Z1 P0)).mono ?_⟩;rintro e w1⟨rfl,h⟩;obtain⟨z,B1⟩:∃x,x=w.heap.size+1+1+1:=⟨_,rfl⟩;obtain⟨g6,A1⟩:∃x,x=w.heap.size+1+1:=⟨_,rfl⟩;obtain⟨g5,Z0⟩:∃x,x=w.heap.size+1:=⟨_,rfl⟩;obtain⟨g4,Y0⟩:∃x,x=w.heap.size:=⟨_,rfl⟩;rw[<-B1,<-A1,<-Z0,<-Y0]at h⊢;have H1:=aa h;have c4:=(h.ah 4 rfl).cell 0;have c5:=(h.ah 3 rfl).cell 0;clear h P0 B1 A1 Z0 Y0
 gi_wp2_with fail
 refine⟨trivial,(callsIn_wide.2 (EM hT g k D a _ HD ab6 H1)).mono ?_⟩;rintro e w2⟨rfl,h⟩;generalize cM D a=m at*;obtain⟨ar,nu,T,ok⟩:=m;have d:Hid (0<=ar/\ar<=1/\0<=nu/\nu<4294967296/\0<=T/\T<65536):=d;have Y:Hid (cR D a b=⟨1-ar,nu+1,(b.length:Nat),true⟩):=Y;have i:Hid (qi D a b=if nu=4294967295 then 42 else if(cJ D a b).2=0 then ic (cJ D a b).1.sync a (eW (cR D a b))else(cJ D a b).2):=i;have J:Hid (fH D a b=if nu=4294967295 then D else if(cJ D a b).2=0 then cG (cJ D a b).1.sync a (eW (cR D a b))else(cJ D a b).1):=J;have Z:=h.alloc 246 #[iI ar,iW nu,iI T];obtain⟨B,I0⟩:∃x,x=w2.heap.size:=⟨_,rfl⟩;rw[<-I0]at Z;have c6:=(Z.ah 3 rfl).cell 0;refine bq Z I0 λN R0=>?_;clear h Z H1 c4 c5 I0
 gi_wp2_with fail
 rw[<-R0.out];refine⟨trivial,(callsIn_wide.2 (Jv _)).mono ?_⟩;rintro e w3⟨rfl,q3,rfl⟩;have K:=aa (N.drewN q3);have z0:=(K.ah 0 rfl).cell 0;have z1:=(K.ah 0 rfl).cell 1;have d0:decide ((n:Int)>903)=false:=decide_eq_false (by omega);have I2:decide ((903:Int)<(n:Int))=false:=d0;clear N c6 R0;by_cases t:nu=4294967295
 ·have b1:=Bl t
  have y8:=(K.ah 2 rfl).cell 0;have f8:=(K.ah 2 rfl).frozen;have l:=(K.fi 2).bx 0 (iI 42) #[iI 42];have k0:=(l.ah 0 rfl).cell 0;refine iG l (i.trans (iP t)) (J.trans (iP t)) λH7 i J=>?_;clear l K t
  gi_wp2_with fail
  refine⟨iI 42,oD rfl _ rfl ?_,?_⟩
  ·go_simp
  ·rw[i.out,J.out]
   exact⟨rfl,H7.sub⟩
 ·have b1:=jM t
  refine bq (i.trans (iN t)) (J.trans (iN t)) λi J=>?_;have v1:IntKind.i64.wrap (1-ar)=1-ar:=IntWalk.i64_in _ acf;have v2:IntKind.u32.wrap (nu+1)=nu+1:=eP acf;have S0:=aa (show nu+1<4294967296 by have:=d.out;omega);have z2:=(K.ah 0 rfl).cell 2;have f:=(K.ah 0 rfl).frozen;have l:=((K.bx 0 (iI (1-ar)) #[iI (1-ar),iW nu,iI T]).bx 1 (iW (nu+1)) #[iI (1-ar),iW (nu+1),iI T]).bx 2 (iI (n:Nat)) #[iI (1-ar),iW (nu+1),iI (n:Nat)];have W:=l.alloc 3 #[iI 0];rw[show((((((w2.alloc (Obj.cells #[Value.int IntKind.i64 ar,Value.int IntKind.u32 nu,Value.int IntKind.i64 T] 246)).drewN q3).setCell ⟨B,0,none⟩ (Value.int IntKind.i64 (1-ar))).setCell ⟨B,1,none⟩ (Value.int IntKind.u32 (nu+1))).setCell ⟨B,2,none⟩ (Value.int IntKind.i64 (n:Nat))).heap.size)=w2.heap.size+1 by simp[World.setCell]]at W;have H7:=aa W;clear l W K t
  gi_wp2_with fail
  refine⟨trivial,(callsIn_wide.2 (Mm A n c _ H7)).mono ?_⟩;rintro e w4⟨bs,bn,rfl,h⟩;obtain⟨gi,C1⟩:∃x,x=w2.heap.size+1:=⟨_,rfl⟩;rw[<-C1]at h⊢;have X:=aa h;clear h H7 C1
  gi_wp2_with fail
  obtain⟨q,X0⟩:=nM (1-ar);obtain⟨r,t⟩:=nM (nu+1);rw[<-X0,<-t]at X Y⊢;have B0:=aa (show 0<=q/\q<=1 by have:=d.out;omega);have T0:=aa (show 0<=r/\r<4294967296 by have:=d.out;have:=S0.out;omega);have EG:=aa (show cJ D a b=fE D a q r b ((n+42)/43)by rw[E3.out,Y.out,D0.out]);clear X0 t S0 v1 v2 z0 z1 z2 f;refine Be (n:=12) (gf:=234) (lb:= #[pO bs,pO bn]) rfl (enters_of func234 kR rfl) X ?_;intro fn lr y W1 rc J1 W0;have U0:=aa J1;clear J1;have K1:St I W1 (ab gi 3 #[iI ((0:Nat):Int)]::_):=W0.fi 4;have L1:St I W1 (di g (fE D a q r b 0).1::_):=K1.fi 6;refine(UJ b A n c bs bn lr 11 (λj=>kd ((fE D a q r b j).2=0)::fb lr (.loop (rc .ready none))::fb y (.deferred (some []))::ab z 32 #[iI 0]::ab g4 49 #[pO g]::ab g5 3 #[iI a]::ab g6 3 #[iI 21]::ab B 246 #[iI q,iW r,iI (n:Nat)]::ab gi 3 #[iI (j:Nat)]::di g (fE D a q r b j).1::L)
   (λhr=>∃j,j<(n+42)/43/\(fE D a q r b (j+1)).2≠0/\hr=fb lr (.loop (rc .done (some .ret)))::fb y (.deferred (some []))::ab z 32 #[iI (fE D a q r b (j+1)).2]::di g (fE D a q r b (j+1)).1::L) W1 oM ?_ ((L1.ul (show(fE D a q r b 0).2=0 from rfl)).sub)).mono ?_
  ·intro j G2 A' p hj hp hW
   refine bq hp hj λHP HJ=>?_;have u:=(hW.fi 4).xl;refine iG (yv (a:=a) (ar:=q) (nu:=r) HD HB j) (Dr u.1) (rC HB j) λV0 C0 S1=>?_;have K0:(b.drop (43*j)).take 43=iM b j:=rfl;have I1:(iM b j).length=p:=by unfold iM;rw[fV,km,<-D0.out];omega
   rw[K0]at hW;have G:=u.2;rw[K0]at G;have D2:=aa I1;have M:=G.fi 4;have J2:j<=21:=oM
   have A2:p<=43:=oM
   generalize iM b j=pt at*;generalize(fE D a q r b j).1=Dj at*;clear hp hj hW u G K0 I1;have key:=Mc (P:=prog) (n:=10) U0 (L':=fb y (.deferred (some []))::ab bs 27 #[.slice A n c]::ab bn 3 #[iI 43]::ai .u8 (.slice A n c) b::kd ((fE D a q r b (j+1)).2=0)::ab z 32 #[iI 0]::ab g4 49 #[pO g]::ab g5 3 #[iI a]::ab g6 3 #[iI 21]::ab B 246 #[iI q,iW r,iI (n:Nat)]::ab gi 3 #[iI ((j+1:Nat):Int)]::di g (fE D a q r b (j+1)).1::L)
    (λhr=>(fE D a q r b (j+1)).2≠0/\hr=fb y (.deferred (some []))::ab z 32 #[iI (fE D a q r b (j+1)).2]::di g (fE D a q r b (j+1)).1::L) ?_ (args:= #[.slice A' p p]) M rfl ?_ ?_
   ·obtain⟨X1,B2,U1,V1,hy,hR⟩:=key
    refine⟨X1,B2,U1,V1,hy,hR.mono ?_⟩;rintro e W'(⟨H,S⟩|⟨H,hr,⟨O,rfl⟩,S⟩)
    ·exact .inl ⟨H,S.sub⟩
    ·exact .inr ⟨H,_,⟨j,by have:=HJ.out;omega,O,rfl⟩,S⟩
   rotate_left
   ·intro W2 F2 hK
    gi_wp2
    exact hK
   ·intro W2 G
    have y0:=(G.ah 11 rfl).cell 0;have y1:=(G.ah 10 rfl).cell 1;have u1:IntKind.i64.wrap ((j:Int)+1)=(j:Int)+1:=IntWalk.i64_in _ oM;have u2:IntKind.u32.wrap ((j:Int)+1)=(j:Int)+1:=eP oM;obtain⟨ix,J0⟩:=nM (Hp a q j);obtain⟨O0,N0⟩:=nM (aR ((j:Int)+1) r pt);have F1:ix=a+2+q*21+(j:Int):=J0;rw[<-J0,<-N0]at C0;have u3:IntKind.i64.wrap (a+2)=a+2:=IntWalk.i64_in _ ab6;have u4:IntKind.i64.wrap (q*21)=q*21:=IntWalk.i64_in _ (by have:=B0.out;omega);have u5:IntKind.i64.wrap (a+2+q*21)=a+2+q*21:=IntWalk.i64_in _ (by have:=B0.out;have:=Q.out;omega);have u6:IntKind.i64.wrap (a+2+q*21+(j:Int))=ix:=(IntWalk.i64_in _ (by have:=B0.out;have:=Q.out;omega)).trans F1.symm;refine bq N0 (G.fi 1) λT1 N=>?_;clear G M J0 N0 F1
    gi_wp2_with fail
    refine⟨trivial,(CallsIn.inRound lr (callsIn_wide.2 (zC hT ((j:Int)+1) r A' p p pt _ oM T0 A2 S1 N))).mono ?_⟩;rintro e w5⟨A5,c5,rfl,h⟩;rw[<-T1.out]at h;have U:=h.fi 13;have x4:=(U.ah 9 rfl).cell 0;have x5:=(U.ah 10 rfl).cell 0;have x6:=(U.ah 11 rfl).cell 0;have xm:=(U.ah 12 rfl).cell 0;have xi:=(U.ah 13 rfl).cell 0;have H5:=aa U;clear h U N y0 y1
    gi_wp2_with fail
    refine⟨trivial,(CallsIn.inRound lr (callsIn_wide.2 (yG ix (.slice A5 64 c5) O0 0 V0.1.ok (by have:=V0.1.p;omega) rfl H5))).mono ?_⟩;rintro e w6⟨rfl,h⟩;refine bq (show(fE D a q r b (j+1)).1=Dj.write ix O0 by rw[C0.out]) (show(fE D a q r b (j+1)).2=Dj.eR ix O0 by rw[C0.out]) λM1 N1=>?_;rw[<-M1.out]at h;rw[<-N1.out];clear H5 x4 x5 x6 xm xi u1 u2 u3 u4 u5 u6;by_cases O:(fE D a q r b (j+1)).2=0
    ·have b2:((fE D a q r b (j+1)).2 !=0)=false:=Md O
     have xi:=(h.ah 13 rfl).cell 0;have fi:=(h.ah 13 rfl).frozen;have u1:IntKind.i64.wrap ((j:Int)+1)=(j:Int)+1:=IntWalk.i64_in _ oM;have l:=(h.fi 13).bx 0 (iI ((j:Int)+1)) #[iI ((j:Int)+1)];have W:=l.ul O;have X:=aa W;clear h l W O
     gi_wp2_with fail
     exact X.sub
    ·have b2:((fE D a q r b (j+1)).2 !=0)=true:=Oc O
     have HZ:=aa O;have x8:=(h.ah 8 rfl).cell 0;have f8:=(h.ah 8 rfl).frozen;have l:=(h.fi 8).bx 0 (iI (fE D a q r b (j+1)).2) #[iI (fE D a q r b (j+1)).2];have X:=aa l;clear h l O
     gi_wp2_with fail
     exact⟨_,⟨HZ,rfl⟩,X.sub⟩
  ·rintro e W2⟨H,Y1⟩
   refine⟨H,?_⟩;clear X W0 K1 L1 U0;rcases Y1 with G|⟨hr,⟨j,hj,O,rfl⟩,G⟩
   ·have u:=(G.fi 3).xl
    rw[<-EG.out]at u;refine iG (i.trans (iP u.1)) (J.trans (iP u.1)) (yv (a:=a) (ar:=q) (nu:=r) HD HB ((n+42)/43)) λi J E=>?_;rw[<-EG.out]at E;refine⟨_,.ready,none,by simp,u.2.pk 12 [3,4,11,6,7,9,5],?_⟩;clear G u;intro W3 M;have y4:=(M.ah 2 rfl).cell 0;have K:=aa (M.fi 1);clear M
    gi_wp2_with fail
    refine⟨trivial,(callsIn_wide.2 (yg E.1.ok (by have:=E.1.p;omega) K)).mono ?_⟩;rintro e w7⟨rfl,h⟩;have h0:=h.pk 6 [2,3,4,0,5,1];clear h K y4
    gi_wp2_with fail
    obtain⟨C,F0⟩:=nM ((cJ D a b).1.sync);obtain⟨F,A0⟩:=nM (eW (cR D a b));obtain⟨Dz,G0⟩:=nM (cG C a F);obtain⟨V,H0⟩:=nM (ic C a F);rw[<-F0]at h0 i J;rw[<-A0,<-H0]at i;rw[<-A0,<-G0]at J;have Q0:=aa (show dE C (k+21)/\C.n=D.n by rw[F0];exact⟨E.1.sync.mono oM,by rw[DS.kD];exact E.2⟩);have Q1:=aa (show eW ⟨q,r,(n:Nat),true⟩=F by rw[A0,Y.out,<-D0.out]);have R1:=aa (show Bytes F by rw[A0];exact rX _);refine bq G0 H0 λP1 O1=>?_;clear F0 A0 G0 H0 E;refine wpIn_wide.2 ?_;refine an (I:=I) (L0:=fb y (.deferred (some []))::L) [⟨none,none,λe=>ab g4 49 #[pO g]⟩,⟨none,none,λe=>ab g5 3 #[iI a]⟩,⟨none,none,λe=>ab B 246 #[iI q,iW r,iI (n:Nat)]⟩,⟨none,some 4,λe=>di g C⟩,⟨none,some 5,λe=>ab z 32 #[iI 0]⟩,⟨some 3,some 4,λe=>ai .u8 (.slice (e 3).A 7 (e 3).n) F⟩,⟨some 4,none,λe=>di g Dz⟩,⟨some 5,none,λe=>ab z 32 #[iI V]⟩] [[],[],[],[2],rG 4,rG 5] (rG 6) rfl kR kR kR (by rfl) (λ_=>rfl) h0.fk ?_;refine Cn ?_;refine bp 232 (λe=> #[.agg #[iI q,iW r,iI (n:Nat)]]) (λe=> .slice (e 3).A 7 (e 3).n) rfl (λe wx Lx h=>by(
     have h:=h.fn;refine(NW ⟨q,r,(n:Nat),true⟩ _ B0 T0 (by show(0:Int)<=(n:Int)/\(n:Int)<=100000;omega) h).mono ?_;rintro C2 wy⟨A',c',rfl,Z⟩;rw[Q1.out]at Z;exact⟨⟨A',c',default⟩,rfl,Z.pk 6 [1,2,3,4,5,0]⟩)) ?_
    simp only[aW];refine bp 142 (λe=> #[pO g,iI a,.slice (e 3).A 7 (e 3).n]) (λe=> iI V) rfl (λe wx Lx h=>by(
     have h:=h.fn;refine(BC hT g (k+21) C a (e 3).A 7 (e 3).n F _ Q0.1 oM (by have:=Q.out;have:=Q0.2;omega) oM R1 ((h.fi 5).fi 4)).mono ?_;rintro C2 wy⟨rfl,Z⟩;rw[<-P1.out]at Z;exact⟨⟨none,0,default⟩,(by rw[O1.out]),Z.pk 5 [1,2,3,4,0]⟩)) ?_
    simp only[aW];refine lM (λe=> pO z) (λe=> iI V) rfl rfl (λe wx Lx h=>by(
     have h:=h.fn;have x8:=(h.ah 3 rfl).cell 0;have f8:=(h.ah 3 rfl).frozen;have Z:=(h.fi 3).bx 0 (iI V) #[iI V];exact⟨_,gS,Z.fk⟩)) ?_
    simp only[Act.put];refine aA ?_;intro e w1 h;have h:=h.fn;have h9:=h.pk 5 [4,3];have H9:=aa h9;clear h h0 h9
    gi_wp2_with fail
    have E0:=H9.Sw (o:= .deferred (some [])) (b:=y);refine⟨by simp,.inl ⟨_,_,rfl,run_takeDeferred E0,?_⟩⟩;have R:=(H9.fi 2).uo (.deferred none);have k0:=(R.ah 1 rfl).cell 0;refine⟨iI V,oD rfl _ rfl ?_,?_⟩
    ·go_simp
    ·rw[i.out,J.out]
     exact⟨rfl,R.sub⟩
   ·have M0:=sH O ((n+42)/43-(j+1))
    rw[show j+1+((n+42)/43-(j+1))=(n+42)/43 by omega,<-EG.out]at M0;rw[<-M0]at O G;refine bq (i.trans (iN O)) (J.trans (iN O)) λi J=>?_;refine⟨_,.done,some .ret,by simp,G,?_⟩;clear G O M0;intro W3 M;have k0:=(M.ah 1 rfl).cell 0;have K:=aa M;clear M
    gi_wp2_with fail
    have E0:=K.Sw (o:= .deferred (some [])) (b:=y);refine⟨by simp,.inl ⟨_,_,rfl,run_takeDeferred E0,?_⟩⟩;have R:=(K.fi 0).uo (.deferred none);have k0:=(R.ah 1 rfl).cell 0;refine⟨iI (cJ D a b).2,oD rfl _ rfl ?_,?_⟩
    ·go_simp
    ·rw[i.out,J.out]
     exact⟨rfl,R.sub⟩
end
abbrev lR:=Int×LI
structure JM where
 at_:Int
 n:Nat
 first:Int
 ep:Int
 low:Int
 held:List lR
def JM.next(J:JM):Int:=J.first+(J.held.length:Nat)
def JM.sec(J:JM)(q:Int):Int:=J.at_+2+q%(J.n:Nat)
def JM.slot(J:JM):LI:=aV J.first 4++aV J.ep 4++aV J.low 4
structure vV(J:JM):Prop where
 a0:0<=J.at_/\J.at_<=1000
 n0:1<=J.n/\J.n<=100
 f0:0<=J.first/\J.first<=4000000000
 e0:0<=J.ep/\J.ep<4294967296
 l0:0<=J.low/\J.low<4294967296
 h0:J.held.length<=J.n
 b0:∀x∈J.held,x.2.length<=43/\Bytes x.2/\0<=x.1/\x.1<4294967296
structure SJ where
 a:OA
 n:Nat
 c:Nat
def fO(w:World)(K:LV)(x:lR):Prop:=∃A c,K=[iW x.1,.slice A x.2.length c]/\ay w .u8 (.slice A x.2.length c) x.2
def jC(gd:Nat)(J:JM)(v:SJ):Vq:= #[pO gd,iI J.at_,iI (J.n:Nat),iW J.first,iW J.ep,iW J.low,.slice v.a v.n v.c]
def jR(g gd:Nat)(J:JM):az:=Bc λv:SJ=>aX (ab g 196 (jC gd J v)) (aB 262 2 fO (.slice v.a v.n v.c) J.held)
theorem St.jO{J:JM}(h:St I w (jR g gd J::L)):∃A c,St I w (ab g 196 #[pO gd,iI J.at_,iI (J.n:Nat),iW J.first,iW J.ep,iW J.low,.slice A J.held.length c]::aB 262 2 fO (.slice A J.held.length c) J.held::L):=by
 obtain⟨⟨A,n,c⟩,h⟩:=h.ex;have Z:=h.star;obtain⟨_,W,_,_⟩:=Z.swap.cu;have W:n=J.held.length:=W;subst W;exact⟨A,c,Z⟩
theorem St.jC_{J:JM}{n c:Nat}(h:St I w (ab g 196 #[pO gd,iI J.at_,iI (J.n:Nat),iW J.first,iW J.ep,iW J.low,.slice A n c]::aB 262 2 fO (.slice A n c) J.held::L)):St I w (jR g gd J::L):=
 St.eu (f:=λv:SJ=>aX (ab g 196 (jC gd J v)) (aB 262 2 fO (.slice v.a v.n v.c) J.held)) ⟨A,n,c⟩ h.aM
theorem DW(g gd:Nat)(a:Int)(x:Nat)(f e l:Int)(A:OA)(k c:Nat)(w:World)(d:0<=f/\f<4294967296)(Q:k<=1000)(B:eK w g 196 #[pO gd,iI a,iI (x:Nat),iW f,iW e,iW l,.slice A k c]):
 Calls prog 140 #[pO g] w λu O=>u= .returned (iU (f+(k:Nat)))/\∃n,O=w.drewN n:=by
 have y:=B.cell 3;have D:=B.cell 6;have Y:IntKind.u64.wrap f=f:=nZ d;have p:IntKind.u64.wrap (k:Int)=(k:Int):=IntWalk.u64_in _ oM;have i:IntKind.u64.wrap (f+(k:Int))=f+(k:Int):=IntWalk.u64_in _ oM;clear B d
 go_enter func140,ntmps140
 exact aeB
theorem GW(g gd:Nat)(a:Int)(x:Nat)(f e l q:Int)(A:OA)(k c:Nat)(w:World)(d:0<=q/\q<4294967296)(T:0<=a/\a<=1000)(W:1<=x/\x<=100)(B:eK w g 196 #[pO gd,iI a,iI (x:Nat),iW f,iW e,iW l,.slice A k c]):
 Calls prog 141 #[pO g,iW q] w λu O=>u= .returned (iI (a+2+q%(x:Nat)))/\∃n,O=w.drewN n:=by
 have S:=B.cell 1;have P:=B.cell 2;have z:IntKind.i64.wrap (a+2)=a+2:=IntWalk.i64_in _ oM;have R:IntKind.u32.wrap (x:Int)=(x:Int):=eP oM;have Y:IntKind.u32.wrap (q%(x:Int))=q%(x:Int):=eP abV;have o:IntKind.i64.wrap (q%(x:Int))=q%(x:Int):=IntWalk.i64_in _ abV;have X:IntKind.i64.wrap (a+2+q%(x:Int))=a+2+q%(x:Int):=IntWalk.i64_in _ abV;have b:((x:Int)==0)=false:=jM oM;have i:¬(x:Int)=0:=oM
 have p:¬x=0:=oM
 clear B
 go_enter func141,ntmps141
 exact aeB
theorem St.uI{U:Int}{Y:Nat}{W o i:Int}{F:List lR}{k c:Nat}(h:St I w (ab g 196 #[pO gd,iI U,iI (Y:Nat),iW W,iW o,iW i,.slice A k c]::aB 262 2 fO (.slice A k c) F::L)):St I w (jR g gd ⟨U,Y,W,o,i,F⟩::L):=St.jC_ (J:=⟨U,Y,W,o,i,F⟩) h
theorem KB(g gd:Nat)(J:JM)(w:World)(h:St I w (jR g gd J::L)):
 Rt I w 217 #[pO g] (iI (J.held.length:Nat)) (jR g gd J::L):=by
 obtain⟨A,c,Z⟩:=h.jO;have D:=(Z.ah 0 rfl).cell 6;have H:=aa h;clear h Z
 go_enter func217,ntmps217
 exact adb
theorem GB(g gd k:Nat)(D:DS)(J:JM)(w:World)(C:dE D k)(Q:k<=900000)(h:St I w (jR g gd J::di gd D::L)):
 Rt I w 221 #[pO g] (.tuple #[]) (jR g gd J::di gd D.sync::L):=by
 obtain⟨A,c,Z⟩:=h.jO;have E:=(Z.ah 0 rfl).cell 0;refine bq C h.swap λl H=>?_;clear h Z C
 go_enter func221,ntmps221
 go_wp2_with fail
 refine qK (yg l.ok (by have:=l.p;omega) H) λz h=>?_;have F:=aa h.swap;clear h H E
 go_wp2_with fail
 go_end0
 exact⟨rfl,F⟩
theorem Fg(x:kL I)(g gd P:Nat)(D:DS)(J:JM)(w:World)(C:dE D P)(A0:P<=900000)(z:vV J)(T:0<=J.at_/\J.at_+1<(D.n:Int))(h:St I w (jR g gd J::di gd D::L)):
 Rt I w 89 #[pO g] (iI (ic D J.at_ J.slot)) (jR g gd J::di gd (cG D J.at_ J.slot)::L):=by
 obtain⟨A,c,Z⟩:=h.jO;have r3:=z.f0;have V:IntKind.u64.wrap J.first=J.first:=IntWalk.u64_in _ oM;have r:IntKind.u64.wrap J.ep=J.ep:=nZ z.e0;have n:IntKind.u64.wrap J.low=J.low:=nZ z.l0;obtain⟨U,Y,W,o,i,F⟩:=J;have V:IntKind.u64.wrap W=W:=V;have r:IntKind.u64.wrap o=o:=r;have n:IntKind.u64.wrap i=i:=n;have q:Hid (0<=U/\U+1<(D.n:Int)):=T;have l:=aa C;have E:Hid (JM.slot ⟨U,Y,W,o,i,F⟩=aV W 4++aV o 4++aV i 4):=rfl;have Z:St I w (ab g 196 #[pO gd,iI U,iI (Y:Nat),iW W,iW o,iW i,.slice A F.length c]::aB 262 2 fO (.slice A F.length c) F::di gd D::L):=Z;generalize F.length=k at Z;have G:=Z.KZ;obtain⟨B,d⟩:=nM (w.heap.size);rw[<-d]at G;have S:=(G.ah 1 rfl).cell 3;refine bq G d λH a=>?_;clear h Z G C z T r3 d
 go_enter func89,ntmps89
 go_wp2_with fail
 rw[<-a.out];refine qK (dk B W 4 [] _ abN H) λw1 h=>?_;rw[uQ,zm]at h;have t:=(h.ah 1 rfl).cell 4;have K:=aa h;clear h H S a
 go_wp2_with fail
 refine qK (dk B o 4 _ _ (by simp only[au];omega) K) λw2 h=>?_;rw[uQ]at h;have u:=(h.ah 1 rfl).cell 5;have N:=aa h;clear h K t
 go_wp2_with fail
 refine qK (dk B i 4 _ _ (by simp only[dB,au];omega) N) λw3 h=>?_;rw[uQ]at h;obtain⟨xs,M⟩:=nM (aV W 4++aV o 4++aV i 4);rw[<-M]at h;have b:=aa (show xs.length=12 by rw[M];simp only[dB,au]);have j:=aa (show Bytes xs by rw[M];exact((cd _ _).append (cd _ _)).append (cd _ _));have E:Hid (JM.slot ⟨U,Y,W,o,i,F⟩=xs):=by rw[M];exact E.out
 have Q:=h.pk 4 [1,0,3,2];clear h N u M V r n
 go_wp2_with fail
 refine an (I:=I) (L0:=aB 262 2 fO (.slice A k c) F::L) [⟨none,none,λe=>ab g 196 #[pO gd,iI U,iI (Y:Nat),iW W,iW o,iW i,.slice A k c]⟩,⟨none,none,λe=>AQ B xs⟩,⟨none,some 9,λe=>di gd D⟩,⟨some 8,some 9,λe=>ai .u8 (.slice (e 8).A 12 (e 8).n) xs⟩,⟨some 9,none,λe=>di gd (cG D U xs)⟩] [[],[0],[0,1],rG 3,[],[4],[4,5],[4,5,6],[],rG 9,rG 10] (rG 11) rfl kR kR kR (by rfl) (λ_=>rfl) Q.fk ?_;refine RU ?_;refine bp 27 (λe=> #[pO B]) (λe=> .slice (e 8).A 12 (e 8).n) rfl (λe wx O h=>by(
  have h:=h.fn;refine(qu B xs _ (by have:=b.out;omega) (h.fi 1)).mono ?_;rintro B0 wy⟨v,rfl,Z⟩;obtain⟨X,y,rfl⟩:=Z.slice;rw[b.out]at Z⊢;have G:=St.ints (k:= .u8) (xs:=xs) Z;exact⟨⟨X,y,default⟩,rfl,G.pk 4 [2,1,3,0]⟩)) ?_
 simp only[aW];refine bp 142 (λe=> #[pO gd,iI U,.slice (e 8).A 12 (e 8).n]) (λe=> iI (ic D U xs)) rfl (λe wx O h=>by(
  have h:=h.fn;refine(BC x gd P D U (e 8).A 12 (e 8).n xs _ l A0 q oM j ((h.fi 3).fi 3)).mono ?_;rintro B0 wy⟨rfl,Z⟩;exact⟨⟨none,0,default⟩,rfl,Z.pk 3 [1,2,0]⟩)) ?_
 simp only[aW];refine nL ?_;refine aA ?_;intro e w1 h;have h:=h.fn;have p:=h.pk 4 [0,3,2];have R:=aa p;clear h Q p
 go_wp2_with fail
 go_ret
 rw[E.out];exact⟨rfl,St.uI R⟩
def kO(b:LI):Int×Rd:=(Rd.mk b false).num 4
def mw(b:LI):Int×Rd:=(kO b).2.num 4
def mv(b:LI):Int×Rd:=(mw b).2.num 4
def vG(b:LI):Bool:=((mv b).2.kw==0)&&decide ((kO b).1>0)&&decide ((mv b).1<=(mw b).1)
theorem Yx(g:Nat)(r:Rd)(A:OA)(n c:Nat)(w:World)(W:n=r.xs.length)(B:eK w g 303 #[.slice A n c,.bool r.s]):
 Calls prog 137 #[pO g] w λe O=>e= .returned (iI r.kw)/\∃n,O=w.drewN n:=by
 obtain⟨N,s⟩:=r;have W:n=N.length:=W;subst W;have D:=B.cell 0;have S:=B.cell 1;have S:w.cell? (aD g 1)=some (.bool s):=S;clear B;unfold Rd.kw
 cases s with
 |true=>
  go_enter func137,ntmps137
  go_wp2
  go_ret
  exact⟨rfl,0,rfl⟩
 |false=>
  by_cases K:0<N.length
  ·exact aeR
  ·exact aeR
theorem QN(g gd:Nat)(J:JM)(v:Value)(b:LI)(w:World)(B:Bytes b)(hl:b.length<=100000)(h:St I w (jR g gd J::ai .u8 v b::L)):
 Rt I w 87 #[pO g,v] (.bool (vG b)) (jR g gd {J with first:=(kO b).1,ep:=(mw b).1,low:=(mv b).1}::L):=by
 obtain⟨A,c,Z⟩:=h.jO;obtain⟨W,Y,jf,o,i,T⟩:=J;have Z:St I w (ab g 196 #[pO gd,iI W,iI (Y:Nat),iW jf,iW o,iW i,.slice A T.length c]::aB 262 2 fO (.slice A T.length c) T::ai .u8 v b::L):=Z;generalize T.length=k at Z;have C:Rd.Ok (Rd.mk b false):=⟨B,by show b.length<=140737488355328;omega,λh=>by cases h⟩;refine iG (show vG b=(((mv b).2.kw==0)&&decide ((kO b).1>0)&&decide ((mv b).1<=(mw b).1))from rfl) (Z.fi 2) C λE H y=>?_;clear h Z C B hl
 go_enter func87,ntmps87
 go_wp2_with fail
 refine(ou v b _ H).mono ?_;rintro D0 w1⟨r,rfl,h⟩;have F:=aa h;clear h H
 go_wp2_with fail
 refine bq (Rd.lB y) (y.num 4) λP G=>?_;refine qH (bN r _ 4 _ y.hb y.hl y.hz F) λw2 N=>?_;clear F;have P:Hid (0<=(kO b).1/\(kO b).1<4294967296):=P;have G:Hid (kO b).2.Ok:=G;have N:Hid (St I w2 (pu r (kO b).2::_)):=N;have q:IntKind.u32.wrap (kO b).1=(kO b).1:=eP P;have q:IntKind.u32.wrap ((Rd.mk b false).num 4).1=(kO b).1:=q
 go_wp2_with fail
 refine bq (Rd.lB G) (G.num 4) λV p=>?_;refine qK (bN r _ 4 _ G.hb G.hl G.hz N) λw3 h=>?_;have V:Hid (0<=(mw b).1/\(mw b).1<4294967296):=V;have p:Hid (mw b).2.Ok:=p;have K:Hid (St I w3 (pu r (mw b).2::_)):=aa h;clear h N;have v1:IntKind.u32.wrap ((kO b).2.num 4).1=(mw b).1:=eP V
 go_wp2_with fail
 have O:=aa (Rd.lB p);refine qK (bN r _ 4 _ p.hb p.hl p.hz K) λw4 h=>?_;have O:Hid (0<=(mv b).1/\(mv b).1<4294967296):=O;have S:St I w4 (pu r (mv b).2::_):=h;have v2:IntKind.u32.wrap ((mw b).2.num 4).1=(mv b).1:=eP O;generalize x:(kO b).1=m1 at*;generalize X:(mw b).1=m2 at*;generalize M:(mv b).1=m3 at*;generalize(mv b).2=rc at*;have U:=S.fi 2;have f:=(U.ah 0 rfl).frozen;have y3:=(U.ah 0 rfl).cell 3;have y4:=(U.ah 0 rfl).cell 4;have y5:=(U.ah 0 rfl).cell 5;have u:=((U.bx 3 (iW m1) #[pO gd,iI W,iI (Y:Nat),iW m1,iW o,iW i,.slice A k c]).bx 4 (iW m2) #[pO gd,iI W,iI (Y:Nat),iW m1,iW m2,iW i,.slice A k c]).bx 5 (iW m3) #[pO gd,iI W,iI (Y:Nat),iW m1,iW m2,iW m3,.slice A k c];obtain⟨R,Q,t,A0,l⟩:=(u.fi 1).rd;have x3:=(l.ah 2 rfl).cell 3;have x4:=(l.ah 2 rfl).cell 4;have x5:=(l.ah 2 rfl).cell 5;refine bq (λn=>Yx r rc R _ Q _ rfl ((l.ah 0 rfl).drewN n)) (l.pk 4 [2]) λD j=>?_;clear h S U u l K t A0;obtain⟨t1,B0⟩:∃t1,(rc.kw==0)=t1:=⟨_,rfl⟩;obtain⟨t2,z⟩:∃t2,decide (m1>0)=t2:=⟨_,rfl⟩;have E0:decide (0<m1)=t2:=z;obtain⟨t3,C0⟩:∃t3,decide (m3<=m2)=t3:=⟨_,rfl⟩;have E:Hid (vG b=(t1&&t2&&t3)):=aa (by rw[E.out,<-B0,<-z,<-C0]);refine iG x X M λa d e=>?_;clear x X M
 cases t1
 case' true=>cases t2
 case' true.true=>cases t3
 all_goals
  go_wp2_with fail
  go_quiet ((go_at_call 137;exact Calls.quiet_of (D _)))
  go_wp2_with fail
  go_ret
  refine⟨by rw[E.out];rfl,?_⟩;rw[a.out,d.out,e.out];exact St.uI (j.drewN _)
section
open Go.Shelf
def qg(p:PM)(q low c:Int):Bool:=p.ok&& !(p.q !=q)&& !decide (p.e<low)&& !decide (p.e>c)
def kP(D:DS)(a:Int)(n:Nat)(first:Int)(k:Nat):PM:=cg D (a+2+(first+(k:Nat))%(n:Nat))
def nH(D:DS)(a:Int)(n:Nat)(first c:Int):Nat->Int->List lR->List lR
 |0,_,b=>b
 |f+1,low,b=>if qg (kP D a n first b.length) (first+(b.length:Nat)) low c=true then nH D a n first c f (kP D a n first b.length).e (b++[((kP D a n first b.length).e,(kP D a n first b.length).b)])else b
def JM.scan(J:JM)(D:DS):List lR:=nH D J.at_ J.n J.first J.ep J.n J.low []
theorem zY{a:Int}{first ep:Int}{f:Nat}{low:Int}{acc:List lR}(h:qg (kP D a n first acc.length) (first+(acc.length:Nat)) low ep=true):nH D a n first ep (f+1) low acc=nH D a n first ep f (kP D a n first acc.length).e (acc++[((kP D a n first acc.length).e,(kP D a n first acc.length).b)]):=iP h
theorem vm{a:Int}{first ep:Int}{f:Nat}{low:Int}{acc:List lR}(h:qg (kP D a n first acc.length) (first+(acc.length:Nat)) low ep=false):nH D a n first ep (f+1) low acc=acc:=iN (by rw[h];exact iu)
theorem BX:fY prog 194 262 (.agg #[iW 0,sN]) 2 32:=⟨underlying194,kR,kR,oM⟩
theorem Fy(e:Int)(A:OA)(n c:Nat):∀u∈([iW e,.slice A n c]:LV),u.oneCell'=true:=by
 intro u y;simp only[qQ,qo,or_false]at y;rcases y with rfl|rfl<;>rfl
theorem JI(w:World)(e:Int)(A:OA)(n c:Nat):(Instr.buildSlice 194 1 #[(0,.agg #[iW e,.slice A n c])]).run prog w= .ok (.slice (aO w.heap.size) 1 1) (w.alloc (.cells #[iW e,.slice A n c] 262)):=kR
theorem Lk{b:Nat}{t:TypeId}{cs:LV}(h:eK w b t cs.toArray):Sl w Any cs.length (aO b) 1 cs:=
 ⟨by simp,λ_=>⟨_,rfl,trivial,h.lt,λj u y=>by
  rw[show(⟨b,0,none⟩:Addr).add j=⟨b,j,none⟩by simp[Addr.add];exact UQ,h.cell];simpa using y⟩⟩
theorem St.zX{U:Int}{Y k:Nat}{W o i:Int}{hl:List lR}{c:Nat}(Q:k=hl.length)(h:St I w (ab g 196 #[pO gd,iI U,iI (Y:Nat),iW W,iW o,iW i,.slice A k c]::aB 262 2 fO (.slice A k c) hl::L)):St I w (jR g gd ⟨U,Y,W,o,i,hl⟩::L):=by subst Q;exact St.uI h
theorem RG(hT:kL I)(g gd kk:Nat)(D:DS)(J:JM)(w:World)(hD:dE D kk)(z:vV J)(K:J.held=[])(h:St I w (jR g gd J::di gd D::L)):
 Rt I w 88 #[pO g] (.tuple #[]) (jR g gd {J with held:=J.scan D}::di gd D::L):=by
 obtain⟨A,c,Z⟩:=h.jO;obtain⟨U,Y,W,o,i,N1⟩:=J;have K:N1=[]:=K;subst K;refine ye (show 0<=U/\U<=1000 from z.a0) (show 1<=Y/\Y<=100 from z.n0) (show 0<=W/\W<=4000000000 from z.f0) (show 0<=o/\o<4294967296 from z.e0) (show 0<=i/\i<4294967296 from z.l0) hD λI1 J0 J1 R1 K1 HD=>?_;have E:Hid (JM.scan ⟨U,Y,W,o,i,[]⟩ D=nH D U Y W o Y i []):=rfl;have Z:St I w (ab g 196 #[pO gd,iI U,iI (Y:Nat),iW W,iW o,iW i,.slice A 0 c]::aB 262 2 fO (.slice A 0 c) []::di gd D::L):=Z;have c5:=(Z.ah 0 rfl).cell 5;have I0:=aa Z;clear h Z z hD;obtain⟨C0,hR⟩:=nM (nH D U Y W o Y i []);have HR:=aa hR;rw[<-hR]at E;clear hR
 go_enter func88,ntmps88
 go_wp2_with fail
 go_step3
 go_wp2_with fail
 go_step3
 go_wp2_with fail
 clear c5
 go_loopg [2] Y (λgh lv wr=>∃(k:Nat) (low:Int) (A:OA) (c:Nat) (acc:List lR),gh=Y-k/\k<=Y/\lv= iW low/\k=acc.length/\nH D U Y W o (Y-k) low acc=C0/\(0<=low/\low<4294967296)/\St I wr (ab g 196 #[pO gd,iI U,iI (Y:Nat),iW W,iW o,iW i,.slice A k c]::aB 262 2 fO (.slice A k c) acc::di gd D::L))
 case atStart=>exact⟨0,i,A,c,[],rfl,oM,rfl,rfl,by rw[HR.out];rfl,K1,I0⟩
 case round=>
  clear I0;obtain⟨k,low,A,c,acc,hg,hk,rfl,R0,A1,S0,h⟩:=hrel;refine nK hg R0 A1 S0 λHG d B0 S1=>?_;have X1:Y<=100:=J0.2;have W1:0<=W/\W<=4000000000:=J1.out;have P:=(h.ah 0 rfl).cell 2;have c6:=(h.ah 0 rfl).cell 6;refine bq (λn=>DW g gd U Y W o i A k c (wr.drewN n) oM oM ((h.ah 0 rfl).drewN n)) h λG H1=>?_;clear hg R0 A1 S0 h;by_cases G0:k<Y
  ·have d0:decide ((k:Int)<(Y:Int))=true:=decide_eq_true (by omega)
   have P0:decide (k<Y)=true:=dZ G0;have d1:decide (W+(k:Int)<=4294967295)=true:=decide_eq_true (by omega)
   go_wp2_with fail
   go_quiet ((go_at_call 140;exact Calls.quiet_of (G _)))
   go_wp2_with fail
   have K:=(H1.drewN nq).pk 3 [0,2,1];obtain⟨q,hq⟩:=nM (W+(k:Int));obtain⟨y,F0⟩:=nM (U+2+q%(Y:Nat));obtain⟨u,M⟩:=nM (D.read y);obtain⟨rl,Z0⟩:=nM (u.length);obtain⟨re,Y0⟩:=nM (D.OP y);have O1:0<=q/\q<4294967296:=oM
   have wq:IntKind.u32.wrap q=q:=eP O1;refine AS hq F0 M Z0 Y0 λHQ G1 N0 O0 L1=>?_;have B1:kP D U Y W acc.length=cg D y:=by rw[F0,hq,<-d.out];rfl
   have X0:Bytes u:=by rw[M];exact DS.fZ HD.b y
   have W0:u.length<=64:=by rw[M];exact DS.rO D y
   have T0:cg D y=cW u:=by rw[M];rfl
   refine bq (zY (D:=D) (a:=U) (n:=Y) (first:=W) (ep:=o) (f:=Y-k-1) (low:=low) (acc:=acc)) (vm (D:=D) (a:=U) (n:=Y) (first:=W) (ep:=o) (f:=Y-k-1) (low:=low) (acc:=acc)) λt N=>?_;rw[B1,<-d.out,<-hq,show Y-k-1+1=Y-k by omega,B0.out]at t N;refine iG X0 W0 T0 λS M0 K0=>?_;clear H1 G P c6 d0 P0 d1 hq F0 M Z0 Y0 B1 X0 W0 T0 B0;refine an (I:=I) (L0:=aB 262 2 fO (.slice A k c) acc::L) [⟨none,none,λe=>ab g 196 #[pO gd,iI U,iI (Y:Nat),iW W,iW o,iW i,.slice A k c]⟩,⟨none,none,λe=>di gd D⟩,⟨some 9,none,λe=>ai .u8 (.slice (e 9).A rl (e 9).n) u⟩] [[],[0],[0,1],rG 3,[],[],[5],[5,6],[4,5,6,7],rG 9,rG 10,rG 11,rG 11,rG 12,rG 14] (rG 15) rfl kR kR kR (by rfl) (λ_=>rfl) K.fk ?_;refine KI ?_;refine bp 140 (λe=> #[pO g]) (λe=> iU q) rfl (λe wx O h=>by(
    have h:=h.fn;refine(DW g gd U Y W o i A k c _ oM oM (h.ah 0 rfl)).mono ?_;rintro E1 wy⟨rfl,x,hw⟩;rw[<-HQ.out];have hk:St I wy (ab g 196 #[pO gd,iI U,iI (Y:Nat),iW W,iW o,iW i,.slice A k c]::di gd D::O):=(by rw[hw];exact(h.drewN x).sub);exact⟨⟨none,0,default⟩,rfl,hk⟩)) ?_
   simp only[aW];refine mH (λe=> iW q) rfl (λe wx O h=>gS) ?_;simp only[aW];refine bp 141 (λe=> #[pO g,iW q]) (λe=> iI y) rfl (λe wx O h=>by(
    have h:=h.fn;refine(GW g gd U Y W o i q A k c _ oM I1 J0 (h.ah 0 rfl)).mono ?_;rintro E1 wy⟨rfl,x,hw⟩;rw[<-G1.out];have hk:St I wy (ab g 196 #[pO gd,iI U,iI (Y:Nat),iW W,iW o,iW i,.slice A k c]::di gd D::O):=(by rw[hw];exact(h.drewN x).sub);exact⟨⟨none,0,default⟩,rfl,hk⟩)) ?_
   simp only[aW];refine bp 131 (λe=> #[pO gd,iI y]) (λe=> .tuple #[.slice (e 9).A rl (e 9).n,iI re]) rfl (λe wx O h=>by(
    have h:=h.fn;refine(vJ y HD.ok (h.fi 1)).mono ?_;rintro E1 wy⟨A',c',rfl,Z⟩;rw[<-N0.out,<-O0.out]at Z;rw[<-N0.out,<-O0.out,<-L1.out];exact⟨⟨A',c',default⟩,rfl,Z.pk 3 [2,1,0]⟩)) ?_
   simp only[aW];refine sW ?_;refine aA ?_;intro e w1 h;have h:=h.fn;obtain⟨A9,D0⟩:∃A9,(e 9).A=A9:=⟨_,rfl⟩;obtain⟨c9,E0⟩:∃c9,(e 9).n=c9:=⟨_,rfl⟩;rw[D0,E0]at h;have H3:=aa (h.pk 3 [2,0,1]);clear h K
   go_wp2_with fail
   rw[D0,E0];clear D0 E0;refine(ze hT A9 rl c9 u _ S (by have:=M0.out;omega) H3).mono ?_;rintro e w5⟨r,P,rfl,h⟩;refine bq (iT S) (mM S) λl PB=>?_;rw[<-K0.out]at h l PB⊢;generalize cg D y=p at*;obtain⟨b,B,H,H0⟩:=p;have l:Hid (0<=b/\b<4294967296/\0<=B/\B<4294967296/\H.length<=43):=l;have PB:Hid (Bytes H):=PB;have t:Hid ((H0&& !(b !=q)&& !decide (B<low)&& !decide (B>o))=true->C0=nH D U Y W o (Y-k-1) B (acc++[(B,H)])):=t;have N:Hid ((H0&& !(b !=q)&& !decide (B<low)&& !decide (B>o))=false->C0=acc):=N;have R:=aa ((h.ah 2 rfl));have c4:=R.cell 4;have G:=aa (DW g gd U Y W o i A k c _ oM oM R);have h5:=(h.front (X:=ai .u8 (.slice r H.length P) H)).bC (R':=λw=>fO w [iW B,.slice r H.length P] (B,H)) (λT1 hi=>⟨r,P,rfl,hi⟩);have H5:=aa (h5.pk 5 [4,0,2,3]);clear h5;have w7:IntKind.u64.wrap b=b:=nZ (by have:=l.out;omega);clear h H3 K0 S M0;have V0:W+(k:Int)=q:=HQ.symm;rw[V0]at G;obtain⟨t2,P1⟩:∃t2,(b !=q)=t2:=⟨_,rfl⟩;obtain⟨t3,Q1⟩:∃t3,decide (B<low)=t3:=⟨_,rfl⟩;obtain⟨t4,C1⟩:∃t4,decide (B>o)=t4:=⟨_,rfl⟩;have Y1:decide (o<B)=t4:=C1;rw[P1,Q1,C1]at t N;clear V0
   cases H0
   case' true=>cases t2
   case' true.true=>skip
   case' true.false=>cases t3
   case' true.false.true=>skip
   case' true.false.false=>cases t4
   case true.false.false.false=>
    refine bq (t rfl) (show∀n,eK (w5.drewN n) g 196 #[pO gd,iI U,iI (Y:Nat),iW W,iW o,iW i,.slice A k c]from λn=>R.drewN n) λC V=>?_
    go_wp2_with (first|(go_at_call 140;refine G.mono ?_;rintro e w6⟨rfl,x,rfl⟩;clear c4;have d4:=(V x).cell 4;have h7:=(H5.drewN x).alloc 262 #[iW B,.slice r H.length P];have d6:=(h7.ah 3 rfl).cell 6;have M1:=(V x).cell 6;have T:=aa h7;clear h7 H5)|(at_builtin;have F:=Lk (cs:=[iW B,.slice r H.length P]) (T.ah 0 rfl);obtain⟨U1,U0,D1,h8⟩:=T.out.tail.cu;refine St.fj BX h8 rfl _ _ rfl rfl (aO _) 1 1 rfl [iW B,.slice r H.length P] F (Fy _ _ _ _) oM oM ?_;intro A7 c7 w7 Q;have A0:=Q.fS U0 rfl D1;have f:=(A0.ah 1 rfl).frozen;have x6:=(A0.ah 1 rfl).cell 6;have Q0:=(A0.swap).bx 6 (.slice A7 (k+1) c7) #[pO gd,iI U,iI (Y:Nat),iW W,iW o,iW i,.slice A7 (k+1) c7];have F1:=aa Q0;clear F h8 Q A0 Q0 T U0 D1 d4 d6 M1))
    go_roundg (Y-(k+1))
    case rel=>exact⟨k+1,B,A7,c7,acc++[(B,H)],rfl,oM,rfl,by rw[dB,<-d.out];rfl,by rw[show Y-(k+1)=Y-k-1 by omega];exact C.symm,⟨l.2.2.1,l.2.2.2.1⟩,F1⟩
    case measure=>have V1:=HG.out;omega
   all_goals
    refine iG (N rfl) (show∀n,eK (w5.drewN n) g 196 #[pO gd,iI U,iI (Y:Nat),iW W,iW o,iW i,.slice A k c]from λn=>R.drewN n) (show St I w5 (aB 262 2 fO (.slice A k c) acc::ab g 196 #[pO gd,iI U,iI (Y:Nat),iW W,iW o,iW i,.slice A k c]::di gd D::L)from H5.sub) λC V j=>?_
    go_wp2_with (go_at_call 140;refine G.mono ?_;rintro e w6⟨rfl,x,rfl⟩;clear c4;have d4:=(V x).cell 4;have T:=aa (j.drewN x);clear j;have j:=T;clear T)
    rw[Exit.noGoto_normal]
    go_end0
    rw[E.out,C.out];exact⟨rfl,by have Q:=j.out;rw[d.out]at Q;exact St.uI (Q.pk 2 [1,0])⟩
  ·obtain rfl:k=Y:=oM
   have F:nH D U k W o (k-k) low acc=acc:=by rw[Sm];rfl
   have C:=aa (B0.symm.trans F);have d0:decide ((k:Int)<(k:Int))=false:=decide_eq_false (by omega);have P0:decide (k<k)=false:=dQ G0;clear F G0
   go_wp2_with fail
   go_quiet ((go_at_call 140;exact Calls.quiet_of (G _)))
   go_wp2_with fail
   rw[Exit.noGoto_normal]
   go_end0
   rw[E.out,C.out];exact⟨rfl,St.zX d (H1.drewN nq)⟩
end
end Go.Proofs.YtblpaldggenbaaaGreatDoor
