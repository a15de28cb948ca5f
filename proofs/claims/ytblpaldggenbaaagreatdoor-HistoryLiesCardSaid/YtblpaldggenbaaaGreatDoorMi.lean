/- A part. -/
import Derived.Test.YtblpaldggenbaaaGreatDoorMh
namespace Go.Proofs.YtblpaldggenbaaaGreatDoor
open Go.RowKit Go.Proofs.Tryz
set_option maxRecDepth 100000
set_option maxHeartbeats 64000000
variable{A A':OA}
theorem Vc{I:aH}{L:List aw}{w:World}{j:Nat}{Y:Addr}{n c:Nat}{i:Int}{d:LI}(h:St I w L)(N:L[j]? =some (ai .u8 (.slice (some Y) n c) (i::d))):w.cell? Y=some (.int .u8 i):=by
 obtain⟨x,e,_,_,_,G⟩:=yy (h.get j N);injection e with e;subst e;exact G
theorem Wy{I:aH}{L:List aw}(region:Int)(b:LI)(A:OA)(n c:Nat)(w:World)(C:Bytes b)(o:b.length<=140737488355328)(h:St I w (ai .u8 (.slice A n c) b::L)):
 Calls prog 201 #[iI region,.slice A n c] w λe O=>∃v,e= .returned (.tuple #[tU (ue region b) v,iI (jk b)])/\St I O (ai .u8 v (ue region b).data::L):=by
 have Z:=h.alloc 213 #[iI 0,iI 0,sN];clear h
 cases b with
 |nil=>
  obtain⟨W,_,_,_⟩:=(Z.get 1 rfl).sl;obtain rfl:n=0:=W;obtain⟨J,T,y⟩:=(Z.ah 0 rfl).three;have H:=aa Z;clear Z
  go_enter func201,ntmps201
  go_wp2_with fail
  refine bodyPost_ret (v:= .tuple #[.agg #[iI 0,iI 0,sN],iI 10]) (oT (fn:=Tryz.f201) (t:=4) (k:=5) (ty:=213) rfl _ rfl ?_) rfl ⟨sN,?_,?_⟩
  ·go_simp
  ·rfl
  ·exact H.tail.tail.bG (λO _=>aA.none_ O _)
 |cons i d=>
  obtain⟨Y,rfl,W,hc,hm,q⟩:=yy (Z.get 1 rfl);have z:0<=i/\i<=255:=by have:=C i acy;unfold isByte at this;omega
  obtain⟨i0,i1⟩:=z;have B0:d.length+1<=140737488355328:=o;have E0:((n:Int)==0)=false:=kO oM;have n1:(1:Int)<=(n:Int):=oM
  have n2:(n:Int)<=(c:Int):=oM
  have n0:(0:Int)<(n:Int):=oM
  have nn:0<n:=oM
  have nl:n<=140737488355328:=oM
  refine mr (show jk (i::d)=0->ue region (i::d)=⟨region,i,d⟩from λh=>iP h) (show jk (i::d)≠0->ue region (i::d)=⟨0,0,[]⟩from λh=>iN h) Z W λl S H HN=>?_;clear Z W C o B0
  go_enter func201,ntmps201
  go_wp2_with fail
  obtain⟨N,x⟩:=nM ((if c=1 then some Y else some (⟨Y.block,Y.off+1,none⟩:Addr)));have r:1<n->N=(some Y).map (·.add 1):=λC0=>by rw[x,iN oM];rfl
  have B:=H.out;clear H q;refine ak (I:=I) (L0:=ab w.heap.size 213 #[iI 0,iI 0,sN]::L) [⟨none,none,λe=>ai .u8 (.slice (some Y) n c) (i::d)⟩,⟨some 8,none,λe=>ai .u8 (.slice (e 8).A (n-1) (e 8).n) d⟩,⟨some 10,some 11,λe=>ab (e 10).n 213 #[iI 0,iI 0,sN]⟩,⟨some 11,none,λe=>ab (e 10).n 213 #[iI region,iI i,.slice (e 8).A (n-1) (e 8).n]⟩] [[],[],[1],[1,2],[1,2,3],rG 5,[],[6],[6,7],rG 9,[],rG 11] (rG 12) rfl kR kR kR (by rfl) (λ_=>rfl) B.fk ?_;refine yk ?_;refine kj (λe=> .int .u8 i) rfl (λe p M h=>by(have q:=Vc h.fn (j:=0) rfl;go_simp;try rfl)) ?_;simp only[aR];refine kj (λe=> iI i) rfl (λe p M h=>by(go_simp;try rw[IntWalk.i64_in i oM];try rfl)) ?_;simp only[aR];refine kj (λe=> .agg #[iI region,iI i]) rfl (λe p M h=>gS) ?_;simp only[aR];refine lY ?_;refine kj (λe=> .slice N (n-1) (c-1)) rfl (λe p M h=>by(rw[x];go_simp;try rfl)) ?_;simp only[aR];refine aZ 23 (λe=> #[.slice N (n-1) (c-1)]) (λe=> .slice (e 8).A (n-1) (e 8).n) rfl (λe p M h=>by(
   have h:=h.fn;have V:=(h.jT (Q:=λw=>aA w .u8 (.slice (some Y) n c) (i::d))).bu (R':=λO=>aA O .u8 (.slice N (n-1) (c-1)) d) (λO z=>z.SX r);refine(dY N (n-1) (c-1) d _ (V.get 0 rfl).sl.2.2.2 oM V).mono ?_;rintro F0 wy⟨v,rfl,Z⟩;obtain⟨A',c',rfl⟩:=Z.slice;exact⟨⟨A',c',default⟩,rfl,(St.ints (k:= .u8) (xs:=d) Z).fk⟩)) ?_
  simp only[aR];refine kj (λe=> .agg #[iI region,iI i,.slice (e 8).A (n-1) (e 8).n]) rfl (λe p M h=>gS) ?_;simp only[aR];refine xN (λe=> .pointer (some ⟨(e 10).n,0,none⟩)) rfl (λe p M h=>by(
   have h:=h.fn;exact⟨⟨none,p.heap.size,default⟩,p.alloc (.cells #[iI 0,iI 0,sN] 213),gS,(h.alloc 213 #[iI 0,iI 0,sN]).fk⟩)) ?_
  simp only[aR];refine jA (λe=> .pointer (some ⟨(e 10).n,0,none⟩)) (λe=> .agg #[iI region,iI i,.slice (e 8).A (n-1) (e 8).n]) rfl rfl (λe p M h=>by(
   have h:=h.fn;have u:=h.front (X:=ab (e 10).n 213 #[iI 0,iI 0,sN]);obtain⟨J,T,y⟩:=(u.ah 0 rfl).three;have f:=(u.ah 0 rfl).frozen;exact⟨_,gS,(((u.br 0 (iI region) #[iI region,iI 0,sN] rfl).br 1 (iI i) #[iI region,iI i,sN] rfl).br 2 (.slice (e 8).A (n-1) (e 8).n) #[iI region,iI i,.slice (e 8).A (n-1) (e 8).n] rfl).fk⟩)) ?_
  simp only[Act.put];refine ax ?_;intro e a h;have h:=h.fn
  dsimp only
  generalize(e 8).A=A2 at h⊢;generalize(e 8).n=c2 at h⊢;generalize(e 10).n=g6 at h⊢;have K:=aa (h.sub (L':=ab g6 213 #[iI region,iI i,(.slice A2 (n-1) c2)]::ai .u8 (.slice A2 (n-1) c2) d::ab w.heap.size 213 #[iI 0,iI 0,sN]::ai .u8 (.slice (some Y) n c) (i::d)::L));clear h B r x;have z0:a.cell? (aD g6 0)=some (iI region):=(K.ah 0 rfl).cell 0;have z1:a.cell? (aD g6 1)=some (iI i):=(K.ah 0 rfl).cell 1;have z2:a.cell? (aD g6 2)=some (.slice A2 (n-1) c2):=(K.ah 0 rfl).cell 2
  go_wp2_with fail
  refine(JC ⟨region,i,d⟩ A2 (n-1) c2 _ (K.copy 1 rfl)).mono ?_;rintro e U⟨v6,rfl,h⟩;have P:=h.tail;rw[Ve region i d i0];have z0:U.cell? (aD g6 0)=some (iI region):=(P.ah 0 rfl).cell 0;have z1:U.cell? (aD g6 1)=some (iI i):=(P.ah 0 rfl).cell 1;have z2:U.cell? (aD g6 2)=some (.slice A2 (n-1) c2):=(P.ah 0 rfl).cell 2;obtain⟨J,T,y⟩:=(P.ah 2 rfl).three;have f:=(P.ah 2 rfl).frozen;have G:=P.pk 4 [2,1];refine bm (((G.bI 0 (iI 0)).bI 1 (iI 0)).bI 2 sN) (((G.bI 0 (iI region)).bI 1 (iI i)).bI 2 (.slice A2 (n-1) c2)) λD g=>?_;clear h P G K;by_cases F:jk (i::d)=0
  ·have R:=aa (l F)
   have E:=aa F;clear l S;rw[F]
   go_wp2_with fail
   generalize World.setCell _ _ _=w7 at g⊢;have q0:w7.cell? (aD w.heap.size 0)=some (iI region):=(g.ah 0 rfl).cell 0;have q1:w7.cell? (aD w.heap.size 1)=some (iI i):=(g.ah 0 rfl).cell 1;have q2:w7.cell? (aD w.heap.size 2)=some (.slice A2 (n-1) c2):=(g.ah 0 rfl).cell 2;refine bodyPost_ret (v:= .tuple #[.agg #[iI region,iI i,(.slice A2 (n-1) c2)],iI 0]) (oT (fn:=Tryz.f201) (t:=4) (k:=5) (ty:=213) rfl _ rfl ?_) rfl ⟨(.slice A2 (n-1) c2),?_,?_⟩
   ·go_simp
   ·rw[R.out,E.out];try rfl
   ·rw[R.out];exact g.pick 2 [1]
  ·have R:=aa (S F)
   have D0:(jk (i::d) !=0)=true:=by simp[F]
   clear l S F;have HE:=aa (show jk (i::d)=jk (i::d)from rfl);generalize A0:jk (i::d)=ee at*
   go_wp2_with fail
   generalize World.setCell _ _ _=w7 at D⊢;have q0:w7.cell? (aD w.heap.size 0)=some (iI 0):=(D.ah 0 rfl).cell 0;have q1:w7.cell? (aD w.heap.size 1)=some (iI 0):=(D.ah 0 rfl).cell 1;have q2:w7.cell? (aD w.heap.size 2)=some sN:=(D.ah 0 rfl).cell 2;refine bodyPost_ret (v:= .tuple #[.agg #[iI 0,iI 0,sN],iI ee]) (oT (fn:=Tryz.f201) (t:=4) (k:=5) (ty:=213) rfl _ rfl ?_) rfl ⟨sN,?_,?_⟩
   ·go_simp
   ·rw[R.out,A0];try rfl
   ·rw[R.out];exact D.tail.tail.bG (λO _=>aA.none_ O _)
def eO(w:World)(N:LV)(r:RQ):Prop:=∃v,N=[iI r.op,iI r.region,iI r.index,iU r.token,iW r.seq,v]/\aA w .u8 v r.data
def qO(g:Nat)(region token seq:Int)(l:List RQ):aw:=AU λv=>aX (ab g 230 #[iI region,iU token,iW seq,v]) (ay 175 6 eO v l)
theorem NO:eB prog 70 175 (.agg #[iI 0,iI 0,iI 0,iU 0,iW 0,sN]) 6 64:=⟨underlying70,kR,kR,oM⟩
theorem NR(w:World)(a b c d e:Int)(A:OA)(n k:Nat):(Instr.buildSlice 70 1 #[(0,.agg #[iI a,iI b,iI c,iU d,iW e,.slice A n k])]).run prog w= .ok (.slice (aO w.heap.size) 1 1) (w.alloc (.cells #[iI a,iI b,iI c,iU d,iW e,.slice A n k] 175)):=kR
theorem Hs(a b c d e:Int)(A:OA)(n k:Nat):∀u∈[Value.int .i64 a,iI b,iI c,iU d,iW e,.slice A n k],u.oneCell'=true:=by
 intro u E;simp at E;rcases E with rfl|rfl|rfl|rfl|rfl|rfl<;>rfl
theorem Iz{I:aH}{L:List aw}(g:Nat)(region token seq o index:Int)(l:List RQ)(A:OA)(n c:Nat)(data:LI)(w:World)(R:l.length<=1000000)(h:St I w (ai .u8 (.slice A n c) data::qO g region token seq l::L)):
 Rt I w 116 #[pO g,iI o,iI index,.slice A n c] (.tuple #[]) (qO g region token (IntKind.u32.wrap (seq+1)) (l++[⟨o,region,index,token,seq,data⟩])::L):=by
 obtain⟨v,Z⟩:=h.swap.ex;have V:=Z.star;obtain⟨S,d,q,U,rfl,y,M⟩:=V.swap.nC;have b:=(M.row 0 rfl).1;refine ib (M.pk 4 [2,0,1,3]) y b λH Y a=>?_;have e:q<=1000000:=oM
 clear h Z V M y b R
 go_enter func116,ntmps116
 go_wp2_with fail
 refine bQ (λW=>eF W g 230 #[iI region,iU token,iW seq,.slice S q d]) 23 (rG 21) [21,22,23,24,25] kR kR (λd=>by cases d<;>exact λ_ _ _ _ h=>h) (λW J=> ?_);have z:=aa (show St I W (ab g 230 #[iI region,iU token,iW seq,.slice S q d]::bY 175 6 (.slice S q d) q U::aS (λw=>∀(i:Nat) x,l[i]? =some x->eO w ((U.drop (i*6)).take 6) x)::ai .u8 (.slice A n c) data::L)by
  rw[J];exact H.drew)
 clear J H;refine⟨z.out.ah 0 rfl,?_⟩
 iterate 21 (refine bN rfl rfl (λW J=>by(have G:=J.cell 0;have N:=J.cell 1;have k:=J.cell 2;have D:=J.cell 3;clear J;go_simp;try rfl)) ?_;simp only[aR])
 refine take_nil ?_;have Q:=(z.out.pk 4 [1,0,2,3]).nP (.cells #[iI o,iI region,iI index,iU token,iW seq,.slice A n c] 175);refine bX rfl rfl 70 1 0 _ (.agg #[iI o,iI region,iI index,iU token,iW seq,.slice A n c]) rfl rfl (NR _ _ _ _ _ _ _ _ _) (λ_=>Q.ah 1 rfl) ?_;simp only[aR];refine qe NO Q rfl rfl _ _ rfl rfl (aO W.heap.size) 1 1 rfl [iI o,iI region,iI index,iU token,iW seq,.slice A n c] (Lr _ _ _) (Hs _ _ _ _ _ _ _ _) oM oM (λr T t F=>⟨λ_=>F.ah 1 rfl,?_⟩);simp only[aR];have P:=(F.pk 4 [0,2,3,1]);have j:=((P.tX.bu (R':=λO=>eO O [iI o,iI region,iI index,iU token,iW seq,.slice A n c] ⟨o,region,index,token,seq,data⟩) (λO u=>⟨_,rfl,u⟩)).sh).fR Y rfl a;have D:=(j.ah 1 rfl).cell 3;have f:=(j.ah 1 rfl).frozen;have C:=aa ((j.swap.bI 3 (.slice r (q+1) T)));clear Q F P j z
 iterate 2 (refine bD rfl rfl gS nD ?_;simp only[aR])
 refine dp rfl rfl 70 _ _ (.pointer (some ⟨g,3,none⟩)) (.slice r (q+1) T) rfl rfl rfl gS nD ?_;simp only[Act.put];refine cN ?_;clear D f;generalize World.setCell _ _ _=w5 at C⊢;have k:w5.cell? (aD g 2)=some (iW seq):=(C.ah 0 rfl).cell 2;have f:=(C.ah 0 rfl).frozen;have p:=C.bI 2 (iW (IntKind.u32.wrap (seq+1)));have B:=aa p;clear C p
 go_wp2_with fail
 go_end0
 refine⟨rfl,St.cZ (f:=λv=>aX (ab g 230 #[iI region,iU token,iW (IntKind.u32.wrap (seq+1)),v]) (ay 175 6 eO v (l++[⟨o,region,index,token,seq,data⟩]))) (.slice r (q+1) T) (St.aM ?_)⟩;exact B.out
def wQ(region token seq:Int)(i:Nat)(p:PU):RQ:=⟨2,region,p.index,token,IntKind.u32.wrap (seq+i),p.data⟩
def wl(f:Nat->PU->RQ):Nat->List PU->List RQ
 |_,[]=>[]
 |i,p::r=>f i p::wl f (i+1) r
theorem KU(f:Nat->PU->RQ)(l:List PU)(x:PU):∀i,wl f i (l++[x])=wl f i l++[f (i+l.length) x]:=by
 induction l with
 |nil=>intro i;rfl
 |cons p r K=>
  intro i;show f i p::wl f (i+1) (r++[x])=f i p::wl f (i+1) r++_;rw[K,MV,oO,show i+1+r.length=i+(r.length+1)by omega]
theorem gB(f:Nat->PU->RQ)(l:List PU):∀i,(wl f i l).length=l.length:=by
 induction l with
 |nil=>intro i;rfl
 |cons p r K=>intro i;show(wl f (i+1) r).length+1=_;rw[K];rfl
def uo(region token seq:Int)(l:List PU):List RQ:=wl (wQ region token seq) 0 l++if 0<l.length then [⟨5,region,l.length,token,IntKind.u32.wrap (seq+l.length),[]⟩]else []
def GF(seq:Int)(l:List PU):Int:=if 0<l.length then IntKind.u32.wrap (seq+l.length+1)else seq
theorem wu(seq:Int)(k:Nat):IntKind.u32.wrap (IntKind.u32.wrap (seq+k)+1)=IntKind.u32.wrap (seq+(k+1:Nat)):=by
 simp only[IntKind.wrap_u32];omega
theorem BI{I:aH}{L:List aw}(g:Nat)(region token seq:Int)(y:List RQ)(l:List PU)(A:OA)(n c:Nat)(w:World)(G:0<=seq/\seq<=4294967295)(R:y.length+l.length<=100000)(q:∀x∈l,x.data.length<=23)
 (h:St I w (aB 3 bU (.slice A n c) l::qO g region token seq y::L)):
 Rt I w 117 #[pO g,.slice A n c] (.tuple #[]) (qO g region token (GF seq l) (y++uo region token seq l)::L):=by
 obtain⟨A',c',e,hc,hm⟩:=(h.dJ 0 rfl).slice;injection e with Y P e3;subst Y;subst e3;have b:=aa P;have hn:n<=100000:=oM
 refine xH h.swap R G q (show uo region token seq l=wl (wQ region token seq) 0 l++if 0<l.length then [⟨5,region,l.length,token,IntKind.u32.wrap (seq+l.length),[]⟩]else []from rfl) (show GF seq l=if 0<l.length then IntKind.u32.wrap (seq+l.length+1)else seq from rfl) λH j V HD T C=>?_;clear h P R G q
 go_enter func117,ntmps117
 go_wp2_with fail
 go_loopg [8] n (λgh i wr=>∃k:Nat,gh=n-k/\k<=n/\i= iI (k:Nat)/\St I wr (qO g region token (IntKind.u32.wrap (seq+k)) (y++wl (wQ region token seq) 0 (l.take k))::aB 3 bU (.slice A n c) l::L))
 case atStart=>exact⟨0,rfl,oM,rfl,by rw[show IntKind.u32.wrap (seq+(0:Nat))=seq by rw[zdl,WY];exact IntWalk.u32_in _ V.out];simpa[wl]using H.out⟩
 case round=>
  clear H;obtain⟨k,u,hk,rfl,h⟩:=hrel;have HG:=aa u;clear u;by_cases X:k<n
  ·have B:=gP (l:=l) (i:=k) (by rw[<-b.out];exact X)
   generalize l[k]'(by rw[<-b.out];exact X)=x at B;have D0:=HD.out x (pJ B);have ht:l.take (k+1)=l.take k++[x]:=by rw[Et,B];rfl
   have hw:y++wl (wQ region token seq) 0 (l.take (k+1))=y++wl (wQ region token seq) 0 (l.take k)++[⟨2,region,x.index,token,IntKind.u32.wrap (seq+k),x.data⟩]:=by
    rw[ht,KU,nX,fJ,show min k l.length=k by rw[<-b.out];omega,s7]
    rfl
   have F:(y++wl (wQ region token seq) 0 (l.take k)).length<=1000000:=by
    rw[eG,gB,fJ];have:=j.out;omega
   obtain⟨ad,cs,rfl,_,a,⟨v,rfl,hv⟩,Z⟩:=h.elem 1 rfl B;obtain⟨S,d,rfl,_,_,_⟩:=id hv;obtain⟨e0,Y,P⟩:=oN a;refine bm hw F λHW E=>?_;have r:=aa (((Z.bu (R':=λO=>aA O .u8 (.slice S x.data.length d) x.data) (λO A0=>by obtain⟨v,e,hi⟩:=A0.2;injection e with _ e;injection e with _ e;injection e with e;subst e;exact hi)).alloc 213 #[iI x.region,iI x.index,.slice S x.data.length d]));clear B h Z hv a ht hw F;have i0:(0:Int)<=(k:Int):=oM
   have i1:(k:Int)<(n:Int):=oM
   generalize y++wl (wQ region token seq) 0 (l.take k)=rk at*
   go_wp2_with fail
   refine bQ (λW=>eF W wr.heap.size 213 #[iI x.region,iI x.index,.slice S x.data.length d]) 8 (rG 6) [6,7] kR kR (λd=>by cases d<;>exact λ_ _ _ _ h=>h) (λW J=> ?_);have z:=aa (show St I W (ab wr.heap.size 213 #[iI x.region,iI x.index,.slice S x.data.length d]::ai .u8 (.slice S x.data.length d) x.data::qO g region token (IntKind.u32.wrap (seq+k)) rk::aB 3 bU (.slice (some ad) n c) l::L)by
    rw[J];exact r.drew)
   clear J r e0 Y P;refine⟨z.out.ah 0 rfl,?_⟩
   iterate 6 (refine bN rfl rfl (λW J=>by(have x0:=J.cell 0;have x1:=J.cell 1;have x2:=J.cell 2;clear J;go_simp;try rfl)) ?_;simp only[aR])
   refine take_nil ?_;obtain⟨_,B0,C0,p⟩:=(z.out.get 1 rfl).sl;refine eP (f:=23) (args:= #[.slice S x.data.length d]) rfl rfl gS ((dY S x.data.length d x.data _ p ?_ z.out).mono ?_)
   ·omega
   rintro e w2⟨v2,rfl,h⟩;obtain⟨t,o,rfl⟩:=h.slice;refine⟨_,rfl,λ_=>h.ah 1 rfl,?_⟩;simp only[aR];have U:=h.ints.pk 5 [0,3,1,4];clear h z p;refine eP (f:=116) (args:= #[pO g,iI 2,iI x.index,.slice t x.data.length o]) rfl rfl gS ((Iz g region token _ 2 x.index rk t x.data.length o x.data _ E U).mono ?_);rintro e w3⟨rfl,h⟩;refine⟨_,rfl,λ_=>h.ah 1 rfl,?_⟩;have M:=h.pk 3 [0,2];rw[wu]at M;have N:=aa M;clear h U M;simp only[Act.put];refine cN ?_
   go_wp2_with fail
   go_roundg (n-(k+1))
   case measure=>exact ad5
   case rel=>exact⟨k+1,rfl,oM,by go_num,by rw[HW.out];exact N.out⟩
  ·obtain rfl:k=n:=oM
   have F:(y++wl (wQ region token seq) 0 l).length<=1000000:=by
    rw[eG,gB];have:=j.out;omega
   have D:l.take k=l:=nS acE;rw[D]at h;by_cases K:0<k
   ·have d0:decide ((0:Int)<(k:Int))=true:=decide_eq_true (by omega)
    refine bm (h.pk 2 [0]) F λH E=>?_;clear h D F
    go_wp2_with fail
    refine qH (Iz g region token _ 5 k _ none 0 0 [] _ E (H.bG (λO _=>aA.none_ O _))) λw3 N=>?_;clear H
    go_wp2_with fail
    go_end0
    refine⟨rfl,?_⟩;rw[C.out,T.out,iP (by rw[<-b.out];exact K),iP (by rw[<-b.out];exact K),<-nX,<-b.out];have Q:=N.out;rw[wu]at Q;rw[show seq+(k:Int)+1=seq+((k+1:Nat):Int)by omega];exact Q
   ·have d0:decide ((0:Int)<(k:Int))=false:=decide_eq_false (by omega)
    obtain rfl:k=0:=oM
    have H:=aa (h.pk 2 [0]);clear h D F
    go_wp2_with fail
    go_end0
    refine⟨rfl,?_⟩;rw[C.out,T.out,iN ac7,iN ac7,rX];have Q:=H.out;rw[show IntKind.u32.wrap (seq+(0:Nat))=seq by rw[zdl,WY];exact IntWalk.u32_in _ V.out]at Q;exact Q
def Zh(w:World)(N:LV)(b:LI):Prop:=∃v,N=[v]/\aA w .u8 v b
def l7:List (LI)->Int
 |[]=>0
 |b::r=>if jk b=0 then l7 r else jk b
theorem Oe(l:List (LI))(b:LI)(h:l7 l=0):l7 (l++[b])=jk b:=by
 induction l with
 |nil=>show(if jk b=0 then 0 else jk b)=_;split<;>simp_all
 |cons p r K=>
  unfold l7 at h;show(if jk p=0 then l7 (r++[b])else jk p)=_
  exact age
theorem Ml(l r:List (LI))(h:l7 l≠0):l7 (l++r)=l7 l:=by
 induction l with
 |nil=>exact absurd rfl h
 |cons p q K=>
  unfold l7 at h;show(if jk p=0 then l7 (q++r)else jk p)=if jk p=0 then l7 q else jk p
  exact afe
def gu(region token seq:Int)(y:List (LI)):List RQ:=if l7 y=0 then uo region token seq (y.map (ue region))else []
theorem Nu:eB prog 67 213 (.agg #[iI 0,iI 0,sN]) 3 40:=⟨underlying67,kR,kR,oM⟩
theorem yQ(region:Int)(b:LI):(ue region b).data.length<=23:=by
 unfold ue
 cases b with
 |nil=>exact acy
 |cons i d=>
  show(if jk (i::d)=0 then(⟨region,i,d⟩:PU)else⟨0,0,[]⟩).data.length<=23
  split
  ·rename_i h
   have e:jk (i::d)=if 4<=i then 101 else if 23<d.length then 2 else 0:=rfl;rw[e]at h;show d.length<=23
   exact aeW
  ·exact acy
theorem WL{I:aH}{L:List aw}(region token seq:Int)(y:List (LI))(A:OA)(n c:Nat)(w:World)(hs:0<=seq/\seq<=4294967295)(hl:y.length<=1000)(hb:∀b∈y,Bytes b/\b.length<=140737488355328)
 (h:St I w (aB 1 Zh (.slice A n c) y::L)):
 Calls prog 164 #[iI region,iU token,iW seq,.slice A n c] w λe O=>∃v,e= .returned (.tuple #[v,iI (l7 y)])/\St I O (ay 175 6 eO v (gu region token seq y)::L):=by
 obtain⟨A',c',e,hc,hm⟩:=(h.dJ 0 rfl).slice;injection e with e1 B e3;subst e1;subst e3;have R:=aa B;have hn:n<=1000:=oM
 refine mr (h.dU 213 3 bU) hs hb (show gu region token seq y=if l7 y=0 then uo region token seq (y.map (ue region))else []from rfl) λH HS HB hR=>?_;clear h B hl hs hb
 go_enter func164,ntmps164
 go_wp2_with fail
 go_loopg [10,18] n (λgh v i wr=>∃(k:Nat) (S:OA) (q d:Nat),gh=n-k/\k<=n/\v= .slice S q d/\i= iI (k:Nat)/\q=k/\l7 (y.take k)=0/\St I wr (ay 213 3 bU (.slice S q d) ((y.take k).map (ue region))::aB 1 Zh (.slice A n c) y::L))
 case atStart=>exact⟨0,none,0,0,rfl,oM,rfl,rfl,rfl,rfl,H⟩
 case round=>
  clear H;obtain⟨k,S,q,d,hg,hk,rfl,rfl,G0,K,h⟩:=hrel;refine bm hg G0 λHG Q0=>?_;have ql:q<=1000:=oM
  clear hg G0;by_cases E0:k<n
  ·have J:=gP (l:=y) (i:=k) (by rw[<-R.out];exact E0)
   generalize y[k]'(by rw[<-R.out];exact E0)=x at J;have B0:=HB.out x (pJ J);have W:y.take (k+1)=y.take k++[x]:=by rw[Et,J];rfl
   have C:=Oe (y.take k) x K;rw[<-W]at C;have I0:y.take (k+1)++y.drop (k+1)=y:=IY _ _;obtain⟨ad,cs,rfl,_,C0,⟨v,rfl,hv⟩,V⟩:=h.elem 1 rfl J;obtain⟨X,r,rfl,_,_,_⟩:=id hv;have M:wr.cell? (ad.add (k*1))=some (.slice X x.length r):=by simpa[Addr.add]using C0 0 _ rfl
   rw[UF]at M;refine mr C W I0 B0 λD HT R0 g=>?_;have N:=aa (V.bu (R':=λO=>aA O .u8 (.slice X x.length r) x) (λO L0=>by obtain⟨v,e,z⟩:=L0.2;injection e with e;subst e;exact z));clear J h V hv C0 W C I0 B0 K;have i0:(0:Int)<=(k:Int):=oM
   have i1:(k:Int)<(n:Int):=oM
   go_wp2_with fail
   refine(Wy region x X x.length r _ g.1 g.2 N).mono ?_;rintro e w2⟨v2,rfl,h⟩;obtain⟨t,o,rfl,_,_,_⟩:=h.get 0 rfl;have T0:=aa (yQ region x);generalize F0:ue region x=p at*;have P0:=aa F0;clear N M F0;by_cases Y:jk x=0
   ·have M0:=aa Y
    rw[Y];obtain⟨xs,hq,K0,hz⟩:=h.swap.bK;refine ib hq K0 (hz.nP (.cells #[iI p.region,iI p.index,.slice t p.data.length o] 213)) λHQ S0 j=>?_;clear h hq K0 hz Y
    go_wp2_with (at_builtin;refine St.dW Nu (j.nP _) rfl _ _ rfl rfl (some ⟨w2.heap.size+1,0,none⟩) 1 1 rfl [iI p.region,iI p.index,.slice t p.data.length o] (SD acy) (by intro V0 hu;simp at hu;rcases hu with rfl|rfl|rfl<;>rfl) oM oM ?_;intro A4 c4 w4 Q)
    have h7:=((Q.tX.bu (R':=λO=>bU O [iI p.region,iI p.index,.slice t p.data.length o] p) (λO z=>⟨_,rfl,z⟩)).sh).fR HQ rfl S0;have H7:=aa h7;clear Q h7 j
    go_roundg (n-(k+1))
    case measure=>exact ad5
    case rel=>exact⟨k+1,A4,q+1,c4,rfl,oM,rfl,by go_num,by have:=Q0.out;omega,by rw[D.out,M0.out],by rw[HT.out,xd,List.map_singleton,P0.out];exact H7.out⟩
   ·have A0:l7 y=jk x:=by rw[<-R0.out,Ml _ _ (by rw[D.out];exact Y),D.out]
    have u:=aa A0;have U0:(jk x !=0)=true:=by simp[Y]
    refine bm Y (h.tail.tail.tail) λO0 H2=>?_;generalize jk x=ee at*;clear h Y A0
    go_wp2_with fail
    go_ret2
    refine⟨sN,by rw[u.out];try rfl,?_⟩;rw[hR.out,iN (by rw[u.out];exact O0.out)];exact(H2.nP _).dU _ _ _
  ·obtain rfl:k=n:=oM
   have J0:y.take k=y:=nS (by rw[<-R.out];exact g9 _);rw[J0]at h K;have D0:(y.map (ue region)).length<=1000:=by rw[nL,<-R.out];omega
   refine bm D0 K λN0 U=>?_;have F:=(h.pk 2 [0]).kF;have G:=(F.dU 175 6 eO).alloc 230 #[iI region,iU token,iW seq,sN];have Q:=St.cZ (f:=λv=>aX (ab wr.heap.size 230 #[iI region,iU token,iW seq,v]) (ay 175 6 eO v [])) sN G.aM;have E:Hid (St I (wr.alloc (.cells #[iI region,iU token,iW seq,sN] 230)) (aB 3 bU (.slice S q d) (y.map (ue region))::qO wr.heap.size region token seq []::L)):=aa Q.swap;clear h K J0 D0 F G Q
   go_wp2_with fail
   refine qK (BI wr.heap.size region token seq [] (y.map (ue region)) S q d _ HS (by have:=N0.out;simp only[OV];omega) (λx J=>by obtain⟨b,_,rfl⟩:=oK.1 J;exact yQ region b) E) λw5 h=>?_;obtain⟨v5,a⟩:=h.ex;have P:=a.star;obtain⟨T,Z,q5,W0,rfl,-,-⟩:=P.swap.nC;have x3:w5.cell? (aD wr.heap.size 3)=some (.slice T q5 Z):=(P.ah 0 rfl).cell 3;have H6:=aa P.tail;clear E h a P
   go_wp2_with fail
   go_ret2
   refine⟨.slice T q5 Z,by rw[U.out];try rfl,?_⟩;rw[hR.out,iP U.out];exact H6.out
theorem QV{I:aH}{L:List aw}(f:FuncId)(cap:Value)(p:PU->Bool)(l:List PU)(A:OA)(n c:Nat)(w:World)
 (D:∀(args:Vq) (W:World),Sem.run prog (callFunc f args) W= .ok (.enter f args) W)
 (hF:∀(x:PU) (v:Value) (W:World),St I W L->Calls prog f #[tU x v,cap] W λe g=>e= .returned (.bool (p x))/\Fr iY W g)
 (h:St I w (aB 3 bU (.slice A n c) l::L)):
 Rt I w 159 #[.slice A n c,.func (.func f) #[] #[cap]] (iI (fW p 0 l)) (aB 3 bU (.slice A n c) l::L):=by
 obtain⟨A',X,e,F,hm⟩:=(h.dJ 0 rfl).slice;injection e with S P t;subst S;subst t;have b:=aa P;have A0:n<=c:=oM
 refine mr h hF D (show fW p 0 l=fW p 0 (l.drop 0)from rfl) λH y V j=>?_;clear h P hF D
 go_enter func159,ntmps159
 go_wp2_with fail
 go_loopg [8] n (λq i wr=>∃k:Nat,q=n-k/\k<=n/\i= iI (k:Nat)/\fW p 0 l=fW p k (l.drop k)/\St I wr (aB 3 bU (.slice A n c) l::L))
 case atStart=>exact aex
 case round=>
  clear H j;obtain⟨k,u,hk,rfl,z,h⟩:=hrel;have R:=aa u;clear u;by_cases B:k<n
  ·have J:=gP (l:=l) (i:=k) acz
   have O:=Eb (l:=l) (i:=k) acz;generalize l[k]' acz=x at J O;have U:fW p k (l.drop k)=if p x=true then(k:Int)else fW p (k+1) (l.drop (k+1)):=by rw[O];rfl
   obtain⟨Y,N,rfl,_,a,⟨v,rfl,K⟩,Z⟩:=h.elem 0 rfl J;obtain⟨G,d,rfl,_,_,_⟩:=id K;obtain⟨M,S,P⟩:=oN a;refine bm (z.trans U) h λC r=>?_;clear J h Z K a O U z;have i0:(0:Int)<=(k:Int):=oM
   have i1:(k:Int)<(n:Int):=oM
   go_wp2_with fail
   rw[V.out,Oper.upon_enter];refine qK (y x (.slice G x.data.length d) _ r.tail) λw2 Q=>?_;have T:=aa (r.grow Q);clear r Q M S P
   cases o:p x with
   |true=>
    exact ad3
   |false=>
    exact ad0
  ·obtain rfl:k=n:=oM
   have E:=aa (z.trans (show fW p k (l.drop k)= -1 by rw[Qz acE];rfl));have H:=aa h;clear h z
   exact ad9
theorem Ef{I:aH}{L:List aw}(f:FuncId)(cap:Value)(p:PU->Bool)(l:List PU)(A:OA)(n c:Nat)(w:World)
 (D:∀(args:Vq) (W:World),Sem.run prog (callFunc f args) W= .ok (.enter f args) W)
 (hF:∀(x:PU) (v:Value) (W:World),St I W L->Calls prog f #[tU x v,cap] W λe g=>e= .returned (.bool (p x))/\Fr iY W g)
 (h:St I w (aB 3 bU (.slice A n c) l::L)):
 Rt I w 113 #[.slice A n c,.func (.func f) #[] #[cap]] (.bool (l.any p)) (aB 3 bU (.slice A n c) l::L):=by
 refine bm (QV f cap p l A n c w D hF h) (yE p l 0) λC J=>?_;exact af8
theorem Tw{I:aH}{L:List aw}(b:Nat)(region:Int)(x:PU)(v:Value)(W:World)(h:St I W (ab b 3 #[iI region]::L)):
 Calls prog 114 #[tU x v,pO b] W λe g=>e= .returned (.bool (x.region !=region))/\Fr iY W g:=by
 obtain⟨r,i,d⟩:=x;have Z:=h.alloc 213 #[iI r,iI i,v];have o:(W.alloc (.cells #[iI r,iI i,v] 213)).cell? (aD b 0)=some (iI region):=(Z.ah 1 rfl).cell 0;clear h Z
 go_enter func114,ntmps114
 exact aee
section
section
variable {α:Type} {I:aH} {w:World} {L:List aw} {size:Nat} {R:World->LV->α->Prop} {v:Value} {xs:List α}
theorem bF.sub{n c k m p:Nat}{b:Nat->LV}(h:bF w size R (.slice A n c) b xs)(F:k+m<=n)(r:0<m->A'=A.map (·.add (k*size)))(D:m<=p)(y:p<=maxLen):
 bF w size R (.slice A' m p) (λi=>b (k+i)) ((xs.drop k).take m):=by
 obtain⟨o,d,e,Z,V,M⟩:=h;injection e with S P t;subst S;have C:((xs.drop k).take m).length=m:=by rw[fJ,km];omega
 refine⟨A',p,by rw[C],by rw[C];exact D,y,λi x z=> ?_⟩;have H:i<m:=by have:=(lQ.1 z).1;omega
 rw[AH,iP H,xV]at z;obtain⟨Y,rfl,T,O,G⟩:=M (k+i) x z;refine⟨Y.add (k*size),by rw[r oM];rfl,T,λj u E=> ?_,G⟩;rw[dk,dk];have:=O j u E;rw[dk,vq]at this;rw[show k*size+i*size+j=k*size+(i*size+j)by omega]at this;exact this
theorem St.TY{n c k m c':Nat}(h:St I w L)(i:Nat)(z:L[i]? =some (aB size R (.slice A n c) xs))(W:k+m<=n)(r:0<m->A'=A.map (·.add (k*size)))(D:m<=c')(y:c'<=maxLen):
 St I w (aB size R (.slice A' m c') ((xs.drop k).take m)::L):=by
 obtain⟨M,d,K,Q,U⟩:=h;obtain⟨b,J⟩:=U.at_ i _ z;exact⟨M,_,K,Q,U.cons (F:=λ_=>False) ⟨λi=>b (k+i),λ_ x=>x,λO l=>(J.2 O l).sub W r D y⟩ (λ_ _ _ _ x=>x) (λ_ x=>x.elim)⟩
end
def eQ(region token seq:Int)(i:Nat)(p:PU):RQ:=⟨4,region,0,token,IntKind.u32.wrap (seq+i),Dn p⟩
def rI(region token:Int)(s:Int)(part:List PU):Int×List RQ:=
 (GF (IntKind.u32.wrap (s+part.length)) part,wl (eQ region token s) 0 part++uo region token (IntKind.u32.wrap (s+part.length)) part)
def pQ(region token seq:Int)(l:List PU):Nat->Int×List RQ
 |0=>(seq,[])
 |j+1=>((rI region token (pQ region token seq l j).1 ((l.drop (4*j)).take 4)).1,(pQ region token seq l j).2++(rI region token (pQ region token seq l j).1 ((l.drop (4*j)).take 4)).2)
def jt:List PU->Int
 |[]=>0
 |x::r=>if jL x=0 then jt r else jL x
def nV(region:Int)(l:List PU):Int:=if jt l=0 then(if l.any (λx=>x.region !=region)=true then 1 else 0)else jt l
def di(region token seq:Int)(l:List PU):List RQ:=if nV region l=0 then(pQ region token seq l ((l.length+3)/4)).2 else []
theorem Ku(s:Int)(l:List PU)(U:0<=s/\s<=4294967295):0<=GF s l/\GF s l<=4294967295:=by
 unfold GF
 split
 ·simp only[IntKind.wrap_u32];omega
 ·exact U
theorem Ra(region token seq:Int)(l:List PU)(U:0<=seq/\seq<=4294967295):∀j,0<=(pQ region token seq l j).1/\(pQ region token seq l j).1<=4294967295
 |0=>U
 |j+1=>Ku _ _ (by simp only[IntKind.wrap_u32];omega)
theorem wR(region token seq:Int)(l:List PU):(uo region token seq l).length<=l.length+1:=by
 unfold uo;rw[eG,gB]
 split<;>simp
theorem o7(region token seq:Int)(l:List PU):∀j,(pQ region token seq l j).2.length<=9*j
 |0=>by simp[pQ]
 |j+1=>by
  have Z:=o7 region token seq l j;have V:=wR region token (IntKind.u32.wrap ((pQ region token seq l j).1+((l.drop (4*j)).take 4).length)) ((l.drop (4*j)).take 4);have M:((l.drop (4*j)).take 4).length<=4:=by rw[fJ];omega
  show((pQ region token seq l j).2++(wl _ 0 ((l.drop (4*j)).take 4)++uo _ _ _ _)).length<=9*(j+1);rw[eG,eG,gB];omega
theorem Ix(l:List PU)(b:PU)(h:jt l=0):jt (l++[b])=jL b:=by
 induction l with
 |nil=>show(if jL b=0 then 0 else jL b)=_;split<;>simp_all
 |cons p r K=>
  unfold jt at h;show(if jL p=0 then jt (r++[b])else jL p)=_
  exact age
theorem Jk(l r:List PU)(h:jt l≠0):jt (l++r)=jt l:=by
 induction l with
 |nil=>exact absurd rfl h
 |cons p q K=>
  unfold jt at h;show(if jL p=0 then jt (q++r)else jL p)=if jL p=0 then jt q else jL p
  exact afe
theorem Js(l:List PU)(h:jt l=0):∀x∈l,jL x=0:=by
 induction l with
 |nil=>intro x J;cases J
 |cons p r K=>
  unfold jt at h
  split at h
  ·rename_i Z
   intro x J;rcases nO.1 J with rfl|J
   ·exact Z
   ·exact K h x J
  ·exact afa
theorem My(x:PU)(h:jL x=0):x.data.length<=23/\0<=x.index/\x.index<4:=by
 unfold jL at h
 exact aeW
theorem MW(x:PU)(h:jL x=0):Dn x=x.index::x.data:=by unfold Dn;rw[iP h]
end
section
open Go.Shelf
attribute [local go_sem] Oper.semAt_some
theorem UZ{I:aH}(l:List PU)(A:OA)(n c X t r m:Nat)(T:Nat->List aw)(w:World)(hn:n<=1000)
 (L:∀(j:Nat) (W:World) (A':OA) (p:Nat),4*j<n->p=min 4 (n-4*j)->St I W (aB 3 bU (.slice A' p p) ((l.drop (4*j)).take 4)::ab X 67 #[.slice A n c]::ab t 3 #[iI 4]::aB 3 bU (.slice A n c) l::T j)->
  YieldAt Fence.wide (m-1) prog r #[.slice A' p p] W λe q=>e= .returned (.bool true)/\St I q (ab X 67 #[.slice A n c]::ab t 3 #[iI 4]::aB 3 bU (.slice A n c) l::T (j+1)))
 (h:St I w (ab X 67 #[.slice A n c]::ab t 3 #[iI 4]::aB 3 bU (.slice A n c) l::T 0)):
 CallsIn Fence.wide m prog 168 #[.func (.yield r) #[] #[],pO X,pO t] w λe O=>(∃v,e= .returned v)/\St I O (ab X 67 #[.slice A n c]::ab t 3 #[iI 4]::aB 3 bU (.slice A n c) l::T ((n+3)/4)):=by
 obtain⟨A',c',e,hc,y⟩:=(h.dJ 2 rfl).slice;injection e with S P a;subst S;subst a;have b:=aa P;have B0:n<=c:=oM
 refine ib L y h λK V H=>?_;clear h L P y;refine callsIn_of_wp func168 rfl trivial ?_ rfl;simp only[ntmps168,So,oO,OV,Nat.reduceAdd,Nat.reduceSub,Yt,Yj,YE,YC,xL,MV]
 gi_wp2_with fail
 gi_loopw [4] (λi wr=>∃j k:Nat,k=4*j/\k<n+4/\i= iI (k:Nat)/\St I wr (ab X 67 #[.slice A n c]::ab t 3 #[iI 4]::aB 3 bU (.slice A n c) l::T j)) (λi _=>n-(intOf i).toNat)
 case atStart=>exact⟨0,0,rfl,oM,rfl,H⟩
 case round=>
  obtain⟨j,k,F,Y,rfl,h⟩:=hrel;have o:=(h.ah 0 rfl).cell 0;have E:=(h.ah 1 rfl).cell 0;have C:=aa (λW A' p=>K j W A' p);clear H;have H:=aa h;clear h;rw[<-F]at C;have u:=aa F;clear F;by_cases B:k<n
  ·gi_wp2_with fail
   refine wpIn_wide.2 ?_;have i0:(0:Int)<=(k:Int):=oM
   have i1:(k:Int)<=(n:Int):=oM
   have i2:(n:Int)<=(c:Int):=oM
   refine bQ (λW=>W.cell? (aD X 0)=some (.slice A n c)/\W.cell? (aD t 0)=some (iI 4)) 7 (rG 7) [] kR kR (λd=>by cases d<;>exact λ_ _ _ _ h=>h) (λW J=> ?_);have z:=aa (show St I W (ab X 67 #[.slice A n c]::ab t 3 #[iI 4]::aB 3 bU (.slice A n c) l::T j)by
    rw[J];exact H.drew)
   clear J H o E;refine⟨⟨(z.out.ah 0 rfl).cell 0,(z.out.ah 1 rfl).cell 0⟩,?_⟩
   iterate 7 (refine bN rfl rfl (λW J=>by(rcases J with⟨_,_⟩;go_simp;try rfl)) ?_;simp only[aR])
   refine take_nil (cN ?_);obtain⟨p,R⟩:=nM (min 4 (n-k));rw[show(if((n-k:Nat):Int)<4 then((n-k:Nat):Int)else 4)=(p:Int)by split<;>omega];have o:=(z.out.ah 0 rfl).cell 0;have E:=(z.out.ah 1 rfl).cell 0;have p1:0<p:=oM
   have p2:(k:Int)+(p:Int)<=(c:Int):=oM
   have p3:(k:Int)<=(k:Int)+(p:Int):=oM
   have p4:(0:Int)<=(k:Int)+(p:Int):=oM
   have A0:k+4<2000:=oM
   have C0:p<=4:=oM
   obtain⟨fn,tm,D,bd,G,g⟩:=C.out W (A.map (·.add (k*3))) p B R (by
    have Z:=z.out.TY (A':=A.map (·.add (k*3))) (k:=k) (m:=p) (c':=p) 2 rfl oM (λ_=>rfl) (g9 _) acV;rwa[show(l.drop k).take p=(l.drop k).take 4 by
     have:=b.out;rcases zdk 4 (n-k)with Q|Q
     ·rw[show p=4 by omega]
     ·rw[nS acO,nS acO]]at Z)
   clear R Y
   gi_wp2_with fail
   refine⟨λU=>by simp[Fence.wide]at U,g.mono ?_⟩;rintro e x⟨rfl,M⟩;have o:=(M.ah 0 rfl).cell 0;have E:=(M.ah 1 rfl).cell 0;have N:=aa M;clear M g z G
   gi_wp2_with fail
   go_roundw
   case rel=>exact⟨j+1,k+4,by have:=u.out;omega,oM,by go_num,N⟩
   case measure=>exact aeI
  ·gi_wp2_with fail
   go_end0
   refine⟨⟨_,rfl⟩,?_⟩;rw[show(n+3)/4=j by have:=u.out;omega];exact H.out
theorem RC{I:aH}{L:List aw}(A:OA)(n c:Nat)(w:World)(h:St I w L):
 Calls prog 115 #[.slice A n c,iI 4] w λe O=>∃X t,e= .returned (.func (.func 168) #[] #[pO X,pO t])/\St I O (ab X 67 #[.slice A n c]::ab t 3 #[iI 4]::L):=by
 have H:=aa ((h.alloc 67 #[.slice A n c]).alloc 3 #[iI 4]);clear h
 go_enter func115,ntmps115
 exact ae8
end
section
open Go.Shelf
attribute [local go_sem] Oper.semAt_some
theorem Tv{I:aH}{L:List aw}(region token seq:Int)(l:List PU)(A:OA)(n c:Nat)(w:World)(hs:0<=seq/\seq<=4294967295)(hl:l.length<=1000)(h:St I w (aB 3 bU (.slice A n c) l::L)):
 Calls prog 73 #[iI region,iU token,iW seq,.slice A n c] w λe O=>∃v,e= .returned (.tuple #[v,iI (nV region l)])/\St I O (ay 175 6 eO v (di region token seq l)::L):=by
 obtain⟨A',c',e,hc,hm⟩:=(h.dJ 0 rfl).slice;injection e with K u e3;subst K;subst e3;have b:=aa u;have hn:n<=1000:=oM
 refine Cz (h.alloc 3 #[iI region]) hs hl (show nV region l=if jt l=0 then(if l.any (λx=>x.region !=region)=true then 1 else 0)else jt l from rfl) (show di region token seq l=if nV region l=0 then(pQ region token seq l ((l.length+3)/4)).2 else []from rfl) λH HS HL HE HQ=>?_;clear h u hs hl;refine(callsIn_wide (n:=12)).1 ?_;refine callsIn_of_wp_marks func73 rfl trivial ?_ rfl;simp only[ntmps73,So,oO,OV,Nat.reduceAdd,Nat.reduceSub,Yt,Yj,YE,YC,xL,MV]
 gi_wp2_with fail
 gi_loopw [22] (λi wr=>∃k:Nat,k<=n/\i= iI (k:Nat)/\jt (l.take k)=0/\St I wr (ab w.heap.size 3 #[iI region]::aB 3 bU (.slice A n c) l::L)) (λi _=>n-(intOf i).toNat)
 case atStart=>exact⟨0,oM,rfl,rfl,H⟩
 case round=>
  clear H;obtain⟨k,hk,rfl,W,h⟩:=hrel;by_cases B:k<n
  ·have J:=gP (l:=l) (i:=k) acz
   generalize l[k]' acz=x at J;have R:l.take (k+1)=l.take k++[x]:=by rw[Et,J];rfl
   have hE:=Ix (l.take k) x W;rw[<-R]at hE;have M0:l.take (k+1)++l.drop (k+1)=l:=IY _ _;obtain⟨ad,cs,rfl,_,a,⟨v,rfl,U⟩,Z⟩:=h.elem 1 rfl J;obtain⟨S,d,rfl,_,_,_⟩:=id U;obtain⟨e0,K,u⟩:=oN a;refine bm hE M0 λD R0=>?_;have r:=aa (((Z.bu (R':=λO=>aA O .u8 (.slice S x.data.length d) x.data) (λO B0=>by obtain⟨v,e,hi⟩:=B0.2;injection e with _ e;injection e with _ e;injection e with e;subst e;exact hi)).alloc 213 #[iI x.region,iI x.index,.slice S x.data.length d]).swap);clear J h Z U a R hE M0 W;have i0:(0:Int)<=(k:Int):=oM
   have i1:(k:Int)<(n:Int):=oM
   gi_wp2_with fail
   refine⟨trivial,(callsIn_wide.2 (JC x S x.data.length d _ (r.pk 2 [0]))).mono ?_⟩;rintro e X⟨v2,rfl,h⟩;have H2:=aa h.tail;clear h r e0 K u;by_cases Y:jL x=0
   ·have P0:=aa (D.trans Y)
    rw[Y];clear Y D
    gi_wp2_with fail
    go_roundw
    case rel=>exact⟨k+1,oM,by go_num,P0,H2⟩
    case measure=>exact aeI
   ·have J0:jt l=jL x:=by rw[<-R0.out,Jk _ _ (by rw[D.out];exact Y),D.out]
    have A0:=aa J0;have C1:(jL x !=0)=true:=by simp[Y]
    have D0:=aa Y;generalize jL x=ee at*;clear Y J0 D
    gi_wp2_with fail
    refine⟨_,results_tmp2 rfl _ _ _,sN,?_,?_⟩
    ·rw[HE.out,iN (by rw[A0.out];exact D0.out),A0.out];rfl
    ·rw[HQ.out,iN (by rw[HE.out,iN (by rw[A0.out];exact D0.out),A0.out];exact D0.out)]
     exact H2.tail.tail.dU _ _ _
  ·obtain rfl:k=n:=oM
   have z:l.take k=l:=nS acE;rw[z]at W;refine bm W h.swap λH0 H=>?_;clear h z W
   gi_wp2_with fail
   refine⟨trivial,(callsIn_wide.2 (Ef 114 (pO w.heap.size) (λx=>x.region !=region) l A k c wr (enters_of func114 kR rfl) (λx v I0 hW=>Tw w.heap.size region x v I0 hW) H)).mono ?_⟩;rintro e X⟨rfl,h⟩;clear H
   cases ha:l.any (λx=>x.region !=region)with
   |true=>
    have H:=aa h;clear h;have t:=aa (show nV region l=1 by rw[HE.out,iP H0.out,iP ha])
    gi_wp2_with fail
    refine⟨_,results_tmp2 rfl _ _ _,sN,?_,?_⟩
    ·rw[t.out];rfl
    ·rw[HQ.out,t.out]
     exact(H.tail.tail).dU _ _ _
   |false=>
    have t:=aa (show nV region l=0 by rw[HE.out,iP H0.out,iN (by rw[ha];exact gV)]);have V:=(h.dU 175 6 eO).alloc 230 #[iI region,iU token,iW seq,sN];have M:=St.cZ (f:=λv=>aX (ab X.heap.size 230 #[iI region,iU token,iW seq,v]) (ay 175 6 eO v [])) sN V.aM;have Q:=M.alloc 228 #[pO X.heap.size];rw[World.size_alloc]at Q;have C:Hid (St I _ (ab (X.heap.size+1) 228 #[pO X.heap.size]::qO X.heap.size region token seq []::aB 3 bU (.slice A k c) l::ab w.heap.size 3 #[iI region]::L)):=Q;have y0:=(h.ah 1 rfl).cell 0;clear h V M Q
    gi_wp2_with fail
    refine⟨trivial,(callsIn_wide.2 (RC A k c _ C)).mono ?_⟩;rintro e w5⟨bs,bn,rfl,h⟩;obtain⟨o,E0⟩:=nM (X.heap.size+1);obtain⟨N,g⟩:=nM (X.heap.size);obtain⟨rb,F0⟩:=nM (w.heap.size);rw[<-E0,<-g,<-F0]at h;rw[<-E0,<-g,<-F0];have H:=aa h;clear h C y0 E0 g F0
    gi_wp2_with fail
    refine uJ (n:=12) (gf:=168) (lb:= #[pO bs,pO bn]) rfl (enters_of func168 kR rfl) H ?_;intro fn T G0 W1 V0;refine(UZ l A k c bs bn T 11 (λj=>ff T (.loop _)::ff G0 (.deferred (some []))::ab o 228 #[pO N]::qO N region token (pQ region token seq l j).1 (pQ region token seq l j).2::ab rb 3 #[iI region]::L) W1 hn ?_ (V0.pick 7 [2,3,6,0,1,4,5])).mono ?_
    ·intro j I0 A' p hj hp hW
     have HP:=aa hp;clear hp;have key:=Pn (P:=prog) (n:=10) (L':=ab bs 67 #[.slice A k c]::ab bn 3 #[iI 4]::aB 3 bU (.slice A k c) l::ff G0 (.deferred (some []))::ab o 228 #[pO N]::qO N region token (pQ region token seq l (j+1)).1 (pQ region token seq l (j+1)).2::ab rb 3 #[iI region]::L) ?_ (args:= #[.slice A' p p]) hW.up4 rfl ?_ ?_
     ·obtain⟨U0,Y0,S0,T0,hy,hR⟩:=key
      refine⟨U0,Y0,S0,T0,hy,hR.mono ?_⟩;rintro e W'⟨Y,Q⟩;exact⟨Y,Q.pick 4 [1,2,3,0]⟩
     rotate_left
     ·intro W2 B1 hK
      gi_wp2
      exact hK
     ·intro W2 V
      have E:∀x∈(l.drop (4*j)).take 4,jL x=0:=λx J=>Js l H0 x (Ud (Hn J));have g:((l.drop (4*j)).take 4).length=p:=by have:=b.out;have:=HP.out;rw[fJ,km];omega
      have D1:p<=4:=by have:=HP.out;omega
      have X0:=Ra region token seq l HS j;have W0:=o7 region token seq l j;have N0:pQ region token seq l (j+1)=((rI region token (pQ region token seq l j).1 ((l.drop (4*j)).take 4)).1,(pQ region token seq l j).2++(rI region token (pQ region token seq l j).1 ((l.drop (4*j)).take 4)).2):=rfl;rw[N0];clear N0;generalize(l.drop (4*j)).take 4=pt at*;generalize(pQ region token seq l j).1=s at*;generalize(pQ region token seq l j).2=rq at*;have HW:=aa V.up6.tX.up7;have E1:rq.length<=9000:=oM
      clear V hW hj W0
      gi_wp2_with fail
      gi_loopw [48] (λi wr=>∃q:Nat,q<=p/\i= iI (q:Nat)/\St I wr (qO N region token (IntKind.u32.wrap (s+q)) (rq++wl (eQ region token s) 0 (pt.take q))::aB 3 bU (.slice A' p p) pt::ab o 228 #[pO N]::_)) (λi _=>p-(intOf i).toNat)
      case atStart=>exact⟨0,oM,rfl,by rw[show IntKind.u32.wrap (s+(0:Nat))=s by rw[zdl,WY];exact IntWalk.u32_in _ X0];simpa[wl]using HW.out⟩
      case round=>
       clear HW;obtain⟨q,hq,rfl,h⟩:=hrel;by_cases B:q<p
       ·have J:=gP (l:=pt) (i:=q) (by rw[g];exact B)
        generalize pt[q]'(by rw[g];exact B)=x at J;have L0:=E x (pJ J);have R:pt.take (q+1)=pt.take q++[x]:=by rw[Et,J];rfl
        have hw:rq++wl (eQ region token s) 0 (pt.take (q+1))=rq++wl (eQ region token s) 0 (pt.take q)++[⟨4,region,0,token,IntKind.u32.wrap (s+q),Dn x⟩]:=by
         rw[R,KU,nX,fJ,show min q pt.length=q by rw[g];omega,s7]
         rfl
        have y:(rq++wl (eQ region token s) 0 (pt.take q)).length<=1000000:=by
         rw[eG,gB,fJ];omega
        obtain⟨ad,cs,rfl,_,a,⟨v,rfl,U⟩,Z⟩:=h.elem 1 rfl J;obtain⟨S,d,rfl,_,_,_⟩:=id U;obtain⟨e0,K,u⟩:=oN a;refine mr hw y L0 E λHW C0 A1 Z0=>?_;have r:=aa (((Z.bu (R':=λO=>aA O .u8 (.slice S x.data.length d) x.data) (λO B0=>by obtain⟨v,e,hi⟩:=B0.2;injection e with _ e;injection e with _ e;injection e with e;subst e;exact hi)).nP (.cells #[iI x.region,iI x.index,.slice S x.data.length d] 213)));clear J h Z U a R hw y L0 E;have i0:(0:Int)<=(q:Int):=oM
        have i1:(q:Int)<(p:Int):=oM
        generalize rq++wl (eQ region token s) 0 (pt.take q)=rk at*
        gi_wp2_with fail
        refine⟨trivial,(CallsIn.inRound T (callsIn_wide.2 (JC x S x.data.length d _ r))).mono ?_⟩;rintro e w3⟨v3,rfl,h⟩;obtain⟨A3,c3,rfl,_,_,_⟩:=h.get 0 rfl;have x0:w3.cell? (aD o 0)=some (pO N):=(h.ah 3 rfl).cell 0;have H3:=aa h;clear h r e0 K u
        gi_wp2_with fail
        refine⟨trivial,(CallsIn.inRound T (callsIn_wide.2 (Iz N region token _ 4 0 rk A3 _ c3 (Dn x) _ C0 H3))).mono ?_⟩;rintro e w4⟨rfl,h⟩;rw[wu]at h;have C:=aa h;clear h H3 x0
        gi_wp2_with fail
        go_roundw
        case rel=>exact⟨q+1,oM,by go_num,by rw[HW.out];exact C.out⟩
        case measure=>exact aeI
       ·obtain rfl:q=p:=oM
        have z:pt.take q=pt:=nS (by rw[g];exact g9 _);rw[z]at h;have y:(rq++wl (eQ region token s) 0 pt).length+pt.length<=100000:=by rw[eG,gB];omega
        have K0:∀x∈pt,x.data.length<=23:=λx J=>(My x (E x J)).1;have x0:wr.cell? (aD o 0)=some (pO N):=(h.ah 2 rfl).cell 0;refine mr h.swap y K0 g λr C0 O0 Q0=>?_;clear h z y K0 E g
        gi_wp2_with fail
        refine⟨trivial,(CallsIn.inRound T (callsIn_wide.2 (BI N region token _ _ pt A' q q _ (by simp only[IntKind.wrap_u32];omega) C0 O0 r))).mono ?_⟩;rintro e w4⟨rfl,h⟩;have C:=aa h;clear h r x0
        gi_wp2_with fail
        have F:=C.dn6.dn5;rw[<-Q0.out,nX]at F;exact F
    ·rintro e W2⟨Y,V⟩
     refine⟨Y,_,V.up4.up4,?_⟩;intro W3 M;obtain⟨v5,F⟩:=(M.pk 7 [5,0,4]).ex;have G:=F.star;obtain⟨A5,c5,q5,F1,rfl,-,-⟩:=G.swap.nC;have x0:W3.cell? (aD o 0)=some (pO N):=(G.ah 3 rfl).cell 0;have x3:W3.cell? (aD N 3)=some (.slice A5 q5 c5):=(G.ah 0 rfl).cell 3;have hD:=G.obj 2 rfl;have H6:=aa (G.pk 4 [2,1]);clear M F G
     gi_wp2_with fail
     refine⟨by simp,.inl ⟨_,_,rfl,run_takeDeferred hD,?_⟩⟩;refine⟨_,results_tmp2 rfl _ _ _,.slice A5 q5 c5,?_,?_⟩
     ·rw[t.out];rfl
     ·rw[HQ.out,iP t.out,<-b.out]
      exact(H6.ul _).tail
end
section
def fo{α:Type}(C:α->LV)(size:Nat)(w:World)(v:Value)(xs:List α):Prop:=
 ∃A c,v= .slice A xs.length c/\xs.length<=c/\c<=maxLen/\Sl w Any size A xs.length (xs.flatMap C)
def ns{α:Type}(C:α->LV)(size:Nat)(v:Value)(xs:List α):aw:=aS (λw=>fo C size w v xs)
def dV{α:Type}(C:α->LV)(e:TypeId)(size:Nat)(v:Value)(xs:List α):aw:=bY e size v xs.length (xs.flatMap C)
section
variable {α:Type} {C:α->LV} {size:Nat} {w:World} {xs:List α}
theorem sH(D:∀x,(C x).length=size)(xs:List α):(xs.flatMap C).length=xs.length*size:=by
 induction xs with
 |nil=>exact acy
 |cons x r K=>rw[Bo,eG,D,K,oO,vq,Co,ZF]
theorem GZ(D:∀x,(C x).length=size):∀(xs:List α) (k:Nat) (x:α),xs[k]? =some x->∀j,j<size->(xs.flatMap C)[k*size+j]? =(C x)[j]?
 |[],k,x,h=>by simp at h
 |y::r,0,x,h=>by
  obtain rfl:y=x:=by simpa using h
  intro j N;rw[Bo,Yq,s7,Uu (by rw[D];exact N)]
 |y::r,k+1,x,h=>by
  intro j N;rw[Bo,OU (by rw[D,vq];omega),D,show(k+1)*size+j-size=k*size+j by rw[vq];omega];exact GZ D r k x acX j N
theorem Cm(D:∀x,(C x).length=size){x y:α}{u:Value}{j:Nat}(E:C y=(C x).set j u)(N:j<size):∀(xs:List α) (k:Nat),xs[k]? =some x->(xs.set k y).flatMap C=(xs.flatMap C).set (k*size+j) u
 |[],k,h=>by simp at h
 |z::r,0,h=>by
  obtain rfl:z=x:=by simpa using h
  rw[List.set_cons_zero,Bo,Bo,Yq,s7,List.set_append_left _ _ (by rw[D];exact N),E]
 |z::r,k+1,h=>by
  rw[List.set_cons_succ,Bo,Bo,zdv _ _ (by rw[D,vq];omega),D,show(k+1)*size+j-size=k*size+j by rw[vq];omega];rw[Cm D E N r k acX]
theorem IP(xs:List α)(x:α):(xs++[x]).flatMap C=xs.flatMap C++C x:=by simp
theorem og(xs:List α):cq (xs.map λx=>(C x,x))=xs.flatMap C:=by
 induction xs with
 |nil=>rfl
 |cons x r K=>rw[li,Bo,<-K];rfl
theorem qQ(D:∀x,(C x).length=size)(xs:List α):sized size (xs.map λx=>(C x,x)):=by
 intro p o;obtain⟨x,_,rfl⟩:=oK.1 o;exact D x
theorem sx(Z:∀x,∀u∈C x,u.oneCell'=true)(xs:List α):∀u∈xs.flatMap C,u.oneCell'=true:=by
 intro u E;obtain⟨x,_,E⟩:=List.mem_flatMap.1 E;exact Z x u E
theorem fo.none_(w:World):fo C size w sN []:=⟨none,0,rfl,by simp,by unfold maxLen;omega,Sl.Qp _ _ _ _⟩
theorem fo.value{v:Value}(h:fo C size w v xs):∃A c,v= .slice A xs.length c/\xs.length<=c:=by
 obtain⟨A,c,e,Z,_⟩:=h;exact⟨A,c,e,Z⟩
theorem fo.sl{A:OA}{n c:Nat}(h:fo C size w (.slice A n c) xs):n=xs.length/\n<=c/\c<=9223372036854775807/\Sl w Any size A n (xs.flatMap C):=by
 obtain⟨A',p,e,Z,V,M⟩:=h;exact afz
theorem fo.at_(D:∀x,(C x).length=size){A:OA}{n c k:Nat}{x:α}(h:fo C size w (.slice A n c) xs)(F:xs[k]? =some x):∃Y,A=some Y/\∀j u,(C x)[j]? =some u->w.cell? ((Y.add (k*size)).add j)=some u:=by
 obtain⟨K,_,_,U⟩:=h.sl;have B:=(lQ.1 F).1;obtain⟨Y,e,_,_,d⟩:=U.2 oM;refine⟨Y,e,λj u E=> ?_⟩;rw[dk];refine d _ u ?_;rw[GZ D xs k x F j (by rw[<-D x];exact(lQ.1 E).1)];exact E
theorem fo.tail(D:∀x,(C x).length=size)(_hsz:0<size){n c:Nat}{x:α}{r:List α}(h:fo C size w (.slice A n c) (x::r))(o:∀Y,A=some Y->c≠1->A'=some (Y.add size)):fo C size w (.slice A' (n-1) (c-1)) r:=by
 obtain⟨K,Z,V,U⟩:=h.sl;have K:n=r.length+1:=K;subst K;refine⟨A',c-1,by simp,oM,by unfold maxLen;omega,sH D r,λP=> ?_⟩;obtain⟨Y,e,y,B,d⟩:=U.2 oM;refine⟨Y.add size,o Y e oM,trivial,by rw[fl];exact B,λj u E=> ?_⟩;rw[dk];refine d _ u ?_;rw[Bo,OU (by rw[D];omega),D,zcE];exact E
end
section
variable {α:Type} {C:α->LV} {size:Nat} {I:aH} {w:World} {L R:List aw} {e:TypeId} {v:Value} {xs:List α}
theorem St.eM(h:St I w L)(z:At (dV C e size v xs) L R:=by exact aU):fo C size w v xs:=by
 obtain⟨m,y⟩:=z.idx;obtain⟨M,F,J,Q⟩:=h.fact m y;have J:w.ownsRow 0 e size v xs.length (xs.flatMap C):=J.2;rcases J.2 with⟨rfl,K⟩|⟨g,cap,l,rfl,_,H,D,a,_⟩
 ·obtain rfl:xs=[]:=AJ K
  exact fo.none_ w
 ·exact afQ
theorem St.rQ(h:St I w L)(z:At (ns C size v xs) L R:=by exact aU):fo C size w v xs:=h.jr z
theorem St.Qg(h:St I w L)(z:At (ns C size v xs) L R:=by exact aU):St I w (ns C size v xs::L):=h.jT z
theorem St.yg(h:St I w (dV C e size v xs::L)):St I w (ns C size v xs::L):=by
 refine(St.xQ h).bu (λO J=> ?_);rcases J.2 with⟨rfl,K⟩|⟨g,cap,l,rfl,_,H,D,a,_⟩
 ·obtain rfl:xs=[]:=AJ K
  exact fo.none_ O
 ·exact afQ
theorem St.KC(h:St I w L)(C:α->LV)(size:Nat):St I w (ns C size sN []::L):=h.bG (λO _=>fo.none_ O)
theorem St.DG(h:St I w L)(C:α->LV)(e:TypeId)(size:Nat):St I w (dV C e size sN []::L):=h.my e size
theorem St.kL{A:OA}{n c:Nat}(h:St I w (dV C e size (.slice A n c) xs::L)):n=xs.length/\St I w (bY e size (.slice A n c) n (xs.flatMap C)::L):=by
 have K:=(h.eM At.here).sl.1;subst K;exact⟨rfl,h⟩
theorem St.l4{n:Nat}(h:St I w (bY e size v n (xs.flatMap C)::L))(W:n=xs.length):St I w (dV C e size v xs::L):=by
 subst W;exact h
theorem St.Dr{n:Nat}{x:α}(h:St I w (bY e size v (n+1) (xs.flatMap C++C x)::L))(W:n=xs.length):St I w (dV C e size v (xs++[x])::L):=by
 subst W;rw[<-IP]at h;exact h.l4 acy
theorem St.Fm(D:∀x,(C x).length=size)(T:0<size){n c:Nat}{x:α}{r:List α}(h:St I w L)(z:At (ns C size (.slice A n c) (x::r)) L R)(o:∀Y,A=some Y->c≠1->A'=some (Y.add size)):St I w (ns C size (.slice A' (n-1) (c-1)) r::L):=
 (h.Qg z).bu (λ_ U=>U.tail D T o)
theorem St.Dp(D:∀x,(C x).length=size){b n c k j:Nat}{x y:α}{u:Value}(h:St I w (dV C e size (.slice (aO b) n c) xs::L))(F:xs[k]? =some x)(N:j<size)(E:C y=(C x).set j u):
 St I (w.setCell ⟨b,k*size+j,none⟩ u) (dV C e size (.slice (aO b) n c) (xs.set k y)::L)/\(w.cell? ⟨b,k*size+j,none⟩).isSome=true/\w.frozen? ⟨b,k*size+j,none⟩=false:=by
 obtain⟨K,Z⟩:=h.kL;have B:=(lQ.1 F).1;have X:(k+1)*size<=n*size:=vl _ oM;rw[vq,Co]at X;have V:=Z.o8 (k*size+j) [u] acC;have R:=iL (Z.row 0 rfl) (k*size+j) 1 oM 0 oM;rw[vt]at R;refine⟨?_,R.1,R.2⟩;have S:bh (xs.flatMap C) (k*size+j) [u]=(xs.set k y).flatMap C:=by
  rw[Cm D E N xs k F];unfold bh;rw[zb7,iP (by rw[sH D,<-K];omega)];exact acy
 rw[S]at V;exact V.l4 (by rw[Vx];exact K)
end
end
end Go.Proofs.YtblpaldggenbaaaGreatDoor
