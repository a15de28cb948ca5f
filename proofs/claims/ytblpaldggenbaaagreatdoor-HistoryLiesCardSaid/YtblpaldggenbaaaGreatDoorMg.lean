/- A part. -/
import Derived.Handy
import Derived.Test.YtblpaldggenbaaaGreatDoorMd
import Derived.Test.YtblpaldggenbaaaGreatDoorMc
namespace Go.Proofs.YtblpaldggenbaaaGreatDoor
open Go.RowKit Go.Proofs.Tryz
set_option maxRecDepth 100000
set_option maxHeartbeats 64000000
variable{α:Type}
theorem XD(p:Addr)(r:RQ)(A:OA)(n c:Nat)(w:World)(H:r.op=2):Calls prog 146 #[.pointer (some p),nQ r (.slice A n c)] w λe O=>e= .returned (.iface 309 (.agg #[.pointer (some p),iI r.index,.slice A n c]))/\Fr iY w O:=by
 obtain⟨o,region,index,token,y,data⟩:=r;obtain rfl:o=2:=H
 exact aga
theorem SY(p:Addr)(r:RQ)(A:OA)(n c:Nat)(w:World)(H:r.op=4):Calls prog 146 #[.pointer (some p),nQ r (.slice A n c)] w λe O=>e= .returned (.iface 311 (.agg #[.pointer (some p),.slice A n c]))/\Fr iY w O:=by
 obtain⟨o,region,index,token,y,data⟩:=r;obtain rfl:o=4:=H
 exact aga
theorem Uq(p:Addr)(r:RQ)(A:OA)(n c:Nat)(w:World)(H:r.op=5):Calls prog 146 #[.pointer (some p),nQ r (.slice A n c)] w λe O=>e= .returned (.iface 314 (.agg #[.pointer (some p),iI r.index]))/\Fr iY w O:=by
 obtain⟨o,region,index,token,y,data⟩:=r;obtain rfl:o=5:=H
 exact aga
theorem Wn(p:Value)(j:Int)(v:Value)(w:World):Calls prog 260 #[.agg #[p,iI j,v]] w λe O=>e= .returned p/\Fr iY w O:=by
 go_enter func260,ntmps260
 exact aee
theorem Um(p v:Value)(w:World):Calls prog 261 #[.agg #[p,v]] w λe O=>e= .returned p/\Fr iY w O:=by
 go_enter func261,ntmps261
 exact aee
theorem Uj(p v:Value)(w:World):Calls prog 262 #[.agg #[p,v]] w λe O=>e= .returned p/\Fr iY w O:=by
 go_enter func262,ntmps262
 exact aee
theorem Wz(x:Value)(w:World):(Instr.typeAssert (.iface 309 x) 269 309 true).run prog w= .ok (.tuple #[x,.bool true]) w:=kR
theorem UA(x:Value)(w:World):(Instr.typeAssert (.iface 311 x) 269 311 true).run prog w= .ok (.tuple #[x,.bool true]) w:=kR
theorem Vh(x:Value)(w:World):(Instr.typeAssert (.iface 314 x) 269 314 true).run prog w= .ok (.tuple #[x,.bool true]) w:=kR
theorem SP(x:Value)(w:World):(Instr.typeAssert (.iface 311 x) 269 309 true).run prog w= .ok (.tuple #[.agg #[.pointer none,iI 0,sN],.bool false]) w:=kR
theorem Uc(x:Value)(w:World):(Instr.typeAssert (.iface 314 x) 269 309 true).run prog w= .ok (.tuple #[.agg #[.pointer none,iI 0,sN],.bool false]) w:=kR
theorem PK(x:Value)(w:World):(Instr.typeAssert (.iface 314 x) 269 311 true).run prog w= .ok (.tuple #[.agg #[.pointer none,sN],.bool false]) w:=kR
theorem XV{I:aH}{L:List aw}(g:Nat)(m:Nat->Rg)(k j:Nat)(A:OA)(n c:Nat)(b:LI)(w:World)(F:k<4)(N:j<4)(hb:b.length<=1000)(h:St I w (ai .u8 (.slice A n c) b::dL g m::L)):
 Rt I w 145 #[.iface 309 (.agg #[.pointer (some ⟨g,k*7,none⟩),iI j,.slice A n c])] (.tuple #[]) (dL g (aJ m k {m k with b:=aJ (m k).b j b})::L):=by
 have H:=aa h;have hp:=Wz;clear h
 go_enter func145,ntmps145
 go_wp2_with fail
 refine qK (Wn _ _ _ _) λl a=>?_;have r:=aa (H.grow a);clear H a
 go_wp2_with fail
 have K:=r.alloc 309 #[.pointer (some ⟨g,k*7,none⟩),iI j,.slice A n c];refine bQ (λW=>∃E,St I W (ab l.heap.size 309 #[.pointer (some ⟨g,k*7,none⟩),iI j,.slice A n c]::ai .u8 (.slice A n c) b::dL g E::L)) 10 [0,1,2,3,4,6,7] [5,8,9] kR kR
  (λd=>by cases d<;>exact λ_ _ _ _ h=>h) (λW J=> ?_)
 have z:=aa (show St I W (ab l.heap.size 309 #[.pointer (some ⟨g,k*7,none⟩),iI j,.slice A n c]::ai .u8 (.slice A n c) b::dL g m::L)by
  rw[J];exact K.drew)
 clear K J r;refine⟨⟨_,z.out⟩,?_⟩
 iterate 7 (refine bN rfl rfl (λW J=>by(obtain⟨E,J⟩:=J;have q:=(J.ah 0 rfl).cell 1;have R:=(J.ah 0 rfl).cell 2;clear J;go_simp;try rfl)) ?_;simp only[aR])
 refine take_nil ?_;obtain⟨y,_,_,P⟩:=(z.out.get 1 rfl).sl;refine eP (f:=23) (args:= #[.slice A n c]) rfl rfl (by go_simp) ((dY A n c b _ P oM z.out).mono ?_);rintro e X⟨v2,rfl,h⟩;obtain⟨t,o,rfl⟩:=h.slice;refine⟨_,rfl,λ_=>⟨m,h.tail⟩,?_⟩;simp only[aR];have Z:St I X (dL g m::aS (λO=>aA O .u8 (.slice t n o) b)::ab l.heap.size 309 #[.pointer (some ⟨g,k*7,none⟩),iI j,.slice A n c]::ai .u8 (.slice A n c) b::L):=h.ints.pick 4 [3,0,1,2];obtain⟨U,V⟩:=Z.gz;obtain⟨⟨u,D⟩,a⟩:=j6 (V.ah 0 rfl) F (j:=2+j) oM;have j0:(0:Int)<=(j:Int):=oM
 have j4:(j:Int)<4:=oM
 have M:=V.pk 3 [0,1,2];have Q:=M.zd F (j:=2+j) oM (x:={m k with b:=aJ (m k).b j b}) (p:={U k with b:=aJ (U k).b j (.slice t n o)}) (u:= .slice t n o) (by rcases vQ N with rfl|rfl|rfl|rfl<;>rfl)
  (λO G S=>⟨λi B=>by
   by_cases Y:i=j
   ·subst Y
    show aA O .u8 (aJ (U k).b i _ i) (aJ (m k).b i b i);rw[aW,aW];exact S
   ·show aA O .u8 (aJ (U k).b j _ i) (aJ (m k).b j b i)
    rw[cm _ _ _ _ Y,cm _ _ _ _ Y];exact G.b i B,G.log⟩)
 rw[<-zc6]at D a Q;refine bm h.tail Q λT C=>?_;clear h Z V M Q z P y;refine bD rfl rfl gS (λ_=>⟨m,T⟩) ?_;simp only[aR];refine dp rfl rfl 27 _ _ (.pointer (some ⟨g,k*7+2+j,none⟩)) (.slice t n o) rfl rfl rfl (by go_simp) (λ_=>⟨_,C.sh⟩) ?_;simp only[Act.put];refine cN ?_
 go_wp2
 go_end0
 exact⟨rfl,C.pick 3 [0]⟩
theorem PO(A:OA)(n c:Nat)(w:World)(W:n<=c)(_hc:c<=9223372036854775807):Calls prog 181 #[.slice A n c] w λe O=>e= .returned (.slice A n n)/\w=O:=by
 go_enter func181,ntmps181
 go_wp2
 exact afY
theorem py:eB prog 85 27 sN 1 24:=⟨underlying85,kR,kR,oM⟩
theorem vO(w:World)(A:OA)(n c:Nat):(Instr.buildSlice 85 1 #[(0,.slice A n c)]).run prog w= .ok (.slice (aO w.heap.size) 1 1) (w.alloc (.cells #[.slice A n c] 27)):=kR
theorem SL{I:aH}{L:List aw}(g:Nat)(m:Nat->Rg)(k:Nat)(A:OA)(n c:Nat)(b:LI)(w:World)(F:k<4)(hm:(m k).log.length<=1000)(hb:b.length<=1000)(h:St I w (ai .u8 (.slice A n c) b::dL g m::L)):
 Rt I w 145 #[.iface 311 (.agg #[.pointer (some ⟨g,k*7,none⟩),.slice A n c])] (.tuple #[]) (dL g (aJ m k {m k with log:=(m k).log++[b]})::L):=by
 obtain⟨U,h⟩:=h.swap.gz;obtain⟨F0,G0,D0,E0,H0⟩:(∃N E t,(U k).log= .slice N E t/\E=(m k).log.length/\E<=t/\t<=9223372036854775807)/\True/\True/\True/\True:=by
  obtain⟨N,t,q,Z,h2,_⟩:=((h.get 1 rfl) k F).log;exact⟨⟨N,_,t,q,rfl,Z,h2⟩,trivial,trivial,trivial,trivial⟩
 obtain⟨N,E,t,q,G,C0,I0⟩:=F0;refine bm h G λH K0=>?_;have hp:=UA;have L0:=SP;have C:=aa q;clear h G0 D0 E0 H0 G q
 go_enter func145,ntmps145
 go_wp2_with fail
 refine qK (Um _ _ _) λX a=>?_;have K:=aa (H.grow a);clear H a
 go_wp2_with fail
 have B:=K.alloc 311 #[.pointer (some ⟨g,k*7,none⟩),.slice A n c];refine bQ (λW=>St I W (ab X.heap.size 311 #[.pointer (some ⟨g,k*7,none⟩),.slice A n c]::im g U m::dx U m::ai .u8 (.slice A n c) b::L)) 11 [0,1,2,3,4,6,7] [5,8,9,10,11,12,13] kR kR
  (λA0=>by cases A0<;>exact λ_ _ _ _ h=>h) (λW J=> ?_)
 have z:=aa (show St I W (ab X.heap.size 311 #[.pointer (some ⟨g,k*7,none⟩),.slice A n c]::im g U m::dx U m::ai .u8 (.slice A n c) b::L)by
  rw[J];exact B.drew)
 clear B J K;refine⟨z.out,?_⟩
 iterate 7 (refine bN rfl rfl (λW J=>by(have e1:=(J.ah 0 rfl).cell 1;have x6:=dG (J.ah 1 rfl) (k:=k) (j:=6) F oM rfl;rw[C.out]at x6;clear J;go_simp;try rfl)) ?_;simp only[aR])
 refine take_nil ?_;refine eP (f:=181) (args:= #[.slice N E t]) rfl rfl (by go_simp) ((PO N E t _ C0 I0).mono ?_);rintro B0 V⟨rfl,rfl⟩;refine⟨_,rfl,λ_=>z.out,?_⟩;simp only[aR];obtain⟨hn,_,_,y⟩:=(z.out.get 3 rfl).sl;refine eP (f:=23) (args:= #[.slice A n c]) rfl rfl (by go_simp) ((dY A n c b _ y oM z.out).mono ?_);rintro B0 V⟨v2,rfl,h⟩;obtain⟨R,o,rfl⟩:=h.slice;refine⟨_,rfl,λ_=>h.tail,?_⟩;simp only[aR];have Z:=h.ints;clear h y z;refine bX rfl rfl 85 1 0 _ (.slice R n o) rfl rfl (vO _ _ _ _) (λ_=>(Z.tail.nP _)) ?_;simp only[aR];have M:=Z.nP (.cells #[.slice R n o] 27);have e:=((M.get 3 rfl) k F).log;rw[C.out]at e;obtain⟨d,G,_,_,l⟩:=e.sl oM;refine Rx py M rfl rfl _ _ rfl rfl d (aO V.heap.size) 1 1 rfl [.slice R n o] (uv _ _ _) ac8 oM oM oM (λr T w4 Q=>⟨λ_=>Q.tail.tail,?_⟩);simp only[aR];have D:=(Q.pk 6 [1,0,3,4]).bu (R':=λO=>dP O [.slice R n o] b) (λO S=>⟨_,rfl,S⟩);have P:=(D.copy 3 rfl).bu (R':=λO=>bF O 1 dP (U k).log (U k).cs (m k).log) (λO S=>(S k F).log);have Y:=(P.tX.YU G rfl l).sh;obtain⟨⟨u,hc⟩,a⟩:=j6 (Y.ah 0 rfl) F (j:=6) oM;have i:=Y.zd F (j:=6) oM (x:={m k with log:=(m k).log++[b]}) (p:={U k with log:= .slice r (E+1) T,cs:=λJ0=>((flat (U k).cs E++[Value.slice R n o]).drop (J0*1)).take 1}) (u:= .slice r (E+1) T) rfl (λO ho S=>⟨ho.b,S⟩);have H8:=aa i;clear Z M e d G l Q D P Y i
 (refine bD rfl rfl gS nD ?_;simp only[aR])
 (refine bD rfl rfl gS nD ?_;simp only[aR])
 refine dp rfl rfl 85 _ _ (.pointer (some ⟨g,k*7+6,none⟩)) (.slice r (E+1) T) rfl rfl rfl (by go_simp;rfl) nD ?_;simp only[Act.put];refine cN ?_
 go_wp2
 go_end0
 exact⟨rfl,H8⟩
theorem bF.ZN{w:World}{size:Nat}{R:World->LV->α->Prop}{A N:OA}{n c m:Nat}{b:Nat->LV}{T:List α}(h:bF w size R (.slice A n c) b T)(y:m<=n)(r:m<n->N=A.map (·.add (m*size))):
 bF w size R (.slice N (n-m) (c-m)) (λi=>b (i+m)) (T.drop m):=by
 obtain⟨U,d,e,Z,V,M⟩:=h;injection e with S P t;subst S;subst P;subst t;refine⟨N,c-m,by rw[km],by rw[km];omega,oM,λi x z=> ?_⟩;rw[xV]at z;have B:=(lQ.1 z).1;obtain⟨Y,a,C,D,G⟩:=M (m+i) x z;rw[ZF m i]at C D G;refine⟨Y.add (m*size),by rw[r oM,a];rfl,C,λj u E=> ?_,G⟩;have e:m*size+(i*size+j)=(i+m)*size+j:=by rw[vq];omega
 rw[dk,dk,e,<-dk];exact D j u E
theorem UG{I:aH}{L:List aw}(g:Nat)(m:Nat->Rg)(k j:Nat)(w:World)(F:k<4)(P:j<=(m k).log.length)(h:St I w (dL g m::L)):
 Rt I w 145 #[.iface 314 (.agg #[.pointer (some ⟨g,k*7,none⟩),iI j])] (.tuple #[]) (dL g (aJ m k {m k with log:=(m k).log.drop j})::L):=by
 obtain⟨U,h⟩:=h.gz;obtain⟨N,E,t,b,R,c,T⟩:∃N E t,(U k).log= .slice N E t/\E=(m k).log.length/\E<=t/\t<=9223372036854775807:=by
  obtain⟨N,t,b,Z,V,_⟩:=((h.get 1 rfl) k F).log;exact⟨N,_,t,b,rfl,Z,V⟩
 have j0:(0:Int)<=(j:Int):=oM
 have j1:(j:Int)<=(E:Int):=oM
 have j2:(E:Int)<=(t:Int):=oM
 refine bm h R λH q=>?_;have A:=Vh;have e:=Uc;have A0:=PK;have n:=aa b;clear h R b
 go_enter func145,ntmps145
 go_wp2_with fail
 refine qK (Uj _ _ _) λy a=>?_;have K:=aa (H.grow a);clear H a
 go_wp2_with fail
 have B:=K.alloc 314 #[.pointer (some ⟨g,k*7,none⟩),iI j];refine bQ (λW=>St I W (ab y.heap.size 314 #[.pointer (some ⟨g,k*7,none⟩),iI j]::im g U m::dx U m::L)) 8 (rG 8) [8,9,10] kR kR
  (λd=>by cases d<;>exact λ_ _ _ _ h=>h) (λW J=> ?_)
 have z:=aa (show St I W (ab y.heap.size 314 #[.pointer (some ⟨g,k*7,none⟩),iI j]::im g U m::dx U m::L)by
  rw[J];exact B.drew)
 clear B J K;refine⟨z.out,?_⟩
 iterate 8 (refine bN rfl rfl (λW J=>by(have Q:=(J.ah 0 rfl).cell 1;have M:=dG (J.ah 1 rfl) (k:=k) (j:=6) F oM rfl;rw[n.out]at M;clear J;go_simp;try rfl)) ?_;simp only[aR])
 refine take_nil ?_;have r:j<E->(if t=j then N else N.map (λx=>x.add j))=N.map (·.add (j*1)):=λo=>by rw[iN oM,UF]
 generalize(if t=j then N else N.map (λx=>x.add j))=A7 at r⊢;have Y:=(z.out.tail.copy 1 rfl).bu (R':=λO=>bF O 1 dP (.slice A7 (E-j) (t-j)) (λi=>(U k).cs (i+j)) ((m k).log.drop j)) (λO S=>by
  have G:=(S k F).log;rw[n.out]at G;exact G.ZN (by have:=q.out;omega) r)
 obtain⟨⟨u,D⟩,a⟩:=j6 (Y.ah 1 rfl) F (j:=6) oM;have l:=Y.sh.zd F (j:=6) oM (x:={m k with log:=(m k).log.drop j}) (p:={U k with log:= .slice A7 (E-j) (t-j),cs:=λi=>(U k).cs (i+j)}) (u:= .slice A7 (E-j) (t-j)) rfl (λO X S=>⟨X.b,S⟩);have C:=aa l;clear z Y l r
 (refine bD rfl rfl gS nD ?_;simp only[aR])
 (refine bD rfl rfl gS nD ?_;simp only[aR])
 refine dp rfl rfl 85 _ _ (.pointer (some ⟨g,k*7+6,none⟩)) (.slice A7 (E-j) (t-j)) rfl rfl rfl (by go_simp;rfl) nD ?_;simp only[Act.put];refine cN ?_
 go_wp2
 go_end0
 exact⟨rfl,C⟩
theorem r7{T:List α}{k:Nat}{x:α}(h:T[k]? =some x):T.take (k+1)=T.take k++[x]:=by
 obtain⟨B,rfl⟩:=lQ.1 h;exact Ye B
theorem Cl{I:aH}{L:List aw}(v:Value)(T:List (LI))(w:World)(hl:T.length<=1000)(B:∀x∈T,x.length<=1000)(h:St I w (aB 1 dP v T::L)):
 Calls prog 147 #[v] w λe O=>∃E,e= .returned E/\St I O (aB 1 dP E T::L):=by
 obtain⟨A,c,rfl,hc,hm⟩:=(h.dJ 0 rfl).slice;generalize W:T.length=n at*;refine ib W B h λb C H=>?_;clear W h B
 go_enter func147,ntmps147
 go_wp2_with fail
 go_loopg [3,8] n (λj out i wr=>∃k q G p,j=n-k/\k<=n/\i= iI (k:Nat)/\out= .slice G q p/\q=k/\St I wr (ay 27 1 dP (.slice G q p) (T.take k)::aB 1 dP (.slice A n c) T::L))
 case atStart=>exact⟨0,0,none,0,rfl,oM,rfl,rfl,rfl,H.dU 27 1 dP⟩
 case round=>
  obtain⟨k,q,G,p,u,hk,rfl,rfl,d,h⟩:=hrel;have V:=aa u;clear u H;by_cases N:k<n
  ·have J:=gP (l:=T) (i:=k) (by rw[b.out];exact N)
   generalize T[k]'(by rw[b.out];exact N)=x at J;obtain⟨y,cs,rfl,_,g,⟨vb,rfl,A0⟩,_⟩:=h.elem 1 rfl J;obtain⟨t,o,rfl,C0,D0,P⟩:=A0;have k0:wr.cell? (y.add k)=some (.slice t x.length o):=by simpa[Addr.add]using g 0 _ rfl
   have F0:x.length<=1000:=C.out x (pJ J);refine mr J P d h λZ S Y H=>?_;generalize X:x.length=nx at*;have B0:=aa X;clear J g h P d X
   go_wp2_with fail
   refine(dY t nx o x _ S oM H).mono ?_;rintro e w2⟨v2,rfl,h⟩;obtain⟨a,R,rfl⟩:=h.slice;obtain⟨U,d,r,M⟩:=(h.ints.swap).bK;refine bm (M.nP (.cells #[.slice a nx R] 27)) r λz D=>?_;have E0:q<=1000:=by have:=Y.out;omega
   clear h M d r k0 H
   go_wp2_with (at_builtin;refine St.dW py z rfl _ _ rfl rfl (aO w2.heap.size) 1 1 rfl [.slice a nx R] (uv _ _ _) ac8 oM oM ?_;intro K Q w4 h4)
   go_roundg (n-(k+1))
   case measure=>have:=V.out;omega
   case rel=>
    refine⟨k+1,q+1,K,Q,rfl,oM,by go_num,rfl,by rw[Y.out],?_⟩;rw[r7 Z.out];have F:=(h4.tX.bu (R':=λO=>dP O [.slice a nx R] x) (λO hi=>⟨_,rfl,hi⟩));exact F.sh.fR (by rw[fJ,Y.out,b.out];omega) rfl D
  ·obtain rfl:k=n:=oM
   rw[nS (by rw[b.out];exact g9 _)]at h;refine bm h d λH Y=>?_;clear h d
   go_wp2_with fail
   go_ret
   refine⟨_,rfl,?_⟩;obtain⟨_,_,_,F⟩:=H.out.bK;exact(F.rows (by rw[b.out];exact Y.out)).pick 2 [0]
section
section
variable {I:aH} {w:World} {L:List aw} {g k:Nat} {m:Nat->Rg} {U:Nat->RV}
theorem St.Uh(h:St I w (im g U m::dx U m::L))(F:k<4)(x:Int):St I (w.setCell ⟨g,k*7,none⟩ (iU x)) (dL g (aJ m k {m k with aE:=x})::L):=
 (h.bG (R:=λ_=>True) (λ_ _=>trivial)).sh.zd F (j:=0) oM (x:={m k with aE:=x}) (p:=U k) (u:= iU x) rfl (λ_ H _=>⟨H.b,H.log⟩)
theorem St.XG(h:St I w (im g U m::dx U m::L))(F:k<4)(x:Int):St I (w.setCell ⟨g,k*7+1,none⟩ (iW x)) (dL g (aJ m k {m k with seq:=x})::L):=
 (h.bG (R:=λ_=>True) (λ_ _=>trivial)).sh.zd F (j:=1) oM (x:={m k with seq:=x}) (p:=U k) (u:= iW x) rfl (λ_ H _=>⟨H.b,H.log⟩)
theorem TQ(m:Nat->Rg)(k:Nat)(h q:Int):aJ (aJ m k {m k with aE:=h}) k {aJ m k {m k with aE:=h} k with seq:=q}=aJ m k ⟨h,q,(m k).b,(m k).log⟩:=by
 rw[od,aW]
theorem Vp(x:Rg)(a k:Int)(j:Nat)(t q:Int)(d:LI)(Q:a=2):x.act ⟨a,k,j,t,q,d⟩=⟨t,q,aJ x.b j d,x.log⟩:=by
 subst Q;simp[Rg.act]
theorem RO(x:Rg)(a k:Int)(j:Nat)(t q:Int)(d:LI)(Q:a=4):x.act ⟨a,k,j,t,q,d⟩=⟨t,q,x.b,x.log++[d]⟩:=by
 subst Q;simp[Rg.act]
theorem QO(x:Rg)(a k:Int)(j:Nat)(t q:Int)(d:LI)(Q:a=5):x.act ⟨a,k,j,t,q,d⟩=⟨t,q,x.b,x.log.drop j⟩:=by
 subst Q;simp[Rg.act]
theorem yv(x:Rg)(a k:Int)(j:Nat)(t q:Int)(d:LI)(Z:a≠1)(M:a≠3):x.out ⟨a,k,j,t,q,d⟩=[]:=(iN Z).trans (iN M)
theorem St.AE(h:St I w L)(size:Nat)(R:World->LV->α->Prop):St I w (aB size R sN []::L):=
 St.cZ (f:=λb=>aS (λw=>bF w size R sN b [])) (λ_=>[]) (h.bG (λ_ _=>bF.none_ _ _ _ _))
theorem ZD(x:Rg)(p:RV){j:Nat}(N:j<4):(DY x p)[2+j]? =some (p.b j):=by
 rcases vQ N with rfl|rfl|rfl|rfl<;>rfl
theorem TP{w:World}{v:Value}{b:LI}(h:aA w .u8 v b):∀(i:Nat) x,[b][i]? =some x->dP w (([v].drop (i*1)).take 1) x:=by
 intro i x J
 match i,J with
 |0,J=>
  obtain rfl:b=x:=by simpa using J
  exact⟨v,rfl,h⟩
 |i+1,J=>simp at J
end
theorem Ql{I:aH}{L:List aw}(g:Nat)(m:Nat->Rg)(r:RQ)(A:OA)(n c:Nat)(w:World)(B0:r.ok)(hm:∀k,(m k).ok)(h:St I w (ai .u8 (.slice A n c) r.data::dL g m::L)):
 Calls prog 92 #[pO g,nQ r (.slice A n c)] w λD0 O=>∃E,D0= .returned (.tuple #[E,iI (aC m r).2])/\St I O (aB 1 dP E (mR m r)::dL g (gJ m r)::L):=by
 have hn:n=r.data.length:=(h.get 0 rfl).sl.1;refine mr (λO L'=>Fc (I:=I) (L:=L') g m r A n c O B0 hm hn) B0 hn h λZ HR HN H=>?_;clear h B0 hn;by_cases Y:(aC m r).2=0
 ·have hg:=oW Y
  obtain⟨z0,z1,R,z3,e,z5,z6⟩:=RQ.gO hg.w;have F0:=λa=>rM (m:=m) (r:=r) a
  cases a:(aC m r).1 with
  |false=>
   have q:Hid (gJ m r=m):=iN (λh=>by rw[a]at h;cases h.2);have i:=aa (show mR m r=(m r.region.toNat).out r by unfold mR;rw[iP Y,q.out]);rw[a,Y]at Z;have D:=aa Y;clear a F0 Y;obtain⟨o,region,index,token,seq,data⟩:=r;obtain⟨H0,T,b,G0⟩:=hg;simp only at z0 z1 R z3 e z5 z6 T b;obtain⟨k,rfl⟩:=zY R;obtain⟨j,rfl⟩:=zY e;have Q:k<4:=oM
   have kn:(0:Int)<=(k:Int):=oM
   have k4:(k:Int)<4:=oM
   have hj:o<=2->j<4:=λh=>by have:=b h;omega
   simp only[qG]at q i;clear H0 b G0 R z3 e z5 T
   go_enter func92,ntmps92
   go_wp2_with fail
   refine qK (Z _ _ (H.alloc 175 #[iI o,iI k,iI j,iU token,iW seq,.slice A n c]).tX) λw1 h=>?_;obtain⟨U,z⟩:=h.gz;obtain⟨M,S,P,t,p,u⟩:=(z.ah 2 rfl).ni;have C:=aa z;clear H h z;by_cases o1:o=1
   ·subst o1
    have I0:=hj oM;obtain⟨Aj,cj,ej,_⟩:=((C.get 1 rfl) k Q).b j I0;have EJ:=aa ej;have j0:(0:Int)<=(j:Int):=oM
    have j4:(j:Int)<4:=oM
    clear ej
    go_wp2_with go_quiet (fail)
    refine bQ (λW=>St I W (im g U m::dx U m::ab w.heap.size 175 #[iI 1,iI k,iI j,iU token,iW seq,.slice A n c]::ai .u8 (.slice A n c) data::L)) 9 (rG 7) [7,8,9,10] kR kR
     (λC0=>by cases C0<;>exact λ_ _ _ _ h=>h) (λW J=> ?_)
    have X:=aa (show St I W (im g U m::dx U m::ab w.heap.size 175 #[iI 1,iI k,iI j,iU token,iW seq,.slice A n c]::ai .u8 (.slice A n c) data::L)by
     rw[J];exact(C.drewN _).drew)
    clear J M S P t p u;refine⟨X.out,?_⟩
    iterate 7 (refine bN rfl rfl (λW J=>by(obtain⟨M,S,P,t,p,u⟩:=(J.ah 2 rfl).ni;have xj:=dG (J.ah 0 rfl) (k:=k) (j:=2+j) Q oM (ZD _ _ I0);rw[EJ.out,<-zc6]at xj;clear J;go_simp;try rfl)) ?_;simp only[aR])
    refine take_nil ?_;refine bX rfl rfl 85 1 0 _ (.slice Aj ((m k).b j).length cj) rfl rfl (vO _ _ _ _) (λ_=>X.out.nP _) ?_;simp only[aR];have V:=(X.out.copy 1 rfl).bu (R':=λO=>∀(L0:Nat) x,[(m k).b j][L0]? =some x->dP O (([Value.slice Aj ((m k).b j).length cj].drop (L0*1)).take 1) x) (λO z=>TP (by have:=(z k Q).b j I0;rw[EJ.out]at this;exact this));have B:=(V.oH 27 1 1 [.slice Aj ((m k).b j).length cj] rfl oM W.heap.size rfl).rows rfl;have N:=aa B;clear V B X;refine eP (f:=147) (args:= #[.slice (aO W.heap.size) 1 1]) rfl rfl (by go_simp) ((Cl _ [(m k).b j] _ acy (λx hx=>by obtain rfl:=lA.1 hx;have:=(hm k).bb j;omega) N).mono ?_);rintro D0 w2⟨E,rfl,h⟩;have d:=aa h;clear N h;refine⟨_,rfl,λ_=>d.tail,?_⟩;simp only[aR]
    (refine bD rfl rfl gS nD ?_;simp only[aR])
    (refine bD rfl rfl gS nD ?_;simp only[aR])
    refine cN ?_
    go_wp2_with fail
    go_ret2
    refine⟨E,by rw[D.out];try rfl,?_⟩;rw[i.out,q.out];have F:=d.pk 5 [0,1,2];exact(St.kU F.sh).swap
   by_cases o3:o=3
   ·subst o3
    obtain⟨A6,c6,e6,Q0,R0,_⟩:=((C.get 1 rfl) k Q).log;have E6:=aa e6;have x6:=dG (C.ah 0 rfl) (k:=k) (j:=6) Q oM rfl;rw[e6]at x6;clear e6;have V:=(C.copy 1 rfl).bu (R':=λO=>bF O 1 dP (.slice A6 (m k).log.length c6) (U k).cs (m k).log) (λO z=>by have:=(z k Q).log;rw[E6.out]at this;exact this);have H2:=aa (St.cZ (f:=λM0=>aS (λO=>bF O 1 dP (.slice A6 (m k).log.length c6) M0 (m k).log)) _ V);clear V
    go_wp2_with go_quiet (fail)
    refine(Cl _ (m k).log _ (by have:=(hm k).ll;omega) (λx hx=>by have:=(hm k).lb x hx;omega) (H2.drewN _)).mono ?_;rintro D0 w2⟨E,rfl,h⟩;have N:=aa h;clear H2 h
    go_wp2_with fail
    go_ret2
    refine⟨E,by rw[D.out];try rfl,?_⟩;rw[i.out,q.out];have F:=N.pk 5 [0,1,2];exact(St.kU F.sh).swap
   have b1:=kO o1;have b3:=kO o3
   go_wp2_with go_quiet (fail)
   go_ret2
   refine⟨sN,by rw[D.out];try rfl,?_⟩;rw[i.out,q.out,show(m k).out ⟨o,k,j,token,seq,data⟩=[]from(iN o1).trans (iN o3)];refine St.AE ?_ _ _;refine St.drewN ?_ _;have F:=C.pk 4 [0,1];exact St.kU F
  |true=>
   have q:Hid (gJ m r=aJ m r.region.toNat ((m r.region.toNat).act r)):=iP ⟨Y,a⟩;have i:=aa (show mR m r=((m r.region.toNat).act r).out r by unfold mR;rw[iP Y,q.out,aW]);obtain⟨N0,P0,J0,A0⟩:=F0 a;rw[a,Y]at Z;have D:=aa Y;clear a F0 Y;obtain⟨o,region,index,token,seq,data⟩:=r;obtain⟨H0,T,b,G0⟩:=hg;simp only at z0 z1 R z3 e z5 z6 T b;obtain⟨k,rfl⟩:=zY R;obtain⟨j,rfl⟩:=zY e;have Q:k<4:=oM
   have kn:(0:Int)<=(k:Int):=oM
   have k4:(k:Int)<4:=oM
   have K0:=RQ.Ks N0;simp only at K0 P0 J0 A0;simp only[qG]at J0 A0;have hj:o<=2->j<4:=λh=>by have:=b h;omega
   simp only[qG]at q i;clear H0 b G0 R z3 e z5 T
   go_enter func92,ntmps92
   go_wp2_with fail
   refine qK (Z _ _ (H.alloc 175 #[iI o,iI k,iI j,iU token,iW seq,.slice A n c]).tX) λw1 h=>?_;obtain⟨U,z⟩:=h.gz;obtain⟨M,S,P,t,p,u⟩:=(z.ah 2 rfl).ni;have C:=aa z;clear H h z
   go_wp2_with go_quiet (fail)
   refine bQ (λW=>eF W w.heap.size 175 #[iI o,iI k,iI j,iU token,iW seq,.slice A n c]) 9 (rG 8) [8,9,10,11] kR kR
    (λC0=>by cases C0<;>exact λ_ _ _ _ h=>h) (λW J=> ?_)
   have X:=aa (show St I W (im g U m::dx U m::ab w.heap.size 175 #[iI o,iI k,iI j,iU token,iW seq,.slice A n c]::ai .u8 (.slice A n c) data::L)by
    rw[J];exact(C.drewN _).drew)
   clear J M S P t p u C;refine⟨X.out.ah 2 rfl,?_⟩
   iterate 8 (refine bN rfl rfl (λW J=>by(obtain⟨M,S,P,t,p,u⟩:=J.ni;clear J;go_simp;try rfl)) ?_;simp only[aR])
   refine take_nil ?_;obtain⟨⟨T0,hc⟩,a⟩:=j6 (X.out.ah 0 rfl) Q (j:=0) oM;simp only[vt]at hc a;have V:=X.out.Uh Q token;refine dp rfl rfl 31 _ _ (.pointer (some ⟨g,k*7,none⟩)) (iU token) rfl rfl rfl (by go_simp) (λ_=>V.ah 1 rfl) ?_;clear hc a X;generalize W.setCell ⟨g,k*7,none⟩ (iU token)=W2 at V⊢;simp only[Act.put];obtain⟨U0,B⟩:=V.gz;obtain⟨⟨u2,hc⟩,a⟩:=j6 (B.ah 0 rfl) Q (j:=1) oM;have G:=B.XG Q seq;rw[TQ]at G;refine bm B G λN d=>?_;clear V B G
   (refine bD rfl rfl gS nD ?_;simp only[aR])
   (refine bD rfl rfl gS nD ?_;simp only[aR])
   refine dp rfl rfl 60 _ _ (.pointer (some ⟨g,k*7+1,none⟩)) (iW seq) rfl rfl rfl (by go_simp;rfl) nD ?_;have G:=d.out;clear hc a N d;generalize W2.setCell ⟨g,k*7+1,none⟩ (iW seq)=W3 at G⊢;simp only[Act.put];refine cN ?_;obtain⟨M,S,P,t,p,u⟩:=(G.ah 1 rfl).ni;have d:=aa G;have S0:n<=24:=by have:=HN.out;omega
   clear G
   go_wp2_with fail
   rcases K0 with rfl|rfl|rfl
   ·refine qK (XD ⟨g,k*7,none⟩ ⟨2,k,j,token,seq,data⟩ A n c _ rfl) λw4 a=>?_;have F:=(d.grow a).pk 3 [2,0,1];have K:=aa F;clear d a F M S P t p u
    go_wp2_with fail
    refine qK (XV g _ k j A n c data _ Q (hj oM) oM K) λw5 h=>?_;rw[od,aW]at h;obtain⟨M,S,P,t,p,u⟩:=(h.ah 1 rfl).ni;have l:=aa h;clear h K
    go_wp2_with fail
    go_ret2
    refine⟨sN,by rw[D.out];try rfl,?_⟩;rw[i.out,q.out,yv _ _ _ _ _ _ _ dC dC,Vp _ _ _ _ _ _ _ rfl];exact(l.tS).AE _ _
   ·refine qK (SY ⟨g,k*7,none⟩ ⟨4,k,j,token,seq,data⟩ A n c _ rfl) λw4 a=>?_;have F:=(d.grow a).pk 3 [2,0,1];have K:=aa F;clear d a F M S P t p u
    go_wp2_with fail
    refine qK (SL g _ k A n c data _ Q (by rw[aW];have:=(hm k).ll;show(m k).log.length<=1000;omega) oM K) λw5 h=>?_;rw[od,aW]at h;obtain⟨M,S,P,t,p,u⟩:=(h.ah 1 rfl).ni;have l:=aa h;clear h K
    go_wp2_with fail
    go_ret2
    refine⟨sN,by rw[D.out];try rfl,?_⟩;rw[i.out,q.out,yv _ _ _ _ _ _ _ dC dC,RO _ _ _ _ _ _ _ rfl];exact(l.tS).AE _ _
   ·refine qK (Uq ⟨g,k*7,none⟩ ⟨5,k,j,token,seq,data⟩ A n c _ rfl) λw4 a=>?_;have F:=(d.grow a).pk 3 [0,1];have K:=aa F;have O0:j<=(m k).log.length:=by have:=A0 rfl;omega
    clear d a F M S P t p u A0 J0
    go_wp2_with fail
    refine qK (UG g _ k j _ Q (by rw[aW];exact O0) K) λw5 h=>?_;rw[od,aW]at h;obtain⟨M,S,P,t,p,u⟩:=(h.ah 1 rfl).ni;have l:=aa h;clear h K
    go_wp2_with fail
    go_ret2
    refine⟨sN,by rw[D.out];try rfl,?_⟩;rw[i.out,q.out,yv _ _ _ _ _ _ _ dC dC,QO _ _ _ _ _ _ _ rfl];exact(l.tS).AE _ _
 ·have q:gJ m r=m:=iN (λh=>Y h.1)
  have i:mR m r=[]:=iN Y;rw[q,i];clear q i;have hb:((aC m r).2 !=0)=true:=by simp[Y]
  generalize(aC m r).2=x at*;generalize(aC m r).1=y at*;have HB:=aa hb;clear Y hb;obtain⟨o,region,index,token,seq,data⟩:=r
  go_enter func92,ntmps92
  go_wp2_with fail
  refine qK (Z _ _ (H.alloc 175 #[iI o,iI region,iI index,iU token,iW seq,.slice A n c]).tX) λw1 h=>?_;have H1:=aa h;have hb:=HB.out;clear H h
  go_wp2_with fail
  go_ret2
  exact⟨_,rfl,(H1.AE 1 dP).pick 4 [0,1]⟩
end
section
def gF(x:Rg):LI:=bL x.aE 8++bL x.seq 4++bE (x.b 0)++bE (x.b 1)++bE (x.b 2)++bE (x.b 3)++bL x.log.length 1++x.log.flatMap bE
def iX(m:Nat->Rg)(k:Nat):LI:=(List.range k).flatMap λi=>gF (m i)
def bj(m:Nat->Rg):LI:=iX m 4
theorem cR(m:Nat->Rg)(k:Nat):iX m (k+1)=iX m k++gF (m k):=by simp[iX,Yi]
theorem xn(l:List (LI)):(l.flatMap bE).length<=l.length*1002:=by
 induction l with
 |nil=>exact acy
 |cons b l K=>have:=iA b;simp only[Bo,eG,oO];omega
theorem FW(x:Rg)(h:x.log.length<=255):(gF x).length<=260000:=by
 have:=xn x.log;have Z:=dM x.aE 8;have V:=dM x.seq 4;have M:=dM x.log.length 1;have:=iA (x.b 0);have:=iA (x.b 1);have:=iA (x.b 2);have:=iA (x.b 3);unfold gF;simp only[eG];omega
theorem AS(m:Nat->Rg)(h:∀k,(m k).log.length<=255)(k:Nat):(iX m k).length<=k*260000:=by
 induction k with
 |zero=>simp[iX]
 |succ k K=>have:=FW (m k) (h k);rw[cR,eG];omega
section
variable {P:Program} {ops:Array Oper} {rest:List Oper} {o:Oper} {a:Act} {Q:Exit->Act->World->Prop} {w O:World} {v:Value}
theorem rB(r:o.guard=none)(t:TypeId)(x y:Operand)(p u:Value)(H:o.op= .index t x y)(J:a.eval x=p)(E:a.eval y=u)
 (C:(Instr.index t p u).run P w= .ok v O) (h:wpList P ops Q rest (a.put o.dst v) O):wpList P ops Q (o::rest) a w:=by
 exact aeB
end
theorem Sb{w:World}{g:Nat}{U:Nat->RV}{m:Nat->Rg}(h:eF w g 90 (nj m U)):(Instr.loadAt 88 (pO g)).run prog w= .ok (.agg (nj m U)) w:=by
 have G:w.rangeAt g 0 (nj m U).toList:=λj u E=>by
  rw[s7,h.cell];simpa using E
 have:=run_loadAt_mid (P:=prog) w g 0 88 (nj m U).toList _ G underlying88 rfl kR;simpa using this
theorem Mr(U:Nat->RV)(m:Nat->Rg){k:Nat}(F:k<4)(w:World):(Instr.index 88 (.agg (nj m U)) (iI (k:Nat))).run prog w= .ok (.agg #[iU (m k).aE,iW (m k).seq,(U k).b 0,(U k).b 1,(U k).b 2,(U k).b 3,(U k).log]) w:=by
 rcases vQ F with rfl|rfl|rfl|rfl<;>kernel_rfl
theorem Jb(i U p q:Value)(w:World):(Instr.index 84 (.agg #[i,U,p,q]) (iI 0)).run prog w= .ok i w:=kR
theorem IS(i U p q:Value)(w:World):(Instr.index 84 (.agg #[i,U,p,q]) (iI 1)).run prog w= .ok U w:=kR
theorem IE(i U p q:Value)(w:World):(Instr.index 84 (.agg #[i,U,p,q]) (iI 2)).run prog w= .ok p w:=kR
theorem Jf(i U p q:Value)(w:World):(Instr.index 84 (.agg #[i,U,p,q]) (iI 3)).run prog w= .ok q w:=kR
theorem eF.seven{w:World}{b:Nat}{t:TypeId}{i U p q x n a:Value}(h:eF w b t #[i,U,p,q,x,n,a]):w.cell? (aD b 0)=some i/\w.cell? (aD b 1)=some U/\w.cell? (aD b 2)=some p/\w.cell? (aD b 3)=some q/\w.cell? (aD b 4)=some x/\w.cell? (aD b 5)=some n/\w.cell? (aD b 6)=some a:=
 ⟨h.cell 0,h.cell 1,h.cell 2,h.cell 3,h.cell 4,h.cell 5,h.cell 6⟩
theorem bF.at1{w:World}{A:OA}{n c:Nat}{N:Nat->LV}{T:List (LI)}{i:Nat}{x:LI}(h:bF w 1 dP (.slice A n c) N T)(z:T[i]? =some x):
 ∃Y K,A=some Y/\N i=[K]/\w.cell? (Y.add i)=some K/\aA w .u8 K x:=by
 obtain⟨G,p,e,_,_,M⟩:=h;injection e with S P t;subst S;obtain⟨Y,Q,_,D,⟨K,X,j⟩⟩:=M i x z;rw[X]at D;exact⟨Y,K,Q,X,by simpa[Addr.add]using D 0 _ rfl,j⟩
theorem UL{I:aH}{L:List aw}(g:Nat)(m:Nat->Rg)(w:World)(r:∀k,(m k).ok)(h:St I w (dL g m::L)):
 Calls prog 13 #[pO g] w λe O=>∃v,e= .returned v/\St I O (bY 5 1 v (bj m).length (bv (bj m))::dL g m::L):=by
 obtain⟨U,h⟩:=h.gz;have Z:=h.my 5 1;have h2:=(Z.alloc 83 #[sN]);have H:=aa (St.uu (xs:=[]) h2 rfl);have G0:=λO (hw:eF O g 90 (nj m U))=>Sb hw;have B0:=aa (G0 _ (H.ah 1 rfl));have C0:=aa (λk=>AS m (λi=>by have:=(r i).ll;omega) k);have K:=aa r;clear h Z h2 G0 r
 go_enter func13,ntmps13
 go_wp2_with ((with_reducible apply CW (t:=88));(focus rfl);(focus rfl);(focus rfl);(focus exact B0.out))
 clear B0
 go_loopg [14] 4 (λV i wr=>∃k:Nat,V=4-k/\k<=4/\i= iI (k:Nat)/\St I wr (AI w.heap.size (iX m k)::im g U m::dx U m::L))
 case atStart=>exact ae4
 case round=>
  clear H;obtain⟨k,u,hk,rfl,h⟩:=hrel;have HG:=aa u;clear u;by_cases B:k<4
  ·have y:=(h.get 2 rfl) k B
   obtain⟨D,c0,M,_,_,_⟩:=y.b 0 oM;obtain⟨R,c1,S,_,_,_⟩:=y.b 1 oM;obtain⟨C,c2,P,_,_,_⟩:=y.b 2 oM;obtain⟨N,c3,a,_,_,_⟩:=y.b 3 oM;obtain⟨A6,c6,b,O0,Q0,_⟩:=y.log;have o:=Mr U m B;simp only[M,S,P,a,b]at o;refine xH o M S P a b λK0 E0 E1 E2 E3 E6=>?_;have F:Hid ((iX m k++gF (m k)).length<=4000000):=aa (by rw[<-cR];have:=C0.out (k+1);omega);unfold gF at F;have q0:=(K k).s0;have q1:=(K k).s1;have q4:=(K k).ll;have H1:=aa (h.alloc 87 #[iU (m k).aE,iW (m k).seq,.slice D ((m k).b 0).length c0,.slice R ((m k).b 1).length c1,.slice C ((m k).b 2).length c2,.slice N ((m k).b 3).length c3,.slice A6 (m k).log.length c6]).swap;clear h y M S P a b o
   go_wp2_with ((with_reducible apply rB (t:=88));(focus rfl);(focus rfl);(focus rfl);(focus rfl);(focus exact K0 _))
   refine qK (dg w.heap.size (m k).aE 8 _ _ (by have:=F.out;simp only[eG]at this⊢;omega) H1) λw2 h=>?_;obtain⟨J,W,d,n,c,z,Q⟩:=(h.ah 1 rfl).seven;have T:=aa h;clear H1 h
   go_wp2_with fail
   refine qK (dg w.heap.size (m k).seq 4 _ _ (by have:=F.out;simp only[eG]at this⊢;omega) T) λw3 h=>?_;obtain⟨J,W,d,n,c,z,Q⟩:=(h.ah 1 rfl).seven;have H3:=aa h;clear T h
   go_wp2_with fail
   refine wp_loop_rounds 5 ?_;rw[rounds_succ]
   go_wp2_with ((with_reducible apply rB (t:=84));(focus rfl);(focus rfl);(focus rfl);(focus rfl);(focus exact Jb _ _ _ _ _))
   have p:=((H3.copy 3 rfl).bu (R':=λO=>aA O .u8 (.slice D ((m k).b 0).length c0) ((m k).b 0)) (λO G=>by have:=(G k B).b 0 oM;rw[E0.out]at this;exact this)).swap;refine(tG (w.heap.size) _ ((m k).b 0) _ _ (by have:=F.out;simp only[eG]at this⊢;omega) p).mono ?_;clear p H3;rintro e w5⟨rfl,h⟩;obtain⟨J,W,d,n,c,z,Q⟩:=(h.ah 2 rfl).seven;have H4:=aa h.tS;clear h
   go_wp2_with fail
   rw[rounds_succ]
   go_wp2_with ((with_reducible apply rB (t:=84));(focus rfl);(focus rfl);(focus rfl);(focus rfl);(focus exact IS _ _ _ _ _))
   have p:=((H4.copy 3 rfl).bu (R':=λO=>aA O .u8 (.slice R ((m k).b 1).length c1) ((m k).b 1)) (λO G=>by have:=(G k B).b 1 oM;rw[E1.out]at this;exact this)).swap;refine(tG (w.heap.size) _ ((m k).b 1) _ _ (by have:=F.out;simp only[eG]at this⊢;omega) p).mono ?_;clear p H4;rintro e w6⟨rfl,h⟩;obtain⟨J,W,d,n,c,z,Q⟩:=(h.ah 2 rfl).seven;have H5:=aa h.tS;clear h
   go_wp2_with fail
   rw[rounds_succ]
   go_wp2_with ((with_reducible apply rB (t:=84));(focus rfl);(focus rfl);(focus rfl);(focus rfl);(focus exact IE _ _ _ _ _))
   have p:=((H5.copy 3 rfl).bu (R':=λO=>aA O .u8 (.slice C ((m k).b 2).length c2) ((m k).b 2)) (λO G=>by have:=(G k B).b 2 oM;rw[E2.out]at this;exact this)).swap;refine(tG (w.heap.size) _ ((m k).b 2) _ _ (by have:=F.out;simp only[eG]at this⊢;omega) p).mono ?_;clear p H5;rintro e w7⟨rfl,h⟩;obtain⟨J,W,d,n,c,z,Q⟩:=(h.ah 2 rfl).seven;have H6:=aa h.tS;clear h
   go_wp2_with fail
   rw[rounds_succ]
   go_wp2_with ((with_reducible apply rB (t:=84));(focus rfl);(focus rfl);(focus rfl);(focus rfl);(focus exact Jf _ _ _ _ _))
   have p:=((H6.copy 3 rfl).bu (R':=λO=>aA O .u8 (.slice N ((m k).b 3).length c3) ((m k).b 3)) (λO G=>by have:=(G k B).b 3 oM;rw[E3.out]at this;exact this)).swap;refine(tG (w.heap.size) _ ((m k).b 3) _ _ (by have:=F.out;simp only[eG]at this⊢;omega) p).mono ?_;clear p H6;rintro e w8⟨rfl,h⟩;obtain⟨J,W,d,n,c,z,Q⟩:=(h.ah 2 rfl).seven;have H7:=aa h.tS;clear h
   go_wp2_with fail
   rw[rounds_succ]
   go_wp2_with fail
   refine qK (dg w.heap.size ((m k).log.length:Nat) 1 _ _ (by have:=F.out;simp only[eG]at this⊢;omega) H7) λw9 h=>?_;obtain⟨J,W,d,n,c,z,Q⟩:=(h.ah 1 rfl).seven;have H8:=aa (h.pk 4 [0,2,3]);clear h H7;generalize I0:(m k).log.length=E at*;have q:=aa I0;clear I0
   go_wp2_with fail
   clear J W d n c z Q
   go_loopg [40] E (λV i wq=>∃j:Nat,V=E-j/\j<=E/\i= iI (j:Nat)/\St I wq (AI w.heap.size (iX m k++bL (m k).aE 8++bL (m k).seq 4++bE ((m k).b 0)++bE ((m k).b 1)++bE ((m k).b 2)++bE ((m k).b 3)++bL (E:Nat) 1++((m k).log.take j).flatMap bE)::im g U m::dx U m::L))
   case atStart=>exact⟨0,rfl,oM,rfl,by simpa using H8.out⟩
   case round=>
    clear H8;obtain⟨j,u,hj,rfl,h⟩:=hrel;have HJ:=aa u;clear u;by_cases F0:j<E
    ·have Y:=gP (l:=(m k).log) (i:=j) (by rw[q.out];exact F0)
     generalize(m k).log[j]'(by rw[q.out];exact F0)=x at Y;have G:=((h.get 2 rfl) k B).log;rw[E6.out]at G;obtain⟨ad,vb,rfl,D0,P0,hI⟩:=G.at1 Y;obtain⟨gw,M0,rfl,_,_,_⟩:=hI;have p:=((h.copy 2 rfl).bu (R':=λO=>aA O .u8 (.slice gw x.length M0) x) (λO G=>by
      have Z:=(G k B).log;rw[E6.out]at Z;obtain⟨_,R0,_,A,_,N0⟩:=Z.at1 Y;rw[D0]at A;injection A with A;rw[A];exact N0)).swap
     refine bm Y p λHX H9=>?_;have X:((m k).log.take (j+1)).flatMap bE=((m k).log.take j).flatMap bE++bE x:=by rw[r7 Y,zcw];simp
     have H0:(((m k).log.take (j+1)).flatMap bE).length<=300000:=by
      have:=xn ((m k).log.take (j+1));have:=List.length_take_le (j+1) (m k).log;have:=q4;have:=q.out;omega
     rw[X,eG]at H0;have L0:=aa X;have i0:(0:Int)<=(j:Int):=oM
     have i1:(j:Int)<(E:Int):=oM
     clear h G D0 p Y X
     go_wp2_with fail
     refine(tG w.heap.size _ x _ _ (by have:=F.out;simp only[eG]at this⊢;omega) H9).mono ?_;clear H9 H0;rintro e S0⟨rfl,h⟩;have J0:=aa h.tS;clear h
     go_wp2_with fail
     go_roundg (E-(j+1))
     case measure=>have:=HJ.out;omega
     case rel=>exact⟨j+1,rfl,oM,by go_num,by rw[L0.out,<-nX];exact J0.out⟩
    ·obtain rfl:j=E:=oM
     rw[nS (by rw[q.out];exact g9 _)]at h;have H:=aa h;clear h
     go_wp2_with fail
     go_roundg (4-(k+1))
     case measure=>exact ad5
     case rel=>exact⟨k+1,rfl,oM,by go_num,by rw[cR];unfold gF;rw[q.out];simpa only[nX]using H.out⟩
  ·obtain rfl:k=4:=oM
   have H:=aa h;clear h
   go_wp2_with fail
   refine(qu w.heap.size (iX m 4) _ (by have:=C0.out 4;omega) H).mono ?_;rintro e w2⟨v,rfl,h⟩;have T:=aa (h.pk 4 [2,3,0]);clear H h
   go_wp2_with fail
   go_ret
   exact⟨v,rfl,(St.kU T).swap⟩
end
def tA:Nat->Rg:=λ_=>Rg.zero
theorem WA:∀k,(tA k).ok:=λ_=>Rg.CJ
def xC:RV:=⟨λ_=> sN,sN,λ_=>[]⟩
theorem St.XR{I:aH}{w:World}{L:List aw}(h:St I w L):St I (w.alloc (.cells (nj tA (λ_=>xC)) 90)) (dL w.heap.size tA::L):=
 St.kU (U:=λ_=>xC) (((h.bG (R:=λw=>∀k,k<4->AR w xC (tA k)) (λO _ _k _=>⟨λ_ _=>aA.none_ O _,bF.none_ _ _ _ _⟩)).alloc 90 _))
end Go.Proofs.YtblpaldggenbaaaGreatDoor
