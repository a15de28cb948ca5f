/- A part. -/
import Derived.Handy
import Derived.Test.YtblpaldggenbaaaGreatDoorMc
namespace Go.Proofs.YtblpaldggenbaaaGreatDoor
open Go.RowKit Go.Proofs.Tryz
set_option maxRecDepth 100000
set_option maxHeartbeats 64000000
variable{α:Type}
theorem Wz(p:Addr)(r:RQ)(A:OA)(n c:Nat)(w:World)(q:r.op=2):Calls prog 146 #[.pointer (some p),nv r (.slice A n c)] w λe O=>e= .returned (.iface 309 (.agg #[.pointer (some p),iI r.index,.slice A n c]))/\Fr jo w O:=by
 obtain⟨t,region,index,token,W,data⟩:=r;obtain rfl:t=2:=q
 exact afl
theorem Su(p:Addr)(r:RQ)(A:OA)(n c:Nat)(w:World)(q:r.op=4):Calls prog 146 #[.pointer (some p),nv r (.slice A n c)] w λe O=>e= .returned (.iface 311 (.agg #[.pointer (some p),.slice A n c]))/\Fr jo w O:=by
 obtain⟨t,region,index,token,W,data⟩:=r;obtain rfl:t=4:=q
 exact afl
theorem TT(p:Addr)(r:RQ)(A:OA)(n c:Nat)(w:World)(q:r.op=5):Calls prog 146 #[.pointer (some p),nv r (.slice A n c)] w λe O=>e= .returned (.iface 314 (.agg #[.pointer (some p),iI r.index]))/\Fr jo w O:=by
 obtain⟨t,region,index,token,W,data⟩:=r;obtain rfl:t=5:=q
 exact afl
theorem Vp(p:Value)(j:Int)(v:Value)(w:World):Calls prog 260 #[.agg #[p,iI j,v]] w λe O=>e= .returned p/\Fr jo w O:=by
 go_enter func260,ntmps260
 exact adl
theorem TQ(p v:Value)(w:World):Calls prog 261 #[.agg #[p,v]] w λe O=>e= .returned p/\Fr jo w O:=by
 go_enter func261,ntmps261
 exact adl
theorem TN(p v:Value)(w:World):Calls prog 262 #[.agg #[p,v]] w λe O=>e= .returned p/\Fr jo w O:=by
 go_enter func262,ntmps262
 exact adl
theorem VD(x:Value)(w:World):(Instr.typeAssert (.iface 309 x) 269 309 true).run prog w= .ok (.tuple #[x,.bool true]) w:=kR
theorem Uc(x:Value)(w:World):(Instr.typeAssert (.iface 311 x) 269 311 true).run prog w= .ok (.tuple #[x,.bool true]) w:=kR
theorem UB(x:Value)(w:World):(Instr.typeAssert (.iface 314 x) 269 314 true).run prog w= .ok (.tuple #[x,.bool true]) w:=kR
theorem Sn(x:Value)(w:World):(Instr.typeAssert (.iface 311 x) 269 309 true).run prog w= .ok (.tuple #[.agg #[.pointer none,iI 0,sN],.bool false]) w:=kR
theorem TF(x:Value)(w:World):(Instr.typeAssert (.iface 314 x) 269 309 true).run prog w= .ok (.tuple #[.agg #[.pointer none,iI 0,sN],.bool false]) w:=kR
theorem Ph(x:Value)(w:World):(Instr.typeAssert (.iface 314 x) 269 311 true).run prog w= .ok (.tuple #[.agg #[.pointer none,sN],.bool false]) w:=kR
theorem WU{I:aK}{L:List az}(g:Nat)(m:Nat->Rg)(k j:Nat)(A:OA)(n c:Nat)(b:LI)(w:World)(Q:k<4)(R:j<4)(hb:b.length<=1000)(h:St I w (ai .u8 (.slice A n c) b::dq g m::L)):
 Rt I w 145 #[.iface 309 (.agg #[.pointer (some ⟨g,k*7,none⟩),iI j,.slice A n c])] (.tuple #[]) (dq g (aI m k {m k with b:=aI (m k).b j b})::L):=by
 have H:=aa h;have hp:=VD;clear h
 go_enter func145,ntmps145
 go_wp2_with fail
 refine qK (Vp _ _ _ _) λz a=>?_;have F:=aa (H.grow a);clear H a
 go_wp2_with fail
 have o:=F.alloc 309 #[.pointer (some ⟨g,k*7,none⟩),iI j,.slice A n c];refine bT (λW=>∃l,St I W (ab z.heap.size 309 #[.pointer (some ⟨g,k*7,none⟩),iI j,.slice A n c]::ai .u8 (.slice A n c) b::dq g l::L)) 10 [0,1,2,3,4,6,7] [5,8,9] kR kR
  (λd=>by cases d<;>exact λ_ _ _ _ h=>h) (λW J=> ?_)
 have N:=aa (show St I W (ab z.heap.size 309 #[.pointer (some ⟨g,k*7,none⟩),iI j,.slice A n c]::ai .u8 (.slice A n c) b::dq g m::L)by
  rw[J];exact o.drew)
 clear o J F;refine⟨⟨_,N.out⟩,?_⟩
 iterate 7 (refine bJ rfl rfl (λW J=>by(obtain⟨l,J⟩:=J;have K:=(J.ah 0 rfl).cell 1;have B:=(J.ah 0 rfl).cell 2;clear J;go_simp;try rfl)) ?_;simp only[aW])
 refine take_nil ?_;obtain⟨U,_,_,t⟩:=(N.out.get 1 rfl).sl;refine fm (f:=23) (args:= #[.slice A n c]) rfl rfl (by go_simp) ((ef A n c b _ t oM N.out).mono ?_);rintro e T⟨v2,rfl,h⟩;obtain⟨r,P,rfl⟩:=h.slice;refine⟨_,rfl,λ_=>⟨m,h.tail⟩,?_⟩;simp only[aW];have Z:St I T (dq g m::bj (λO=>ay O .u8 (.slice r n P) b)::ab z.heap.size 309 #[.pointer (some ⟨g,k*7,none⟩),iI j,.slice A n c]::ai .u8 (.slice A n c) b::L):=h.ints.pick 4 [3,0,1,2];obtain⟨V,G⟩:=Z.gB;obtain⟨⟨u,D⟩,a⟩:=j8 (G.ah 0 rfl) Q (j:=2+j) oM;have j0:(0:Int)<=(j:Int):=oM
 have j4:(j:Int)<4:=oM
 have M:=G.pk 3 [0,1,2];have S:=M.zg Q (j:=2+j) oM (x:={m k with b:=aI (m k).b j b}) (p:={V k with b:=aI (V k).b j (.slice r n P)}) (u:= .slice r n P) (by rcases vU R with rfl|rfl|rfl|rfl<;>rfl)
  (λO E y=>⟨λi X=>by
   by_cases Y:i=j
   ·subst Y
    show ay O .u8 (aI (V k).b i _ i) (aI (m k).b i b i);rw[aT,aT];exact y
   ·show ay O .u8 (aI (V k).b j _ i) (aI (m k).b j b i)
    rw[bS _ _ _ _ Y,bS _ _ _ _ Y];exact E.b i X,E.log⟩)
 rw[<-Zt]at D a S;refine bq h.tail S λC q=>?_;clear h Z G M S N t U;refine bF rfl rfl gS (λ_=>⟨m,C⟩) ?_;simp only[aW];refine cE rfl rfl 27 _ _ (.pointer (some ⟨g,k*7+2+j,none⟩)) (.slice r n P) rfl rfl rfl (by go_simp) (λ_=>⟨_,q.sX⟩) ?_;simp only[Act.put];refine cD ?_
 go_wp2
 go_end0
 exact⟨rfl,q.pick 3 [0]⟩
theorem Pk(A:OA)(n c:Nat)(w:World)(W:n<=c)(_hc:c<=9223372036854775807):Calls prog 181 #[.slice A n c] w λe O=>e= .returned (.slice A n n)/\w=O:=by
 go_enter func181,ntmps181
 go_wp2
 exact ae9
theorem pz:fY prog 85 27 sN 1 24:=⟨underlying85,kR,kR,oM⟩
theorem vR(w:World)(A:OA)(n c:Nat):(Instr.buildSlice 85 1 #[(0,.slice A n c)]).run prog w= .ok (.slice (aO w.heap.size) 1 1) (w.alloc (.cells #[.slice A n c] 27)):=kR
theorem Sj{I:aK}{L:List az}(g:Nat)(m:Nat->Rg)(k:Nat)(A:OA)(n c:Nat)(b:LI)(w:World)(Q:k<4)(hm:(m k).log.length<=1000)(hb:b.length<=1000)(h:St I w (ai .u8 (.slice A n c) b::dq g m::L)):
 Rt I w 145 #[.iface 311 (.agg #[.pointer (some ⟨g,k*7,none⟩),.slice A n c])] (.tuple #[]) (dq g (aI m k {m k with log:=(m k).log++[b]})::L):=by
 obtain⟨V,h⟩:=h.swap.gB;obtain⟨F0,G0,D0,E0,H0⟩:(∃e M D,(V k).log= .slice e M D/\M=(m k).log.length/\M<=D/\D<=9223372036854775807)/\True/\True/\True/\True:=by
  obtain⟨e,D,R,Z,h2,_⟩:=((h.get 1 rfl) k Q).log;exact⟨⟨e,_,D,R,rfl,Z,h2⟩,trivial,trivial,trivial,trivial⟩
 obtain⟨e,M,D,R,K,C0,I0⟩:=F0;refine bq h K λH K0=>?_;have hp:=Uc;have L0:=Sn;have C:=aa R;clear h G0 D0 E0 H0 K R
 go_enter func145,ntmps145
 go_wp2_with fail
 refine qK (TQ _ _ _) λy a=>?_;have F:=aa (H.grow a);clear H a
 go_wp2_with fail
 have B:=F.alloc 311 #[.pointer (some ⟨g,k*7,none⟩),.slice A n c];refine bT (λW=>St I W (ab y.heap.size 311 #[.pointer (some ⟨g,k*7,none⟩),.slice A n c]::iy g V m::dD V m::ai .u8 (.slice A n c) b::L)) 11 [0,1,2,3,4,6,7] [5,8,9,10,11,12,13] kR kR
  (λA0=>by cases A0<;>exact λ_ _ _ _ h=>h) (λW J=> ?_)
 have N:=aa (show St I W (ab y.heap.size 311 #[.pointer (some ⟨g,k*7,none⟩),.slice A n c]::iy g V m::dD V m::ai .u8 (.slice A n c) b::L)by
  rw[J];exact B.drew)
 clear B J F;refine⟨N.out,?_⟩
 iterate 7 (refine bJ rfl rfl (λW J=>by(have e1:=(J.ah 0 rfl).cell 1;have x6:=dK (J.ah 1 rfl) (k:=k) (j:=6) Q oM rfl;rw[C.out]at x6;clear J;go_simp;try rfl)) ?_;simp only[aW])
 refine take_nil ?_;refine fm (f:=181) (args:= #[.slice e M D]) rfl rfl (by go_simp) ((Pk e M D _ C0 I0).mono ?_);rintro B0 X⟨rfl,rfl⟩;refine⟨_,rfl,λ_=>N.out,?_⟩;simp only[aW];obtain⟨hn,_,_,G⟩:=(N.out.get 3 rfl).sl;refine fm (f:=23) (args:= #[.slice A n c]) rfl rfl (by go_simp) ((ef A n c b _ G oM N.out).mono ?_);rintro B0 X⟨v2,rfl,h⟩;obtain⟨r,P,rfl⟩:=h.slice;refine⟨_,rfl,λ_=>h.tail,?_⟩;simp only[aW];have Z:=h.ints;clear h G N;refine bY rfl rfl 85 1 0 _ (.slice r n P) rfl rfl (vR _ _ _ _) (λ_=>(Z.tail.oH _)) ?_;simp only[aW];have Y:=Z.oH (.cells #[.slice r n P] 27);have d:=((Y.get 3 rfl) k Q).log;rw[C.out]at d;obtain⟨t,K,_,_,q⟩:=d.sl oM;refine QY pz Y rfl rfl _ _ rfl rfl t (aO X.heap.size) 1 1 rfl [.slice r n P] (ux _ _ _) acg oM oM oM (λT o w4 S=>⟨λ_=>S.tail.tail,?_⟩);simp only[aW];have U:=(S.pk 6 [1,0,3,4]).bC (R':=λO=>dG O [.slice r n P] b) (λO z=>⟨_,rfl,z⟩);have E:=(U.copy 3 rfl).bC (R':=λO=>cn O 1 dG (V k).log (V k).cs (m k).log) (λO z=>(z k Q).log);have l:=(E.tW.XY K rfl q).sX;obtain⟨⟨u,hc⟩,a⟩:=j8 (l.ah 0 rfl) Q (j:=6) oM;have i:=l.zg Q (j:=6) oM (x:={m k with log:=(m k).log++[b]}) (p:={V k with log:= .slice T (M+1) o,cs:=λJ0=>((flat (V k).cs M++[Value.slice r n P]).drop (J0*1)).take 1}) (u:= .slice T (M+1) o) rfl (λO ho z=>⟨ho.b,z⟩);have H8:=aa i;clear Z Y d t K q S U E l i
 (refine bF rfl rfl gS nD ?_;simp only[aW])
 (refine bF rfl rfl gS nD ?_;simp only[aW])
 refine cE rfl rfl 85 _ _ (.pointer (some ⟨g,k*7+6,none⟩)) (.slice T (M+1) o) rfl rfl rfl (by go_simp;rfl) nD ?_;simp only[Act.put];refine cD ?_
 go_wp2
 go_end0
 exact⟨rfl,H8⟩
theorem cn.YU{w:World}{size:Nat}{R:World->LV->α->Prop}{A X:OA}{n c m:Nat}{b:Nat->LV}{N:List α}(h:cn w size R (.slice A n c) b N)(p:m<=n)(o:m<n->X=A.map (·.add (m*size))):
 cn w size R (.slice X (n-m) (c-m)) (λi=>b (i+m)) (N.drop m):=by
 obtain⟨E,t,e,Z,G,M⟩:=h;injection e with C Y P;subst C;subst Y;subst P;refine⟨X,c-m,by rw[km],by rw[km];omega,oM,λi x z=> ?_⟩;rw[zU]at z;have r:=(nQ.1 z).1;obtain⟨T,a,F,D,U⟩:=M (m+i) x z;rw[YW m i]at F D U;refine⟨T.add (m*size),by rw[o oM,a];rfl,F,λj u y=> ?_,U⟩;have e:m*size+(i*size+j)=(i+m)*size+j:=by rw[xh];omega
 rw[eF,eF,e,<-eF];exact D j u y
theorem Ug{I:aK}{L:List az}(g:Nat)(m:Nat->Rg)(k j:Nat)(w:World)(Q:k<4)(S:j<=(m k).log.length)(h:St I w (dq g m::L)):
 Rt I w 145 #[.iface 314 (.agg #[.pointer (some ⟨g,k*7,none⟩),iI j])] (.tuple #[]) (dq g (aI m k {m k with log:=(m k).log.drop j})::L):=by
 obtain⟨V,h⟩:=h.gB;obtain⟨e,b,D,R,K,A,T⟩:∃e b D,(V k).log= .slice e b D/\b=(m k).log.length/\b<=D/\D<=9223372036854775807:=by
  obtain⟨e,D,R,Z,G,_⟩:=((h.get 1 rfl) k Q).log;exact⟨e,_,D,R,rfl,Z,G⟩
 have j0:(0:Int)<=(j:Int):=oM
 have j1:(j:Int)<=(b:Int):=oM
 have j2:(b:Int)<=(D:Int):=oM
 refine bq h K λH E=>?_;have P:=UB;have n:=TF;have A0:=Ph;have M:=aa R;clear h K R
 go_enter func145,ntmps145
 go_wp2_with fail
 refine qK (TN _ _ _) λr a=>?_;have F:=aa (H.grow a);clear H a
 go_wp2_with fail
 have B:=F.alloc 314 #[.pointer (some ⟨g,k*7,none⟩),iI j];refine bT (λW=>St I W (ab r.heap.size 314 #[.pointer (some ⟨g,k*7,none⟩),iI j]::iy g V m::dD V m::L)) 8 (rG 8) [8,9,10] kR kR
  (λd=>by cases d<;>exact λ_ _ _ _ h=>h) (λW J=> ?_)
 have N:=aa (show St I W (ab r.heap.size 314 #[.pointer (some ⟨g,k*7,none⟩),iI j]::iy g V m::dD V m::L)by
  rw[J];exact B.drew)
 clear B J F;refine⟨N.out,?_⟩
 iterate 8 (refine bJ rfl rfl (λW J=>by(have C:=(J.ah 0 rfl).cell 1;have c:=dK (J.ah 1 rfl) (k:=k) (j:=6) Q oM rfl;rw[M.out]at c;clear J;go_simp;try rfl)) ?_;simp only[aW])
 refine take_nil ?_;have o:j<b->(if D=j then e else e.map (λx=>x.add j))=e.map (·.add (j*1)):=λt=>by rw[iN oM,Uz]
 generalize(if D=j then e else e.map (λx=>x.add j))=A7 at o⊢;have l:=(N.out.tail.copy 1 rfl).bC (R':=λO=>cn O 1 dG (.slice A7 (b-j) (D-j)) (λi=>(V k).cs (i+j)) ((m k).log.drop j)) (λO z=>by
  have U:=(z k Q).log;rw[M.out]at U;exact U.YU (by have:=E.out;omega) o)
 obtain⟨⟨u,y⟩,a⟩:=j8 (l.ah 1 rfl) Q (j:=6) oM;have Y:=l.sX.zg Q (j:=6) oM (x:={m k with log:=(m k).log.drop j}) (p:={V k with log:= .slice A7 (b-j) (D-j),cs:=λi=>(V k).cs (i+j)}) (u:= .slice A7 (b-j) (D-j)) rfl (λO q z=>⟨q.b,z⟩);have X:=aa Y;clear N l Y o
 (refine bF rfl rfl gS nD ?_;simp only[aW])
 (refine bF rfl rfl gS nD ?_;simp only[aW])
 refine cE rfl rfl 85 _ _ (.pointer (some ⟨g,k*7+6,none⟩)) (.slice A7 (b-j) (D-j)) rfl rfl rfl (by go_simp;rfl) nD ?_;simp only[Act.put];refine cD ?_
 go_wp2
 go_end0
 exact⟨rfl,X⟩
theorem sk{N:List α}{k:Nat}{x:α}(h:N[k]? =some x):N.take (k+1)=N.take k++[x]:=by
 obtain⟨t,rfl⟩:=nQ.1 h;exact VQ t
theorem Cs{I:aK}{L:List az}(v:Value)(N:List (LI))(w:World)(hl:N.length<=1000)(B:∀x∈N,x.length<=1000)(h:St I w (aG 1 dG v N::L)):
 Calls prog 147 #[v] w λe O=>∃Z,e= .returned Z/\St I O (aG 1 dG Z N::L):=by
 obtain⟨A,c,rfl,hc,hm⟩:=(h.eM 0 rfl).slice;generalize W:N.length=n at*;refine iG W B h λb Y H=>?_;clear W h B
 go_enter func147,ntmps147
 go_wp2_with fail
 go_loopg [3,8] n (λz out i wr=>∃k q X r,z=n-k/\k<=n/\i= iI (k:Nat)/\out= .slice X q r/\q=k/\St I wr (aB 27 1 dG (.slice X q r) (N.take k)::aG 1 dG (.slice A n c) N::L))
 case atStart=>exact⟨0,0,none,0,rfl,oM,rfl,rfl,rfl,H.eU 27 1 dG⟩
 case round=>
  obtain⟨k,q,X,r,C,hk,rfl,rfl,d,h⟩:=hrel;have o:=aa C;clear C H;by_cases t:k<n
  ·have J:=g7 (l:=N) (i:=k) (by rw[b.out];exact t)
   generalize N[k]'(by rw[b.out];exact t)=x at J;obtain⟨S,cs,rfl,_,g,⟨vb,rfl,A0⟩,_⟩:=h.elem 1 rfl J;obtain⟨P,R,rfl,C0,D0,u⟩:=A0;have k0:wr.cell? (S.add k)=some (.slice P x.length R):=by simpa[Addr.add]using g 0 _ rfl
   have F0:x.length<=1000:=Y.out x (qP J);refine nK J u d h λQ p E H=>?_;generalize G:x.length=nx at*;have B0:=aa G;clear J g h u d G
   go_wp2_with fail
   refine(ef P nx R x _ p oM H).mono ?_;rintro e w2⟨v2,rfl,h⟩;obtain⟨a,y,rfl⟩:=h.slice;obtain⟨V,d,j,M⟩:=(h.ints.swap).cu;refine bq (M.oH (.cells #[.slice a nx y] 27)) j λK D=>?_;have E0:q<=1000:=by have:=E.out;omega
   clear h M d j k0 H
   go_wp2_with (at_builtin;refine St.fj pz K rfl _ _ rfl rfl (aO w2.heap.size) 1 1 rfl [.slice a nx y] (ux _ _ _) acg oM oM ?_;intro T F w4 h4)
   go_roundg (n-(k+1))
   case measure=>have:=o.out;omega
   case rel=>
    refine⟨k+1,q+1,T,F,rfl,oM,by go_num,rfl,by rw[E.out],?_⟩;rw[sk Q.out];have U:=(h4.tW.bC (R':=λO=>dG O [.slice a nx y] x) (λO hi=>⟨_,rfl,hi⟩));exact U.sX.fS (by rw[fV,E.out,b.out];omega) rfl D
  ·obtain rfl:k=n:=oM
   rw[oJ (by rw[b.out];exact io _)]at h;refine bq h d λH E=>?_;clear h d
   go_wp2_with fail
   go_ret
   refine⟨_,rfl,?_⟩;obtain⟨_,_,_,U⟩:=H.out.cu;exact(U.rows (by rw[b.out];exact E.out)).pick 2 [0]
section
section
variable {I:aK} {w:World} {L:List az} {g k:Nat} {m:Nat->Rg} {V:Nat->RV}
theorem St.TL(h:St I w (iy g V m::dD V m::L))(Q:k<4)(x:Int):St I (w.setCell ⟨g,k*7,none⟩ (iU x)) (dq g (aI m k {m k with ax:=x})::L):=
 (h.bH (R:=λ_=>True) (λ_ _=>trivial)).sX.zg Q (j:=0) oM (x:={m k with ax:=x}) (p:=V k) (u:= iU x) rfl (λ_ q _=>⟨q.b,q.log⟩)
theorem St.WB(h:St I w (iy g V m::dD V m::L))(Q:k<4)(x:Int):St I (w.setCell ⟨g,k*7+1,none⟩ (iW x)) (dq g (aI m k {m k with seq:=x})::L):=
 (h.bH (R:=λ_=>True) (λ_ _=>trivial)).sX.zg Q (j:=1) oM (x:={m k with seq:=x}) (p:=V k) (u:= iW x) rfl (λ_ q _=>⟨q.b,q.log⟩)
theorem Tq(m:Nat->Rg)(k:Nat)(h q:Int):aI (aI m k {m k with ax:=h}) k {aI m k {m k with ax:=h} k with seq:=q}=aI m k ⟨h,q,(m k).b,(m k).log⟩:=by
 rw[nY,aT]
theorem UI(x:Rg)(a k:Int)(j:Nat)(t q:Int)(d:LI)(T:a=2):x.act ⟨a,k,j,t,q,d⟩=⟨t,q,aI x.b j d,x.log⟩:=by
 subst T;simp[Rg.act]
theorem Rs(x:Rg)(a k:Int)(j:Nat)(t q:Int)(d:LI)(T:a=4):x.act ⟨a,k,j,t,q,d⟩=⟨t,q,x.b,x.log++[d]⟩:=by
 subst T;simp[Rg.act]
theorem Qr(x:Rg)(a k:Int)(j:Nat)(t q:Int)(d:LI)(T:a=5):x.act ⟨a,k,j,t,q,d⟩=⟨t,q,x.b,x.log.drop j⟩:=by
 subst T;simp[Rg.act]
theorem yF(x:Rg)(a k:Int)(j:Nat)(t q:Int)(d:LI)(Z:a≠1)(M:a≠3):x.out ⟨a,k,j,t,q,d⟩=[]:=(iN Z).trans (iN M)
theorem St.AO(h:St I w L)(size:Nat)(R:World->LV->α->Prop):St I w (aG size R sN []::L):=
 St.eu (f:=λb=>bj (λw=>cn w size R sN b [])) (λ_=>[]) (h.bH (λ_ _=>cn.none_ _ _ _ _))
theorem YI(x:Rg)(p:RV){j:Nat}(H:j<4):(Ee x p)[2+j]? =some (p.b j):=by
 rcases vU H with rfl|rfl|rfl|rfl<;>rfl
theorem Tp{w:World}{v:Value}{b:LI}(h:ay w .u8 v b):∀(i:Nat) x,[b][i]? =some x->dG w (([v].drop (i*1)).take 1) x:=by
 intro i x J
 match i,J with
 |0,J=>
  obtain rfl:b=x:=by simpa using J
  exact⟨v,rfl,h⟩
 |i+1,J=>simp at J
end
theorem PI{I:aK}{L:List az}(g:Nat)(m:Nat->Rg)(r:RQ)(A:OA)(n c:Nat)(w:World)(B0:r.ok)(hm:∀k,(m k).ok)(h:St I w (ai .u8 (.slice A n c) r.data::dq g m::L)):
 Calls prog 92 #[pO g,nv r (.slice A n c)] w λD0 O=>∃Z,D0= .returned (.tuple #[Z,iI (aE m r).2])/\St I O (aG 1 dG Z (mu m r)::dq g (gL m r)::L):=by
 have hn:n=r.data.length:=(h.get 0 rfl).sl.1;refine nK (λO L'=>Ff (I:=I) (L:=L') g m r A n c O B0 hm hn) B0 hn h λp HR HN H=>?_;clear h B0 hn;by_cases Y:(aE m r).2=0
 ·have hg:=oS Y
  obtain⟨z0,z1,R,z3,E,z5,z6⟩:=RQ.gT hg.w;have F0:=λa=>rW (m:=m) (r:=r) a
  cases a:(aE m r).1 with
  |false=>
   have X:Hid (gL m r=m):=iN (λh=>by rw[a]at h;cases h.2);have i:=aa (show mu m r=(m r.region.toNat).out r by unfold mu;rw[iP Y,X.out]);rw[a,Y]at p;have M:=aa Y;clear a F0 Y;obtain⟨t,region,index,token,seq,data⟩:=r;obtain⟨H0,B,e,G0⟩:=hg;simp only at z0 z1 R z3 E z5 z6 B e;obtain⟨k,rfl⟩:=BE R;obtain⟨j,rfl⟩:=BE E;have Q:k<4:=oM
   have kn:(0:Int)<=(k:Int):=oM
   have k4:(k:Int)<4:=oM
   have hj:t<=2->j<4:=λh=>by have:=e h;omega
   simp only[rE]at X i;clear H0 e G0 R z3 E z5 B
   go_enter func92,ntmps92
   go_wp2_with fail
   refine qK (p _ _ (H.alloc 175 #[iI t,iI k,iI j,iU token,iW seq,.slice A n c]).tW) λw1 h=>?_;obtain⟨V,z⟩:=h.gB;obtain⟨S,u,C,P,F,b⟩:=(z.ah 2 rfl).ng;have D:=aa z;clear H h z;by_cases o1:t=1
   ·subst o1
    have I0:=hj oM;obtain⟨Aj,cj,ej,_⟩:=((D.get 1 rfl) k Q).b j I0;have EJ:=aa ej;have j0:(0:Int)<=(j:Int):=oM
    have j4:(j:Int)<4:=oM
    clear ej
    go_wp2_with go_quiet (fail)
    refine bT (λW=>St I W (iy g V m::dD V m::ab w.heap.size 175 #[iI 1,iI k,iI j,iU token,iW seq,.slice A n c]::ai .u8 (.slice A n c) data::L)) 9 (rG 7) [7,8,9,10] kR kR
     (λC0=>by cases C0<;>exact λ_ _ _ _ h=>h) (λW J=> ?_)
    have N:=aa (show St I W (iy g V m::dD V m::ab w.heap.size 175 #[iI 1,iI k,iI j,iU token,iW seq,.slice A n c]::ai .u8 (.slice A n c) data::L)by
     rw[J];exact(D.drewN _).drew)
    clear J S u C P F b;refine⟨N.out,?_⟩
    iterate 7 (refine bJ rfl rfl (λW J=>by(obtain⟨S,u,C,P,F,b⟩:=(J.ah 2 rfl).ng;have xj:=dK (J.ah 0 rfl) (k:=k) (j:=2+j) Q oM (YI _ _ I0);rw[EJ.out,<-Zt]at xj;clear J;go_simp;try rfl)) ?_;simp only[aW])
    refine take_nil ?_;refine bY rfl rfl 85 1 0 _ (.slice Aj ((m k).b j).length cj) rfl rfl (vR _ _ _ _) (λ_=>N.out.oH _) ?_;simp only[aW];have G:=(N.out.copy 1 rfl).bC (R':=λO=>∀(L0:Nat) x,[(m k).b j][L0]? =some x->dG O (([Value.slice Aj ((m k).b j).length cj].drop (L0*1)).take 1) x) (λO z=>Tp (by have:=(z k Q).b j I0;rw[EJ.out]at this;exact this));have K:=(G.qT 27 1 1 [.slice Aj ((m k).b j).length cj] rfl oM W.heap.size rfl).rows rfl;have T:=aa K;clear G K N;refine fm (f:=147) (args:= #[.slice (aO W.heap.size) 1 1]) rfl rfl (by go_simp) ((Cs _ [(m k).b j] _ abN (λx hx=>by obtain rfl:=nN.1 hx;have:=(hm k).bb j;omega) T).mono ?_);rintro D0 w2⟨Z,rfl,h⟩;have q:=aa h;clear T h;refine⟨_,rfl,λ_=>q.tail,?_⟩;simp only[aW]
    (refine bF rfl rfl gS nD ?_;simp only[aW])
    (refine bF rfl rfl gS nD ?_;simp only[aW])
    refine cD ?_
    go_wp2_with fail
    go_ret2
    refine⟨Z,by rw[M.out];try rfl,?_⟩;rw[i.out,X.out];have U:=q.pk 5 [0,1,2];exact(St.kS U.sX).swap
   by_cases o3:t=3
   ·subst o3
    obtain⟨A6,c6,e6,Q0,R0,_⟩:=((D.get 1 rfl) k Q).log;have E6:=aa e6;have x6:=dK (D.ah 0 rfl) (k:=k) (j:=6) Q oM rfl;rw[e6]at x6;clear e6;have G:=(D.copy 1 rfl).bC (R':=λO=>cn O 1 dG (.slice A6 (m k).log.length c6) (V k).cs (m k).log) (λO z=>by have:=(z k Q).log;rw[E6.out]at this;exact this);have H2:=aa (St.eu (f:=λM0=>bj (λO=>cn O 1 dG (.slice A6 (m k).log.length c6) M0 (m k).log)) _ G);clear G
    go_wp2_with go_quiet (fail)
    refine(Cs _ (m k).log _ (by have:=(hm k).ll;omega) (λx hx=>by have:=(hm k).lb x hx;omega) (H2.drewN _)).mono ?_;rintro D0 w2⟨Z,rfl,h⟩;have T:=aa h;clear H2 h
    go_wp2_with fail
    go_ret2
    refine⟨Z,by rw[M.out];try rfl,?_⟩;rw[i.out,X.out];have U:=T.pk 5 [0,1,2];exact(St.kS U.sX).swap
   have b1:=jM o1;have b3:=jM o3
   go_wp2_with go_quiet (fail)
   go_ret2
   refine⟨sN,by rw[M.out];try rfl,?_⟩;rw[i.out,X.out,show(m k).out ⟨t,k,j,token,seq,data⟩=[]from(iN o1).trans (iN o3)];refine St.AO ?_ _ _;refine St.drewN ?_ _;have U:=D.pk 4 [0,1];exact St.kS U
  |true=>
   have X:Hid (gL m r=aI m r.region.toNat ((m r.region.toNat).act r)):=iP ⟨Y,a⟩;have i:=aa (show mu m r=((m r.region.toNat).act r).out r by unfold mu;rw[iP Y,X.out,aT]);obtain⟨N0,P0,J0,A0⟩:=F0 a;rw[a,Y]at p;have M:=aa Y;clear a F0 Y;obtain⟨t,region,index,token,seq,data⟩:=r;obtain⟨H0,B,e,G0⟩:=hg;simp only at z0 z1 R z3 E z5 z6 B e;obtain⟨k,rfl⟩:=BE R;obtain⟨j,rfl⟩:=BE E;have Q:k<4:=oM
   have kn:(0:Int)<=(k:Int):=oM
   have k4:(k:Int)<4:=oM
   have K0:=RQ.JW N0;simp only at K0 P0 J0 A0;simp only[rE]at J0 A0;have hj:t<=2->j<4:=λh=>by have:=e h;omega
   simp only[rE]at X i;clear H0 e G0 R z3 E z5 B
   go_enter func92,ntmps92
   go_wp2_with fail
   refine qK (p _ _ (H.alloc 175 #[iI t,iI k,iI j,iU token,iW seq,.slice A n c]).tW) λw1 h=>?_;obtain⟨V,z⟩:=h.gB;obtain⟨S,u,C,P,F,b⟩:=(z.ah 2 rfl).ng;have D:=aa z;clear H h z
   go_wp2_with go_quiet (fail)
   refine bT (λW=>eK W w.heap.size 175 #[iI t,iI k,iI j,iU token,iW seq,.slice A n c]) 9 (rG 8) [8,9,10,11] kR kR
    (λC0=>by cases C0<;>exact λ_ _ _ _ h=>h) (λW J=> ?_)
   have N:=aa (show St I W (iy g V m::dD V m::ab w.heap.size 175 #[iI t,iI k,iI j,iU token,iW seq,.slice A n c]::ai .u8 (.slice A n c) data::L)by
    rw[J];exact(D.drewN _).drew)
   clear J S u C P F b D;refine⟨N.out.ah 2 rfl,?_⟩
   iterate 8 (refine bJ rfl rfl (λW J=>by(obtain⟨S,u,C,P,F,b⟩:=J.ng;clear J;go_simp;try rfl)) ?_;simp only[aW])
   refine take_nil ?_;obtain⟨⟨T0,hc⟩,a⟩:=j8 (N.out.ah 0 rfl) Q (j:=0) oM;simp only[yd]at hc a;have G:=N.out.TL Q token;refine cE rfl rfl 31 _ _ (.pointer (some ⟨g,k*7,none⟩)) (iU token) rfl rfl rfl (by go_simp) (λ_=>G.ah 1 rfl) ?_;clear hc a N;generalize W.setCell ⟨g,k*7,none⟩ (iU token)=W2 at G⊢;simp only[Act.put];obtain⟨U0,K⟩:=G.gB;obtain⟨⟨u2,hc⟩,a⟩:=j8 (K.ah 0 rfl) Q (j:=1) oM;have d:=K.WB Q seq;rw[Tq]at d;refine bq K d λT q=>?_;clear G K d
   (refine bF rfl rfl gS nD ?_;simp only[aW])
   (refine bF rfl rfl gS nD ?_;simp only[aW])
   refine cE rfl rfl 60 _ _ (.pointer (some ⟨g,k*7+1,none⟩)) (iW seq) rfl rfl rfl (by go_simp;rfl) nD ?_;have d:=q.out;clear hc a T q;generalize W2.setCell ⟨g,k*7+1,none⟩ (iW seq)=W3 at d⊢;simp only[Act.put];refine cD ?_;obtain⟨S,u,C,P,F,b⟩:=(d.ah 1 rfl).ng;have q:=aa d;have S0:n<=24:=by have:=HN.out;omega
   clear d
   go_wp2_with fail
   rcases K0 with rfl|rfl|rfl
   ·refine qK (Wz ⟨g,k*7,none⟩ ⟨2,k,j,token,seq,data⟩ A n c _ rfl) λw4 a=>?_;have U:=(q.grow a).pk 3 [2,0,1];have l:=aa U;clear q a U S u C P F b
    go_wp2_with fail
    refine qK (WU g _ k j A n c data _ Q (hj oM) oM l) λw5 h=>?_;rw[nY,aT]at h;obtain⟨S,u,C,P,F,b⟩:=(h.ah 1 rfl).ng;have o:=aa h;clear h l
    go_wp2_with fail
    go_ret2
    refine⟨sN,by rw[M.out];try rfl,?_⟩;rw[i.out,X.out,yF _ _ _ _ _ _ _ dC dC,UI _ _ _ _ _ _ _ rfl];exact(o.tO).AO _ _
   ·refine qK (Su ⟨g,k*7,none⟩ ⟨4,k,j,token,seq,data⟩ A n c _ rfl) λw4 a=>?_;have U:=(q.grow a).pk 3 [2,0,1];have l:=aa U;clear q a U S u C P F b
    go_wp2_with fail
    refine qK (Sj g _ k A n c data _ Q (by rw[aT];have:=(hm k).ll;show(m k).log.length<=1000;omega) oM l) λw5 h=>?_;rw[nY,aT]at h;obtain⟨S,u,C,P,F,b⟩:=(h.ah 1 rfl).ng;have o:=aa h;clear h l
    go_wp2_with fail
    go_ret2
    refine⟨sN,by rw[M.out];try rfl,?_⟩;rw[i.out,X.out,yF _ _ _ _ _ _ _ dC dC,Rs _ _ _ _ _ _ _ rfl];exact(o.tO).AO _ _
   ·refine qK (TT ⟨g,k*7,none⟩ ⟨5,k,j,token,seq,data⟩ A n c _ rfl) λw4 a=>?_;have U:=(q.grow a).pk 3 [0,1];have l:=aa U;have O0:j<=(m k).log.length:=by have:=A0 rfl;omega
    clear q a U S u C P F b A0 J0
    go_wp2_with fail
    refine qK (Ug g _ k j _ Q (by rw[aT];exact O0) l) λw5 h=>?_;rw[nY,aT]at h;obtain⟨S,u,C,P,F,b⟩:=(h.ah 1 rfl).ng;have o:=aa h;clear h l
    go_wp2_with fail
    go_ret2
    refine⟨sN,by rw[M.out];try rfl,?_⟩;rw[i.out,X.out,yF _ _ _ _ _ _ _ dC dC,Qr _ _ _ _ _ _ _ rfl];exact(o.tO).AO _ _
 ·have X:gL m r=m:=iN (λh=>Y h.1)
  have i:mu m r=[]:=iN Y;rw[X,i];clear X i;have hb:((aE m r).2 !=0)=true:=by simp[Y]
  generalize(aE m r).2=x at*;generalize(aE m r).1=y at*;have HB:=aa hb;clear Y hb;obtain⟨t,region,index,token,seq,data⟩:=r
  go_enter func92,ntmps92
  go_wp2_with fail
  refine qK (p _ _ (H.alloc 175 #[iI t,iI region,iI index,iU token,iW seq,.slice A n c]).tW) λw1 h=>?_;have H1:=aa h;have hb:=HB.out;clear H h
  go_wp2_with fail
  go_ret2
  exact⟨_,rfl,(H1.AO 1 dG).pick 4 [0,1]⟩
end
end Go.Proofs.YtblpaldggenbaaaGreatDoor
