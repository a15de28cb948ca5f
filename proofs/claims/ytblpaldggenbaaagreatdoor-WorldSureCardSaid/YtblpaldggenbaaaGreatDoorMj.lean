/- A part. -/
import Derived.Test.YtblpaldggenbaaaGreatDoorMe
namespace Go.Proofs.YtblpaldggenbaaaGreatDoor
open Go.RowKit Go.Proofs.Tryz
set_option maxRecDepth 100000
set_option maxHeartbeats 64000000
theorem qp{I:aK}{L:List az}{w:World}{j:Nat}{T:Addr}{n c:Nat}{i:Int}{d:LI}(h:St I w L)(H:L[j]? =some (ai .u8 (.slice (some T) n c) (i::d))):w.cell? T=some (.int .u8 i):=by
 obtain⟨U,e,_,_,_,C⟩:=yH (h.get j H);injection e with e;subst e;exact C
theorem VC{I:aK}{L:List az}(region:Int)(b:LI)(A0:OA)(n c:Nat)(w:World)(hb:Bytes b)(hl:b.length<=140737488355328)(h:St I w (ai .u8 (.slice A0 n c) b::L)):
 Calls prog 201 #[iI region,.slice A0 n c] w λe O=>∃v,e= .returned (.tuple #[tP (ue region b) v,iI (ik b)])/\St I O (ai .u8 v (ue region b).data::L):=by
 have Z:=h.alloc 213 #[iI 0,iI 0,sN];clear h
 cases b with
 |nil=>
  obtain⟨y,_,_,_⟩:=(Z.get 1 rfl).sl;obtain rfl:n=0:=y;have U:=(Z.ah 0 rfl).cell 0;have C:=(Z.ah 0 rfl).cell 1;have G:=(Z.ah 0 rfl).cell 2;have H:=aa Z;clear Z
  go_enter func201,ntmps201
  go_wp2_with fail
  refine bodyPost_ret (v:= .tuple #[.agg #[iI 0,iI 0,sN],iI 10]) (jy (fn:=Tryz.f201) (t:=4) (k:=5) (ty:=213) rfl _ rfl ?_) rfl ⟨sN,?_,?_⟩
  ·go_simp
  ·rfl
  ·exact H.tail.tail.bH (λO _=>ay.none_ O _)
 |cons i d=>
  obtain⟨T,rfl,y,hc,hm,x0⟩:=yH (Z.get 1 rfl);have z:0<=i/\i<=255:=by have:=hb i abN;unfold isByte at this;omega
  obtain⟨i0,i1⟩:=z;have B0:d.length+1<=140737488355328:=hl;have E0:((n:Int)==0)=false:=jM oM;have n1:(1:Int)<=(n:Int):=oM
  have n2:(n:Int)<=(c:Int):=oM
  have n0:(0:Int)<(n:Int):=oM
  have nn:0<n:=oM
  have nl:n<=140737488355328:=oM
  refine nK (show ik (i::d)=0->ue region (i::d)=⟨region,i,d⟩from λh=>iP h) (show ik (i::d)≠0->ue region (i::d)=⟨0,0,[]⟩from λh=>iN h) Z y λx o H HN=>?_;clear Z y hb hl B0
  go_enter func201,ntmps201
  go_wp2_with fail
  refine rT (λW=>W.cell? T=some (.int .u8 i)) 11 4 (rG 8) #[true,true,true,true,true,true,true,true,false,false,false,false] kR kR (λd=>by cases d<;>exact λ_ _ _ _ h=>h) (λW J=> ?_);have X:=aa (show St I W (ab w.heap.size 213 #[iI 0,iI 0,sN]::ai .u8 (.slice (some T) n c) (i::d)::L)by
   rw[J];exact H.drew)
  clear J H x0;refine⟨qp X.out (j:=1) rfl,?_⟩
  iterate 8 (refine bJ rfl rfl (λW J=>gS) ?_;simp only[aW])
  refine take_nil ?_;rw[IntWalk.i64_in i oM];have q:1<n->(if c=1 then some T else some ⟨T.block,T.off+1,none⟩)=(some T).map (·.add 1):=λD0=>by rw[iN oM];rfl
  generalize(if c=1 then some T else some (⟨T.block,T.off+1,none⟩:Addr))=A7 at q⊢;have N:=aa ((X.out.copy 1 rfl).bC (R':=λO=>ay O .u8 (.slice A7 (n-1) (c-1)) d) (λO z=>z.Ss q));clear X q;refine vW [8,10] kR dC (λF0 hq=> ?_);simp only[qQ,qo,or_false]at hq;rcases hq with rfl|rfl
  ·refine zo (f:=23) (args:= #[.slice A7 (n-1) (c-1)]) rfl rfl gS ((ef A7 (n-1) (c-1) d _ (N.get 0 rfl).sl.2.2.2 oM N).mono ?_)
   rintro e R⟨v2,rfl,h⟩;obtain⟨r,P,rfl⟩:=h.slice;refine⟨_,rfl,λ_=>qp h (j:=3) rfl,?_⟩;simp only[aW];have B:=h.ints.pk 4 [0,2,3];refine Gu (n:=2) [9] #[true,true,true,true,true,true,true,true,true,true,false,false] kR kR (λd=>by cases d<;>exact λ_ _ _ _ h=>h) (qp B (j:=2) rfl) kR ?_;refine bJ rfl rfl (λW J=>by(clear J;go_simp;try rfl)) ?_;simp only[aW];refine take_nil ?_;refine ly [10,11] _ _ _ kR ?_;have M:=B.alloc 213 #[iI 0,iI 0,sN];refine lC (v:= pO R.heap.size) (O:=R.alloc (.cells #[iI 0,iI 0,sN] 213)) rfl rfl gS (λ_=>qp M (j:=3) rfl) ?_;simp only[aW];have U:=(M.ah 0 rfl).cell 0;have C:=(M.ah 0 rfl).cell 1;have G:=(M.ah 0 rfl).cell 2;have f:=(M.ah 0 rfl).frozen;have K:=aa (B.alloc 213 #[iI region,iI i,(.slice r (n-1) P)]);clear h B M N;refine cE (O:=R.alloc (.cells #[iI region,iI i,(.slice r (n-1) P)] 213)) rfl rfl 213 _ _ (pO R.heap.size) (.agg #[iI region,iI i,(.slice r (n-1) P)]) rfl rfl rfl gS nD ?_;simp only[Act.put];refine cD ?_;clear U C G f;generalize World.alloc _ _=w5 at K⊢;generalize R.heap.size=g6 at*;exact ac2
  ·have M:=N.alloc 213 #[iI 0,iI 0,sN]
   refine Gj (v:= pO W.heap.size) (O:=W.alloc (.cells #[iI 0,iI 0,sN] 213)) rfl rfl gS (λ_=>qp M (j:=3) rfl) ?_;simp only[aW];refine ly [8,9,11] _ _ _ kR ?_;refine fm (f:=23) (args:= #[.slice A7 (n-1) (c-1)]) rfl rfl gS ((ef A7 (n-1) (c-1) d _ (M.get 1 rfl).sl.2.2.2 oM M).mono ?_);rintro e R⟨v2,rfl,h⟩;obtain⟨r,P,rfl⟩:=h.slice;have S:=h.ints.pk 5 [1,0,3,4];refine⟨_,rfl,λ_=>qp S (j:=3) rfl,?_⟩;simp only[aW];refine bF rfl rfl gS (λ_=>qp S (j:=3) rfl) ?_;simp only[aW];have U:=(S.ah 0 rfl).cell 0;have C:=(S.ah 0 rfl).cell 1;have G:=(S.ah 0 rfl).cell 2;have f:=(S.ah 0 rfl).frozen;have K:=aa (((S.bE 0 (iI region)).bE 1 (iI i)).bE 2 (.slice r (n-1) P));clear h M S N;refine cE rfl rfl 213 _ _ (pO W.heap.size) (.agg #[iI region,iI i,(.slice r (n-1) P)]) rfl rfl rfl gS nD ?_;simp only[Act.put];refine cD ?_;clear U C G f;generalize World.setCell _ _ _=w5 at K⊢;generalize W.heap.size=g6 at*;exact ac2
def dY(w:World)(K:LV)(r:RQ):Prop:=∃v,K=[iI r.op,iI r.region,iI r.index,iU r.token,iW r.seq,v]/\ay w .u8 v r.data
def qS(g:Nat)(region token seq:Int)(l:List RQ):az:=Bc λv=>aX (ab g 230 #[iI region,iU token,iW seq,v]) (aB 175 6 dY v l)
theorem Ns:fY prog 70 175 (.agg #[iI 0,iI 0,iI 0,iU 0,iW 0,sN]) 6 64:=⟨underlying70,kR,kR,oM⟩
theorem Nv(w:World)(a b c d e:Int)(A:OA)(n k:Nat):(Instr.buildSlice 70 1 #[(0,.agg #[iI a,iI b,iI c,iU d,iW e,.slice A n k])]).run prog w= .ok (.slice (aO w.heap.size) 1 1) (w.alloc (.cells #[iI a,iI b,iI c,iU d,iW e,.slice A n k] 175)):=kR
theorem Hi(a b c d e:Int)(A:OA)(n k:Nat):∀u∈[Value.int .i64 a,iI b,iI c,iU d,iW e,.slice A n k],u.oneCell'=true:=by
 intro u y;simp at y;rcases y with rfl|rfl|rfl|rfl|rfl|rfl<;>rfl
theorem Ik{I:aK}{L:List az}(g:Nat)(region token seq t index:Int)(l:List RQ)(A:OA)(n c:Nat)(data:LI)(w:World)(F:l.length<=1000000)(h:St I w (ai .u8 (.slice A n c) data::qS g region token seq l::L)):
 Rt I w 116 #[pO g,iI t,iI index,.slice A n c] (.tuple #[]) (qS g region token (IntKind.u32.wrap (seq+1)) (l++[⟨t,region,index,token,seq,data⟩])::L):=by
 obtain⟨v,Z⟩:=h.swap.ex;have G:=Z.star;obtain⟨S,d,q,V,rfl,y,M⟩:=G.swap.rN;have Y:=(M.row 0 rfl).1;refine iG (M.pk 4 [2,0,1,3]) y Y λH E e=>?_;have j:q<=1000000:=oM
 clear h Z G M y Y F
 go_enter func116,ntmps116
 go_wp2_with fail
 refine bT (λW=>eK W g 230 #[iI region,iU token,iW seq,.slice S q d]) 23 (rG 21) [21,22,23,24,25] kR kR (λd=>by cases d<;>exact λ_ _ _ _ h=>h) (λW J=> ?_);have N:=aa (show St I W (ab g 230 #[iI region,iU token,iW seq,.slice S q d]::ct 175 6 (.slice S q d) q V::bj (λw=>∀(i:Nat) x,l[i]? =some x->dY w ((V.drop (i*6)).take 6) x)::ai .u8 (.slice A n c) data::L)by
  rw[J];exact H.drew)
 clear J H;refine⟨N.out.ah 0 rfl,?_⟩
 iterate 21 (refine bJ rfl rfl (λW J=>by(have C:=J.cell 0;have D:=J.cell 1;have r:=J.cell 2;have k:=J.cell 3;clear J;go_simp;try rfl)) ?_;simp only[aW])
 refine take_nil ?_;have u:=(N.out.pk 4 [1,0,2,3]).oH (.cells #[iI t,iI region,iI index,iU token,iW seq,.slice A n c] 175);refine bY rfl rfl 70 1 0 _ (.agg #[iI t,iI region,iI index,iU token,iW seq,.slice A n c]) rfl rfl (Nv _ _ _ _ _ _ _ _ _) (λ_=>u.ah 1 rfl) ?_;simp only[aW];refine qb Ns u rfl rfl _ _ rfl rfl (aO W.heap.size) 1 1 rfl [iI t,iI region,iI index,iU token,iW seq,.slice A n c] (Ld _ _ _) (Hi _ _ _ _ _ _ _ _) oM oM (λT b P U=>⟨λ_=>U.ah 1 rfl,?_⟩);simp only[aW];have a:=(U.pk 4 [0,2,3,1]);have Q:=((a.tW.bC (R':=λO=>dY O [iI t,iI region,iI index,iU token,iW seq,.slice A n c] ⟨t,region,index,token,seq,data⟩) (λO z=>⟨_,rfl,z⟩)).sX).fS E rfl e;have k:=(Q.ah 1 rfl).cell 3;have f:=(Q.ah 1 rfl).frozen;have X:=aa ((Q.swap.bE 3 (.slice T (q+1) b)));clear u U a Q N
 iterate 2 (refine bF rfl rfl gS nD ?_;simp only[aW])
 refine cE rfl rfl 70 _ _ (.pointer (some ⟨g,3,none⟩)) (.slice T (q+1) b) rfl rfl rfl gS nD ?_;simp only[Act.put];refine cD ?_;clear k f;generalize World.setCell _ _ _=w5 at X⊢;have r:w5.cell? (aD g 2)=some (iW seq):=(X.ah 0 rfl).cell 2;have f:=(X.ah 0 rfl).frozen;have p:=X.bE 2 (iW (IntKind.u32.wrap (seq+1)));have o:=aa p;clear X p
 go_wp2_with fail
 go_end0
 refine⟨rfl,St.eu (f:=λv=>aX (ab g 230 #[iI region,iU token,iW (IntKind.u32.wrap (seq+1)),v]) (aB 175 6 dY v (l++[⟨t,region,index,token,seq,data⟩]))) (.slice T (q+1) b) (St.aM ?_)⟩;exact o.out
def wQ(region token seq:Int)(i:Nat)(p:PU):RQ:=⟨2,region,p.index,token,IntKind.u32.wrap (seq+i),p.data⟩
def wl(f:Nat->PU->RQ):Nat->List PU->List RQ
 |_,[]=>[]
 |i,p::r=>f i p::wl f (i+1) r
theorem KA(f:Nat->PU->RQ)(l:List PU)(x:PU):∀i,wl f i (l++[x])=wl f i l++[f (i+l.length) x]:=by
 induction l with
 |nil=>intro i;rfl
 |cons p r K=>
  intro i;show f i p::wl f (i+1) (r++[x])=f i p::wl f (i+1) r++_;rw[K,Oe,qR,show i+1+r.length=i+(r.length+1)by omega]
theorem gG(f:Nat->PU->RQ)(l:List PU):∀i,(wl f i l).length=l.length:=by
 induction l with
 |nil=>intro i;rfl
 |cons p r K=>intro i;show(wl f (i+1) r).length+1=_;rw[K];rfl
def tz(region token seq:Int)(l:List PU):List RQ:=wl (wQ region token seq) 0 l++if 0<l.length then [⟨5,region,l.length,token,IntKind.u32.wrap (seq+l.length),[]⟩]else []
def Gw(seq:Int)(l:List PU):Int:=if 0<l.length then IntKind.u32.wrap (seq+l.length+1)else seq
theorem wH(seq:Int)(k:Nat):IntKind.u32.wrap (IntKind.u32.wrap (seq+k)+1)=IntKind.u32.wrap (seq+(k+1:Nat)):=by
 simp only[IntKind.wrap_u32];omega
theorem BS{I:aK}{L:List az}(g:Nat)(region token seq:Int)(j:List RQ)(l:List PU)(A:OA)(n c:Nat)(w:World)(E:0<=seq/\seq<=4294967295)(R:j.length+l.length<=100000)(y:∀x∈l,x.data.length<=23)
 (h:St I w (aG 3 bV (.slice A n c) l::qS g region token seq j::L)):
 Rt I w 117 #[pO g,.slice A n c] (.tuple #[]) (qS g region token (Gw seq l) (j++tz region token seq l)::L):=by
 obtain⟨A',c',e,hc,hm⟩:=(h.eM 0 rfl).slice;injection e with u Y e3;subst u;subst e3;have b:=aa Y;have hn:n<=100000:=oM
 refine ye h.swap R E y (show tz region token seq l=wl (wQ region token seq) 0 l++if 0<l.length then [⟨5,region,l.length,token,IntKind.u32.wrap (seq+l.length),[]⟩]else []from rfl) (show Gw seq l=if 0<l.length then IntKind.u32.wrap (seq+l.length+1)else seq from rfl) λH p G HD o C=>?_;clear h Y R E y
 go_enter func117,ntmps117
 go_wp2_with fail
 go_loopg [8] n (λgh i wr=>∃k:Nat,gh=n-k/\k<=n/\i= iI (k:Nat)/\St I wr (qS g region token (IntKind.u32.wrap (seq+k)) (j++wl (wQ region token seq) 0 (l.take k))::aG 3 bV (.slice A n c) l::L))
 case atStart=>exact⟨0,rfl,oM,rfl,by rw[show IntKind.u32.wrap (seq+(0:Nat))=seq by rw[zc9,VW];exact IntWalk.u32_in _ G.out];simpa[wl]using H.out⟩
 case round=>
  clear H;obtain⟨k,T,hk,rfl,h⟩:=hrel;have HG:=aa T;clear T;by_cases X:k<n
  ·have B:=g7 (l:=l) (i:=k) (by rw[<-b.out];exact X)
   generalize l[k]'(by rw[<-b.out];exact X)=x at B;have D0:=HD.out x (qP B);have ht:l.take (k+1)=l.take k++[x]:=by rw[JU,B];rfl
   have hw:j++wl (wQ region token seq) 0 (l.take (k+1))=j++wl (wQ region token seq) 0 (l.take k)++[⟨2,region,x.index,token,IntKind.u32.wrap (seq+k),x.data⟩]:=by
    rw[ht,KA,pI,fV,show min k l.length=k by rw[<-b.out];omega,xS]
    rfl
   have V:(j++wl (wQ region token seq) 0 (l.take k)).length<=1000000:=by
    rw[dB,gG,fV];have:=p.out;omega
   obtain⟨ad,cs,rfl,_,t,⟨v,rfl,hv⟩,Z⟩:=h.elem 1 rfl B;obtain⟨q,d,rfl,_,_,_⟩:=id hv;obtain⟨e0,u,Y⟩:=pW t;refine bq hw V λHW a=>?_;have F:=aa (((Z.bC (R':=λO=>ay O .u8 (.slice q x.data.length d) x.data) (λO A0=>by obtain⟨v,e,hi⟩:=A0.2;injection e with _ e;injection e with _ e;injection e with e;subst e;exact hi)).alloc 213 #[iI x.region,iI x.index,.slice q x.data.length d]));clear B h Z hv t ht hw V;have i0:(0:Int)<=(k:Int):=oM
   have i1:(k:Int)<(n:Int):=oM
   generalize j++wl (wQ region token seq) 0 (l.take k)=rk at*
   go_wp2_with fail
   refine bT (λW=>eK W wr.heap.size 213 #[iI x.region,iI x.index,.slice q x.data.length d]) 8 (rG 6) [6,7] kR kR (λd=>by cases d<;>exact λ_ _ _ _ h=>h) (λW J=> ?_);have N:=aa (show St I W (ab wr.heap.size 213 #[iI x.region,iI x.index,.slice q x.data.length d]::ai .u8 (.slice q x.data.length d) x.data::qS g region token (IntKind.u32.wrap (seq+k)) rk::aG 3 bV (.slice (some ad) n c) l::L)by
    rw[J];exact F.drew)
   clear J F e0 u Y;refine⟨N.out.ah 0 rfl,?_⟩
   iterate 6 (refine bJ rfl rfl (λW J=>by(have x0:=J.cell 0;have x1:=J.cell 1;have x2:=J.cell 2;clear J;go_simp;try rfl)) ?_;simp only[aW])
   refine take_nil ?_;obtain⟨_,B0,C0,U⟩:=(N.out.get 1 rfl).sl;refine fm (f:=23) (args:= #[.slice q x.data.length d]) rfl rfl gS ((ef q x.data.length d x.data _ U ?_ N.out).mono ?_)
   ·omega
   rintro e w2⟨v2,rfl,h⟩;obtain⟨r,P,rfl⟩:=h.slice;refine⟨_,rfl,λ_=>h.ah 1 rfl,?_⟩;simp only[aW];have z:=h.ints.pk 5 [0,3,1,4];clear h N U;refine fm (f:=116) (args:= #[pO g,iI 2,iI x.index,.slice r x.data.length P]) rfl rfl gS ((Ik g region token _ 2 x.index rk r x.data.length P x.data _ a z).mono ?_);rintro e w3⟨rfl,h⟩;refine⟨_,rfl,λ_=>h.ah 1 rfl,?_⟩;have M:=h.pk 3 [0,2];rw[wH]at M;have K:=aa M;clear h z M;simp only[Act.put];refine cD ?_
   go_wp2_with fail
   go_roundg (n-(k+1))
   case measure=>exact adi
   case rel=>exact⟨k+1,rfl,oM,by go_num,by rw[HW.out];exact K.out⟩
  ·obtain rfl:k=n:=oM
   have V:(j++wl (wQ region token seq) 0 l).length<=1000000:=by
    rw[dB,gG];have:=p.out;omega
   have D:l.take k=l:=oJ abZ;rw[D]at h;by_cases Q:0<k
   ·have d0:decide ((0:Int)<(k:Int))=true:=decide_eq_true (by omega)
    refine bq (h.pk 2 [0]) V λH a=>?_;clear h D V
    go_wp2_with fail
    refine qH (Ik g region token _ 5 k _ none 0 0 [] _ a (H.bH (λO _=>ay.none_ O _))) λw3 K=>?_;clear H
    go_wp2_with fail
    go_end0
    refine⟨rfl,?_⟩;rw[C.out,o.out,iP (by rw[<-b.out];exact Q),iP (by rw[<-b.out];exact Q),<-pI,<-b.out];have S:=K.out;rw[wH]at S;rw[show seq+(k:Int)+1=seq+((k+1:Nat):Int)by omega];exact S
   ·have d0:decide ((0:Int)<(k:Int))=false:=decide_eq_false (by omega)
    obtain rfl:k=0:=oM
    have H:=aa (h.pk 2 [0]);clear h D V
    go_wp2_with fail
    go_end0
    refine⟨rfl,?_⟩;rw[C.out,o.out,iN ab9,iN ab9,xd];have S:=H.out;rw[show IntKind.u32.wrap (seq+(0:Nat))=seq by rw[zc9,VW];exact IntWalk.u32_in _ G.out]at S;exact S
def Yl(w:World)(K:LV)(b:LI):Prop:=∃v,K=[v]/\ay w .u8 v b
def jK:List (LI)->Int
 |[]=>0
 |b::r=>if ik b=0 then jK r else ik b
theorem NK(l:List (LI))(b:LI)(h:jK l=0):jK (l++[b])=ik b:=by
 induction l with
 |nil=>show(if ik b=0 then 0 else ik b)=_;split<;>simp_all
 |cons p r K=>
  unfold jK at h;show(if ik p=0 then jK (r++[b])else ik p)=_
  exact afp
theorem Ma(l r:List (LI))(h:jK l≠0):jK (l++r)=jK l:=by
 induction l with
 |nil=>exact absurd rfl h
 |cons p q K=>
  unfold jK at h;show(if ik p=0 then jK (q++r)else ik p)=if ik p=0 then jK q else ik p
  exact aew
def dL(region token seq:Int)(W:List (LI)):List RQ:=if jK W=0 then tz region token seq (W.map (ue region))else []
theorem Na:fY prog 67 213 (.agg #[iI 0,iI 0,sN]) 3 40:=⟨underlying67,kR,kR,oM⟩
theorem yX(region:Int)(b:LI):(ue region b).data.length<=23:=by
 unfold ue
 cases b with
 |nil=>exact abN
 |cons i d=>
  show(if ik (i::d)=0 then(⟨region,i,d⟩:PU)else⟨0,0,[]⟩).data.length<=23
  split
  ·rename_i h
   have e:ik (i::d)=if 4<=i then 101 else if 23<d.length then 2 else 0:=rfl;rw[e]at h;show d.length<=23
   exact aec
  ·exact abN
theorem Po{I:aK}{L:List az}(region token seq:Int)(W:List (LI))(A:OA)(n c:Nat)(w:World)(hs:0<=seq/\seq<=4294967295)(hl:W.length<=1000)(hb:∀b∈W,Bytes b/\b.length<=140737488355328)
 (h:St I w (aG 1 Yl (.slice A n c) W::L)):
 Calls prog 164 #[iI region,iU token,iW seq,.slice A n c] w λe O=>∃v,e= .returned (.tuple #[v,iI (jK W)])/\St I O (aB 175 6 dY v (dL region token seq W)::L):=by
 obtain⟨A',c',e,hc,hm⟩:=(h.eM 0 rfl).slice;injection e with e1 o e3;subst e1;subst e3;have R:=aa o;have hn:n<=1000:=oM
 refine nK (h.eU 213 3 bV) hs hb (show dL region token seq W=if jK W=0 then tz region token seq (W.map (ue region))else []from rfl) λH HS HB hR=>?_;clear h o hl hs hb
 go_enter func164,ntmps164
 go_wp2_with fail
 go_loopg [10,18] n (λgh v i wr=>∃(k:Nat) (S:OA) (q d:Nat),gh=n-k/\k<=n/\v= .slice S q d/\i= iI (k:Nat)/\q=k/\jK (W.take k)=0/\St I wr (aB 213 3 bV (.slice S q d) ((W.take k).map (ue region))::aG 1 Yl (.slice A n c) W::L))
 case atStart=>exact⟨0,none,0,0,rfl,oM,rfl,rfl,rfl,rfl,H⟩
 case round=>
  clear H;obtain⟨k,S,q,d,hg,hk,rfl,rfl,G0,K,h⟩:=hrel;refine bq hg G0 λHG P0=>?_;have ql:q<=1000:=oM
  clear hg G0;by_cases E0:k<n
  ·have J:=g7 (l:=W) (i:=k) (by rw[<-R.out];exact E0)
   generalize W[k]'(by rw[<-R.out];exact E0)=x at J;have B0:=HB.out x (qP J);have Q:W.take (k+1)=W.take k++[x]:=by rw[JU,J];rfl
   have N:=NK (W.take k) x K;rw[<-Q]at N;have I0:W.take (k+1)++W.drop (k+1)=W:=Le _ _;obtain⟨ad,cs,rfl,_,C0,⟨v,rfl,hv⟩,M⟩:=h.elem 1 rfl J;obtain⟨X,a,rfl,_,_,_⟩:=id hv;have G:wr.cell? (ad.add (k*1))=some (.slice X x.length a):=by simpa[Addr.add]using C0 0 _ rfl
   rw[Uz]at G;refine nK N Q I0 B0 λD HT Q0 g=>?_;have F:=aa (M.bC (R':=λO=>ay O .u8 (.slice X x.length a) x) (λO S0=>by obtain⟨v,e,z⟩:=S0.2;injection e with e;subst e;exact z));clear J h M hv C0 Q N I0 B0 K;have i0:(0:Int)<=(k:Int):=oM
   have i1:(k:Int)<(n:Int):=oM
   go_wp2_with fail
   refine(VC region x X x.length a _ g.1 g.2 F).mono ?_;rintro e w2⟨v2,rfl,h⟩;obtain⟨r,P,rfl,_,_,_⟩:=h.get 0 rfl;have T0:=aa (yX region x);generalize F0:ue region x=p at*;have O0:=aa F0;clear F G F0;by_cases Y:ik x=0
   ·have L0:=aa Y
    rw[Y];obtain⟨xs,hq,K0,hz⟩:=h.swap.cu;refine iG hq K0 (hz.oH (.cells #[iI p.region,iI p.index,.slice r p.data.length P] 213)) λHQ R0 t=>?_;clear h hq K0 hz Y
    go_wp2_with (at_builtin;refine St.fj Na (t.oH _) rfl _ _ rfl rfl (some ⟨w2.heap.size+1,0,none⟩) 1 1 rfl [iI p.region,iI p.index,.slice r p.data.length P] (Se abN) (by intro V0 hu;simp at hu;rcases hu with rfl|rfl|rfl<;>rfl) oM oM ?_;intro A4 c4 w4 u)
    have h7:=((u.tW.bC (R':=λO=>bV O [iI p.region,iI p.index,.slice r p.data.length P] p) (λO z=>⟨_,rfl,z⟩)).sX).fS HQ rfl R0;have H7:=aa h7;clear u h7 t
    go_roundg (n-(k+1))
    case measure=>exact adi
    case rel=>exact⟨k+1,A4,q+1,c4,rfl,oM,rfl,by go_num,by have:=P0.out;omega,by rw[D.out,L0.out],by rw[HT.out,yu,List.map_singleton,O0.out];exact H7.out⟩
   ·have A0:jK W=ik x:=by rw[<-Q0.out,Ma _ _ (by rw[D.out];exact Y),D.out]
    have C:=aa A0;have U0:(ik x !=0)=true:=by simp[Y]
    refine bq Y (h.tail.tail.tail) λN0 H2=>?_;generalize ik x=ee at*;clear h Y A0
    go_wp2_with fail
    go_ret2
    refine⟨sN,by rw[C.out];try rfl,?_⟩;rw[hR.out,iN (by rw[C.out];exact N0.out)];exact(H2.oH _).eU _ _ _
  ·obtain rfl:k=n:=oM
   have J0:W.take k=W:=oJ (by rw[<-R.out];exact io _);rw[J0]at h K;have D0:(W.map (ue region)).length<=1000:=by rw[qI,<-R.out];omega
   refine bq D0 K λM0 y=>?_;have B:=(h.pk 2 [0]).nj;have U:=(B.eU 175 6 dY).alloc 230 #[iI region,iU token,iW seq,sN];have u:=St.eu (f:=λv=>aX (ab wr.heap.size 230 #[iI region,iU token,iW seq,v]) (aB 175 6 dY v [])) sN U.aM;have E:Hid (St I (wr.alloc (.cells #[iI region,iU token,iW seq,sN] 230)) (aG 3 bV (.slice S q d) (W.map (ue region))::qS wr.heap.size region token seq []::L)):=aa u.swap;clear h K J0 D0 B U u
   go_wp2_with fail
   refine qK (BS wr.heap.size region token seq [] (W.map (ue region)) S q d _ HS (by have:=M0.out;simp only[MJ];omega) (λx J=>by obtain⟨b,_,rfl⟩:=um.1 J;exact yX region b) E) λw5 h=>?_;obtain⟨v5,j⟩:=h.ex;have V:=j.star;obtain⟨T,Z,q5,W0,rfl,-,-⟩:=V.swap.rN;have x3:w5.cell? (aD wr.heap.size 3)=some (.slice T q5 Z):=(V.ah 0 rfl).cell 3;have H6:=aa V.tail;clear E h j V
   go_wp2_with fail
   go_ret2
   refine⟨.slice T q5 Z,by rw[y.out];try rfl,?_⟩;rw[hR.out,iP y.out];exact H6.out
theorem Qx{I:aK}{L:List az}(f:FuncId)(cap:Value)(p:PU->Bool)(l:List PU)(A:OA)(n c:Nat)(w:World)
 (g:∀(args:Vq) (W:World),Sem.run prog (callFunc f args) W= .ok (.enter f args) W)
 (hF:∀(x:PU) (v:Value) (W:World),St I W L->Calls prog f #[tP x v,cap] W λe D=>e= .returned (.bool (p x))/\Fr jo W D)
 (h:St I w (aG 3 bV (.slice A n c) l::L)):
 Rt I w 159 #[.slice A n c,.func (.func f) #[] #[cap]] (iI (gu p 0 l)) (aG 3 bV (.slice A n c) l::L):=by
 obtain⟨X,R,e,hc,hm⟩:=(h.eM 0 rfl).slice;injection e with u Y q;subst u;subst q;have b:=aa Y;have A0:n<=c:=oM
 refine nK h hF g (show gu p 0 l=gu p 0 (l.drop 0)from rfl) λH y M j=>?_;clear h Y hF g
 go_enter func159,ntmps159
 go_wp2_with fail
 go_loopg [8] n (λU i wr=>∃k:Nat,U=n-k/\k<=n/\i= iI (k:Nat)/\gu p 0 l=gu p k (l.drop k)/\St I wr (aG 3 bV (.slice A n c) l::L))
 case atStart=>exact ae0
 case round=>
  clear H j;obtain⟨k,C,hk,rfl,z,h⟩:=hrel;have Q:=aa C;clear C;by_cases t:k<n
  ·have J:=g7 (l:=l) (i:=k) abO
   have G:=IQ (l:=l) (i:=k) abO;generalize l[k]' abO=x at J G;have V:gu p k (l.drop k)=if p x=true then(k:Int)else gu p (k+1) (l.drop (k+1)):=by rw[G];rfl
   obtain⟨T,K,rfl,_,B,⟨v,rfl,o⟩,Z⟩:=h.elem 0 rfl J;obtain⟨r,d,rfl,_,_,_⟩:=id o;obtain⟨S,u,Y⟩:=pW B;refine bq (z.trans V) h λO F=>?_;clear J h Z o B G V z;have i0:(0:Int)<=(k:Int):=oM
   have i1:(k:Int)<(n:Int):=oM
   go_wp2_with fail
   rw[M.out,Oper.upon_enter];refine qK (y x (.slice r x.data.length d) _ F.tail) λw2 a=>?_;have N:=aa (F.grow a);clear F a S u Y
   cases P:p x with
   |true=>
    exact afk
   |false=>
    have E:=aa (O.trans (iN acx))
    go_wp2_with fail
    go_roundg (n-(k+1))
    case measure=>exact ab6
    case rel=>exact aeO
  ·obtain rfl:k=n:=oM
   have E:=aa (z.trans (show gu p k (l.drop k)= -1 by rw[UK abZ];rfl));have H:=aa h;clear h z
   exact adv
theorem Ek{I:aK}{L:List az}(f:FuncId)(cap:Value)(p:PU->Bool)(l:List PU)(A:OA)(n c:Nat)(w:World)
 (F:∀(args:Vq) (W:World),Sem.run prog (callFunc f args) W= .ok (.enter f args) W)
 (hF:∀(x:PU) (v:Value) (W:World),St I W L->Calls prog f #[tP x v,cap] W λe g=>e= .returned (.bool (p x))/\Fr jo W g)
 (h:St I w (aG 3 bV (.slice A n c) l::L)):
 Rt I w 113 #[.slice A n c,.func (.func f) #[] #[cap]] (.bool (l.any p)) (aG 3 bV (.slice A n c) l::L):=by
 refine bq (Qx f cap p l A n c w F hF h) (yL p l 0) λO Q=>?_;exact afi
theorem SX{I:aK}{L:List az}(b:Nat)(region:Int)(x:PU)(v:Value)(W:World)(h:St I W (ab b 3 #[iI region]::L)):
 Calls prog 114 #[tP x v,pO b] W λe g=>e= .returned (.bool (x.region !=region))/\Fr jo W g:=by
 obtain⟨r,i,d⟩:=x;have Z:=h.alloc 213 #[iI r,iI i,v];have U:(W.alloc (.cells #[iI r,iI i,v] 213)).cell? (aD b 0)=some (iI region):=(Z.ah 1 rfl).cell 0;clear h Z
 go_enter func114,ntmps114
 exact adl
section
section
variable {α:Type} {I:aK} {w:World} {L:List az} {size:Nat} {R:World->LV->α->Prop} {v:Value} {xs:List α}
theorem cn.sub{A X:OA}{n c k m r:Nat}{b:Nat->LV}(h:cn w size R (.slice A n c) b xs)(Q:k+m<=n)(o:0<m->X=A.map (·.add (k*size)))(D:m<=r)(p:r<=maxLen):
 cn w size R (.slice X m r) (λi=>b (k+i)) ((xs.drop k).take m):=by
 obtain⟨q,d,e,Z,G,M⟩:=h;injection e with C Y P;subst C;have F:((xs.drop k).take m).length=m:=by rw[fV,km];omega
 refine⟨X,r,by rw[F],by rw[F];exact D,p,λi x z=> ?_⟩;have W:i<m:=by have:=(nQ.1 z).1;omega
 rw[AW,iP W,zU]at z;obtain⟨T,rfl,E,B,U⟩:=M (k+i) x z;refine⟨T.add (k*size),by rw[o oM];rfl,E,λj u y=> ?_,U⟩;rw[eF,eF];have:=B j u y;rw[eF,xh]at this;rw[show k*size+i*size+j=k*size+(i*size+j)by omega]at this;exact this
theorem St.TA{A A':OA}{n c k m c':Nat}(h:St I w L)(i:Nat)(z:L[i]? =some (aG size R (.slice A n c) xs))(Q:k+m<=n)(o:0<m->A'=A.map (·.add (k*size)))(D:m<=c')(p:c'<=maxLen):
 St I w (aG size R (.slice A' m c') ((xs.drop k).take m)::L):=by
 obtain⟨M,d,K,T,V⟩:=h;obtain⟨b,J⟩:=V.at_ i _ z;exact⟨M,_,K,T,V.cons (F:=λ_=>False) ⟨λi=>b (k+i),λ_ x=>x,λO q=>(J.2 O q).sub Q o D p⟩ (λ_ _ _ _ x=>x) (λ_ x=>x.elim)⟩
end
def eQ(region token seq:Int)(i:Nat)(p:PU):RQ:=⟨4,region,0,token,IntKind.u32.wrap (seq+i),Dq p⟩
def qF(region token:Int)(s:Int)(part:List PU):Int×List RQ:=
 (Gw (IntKind.u32.wrap (s+part.length)) part,wl (eQ region token s) 0 part++tz region token (IntKind.u32.wrap (s+part.length)) part)
def pQ(region token seq:Int)(l:List PU):Nat->Int×List RQ
 |0=>(seq,[])
 |j+1=>((qF region token (pQ region token seq l j).1 ((l.drop (4*j)).take 4)).1,(pQ region token seq l j).2++(qF region token (pQ region token seq l j).1 ((l.drop (4*j)).take 4)).2)
def jz:List PU->Int
 |[]=>0
 |x::r=>if jP x=0 then jz r else jP x
def nU(region:Int)(l:List PU):Int:=if jz l=0 then(if l.any (λx=>x.region !=region)=true then 1 else 0)else jz l
def dg(region token seq:Int)(l:List PU):List RQ:=if nU region l=0 then(pQ region token seq l ((l.length+3)/4)).2 else []
theorem JX(s:Int)(l:List PU)(V:0<=s/\s<=4294967295):0<=Gw s l/\Gw s l<=4294967295:=by
 unfold Gw
 split
 ·simp only[IntKind.wrap_u32];omega
 ·exact V
theorem QE(region token seq:Int)(l:List PU)(V:0<=seq/\seq<=4294967295):∀j,0<=(pQ region token seq l j).1/\(pQ region token seq l j).1<=4294967295
 |0=>V
 |j+1=>JX _ _ (by simp only[IntKind.wrap_u32];omega)
theorem xk(region token seq:Int)(l:List PU):(tz region token seq l).length<=l.length+1:=by
 unfold tz;rw[dB,gG]
 split<;>simp
theorem o9(region token seq:Int)(l:List PU):∀j,(pQ region token seq l j).2.length<=9*j
 |0=>by simp[pQ]
 |j+1=>by
  have Z:=o9 region token seq l j;have G:=xk region token (IntKind.u32.wrap ((pQ region token seq l j).1+((l.drop (4*j)).take 4).length)) ((l.drop (4*j)).take 4);have M:((l.drop (4*j)).take 4).length<=4:=by rw[fV];omega
  show((pQ region token seq l j).2++(wl _ 0 ((l.drop (4*j)).take 4)++tz _ _ _ _)).length<=9*(j+1);rw[dB,dB,gG];omega
theorem Ii(l:List PU)(b:PU)(h:jz l=0):jz (l++[b])=jP b:=by
 induction l with
 |nil=>show(if jP b=0 then 0 else jP b)=_;split<;>simp_all
 |cons p r K=>
  unfold jz at h;show(if jP p=0 then jz (r++[b])else jP p)=_
  exact afp
theorem IY(l r:List PU)(h:jz l≠0):jz (l++r)=jz l:=by
 induction l with
 |nil=>exact absurd rfl h
 |cons p q K=>
  unfold jz at h;show(if jP p=0 then jz (q++r)else jP p)=if jP p=0 then jz q else jP p
  exact aew
theorem Jf(l:List PU)(h:jz l=0):∀x∈l,jP x=0:=by
 induction l with
 |nil=>intro x J;cases J
 |cons p r K=>
  unfold jz at h
  split at h
  ·rename_i Z
   intro x J;rcases qQ.1 J with rfl|J
   ·exact Z
   ·exact K h x J
  ·exact aer
theorem Mo(x:PU)(h:jP x=0):x.data.length<=23/\0<=x.index/\x.index<4:=by
 unfold jP at h
 exact aec
theorem MK(x:PU)(h:jP x=0):Dq x=x.index::x.data:=by unfold Dq;rw[iP h]
end
section
open Go.Shelf
attribute [local go_sem] Oper.semAt_some
theorem Uv{I:aK}(l:List PU)(A:OA)(n c X F z m:Nat)(T:Nat->List az)(w:World)(hn:n<=1000)
 (G:∀(j:Nat) (W:World) (A':OA) (p:Nat),4*j<n->p=min 4 (n-4*j)->St I W (aG 3 bV (.slice A' p p) ((l.drop (4*j)).take 4)::ab X 67 #[.slice A n c]::ab F 3 #[iI 4]::aG 3 bV (.slice A n c) l::T j)->
  YieldAt Fence.wide (m-1) prog z #[.slice A' p p] W λe g=>e= .returned (.bool true)/\St I g (ab X 67 #[.slice A n c]::ab F 3 #[iI 4]::aG 3 bV (.slice A n c) l::T (j+1)))
 (h:St I w (ab X 67 #[.slice A n c]::ab F 3 #[iI 4]::aG 3 bV (.slice A n c) l::T 0)):
 CallsIn Fence.wide m prog 168 #[.func (.yield z) #[] #[],pO X,pO F] w λe O=>(∃v,e= .returned v)/\St I O (ab X 67 #[.slice A n c]::ab F 3 #[iI 4]::aG 3 bV (.slice A n c) l::T ((n+3)/4)):=by
 obtain⟨A',c',e,hc,y⟩:=(h.eM 2 rfl).slice;injection e with u Y t;subst u;subst t;have b:=aa Y;have B0:n<=c:=oM
 refine iG G y h λa D H=>?_;clear h G Y y;refine callsIn_of_wp func168 rfl trivial ?_ rfl;simp only[ntmps168,RT,qR,MJ,Nat.reduceAdd,Nat.reduceSub,Xv,XD,Xu,Xx,zm,Oe]
 gi_wp2_with fail
 gi_loopw [4] (λi wr=>∃j k:Nat,k=4*j/\k<n+4/\i= iI (k:Nat)/\St I wr (ab X 67 #[.slice A n c]::ab F 3 #[iI 4]::aG 3 bV (.slice A n c) l::T j)) (λi _=>n-(intOf i).toNat)
 case atStart=>exact⟨0,0,rfl,oM,rfl,H⟩
 case round=>
  obtain⟨j,k,Q,o,rfl,h⟩:=hrel;have U:=(h.ah 0 rfl).cell 0;have R:=(h.ah 1 rfl).cell 0;have L:=aa (λW A' p=>a j W A' p);clear H;have H:=aa h;clear h;rw[<-Q]at L;have q:=aa Q;clear Q;by_cases r:k<n
  ·gi_wp2_with fail
   refine wpIn_wide.2 ?_;have i0:(0:Int)<=(k:Int):=oM
   have i1:(k:Int)<=(n:Int):=oM
   have i2:(n:Int)<=(c:Int):=oM
   refine bT (λW=>W.cell? (aD X 0)=some (.slice A n c)/\W.cell? (aD F 0)=some (iI 4)) 7 (rG 7) [] kR kR (λd=>by cases d<;>exact λ_ _ _ _ h=>h) (λW J=> ?_);have N:=aa (show St I W (ab X 67 #[.slice A n c]::ab F 3 #[iI 4]::aG 3 bV (.slice A n c) l::T j)by
    rw[J];exact H.drew)
   clear J H U R;refine⟨⟨(N.out.ah 0 rfl).cell 0,(N.out.ah 1 rfl).cell 0⟩,?_⟩
   iterate 7 (refine bJ rfl rfl (λW J=>by(rcases J with⟨_,_⟩;go_simp;try rfl)) ?_;simp only[aW])
   refine take_nil (cD ?_);obtain⟨p,P⟩:=nM (min 4 (n-k));rw[show(if((n-k:Nat):Int)<4 then((n-k:Nat):Int)else 4)=(p:Int)by split<;>omega];have U:=(N.out.ah 0 rfl).cell 0;have R:=(N.out.ah 1 rfl).cell 0;have p1:0<p:=oM
   have p2:(k:Int)+(p:Int)<=(c:Int):=oM
   have p3:(k:Int)<=(k:Int)+(p:Int):=oM
   have p4:(0:Int)<=(k:Int)+(p:Int):=oM
   have A0:k+4<2000:=oM
   have C0:p<=4:=oM
   obtain⟨fn,tm,V,bd,E,B⟩:=L.out W (A.map (·.add (k*3))) p r P (by
    have Z:=N.out.TA (A':=A.map (·.add (k*3))) (k:=k) (m:=p) (c':=p) 2 rfl oM (λ_=>rfl) (io _) ab7;rwa[show(l.drop k).take p=(l.drop k).take 4 by
     have:=b.out;rcases ZC 4 (n-k)with S|S
     ·rw[show p=4 by omega]
     ·rw[oJ ab2,oJ ab2]]at Z)
   clear P o
   gi_wp2_with fail
   refine⟨λC=>by simp[Fence.wide]at C,B.mono ?_⟩;rintro e x⟨rfl,M⟩;have U:=(M.ah 0 rfl).cell 0;have R:=(M.ah 1 rfl).cell 0;have K:=aa M;clear M B N E
   gi_wp2_with fail
   go_roundw
   case rel=>exact⟨j+1,k+4,by have:=q.out;omega,oM,by go_num,K⟩
   case measure=>exact adY
  ·gi_wp2_with fail
   go_end0
   refine⟨⟨_,rfl⟩,?_⟩;rw[show(n+3)/4=j by have:=q.out;omega];exact H.out
theorem Rf{I:aK}{L:List az}(A:OA)(n c:Nat)(w:World)(h:St I w L):
 Calls prog 115 #[.slice A n c,iI 4] w λe O=>∃X F,e= .returned (.func (.func 168) #[] #[pO X,pO F])/\St I O (ab X 67 #[.slice A n c]::ab F 3 #[iI 4]::L):=by
 have H:=aa ((h.alloc 67 #[.slice A n c]).alloc 3 #[iI 4]);clear h
 go_enter func115,ntmps115
 exact aep
end
section
open Go.Shelf
attribute [local go_sem] Oper.semAt_some
theorem SW{I:aK}{L:List az}(region token seq:Int)(l:List PU)(A:OA)(n c:Nat)(w:World)(hs:0<=seq/\seq<=4294967295)(hl:l.length<=1000)(h:St I w (aG 3 bV (.slice A n c) l::L)):
 Calls prog 73 #[iI region,iU token,iW seq,.slice A n c] w λe O=>∃v,e= .returned (.tuple #[v,iI (nU region l)])/\St I O (aB 175 6 dY v (dg region token seq l)::L):=by
 obtain⟨A',c',e,hc,hm⟩:=(h.eM 0 rfl).slice;injection e with y C e3;subst y;subst e3;have b:=aa C;have hn:n<=1000:=oM
 refine AS (h.alloc 3 #[iI region]) hs hl (show nU region l=if jz l=0 then(if l.any (λx=>x.region !=region)=true then 1 else 0)else jz l from rfl) (show dg region token seq l=if nU region l=0 then(pQ region token seq l ((l.length+3)/4)).2 else []from rfl) λH HS HL HE HQ=>?_;clear h C hs hl;refine(callsIn_wide (n:=12)).1 ?_;refine callsIn_of_wp_marks func73 rfl trivial ?_ rfl;simp only[ntmps73,RT,qR,MJ,Nat.reduceAdd,Nat.reduceSub,Xv,XD,Xu,Xx,zm,Oe]
 gi_wp2_with fail
 gi_loopw [22] (λi wr=>∃k:Nat,k<=n/\i= iI (k:Nat)/\jz (l.take k)=0/\St I wr (ab w.heap.size 3 #[iI region]::aG 3 bV (.slice A n c) l::L)) (λi _=>n-(intOf i).toNat)
 case atStart=>exact⟨0,oM,rfl,rfl,H⟩
 case round=>
  clear H;obtain⟨k,hk,rfl,K,h⟩:=hrel;by_cases t:k<n
  ·have J:=g7 (l:=l) (i:=k) abO
   generalize l[k]' abO=x at J;have Q:l.take (k+1)=l.take k++[x]:=by rw[JU,J];rfl
   have hE:=Ii (l.take k) x K;rw[<-Q]at hE;have M0:l.take (k+1)++l.drop (k+1)=l:=Le _ _;obtain⟨ad,cs,rfl,_,B,⟨v,rfl,X⟩,Z⟩:=h.elem 1 rfl J;obtain⟨S,d,rfl,_,_,_⟩:=id X;obtain⟨e0,y,C⟩:=pW B;refine bq hE M0 λr R0=>?_;have F:=aa (((Z.bC (R':=λO=>ay O .u8 (.slice S x.data.length d) x.data) (λO D0=>by obtain⟨v,e,hi⟩:=D0.2;injection e with _ e;injection e with _ e;injection e with e;subst e;exact hi)).alloc 213 #[iI x.region,iI x.index,.slice S x.data.length d]).swap);clear J h Z X B Q hE M0 K;have i0:(0:Int)<=(k:Int):=oM
   have i1:(k:Int)<(n:Int):=oM
   gi_wp2_with fail
   refine⟨trivial,(callsIn_wide.2 (DE x S x.data.length d _ (F.pk 2 [0]))).mono ?_⟩;rintro e R⟨v2,rfl,h⟩;have H2:=aa h.tail;clear h F e0 y C;by_cases Y:jP x=0
   ·have P0:=aa (r.trans Y)
    rw[Y];clear Y r
    gi_wp2_with fail
    go_roundw
    case rel=>exact⟨k+1,oM,by go_num,P0,H2⟩
    case measure=>exact adY
   ·have J0:jz l=jP x:=by rw[<-R0.out,IY _ _ (by rw[r.out];exact Y),r.out]
    have A0:=aa J0;have C1:(jP x !=0)=true:=by simp[Y]
    have C0:=aa Y;generalize jP x=ee at*;clear Y J0 r
    gi_wp2_with fail
    refine⟨_,results_tmp2 rfl _ _ _,sN,?_,?_⟩
    ·rw[HE.out,iN (by rw[A0.out];exact C0.out),A0.out];rfl
    ·rw[HQ.out,iN (by rw[HE.out,iN (by rw[A0.out];exact C0.out),A0.out];exact C0.out)]
     exact H2.tail.tail.eU _ _ _
  ·obtain rfl:k=n:=oM
   have a:l.take k=l:=oJ abZ;rw[a]at K;refine bq K h.swap λH0 H=>?_;clear h a K
   gi_wp2_with fail
   refine⟨trivial,(callsIn_wide.2 (Ek 114 (pO w.heap.size) (λx=>x.region !=region) l A k c wr (enters_of func114 kR rfl) (λx v I0 hW=>SX w.heap.size region x v I0 hW) H)).mono ?_⟩;rintro e R⟨rfl,h⟩;clear H
   cases ha:l.any (λx=>x.region !=region)with
   |true=>
    have H:=aa h;clear h;have g:=aa (show nU region l=1 by rw[HE.out,iP H0.out,iP ha])
    gi_wp2_with fail
    refine⟨_,results_tmp2 rfl _ _ _,sN,?_,?_⟩
    ·rw[g.out];rfl
    ·rw[HQ.out,g.out]
     exact(H.tail.tail).eU _ _ _
   |false=>
    have g:=aa (show nU region l=0 by rw[HE.out,iP H0.out,iN (by rw[ha];exact iu)]);have G:=(h.eU 175 6 dY).alloc 230 #[iI region,iU token,iW seq,sN];have M:=St.eu (f:=λv=>aX (ab R.heap.size 230 #[iI region,iU token,iW seq,v]) (aB 175 6 dY v [])) sN G.aM;have E:=M.alloc 228 #[pO R.heap.size];rw[World.size_alloc]at E;have T:Hid (St I _ (ab (R.heap.size+1) 228 #[pO R.heap.size]::qS R.heap.size region token seq []::aG 3 bV (.slice A k c) l::ab w.heap.size 3 #[iI region]::L)):=E;have y0:=(h.ah 1 rfl).cell 0;clear h G M E
    gi_wp2_with fail
    refine⟨trivial,(callsIn_wide.2 (Rf A k c _ T)).mono ?_⟩;rintro e w5⟨bs,bn,rfl,h⟩;obtain⟨o,E0⟩:=nM (R.heap.size+1);obtain⟨W,V⟩:=nM (R.heap.size);obtain⟨rb,F0⟩:=nM (w.heap.size);rw[<-E0,<-V,<-F0]at h;rw[<-E0,<-V,<-F0];have H:=aa h;clear h T y0 E0 V F0
    gi_wp2_with fail
    refine uK (n:=12) (gf:=168) (lb:= #[pO bs,pO bn]) rfl (enters_of func168 kR rfl) H ?_;intro fn z G0 W1 V0;refine(Uv l A k c bs bn z 11 (λj=>fb z (.loop _)::fb G0 (.deferred (some []))::ab o 228 #[pO W]::qS W region token (pQ region token seq l j).1 (pQ region token seq l j).2::ab rb 3 #[iI region]::L) W1 hn ?_ (V0.pick 7 [2,3,6,0,1,4,5])).mono ?_
    ·intro j I0 A' p hj hp hW
     have HP:=aa hp;clear hp;have key:=OM (P:=prog) (n:=10) (L':=ab bs 67 #[.slice A k c]::ab bn 3 #[iI 4]::aG 3 bV (.slice A k c) l::fb G0 (.deferred (some []))::ab o 228 #[pO W]::qS W region token (pQ region token seq l (j+1)).1 (pQ region token seq l (j+1)).2::ab rb 3 #[iI region]::L) ?_ (args:= #[.slice A' p p]) hW.ZN rfl ?_ ?_
     ·obtain⟨U0,Y0,S0,T0,hy,hR⟩:=key
      refine⟨U0,Y0,S0,T0,hy,hR.mono ?_⟩;rintro e W'⟨Y,E⟩;exact⟨Y,E.pick 4 [1,2,3,0]⟩
     rotate_left
     ·intro W2 B1 hK
      gi_wp2
      exact hK
     ·intro W2 G
      have N:∀x∈(l.drop (4*j)).take 4,jP x=0:=λx J=>Jf l H0 x (TW (TH J));have V:((l.drop (4*j)).take 4).length=p:=by have:=b.out;have:=HP.out;rw[fV,km];omega
      have D1:p<=4:=by have:=HP.out;omega
      have X0:=QE region token seq l HS j;have W0:=o9 region token seq l j;have N0:pQ region token seq l (j+1)=((qF region token (pQ region token seq l j).1 ((l.drop (4*j)).take 4)).1,(pQ region token seq l j).2++(qF region token (pQ region token seq l j).1 ((l.drop (4*j)).take 4)).2):=rfl;rw[N0];clear N0;generalize(l.drop (4*j)).take 4=pt at*;generalize(pQ region token seq l j).1=s at*;generalize(pQ region token seq l j).2=rq at*;have HW:=aa G.up6.tW.up7;have E1:rq.length<=9000:=oM
      clear G hW hj W0
      gi_wp2_with fail
      gi_loopw [48] (λi wr=>∃q:Nat,q<=p/\i= iI (q:Nat)/\St I wr (qS W region token (IntKind.u32.wrap (s+q)) (rq++wl (eQ region token s) 0 (pt.take q))::aG 3 bV (.slice A' p p) pt::ab o 228 #[pO W]::_)) (λi _=>p-(intOf i).toNat)
      case atStart=>exact⟨0,oM,rfl,by rw[show IntKind.u32.wrap (s+(0:Nat))=s by rw[zc9,VW];exact IntWalk.u32_in _ X0];simpa[wl]using HW.out⟩
      case round=>
       clear HW;obtain⟨q,hq,rfl,h⟩:=hrel;by_cases t:q<p
       ·have J:=g7 (l:=pt) (i:=q) (by rw[V];exact t)
        generalize pt[q]'(by rw[V];exact t)=x at J;have L0:=N x (qP J);have Q:pt.take (q+1)=pt.take q++[x]:=by rw[JU,J];rfl
        have hw:rq++wl (eQ region token s) 0 (pt.take (q+1))=rq++wl (eQ region token s) 0 (pt.take q)++[⟨4,region,0,token,IntKind.u32.wrap (s+q),Dq x⟩]:=by
         rw[Q,KA,pI,fV,show min q pt.length=q by rw[V];omega,xS]
         rfl
        have D:(rq++wl (eQ region token s) 0 (pt.take q)).length<=1000000:=by
         rw[dB,gG,fV];omega
        obtain⟨ad,cs,rfl,_,B,⟨v,rfl,X⟩,Z⟩:=h.elem 1 rfl J;obtain⟨S,d,rfl,_,_,_⟩:=id X;obtain⟨e0,y,C⟩:=pW B;refine nK hw D L0 N λHW B0 A1 Z0=>?_;have F:=aa (((Z.bC (R':=λO=>ay O .u8 (.slice S x.data.length d) x.data) (λO D0=>by obtain⟨v,e,hi⟩:=D0.2;injection e with _ e;injection e with _ e;injection e with e;subst e;exact hi)).oH (.cells #[iI x.region,iI x.index,.slice S x.data.length d] 213)));clear J h Z X B Q hw D L0 N;have i0:(0:Int)<=(q:Int):=oM
        have i1:(q:Int)<(p:Int):=oM
        generalize rq++wl (eQ region token s) 0 (pt.take q)=rk at*
        gi_wp2_with fail
        refine⟨trivial,(CallsIn.inRound z (callsIn_wide.2 (DE x S x.data.length d _ F))).mono ?_⟩;rintro e w3⟨v3,rfl,h⟩;obtain⟨A3,c3,rfl,_,_,_⟩:=h.get 0 rfl;have x0:w3.cell? (aD o 0)=some (pO W):=(h.ah 3 rfl).cell 0;have H3:=aa h;clear h F e0 y C
        gi_wp2_with fail
        refine⟨trivial,(CallsIn.inRound z (callsIn_wide.2 (Ik W region token _ 4 0 rk A3 _ c3 (Dq x) _ B0 H3))).mono ?_⟩;rintro e w4⟨rfl,h⟩;rw[wH]at h;have T:=aa h;clear h H3 x0
        gi_wp2_with fail
        go_roundw
        case rel=>exact⟨q+1,oM,by go_num,by rw[HW.out];exact T.out⟩
        case measure=>exact adY
       ·obtain rfl:q=p:=oM
        have a:pt.take q=pt:=oJ (by rw[V];exact io _);rw[a]at h;have D:(rq++wl (eQ region token s) 0 pt).length+pt.length<=100000:=by rw[dB,gG];omega
        have K0:∀x∈pt,x.data.length<=23:=λx J=>(Mo x (N x J)).1;have x0:wr.cell? (aD o 0)=some (pO W):=(h.ah 2 rfl).cell 0;refine nK h.swap D K0 V λF B0 O0 Q0=>?_;clear h a D K0 N V
        gi_wp2_with fail
        refine⟨trivial,(CallsIn.inRound z (callsIn_wide.2 (BS W region token _ _ pt A' q q _ (by simp only[IntKind.wrap_u32];omega) B0 O0 F))).mono ?_⟩;rintro e w4⟨rfl,h⟩;have T:=aa h;clear h F x0
        gi_wp2_with fail
        have U:=T.dn6.dn5;rw[<-Q0.out,pI]at U;exact U
    ·rintro e W2⟨Y,G⟩
     refine⟨Y,_,G.ZN.ZN,?_⟩;intro W3 M;obtain⟨v5,U⟩:=(M.pk 7 [5,0,4]).ex;have u:=U.star;obtain⟨A5,c5,q5,F1,rfl,-,-⟩:=u.swap.rN;have x0:W3.cell? (aD o 0)=some (pO W):=(u.ah 3 rfl).cell 0;have x3:W3.cell? (aD W 3)=some (.slice A5 q5 c5):=(u.ah 0 rfl).cell 3;have hD:=u.obj 2 rfl;have H6:=aa (u.pk 4 [2,1]);clear M U u
     gi_wp2_with fail
     refine⟨by simp,.inl ⟨_,_,rfl,run_takeDeferred hD,?_⟩⟩;refine⟨_,results_tmp2 rfl _ _ _,.slice A5 q5 c5,?_,?_⟩
     ·rw[g.out];rfl
     ·rw[HQ.out,iP g.out,<-b.out]
      exact(H6.uo _).tail
end
end Go.Proofs.YtblpaldggenbaaaGreatDoor
