/- A part. -/
import Derived.Lib.SliceRun
import Derived.Shelf.RegionOpenPlain
import Derived.Defers
import Derived.Test.YtblpaldggenbaaaGreatDoorMl
namespace Go.Proofs.YtblpaldggenbaaaGreatDoor
open Go.RowKit Go.Proofs.Tryz
set_option maxRecDepth 100000
set_option maxHeartbeats 64000000
variable{D:DS}{b:LI}{a:Int}{x s:LI}{P:DS->Prop}{i:Int}{j:Int}{α:Type}{q e:Int}{J:JM}
section
open Go.Lib Go.Shelf
section
variable {I:aH} {w:World} {L:List aw} {e:TypeId} {size:Nat}
theorem St.Ul{b n c:Nat}{T:LV}(h:St I w (bY e size (.slice (aO b) n c) n T::L))(o:Nat)(R:LV)(H:o+R.length<=n*size):
 St I (w.setCells b o R) (bY e size (.slice (aO b) n c) n (bh T o R)::L):=
 h.oU (kE (h.row 0 rfl) o H) (jN b R o w (Fr.refl _ _) (λ_=>rfl)) (.inl rfl)
theorem St.Ts{A:OA}{n c m:Nat}{T:LV}(h:St I w (bY e size (.slice A n c) n T::L))(y:m<=n):
 St I w (bY e size (.slice A m c) m (T.take (m*size))::L):=by
 exact aeb
theorem xJ{P:Program}(w:World)(t e X:TypeId)(z:Value)(R:P.underlying t=some (.slice e))(K:∀w,(zeroValue e).run P w= .ok z w)(b n c:Nat)(g:LV)(G:(Builtin.zeroCells z.cells n).toList=g)(Z:∀u∈g,u.oneCell'=true)(W:0<n)
 (D:∀j,j<g.length->(w.cell? ⟨b,0+j,none⟩).isSome=true) (a:∀j,j<g.length->w.frozen? ⟨b,0+j,none⟩=false):
 (Builtin.clear_ #[t] X #[.slice (aO b) n c]).run P w= .ok (.tuple #[]) (w.setCells b 0 g):=by
 have V:=run_storeCells_cells (P:=P) b 0 g 0 w (by simpa using D) (by simpa using a) Z;simp only[vt]at V;obtain⟨m,rfl⟩:∃m,n=m+1:=⟨n-1,oM⟩;simp[Builtin.clear_,run_underlying R,K,G,V]
end
theorem Wl{I:aH}{L:List aw}(A:OA)(k c:Nat)(C:List lV)(w:World)(D:k<=100)(h:St I w (ay 262 2 fN (.slice A k c) C::L)):
 Rt I w 233 #[.slice A k c,iI 0,iI (k:Nat)] (.slice A 0 c) (ay 262 2 fN (.slice A 0 c) []::L):=by
 obtain⟨U,d,p,Z⟩:=h.bK;have Y:=Z.row 0 rfl;have G:∀w,(zeroValue 262).run prog w= .ok (.agg #[iW 0,sN]) w:=λw=>kR
 by_cases K:k=0
 ·subst K
  have R:C=[]:=AJ d.symm;subst R;have Q:0<=c:=jG _;have H:=aa h;clear h Z Y G p d
  go_enter func233,ntmps233
  go_wp2
  all_goals
   go_ret
   exact⟨rfl,H⟩
 ·obtain⟨b,rfl⟩:=fQ Y oM
  obtain⟨l,B,q,F,e,Q,_⟩:=mL Y;have Q:c<=9223372036854775807:=Q;obtain⟨A,r⟩:∃A:Addr,(if c=k then some (⟨b,0,none⟩:Addr)else some ⟨b,k*2,none⟩)=some A:=by split<;>exact⟨_,rfl⟩
  obtain⟨g,y⟩:∃g,(Builtin.zeroCells (Value.agg #[iW 0,sN]).cells k).toList=g:=⟨_,rfl⟩;have a:g.length=k*2:=by rw[<-y];simp[Builtin.zeroCells,Value.cells]
  have o:∀u∈g,u.oneCell'=true:=by
   rw[<-y];intro u E;simp only[Builtin.zeroCells,Zc,oK]at E;obtain⟨i,_,rfl⟩:=E;have:i%2=0\/i%2=1:=oM
   rcases this with h|h<;>simp[Value.cells,h,Value.oneCell']
  have V:=Z.drew;have W:=iL (V.row 0 rfl) 0 (k*2) oM;have t:∀X,(Builtin.clear_ #[194] X #[.slice (aO b) k c]).run prog w.drew= .ok (.tuple #[]) (w.drew.setCells b 0 g):=
   λX=>xJ w.drew _ _ X _ underlying194 G b k c g y o oM (λj P=>(W j oM).1) (λj P=>(W j oM).2)
  have M:=(V.Ul 0 g oM).Ts (m:=0) (jG _);have N:=aa M;clear W h Z V M Y B q F G y o d p a;have n:prog.follows Departure.mixedOrders=true:=kR
  have d0:((0:Int)==(k:Int))=false:=kO oM;have d1:((k:Int)==(0:Int))=false:=kO oM
  go_enter func233,ntmps233
  go_wp2_with fail
  go_region_law_o (refine step_append_room rfl (.tmp 22) (.tmp 25) 194 rfl 262 _ 2 underlying194 rfl rfl b 0 0 c (by simp[Act.eval,Act.put]) A 0 (c-k) [] (by simp[Act.eval,Act.put]) rfl acy acy oM acy ?_;rw[World.setCells])
  go_wp2
  go_ret
  refine⟨rfl,?_⟩;have S:St I (w.drew.setCells b 0 g) (bY 262 2 (.slice (aO b) 0 c) 0 []::L):=N.swap.tail;exact St.cZ (f:=λU=>aX (bY 262 2 (.slice (aO b) 0 c) ([]:List lV).length U) (aS (λw=>∀(i:Nat) x,([]:List lV)[i]? =some x->fN w ((U.drop (i*2)).take 2) x))) [] ((S.bG (λO _ i x z=>by simp at z)).swap).aM
end
section
open Go.Shelf
def JM.Sg(J:JM):Int:=((J.held.getLast?).map Prod.fst).getD J.low
def JM.trim(J:JM):JM:={J with first:=J.first+(J.held.length:Nat),low:=J.Sg,held:=[]}
theorem vR.trim(h:vR J)(a:J.first+(J.held.length:Nat)<=4000000000):vR J.trim where
 a0:=h.a0
 n0:=h.n0
 f0:=⟨by have:=h.f0;show 0<=J.first+_;omega,a⟩
 e0:=h.e0
 l0:=by
  show 0<=J.Sg/\J.Sg<_;unfold JM.Sg
  cases B:J.held.getLast? with
  |none=>exact h.l0
  |some x=>exact(h.b0 x (List.mem_of_getLast? B)).2.2
 h0:=jG _
 b0:=λx B=>by simp[JM.trim]at B
theorem RW{I:aH}{L:List aw}(hT:ml I)(g j kk:Nat)(D:DS)(J:JM)(n:Nat)(w:World)(D0:n=J.held.length)(N:dB D kk)(F0:kk<=900000)(q:vR J)(a:J.first+(J.held.length:Nat)<=4000000000)(ha:0<=J.at_/\J.at_+1<(D.n:Int))(h:St I w (jR g j J::da j D::L)):
 Rt I w 229 #[pO g,iI (n:Nat)] (iI (g7 D J.at_ J.trim.slot)) (jR g j J.trim::da j (cE D J.at_ J.trim.slot)::L):=by
 obtain⟨A,c,Z⟩:=h.jO;have B:=q.trim a;obtain⟨U,S,b,z,o,hl⟩:=J;have a:b+(hl.length:Nat)<=4000000000:=a;have B0:0<=b/\b<=4000000000:=q.f0;have C0:hl.length<=100:=by have Z:hl.length<=S:=q.h0;have V:1<=S/\S<=100:=q.n0;omega
 have W:n=hl.length:=D0;clear D0;have Z:St I w (ab g 196 #[pO j,iI U,iI (S:Nat),iW b,iW z,iW o,.slice A hl.length c]::ay 262 2 fN (.slice A hl.length c) hl::da j D::L):=Z;obtain⟨p,k⟩:∃x,x=JM.Sg ⟨U,S,b,z,o,hl⟩:=⟨_,rfl⟩;obtain⟨e,u⟩:∃x,x=b+(hl.length:Nat):=⟨_,rfl⟩;have y:JM.trim ⟨U,S,b,z,o,hl⟩=⟨U,S,e,z,p,[]⟩:=by rw[k,u];rfl
 rw[y]at B⊢;rw[<-W]at Z u C0;have C:=aa (λ(O:World) (F:St I O (jR g j ⟨U,S,e,z,p,[]⟩::da j D::L))=>Ff hT g j kk D ⟨U,S,e,z,p,[]⟩ O N F0 B ha F);have w1:IntKind.u32.wrap (n:Int)=(n:Int):=eT oM;have X:IntKind.u32.wrap (b+(n:Int))=e:=by rw[<-u];exact eT oM
 have r:=aa (λ(G:OA) (O:World) (F:St I O (ay 262 2 fN (.slice G n c) hl::ab g 196 #[pO j,iI U,iI (S:Nat),iW e,iW z,iW p,.slice G n c]::da j D::L))=>Wl G n c hl O C0 F);by_cases H:n=0
 ·have G0:hl=[]:=AJ (W.symm.trans H)
  subst G0;subst H;have P:p=o:=k;subst P;have e3:e=b:=by rw[u];exact WY _
  subst e3;clear X w1;have w1:IntKind.u32.wrap e=e:=eT oM;have f:=(Z.ah 0 rfl).frozen;have E:=(Z.ah 0 rfl).cell 3;have t:=(Z.ah 0 rfl).cell 6;have V:=Z.br 3 (iW e) #[pO j,iI U,iI (S:Nat),iW e,iW z,iW p,.slice A 0 c];have y6:=(V.ah 0 rfl).cell 6;have T:=aa V.swap;clear h Z V q B N ha W u k y a B0
  go_enter func229,ntmps229
  go_wp2_with fail
  clear y6 E t f;refine qK (r A _ T) λX h=>?_;have M:=h.swap;have f:=(M.ah 0 rfl).frozen;have t:=(M.ah 0 rfl).cell 6;have Q:=M.br 6 (.slice A 0 c) #[pO j,iI U,iI (S:Nat),iW e,iW z,iW p,.slice A 0 c];exact aet
 ·have K:=gP (l:=hl) (i:=n-1) oM
  generalize hl[n-1]' oM=x at K;obtain⟨Y,cs,hA,_,A0,⟨A2,c2,rfl,H0⟩,hz,V⟩:=Z.swap.VM dC K;subst hA;obtain⟨xe,xb⟩:=x;have P:p=xe:=by rw[k];show((hl.getLast?).map Prod.fst).getD o=xe;rw[List.getLast?_eq_getElem?,<-W,K];rfl
  subst P;obtain⟨m,hm⟩:∃m:Nat,m=n-1:=⟨_,rfl⟩;rw[<-hm]at A0;have k0:w.cell? (Y.add (m*2))=some (iW p):=A0 0 _ rfl;have n1:IntKind.i64.wrap ((n:Int)-1)=(m:Int):=(IntWalk.i64_in _ oM).trans oM;have n2:(m:Int)<(n:Int):=oM
  have I0:m<n:=oM
  have n3:(0:Int)<=(m:Int):=oM
  have d0:decide ((n:Int)>0)=true:=decide_eq_true (by omega);have E0:decide (0<n)=true:=decide_eq_true (by omega);have f:=(Z.ah 0 rfl).frozen;have E:=(Z.ah 0 rfl).cell 3;have c5:=(Z.ah 0 rfl).cell 5;have t:=(Z.ah 0 rfl).cell 6;have V:=Z.br 5 (iW p) #[pO j,iI U,iI (S:Nat),iW b,iW z,iW p,.slice (some Y) n c];have x3:=(V.ah 0 rfl).cell 3;have f2:=(V.ah 0 rfl).frozen;have M:=V.br 3 (iW e) #[pO j,iI U,iI (S:Nat),iW e,iW z,iW p,.slice (some Y) n c];have y6:=(M.ah 0 rfl).cell 6;have T:=aa M.swap;clear h Z V M q B N ha W u k y a B0 K A0 hz H0 hm H
  go_enter func229,ntmps229
  go_wp2_with fail
  clear y6 E c5 x3 t f f2 k0 n1 n2 I0 n3 d0 E0 w1 X;refine qK (r (some Y) _ T) λX h=>?_;have M:=h.swap;have f:=(M.ah 0 rfl).frozen;have t:=(M.ah 0 rfl).cell 6;have Q:=M.br 6 (.slice (some Y) 0 c) #[pO j,iI U,iI (S:Nat),iW e,iW z,iW p,.slice (some Y) 0 c];exact aet
end
section
open Go.Shelf
theorem wh{D:DS}{k:Nat}(y:dB D k){a:Int}{n:Nat}{first ep:Int}:∀(f:Nat) (low:Int) (b:List lV),(∀x∈b,x.2.length<=43/\Bytes x.2/\0<=x.1/\x.1<4294967296)->
 (nF D a n first ep f low b).length<=b.length+f/\∀x∈nF D a n first ep f low b,x.2.length<=43/\Bytes x.2/\0<=x.1/\x.1<4294967296
 |0,_,b,h=>⟨g9 _,h⟩
 |f+1,low,b,h=>by
  cases U:qh (kS D a n first b.length) (first+(b.length:Nat)) low ep with
  |false=>rw[vg U];exact⟨oM,h⟩
  |true=>
   rw[zS U];have B:Bytes (D.read (a+2+(first+(b.length:Nat))%(n:Nat))):=DS.fU y.b _;have G:=iJ B;have E:=mQ B;have K:=wh y (a:=a) (n:=n) (first:=first) (ep:=ep) f (kS D a n first b.length).e (b++[((kS D a n first b.length).e,(kS D a n first b.length).b)]) (λx J=>by
    rcases lU.1 J with J|J
    ·exact h x J
    ·obtain rfl:=lA.1 J
     exact⟨G.2.2.2.2,E,G.2.2.1,G.2.2.2.1⟩)
   refine⟨?_,K.2⟩;have:=K.1;rw[eG]at this;simp only[oO,OV]at this;omega
def aaC(at_:Int)(n:Nat):JM:=⟨at_,n,1,0,0,[]⟩
def bZ(D:DS)(at_:Int)(n:Nat):JM:=if j8 D at_=0 then⟨at_,n,(kQ (gZ D at_)).1,(mD (gZ D at_)).1,(mB (gZ D at_)).1,[]⟩else aaC at_ n
def tF(D:DS)(at_:Int)(n:Nat):JM:={bZ D at_ n with held:=(bZ D at_ n).scan D}
def ig(D:DS)(at_:Int)(n:Nat):JM:={tF D at_ n with ep:=(bZ D at_ n).ep+1}
def QJ(D:DS)(at_:Int)(n:Nat):DS:=cE D at_ (ig D at_ n).slot
structure Og(D:DS)(at_:Int)(n:Nat):Prop where
 a0:0<=at_/\at_+2+(n:Int)<=(D.n:Int)/\at_<=1000
 n0:1<=n/\n<=100
 m:j8 D at_=0->vF (gZ D at_)=true
 f:0<=(bZ D at_ n).first/\(bZ D at_ n).first<=4000000000
 e:0<=(bZ D at_ n).ep/\(bZ D at_ n).ep<4294967295
 l:0<=(bZ D at_ n).low/\(bZ D at_ n).low<4294967296
 s:g7 D at_ (ig D at_ n).slot=0
theorem mY(D:DS)(at_:Int)(n:Nat):(bZ D at_ n).at_=at_/\(bZ D at_ n).n=n/\(bZ D at_ n).held=[]:=by
 unfold bZ
 split<;>exact⟨rfl,rfl,rfl⟩
theorem Og.WK{at_:Int}{n:Nat}(h:Og D at_ n):vR (bZ D at_ n) where
 a0:=by rw[(mY D at_ n).1];exact⟨h.a0.1,h.a0.2.2⟩
 n0:=by rw[(mY D at_ n).2.1];exact h.n0
 f0:=h.f
 e0:=by have:=h.e;omega
 l0:=h.l
 h0:=by rw[(mY D at_ n).2.2];exact jG _
 b0:=λx J=>by rw[(mY D at_ n).2.2]at J;simp at J
theorem Og.open{at_:Int}{n k:Nat}(y:dB D k)(h:Og D at_ n):vR (ig D at_ n) where
 a0:=h.WK.a0
 n0:=h.WK.n0
 f0:=h.f
 e0:=by have:=h.e;show 0<=(bZ D at_ n).ep+1/\(bZ D at_ n).ep+1<_;omega
 l0:=h.l
 h0:=by
  have:=(wh y (bZ D at_ n).n (bZ D at_ n).low [] (λx J=>by simp at J) (a:=(bZ D at_ n).at_) (n:=(bZ D at_ n).n) (first:=(bZ D at_ n).first) (ep:=(bZ D at_ n).ep)).1;simp only[OV,s7]at this;exact this
 b0:=(wh y (bZ D at_ n).n (bZ D at_ n).low [] (λx J=>by simp at J)).2
theorem PP{I:aH}{L:List aw}(Y:ml I)(j F:Nat)(D:DS)(at_:Int)(n:Nat)(w:World)(y:dB D F)(E0:F<=900000)(k:Og D at_ n)(h:St I w (da j D::L)):
 Calls prog 56 #[pO j,iI at_,iI (n:Nat)] w λe O=>∃g E,e= .returned (.tuple #[pO g,E,iI 0])/\St I O (aB 1 dP E (ig D at_ n).all::jR g j (ig D at_ n)::da j (QJ D at_ n)::L):=by
 refine bm y k λP z=>?_;have hn:=k.n0;have ha:=k.a0;have D0:=y.ok.n2;have v1:IntKind.i64.wrap (D.n-2)=D.n-2:=IntWalk.i64_in _ oM;have v2:IntKind.i64.wrap (D.n-2-(n:Int))=D.n-2-(n:Int):=IntWalk.i64_in _ oM;have d1:decide ((n:Int)<1)=false:=decide_eq_false (by omega);have d2:decide ((n:Int)>100)=false:=decide_eq_false (by omega);have A0:decide (100<n)=false:=decide_eq_false (by omega);have B0:decide (n<1)=false:=decide_eq_false (by omega);have d3:decide (at_<0)=false:=decide_eq_false (by omega);have d4:decide (at_>D.n-2-(n:Int))=false:=decide_eq_false (by omega);have C0:decide (D.n-2-(n:Int)<at_)=false:=d4;refine bm (show 0<=at_/\at_+1<(D.n:Int)by omega) h λJ H=>?_;clear h y k hn ha D0
 go_enter func56,ntmps56
 go_wp2_with (go_at_call 85;refine qH (Ip H) λw1 r=>?_;clear H)
 have V:=(r.alloc 196 #[pO j,iI at_,iI (n:Nat),iW 1,iW 0,iW 0,sN]).dU 262 2 fN;have M:=(St.zQ (hl:=[]) rfl V.swap).swap;obtain⟨g,W⟩:=nM (w1.heap.size);rw[<-W]at M⊢;clear v1 v2 d1 d2 A0 B0 d3 d4 C0 r W V;refine(BE Y j F D at_ _ P J M).mono ?_;rintro e w2⟨A1,c1,rfl,h⟩;clear M;have q:j8 D at_=41\/j8 D at_=0:=by unfold j8;split<;>simp
 have b:=Bf P.b at_;obtain⟨U,a⟩:=nM ((bZ D at_ n).ep);have de:(U==4294967295)=false:=kO (by rw[a];have:=z.e;omega);have we:IntKind.u32.wrap (U+1)=U+1:=eT (by rw[a];have:=z.e;omega);refine bm a (λ(O:World) (u:St I O (jR g j (bZ D at_ n)::da j D::L))=>Sc Y g j F D (bZ D at_ n) O P z.WK (mY D at_ n).2.2 u) λl o=>?_;have i:=aa (λ(O:World) (u:St I O (jR g j (bZ D at_ n)::da j D::L))=>(by obtain⟨A,c,Z⟩:=u.jO;rw[a];exact(Z.ah 0 rfl).cell 4:O.cell? (aD g 4)=some (iW U)));rcases q with q|q
 case' inr=>
  refine mr (show bZ D at_ n=⟨at_,n,(kQ (gZ D at_)).1,(mD (gZ D at_)).1,(mB (gZ D at_)).1,[]⟩from iP q) (z.m q) (h.pk 3 [2,0,1]) b λt HM G p=>?_;rw[q];clear h q b a
  go_wp2_with (go_at_call 87;refine qK (Rn g j _ _ _ _ p.2 (by have:=p.1;omega) G) λw3 h=>?_;rw[HM.out];have N:Hid (St I w3 (jR g j (bZ D at_ n)::da j D::L)):=(by rw[t.out];exact h);have T:=i.out _ N;clear h G)
 case' inl=>
  have t:Hid (bZ D at_ n=⟨at_,n,1,0,0,[]⟩):=iN (by rw[q];decide);have N:Hid (St I w2 (jR g j (bZ D at_ n)::da j D::L)):=by rw[t.out];exact h.sub
  have T:=i.out _ N;rw[q];clear h q b a
  go_wp2_with fail
 all_goals
  refine qK (o _ N) λw4 h=>?_;clear T N o i;have h:St I w4 (jR g j (tF D at_ n)::da j D::L):=h;have X:ig D at_ n={tF D at_ n with ep:=U+1}:=by rw[l.out];rfl
  have R:(tF D at_ n).ep=U:=l.symm;generalize tF D at_ n=JS at h X R;obtain⟨x,jn,Q,B,S,hl⟩:=JS;have R:B=U:=R;subst R;obtain⟨A,c,Z⟩:=h.jO;have T:=(Z.ah 0 rfl).cell 4;have f:=(Z.ah 0 rfl).frozen;have V:=Z.br 4 (iW (B+1)) #[pO j,iI x,iI (jn:Nat),iW Q,iW (B+1),iW S,.slice A hl.length c];have d:=aa (St.zQ rfl V);have X:ig D at_ n=⟨x,jn,Q,B+1,S,hl⟩:=X;rw[<-X]at d;clear h Z V X;have C:=aa (mY D at_ n).1
  go_wp2_with fail
  refine qK (Ff Y g j F D (ig D at_ n) _ P E0 (z.open P) (by show 0<=(bZ D at_ n).at_/\(bZ D at_ n).at_+1<_;rw[C.out];exact J.out) d) λw5 h=>?_;have h:St I w5 (jR g j (ig D at_ n)::da j (cE D (bZ D at_ n).at_ (ig D at_ n).slot)::L):=h;rw[C.out]at h;rw[show g7 D (ig D at_ n).at_ (ig D at_ n).slot=0 from by show g7 D (bZ D at_ n).at_ _=0;rw[C.out];exact z.out.s];have K:=aa h;clear h d T f
  go_wp2_with fail
  refine(TT g j (ig D at_ n) _ (z.open P) K).mono ?_;rintro e w6⟨E,rfl,h⟩;have H6:=aa h;clear h K
  go_wp2_with fail
  ((try simp only[Exit.inBlock,Exit.then]);refine bodyPost_ret (jj rfl _ _ _) rfl ?_)
  exact⟨g,E,rfl,H6⟩
end
theorem Lq{D:DS}{k:Nat}(y:dB D k)(a d g E:Int):∀(i:Nat) (out:LI),mw D a d g E i=some out->out.length<=i*43/\Bytes out
 |0,out,h=>by
  obtain rfl:[]=out:=Ps h;exact⟨jG _,Bytes.nil⟩
 |i+1,out,h=>by
  have h:(mw D a d g E i).bind _=some out:=h
  cases P:mw D a d g E i with
  |none=>rw[P]at h;cases h
  |some o=>
   have K:=Lq y a d g E i o P;rw[P]at h;simp only[zdh]at h;have B:Bytes (D.read (a+2+d*21+(i:Nat))):=DS.fU y.b _
   split at h
   ·split at h
    ·obtain rfl:=Ps h
     have Z:(SA D a d i).b.length<=43:=(iJ B).2.2.2.2;exact⟨by rw[eG];omega,K.2.append (mQ B)⟩
    ·cases h
   ·obtain rfl:=Ps h
    exact⟨oM,K.2⟩
theorem vN{k:Nat}(y:dB D k)(a:Int):(fV D a).length<=903/\Bytes (fV D a):=by
 unfold fV
 cases h:iZ D a with
 |none=>exact⟨jG _,Bytes.nil⟩
 |some o=>
  unfold iZ at h
  split at h
  ·cases h
  ·have:=Lq y _ _ _ _ 21 o h
   exact⟨this.1,this.2⟩
def mu(D:DS)(a:Int):Nat->Rg:=if ic D a=0 then(Rd.gz ⟨fV D a,false⟩ 4).1 else tA
theorem Sk{k:Nat}(y:dB D k)(a:Int)(K:ic D a=0->uZ (fV D a)=0):∀k,(mu D a k).ok:=by
 unfold mu
 split
 ·rename_i h
  exact(Tg (bs:=fV D a) ⟨(vN y a).2,by have:=(vN y a).1;show(fV D a).length<=140737488355328;omega,λh=>by cases h⟩ (K h)).2
 ·exact WA
theorem RM{I:aH}{L:List aw}(A:ml I)(j F:Nat)(D:DS)(a:Int)(w:World)(y:dB D F)(Q:0<=a/\a+44<=(D.n:Int))(K:ic D a=0->uZ (fV D a)=0)(h:St I w (da j D::L)):
 Calls prog 55 #[pO j,iI a,iI 21] w λe O=>∃g,e= .returned (.tuple #[pO g,iI 0])/\St I O (dL g (mu D a)::da j D::L):=by
 have q:ic D a=41\/ic D a=0:=by unfold ic;split<;>simp
 refine Cz (vN y a) y Q K h λC P J V H=>?_;clear y Q K h
 go_enter func55,ntmps55
 go_wp2_with fail
 refine(RI A j F D a _ P J H).mono ?_;rintro e l⟨R,Y,rfl,h⟩;clear H;rcases q with q|q
 ·have G:Hid (mu D a=tA):=iN (by rw[q];decide)
  rw[q];have r:=aa h.tail.XR;clear h q
  go_wp2_with fail
  go_ret2
  exact⟨_,rfl,by rw[G.out];exact r.out⟩
 ·have G:Hid (mu D a=(Rd.gz ⟨fV D a,false⟩ 4).1):=iP q
  refine bm (V q) h λc r=>?_;rw[q];clear h q
  go_wp2_with fail
  refine(XP _ _ _ C.2 (by have:=C.1;omega) r).mono ?_;rintro e X⟨p,rfl,U,_,_⟩;obtain⟨g,rfl,h⟩:=U c;rw[c.out];have T:=aa h;clear h U r
  go_wp2_with fail
  go_ret2
  exact⟨g,rfl,by rw[G.out];exact T.out⟩
def gU(m:Nat->Rg)(d:List (LI)):Nat->Rg:=d.foldl (λm b=>gJ m (pY b)) m
theorem DP{m:Nat->Rg}{d:List (LI)}{k:Nat}{x:LI}(h:d[k]? =some x):gU m (d.take (k+1))=gJ (gU m (d.take k)) (pY x):=by
 rw[r7 h];exact XU
theorem yJ:∀(d:List (LI)) (m:Nat->Rg),(∀k,(m k).ok)->(∀b∈d,Bytes b/\b.length<=43)->∀k,(gU m d k).ok
 |[],_,y,_=>y
 |b::r,m,y,B=>yJ r (gJ m (pY b)) (Ap y (LF ⟨(B b acy).1,by have:=(B b acy).2;show b.length<=140737488355328;omega,λh=>by cases h⟩)) (λx J=>B x (Dl _ J))
theorem ON{I:aH}{L:List aw}(g:Nat)(m:Nat->Rg)(v:Value)(d:List (LI))(w:World)(p:∀k,(m k).ok)(hl:d.length<=100)(C:∀b∈d,Bytes b/\b.length<=43)(hd:∀b∈d,oc b=0)(h:St I w (aB 1 dP v d::dL g m::L)):
 Rt I w 57 #[pO g,v] (iI 0) (dL g (gU m d)::L):=by
 obtain⟨A,B0,rfl,hc,F0⟩:=(h.dJ 0 rfl).slice;generalize hn:d.length=n at*;refine xH hn C hd p (λk=>yJ (d.take k) m p (λb J=>C b (Hn J))) h λo HB A0 HM HR H=>?_;clear hn h C hd p
 go_enter func57,ntmps57
 go_wp2_with fail
 go_loopg [15] n (λQ i wr=>∃k,Q=n-k/\k<=n/\i= iI (k:Nat)/\St I wr (aB 1 dP (.slice A n B0) d::dL g m::L))
 case atStart=>exact ae4
 case round=>
  obtain⟨k,u,F,rfl,h⟩:=hrel;have R:=aa u;clear u H;by_cases B:k<n
  ·have J:=gP (l:=d) (i:=k) (by rw[o.out];exact B)
   generalize d[k]'(by rw[o.out];exact B)=x at J;obtain⟨N,cs,rfl,_,a,⟨vb,rfl,c⟩,Z⟩:=h.elem 0 rfl J;obtain⟨t,G,rfl,K,S,P⟩:=c;have W:wr.cell? (N.add k)=some (.slice t x.length G):=by simpa[Addr.add]using a 0 _ rfl
   refine bm (HB x (pJ J)) (A0 x (pJ J)) λU E=>?_;have Y:=aa (Z.bu (R':=λO=>aA O .u8 (.slice t x.length G) x) (λO z=>by obtain⟨_,v9,y,z⟩:=z;injection y with y _;rw[y];exact z));generalize X:x.length=nx at*;have M:=aa X;clear J a h P Z X K S
   go_wp2_with fail
   refine(vU _ x _ U.1 (by rw[M.out];have:=U.2;omega) Y).mono ?_;rintro e w2⟨V,D,q,rfl,h⟩;rw[E.out];have T:=aa h.tail;clear h W Y
   go_wp2_with fail
   go_roundg (n-(k+1))
   case measure=>exact aec
   case rel=>exact⟨k+1,rfl,oM,by go_num,T.nP _⟩
  ·obtain rfl:k=n:=oM
   have H:=aa h;clear h F B R
   go_wp2_with fail
   go_loopg [29] k (λQ i wr=>∃j,Q=k-j/\j<=k/\i= iI (j:Nat)/\St I wr (aB 1 dP (.slice A k B0) d::dL g (gU m (d.take j))::L))
   case atStart=>exact ae4
   case round=>
    obtain⟨j,u,F,rfl,h⟩:=hrel;have R:=aa u;clear u H;by_cases B:j<k
    ·have J:=gP (l:=d) (i:=j) (by rw[o.out];exact B)
     generalize d[j]'(by rw[o.out];exact B)=x at J;obtain⟨N,cs,rfl,_,a,⟨vb,rfl,c⟩,Z⟩:=h.elem 0 rfl J;obtain⟨t,G,rfl,K,S,P⟩:=c;have W:wr.cell? (N.add j)=some (.slice t x.length G):=by simpa[Addr.add]using a 0 _ rfl
     refine mr (HB x (pJ J)) (A0 x (pJ J)) (DP (m:=m) J) (HR j) λU E E0 D0=>?_;have Y:=aa (Z.bu (R':=λO=>aA O .u8 (.slice t x.length G) x) (λO z=>by obtain⟨_,v9,y,z⟩:=z;injection y with y _;rw[y];exact z));generalize X:x.length=nx at*;have M:=aa X;clear J a h P Z X K S;have C0:=aa (LF (bs:=x) ⟨U.1,by show x.length<=140737488355328;rw[M.out];have:=U.2;omega,λh=>by cases h⟩)
     go_wp2_with fail
     refine(vU _ x _ U.1 (by rw[M.out];have:=U.2;omega) Y).mono ?_;rintro e w2⟨V,D,q,rfl,h⟩;rw[E.out];generalize pY x=r at*;have T:=aa ((h.alloc 175 #[iI r.op,iI r.region,iI r.index,iU r.token,iW r.seq,.slice V D q]).pk 4 [1,3,2,0]);obtain⟨e0,e1,e2,e3,e4,e5⟩:=(T.ah 3 rfl).ni;clear h W Y
     go_wp2_with fail
     refine(Ql g _ r V D q _ C0 D0 T).mono ?_;rintro e w3⟨G0,rfl,h⟩;rw[<-E0.out]at h;have H3:=aa (h.pk 4 [2,1]);clear h T e0 e1 e2 e3 e4 e5
     go_wp2_with fail
     go_roundg (k-(j+1))
     case measure=>exact aec
     case rel=>exact⟨j+1,rfl,oM,by go_num,H3⟩
    ·obtain rfl:j=k:=oM
     rw[nS (by rw[o.out];exact g9 _)]at h;have H:=aa h.tail;clear h F B R
     exact adY
def jY(D:DS)(a:Int)(ring:Nat):JM:=ig D (a+44) ring
def lO(D:DS)(a:Int)(ring:Nat):DS:=QJ D (a+44) ring
def mE(D:DS)(a:Int)(ring:Nat):Nat->Rg:=gU (mu D a) (jY D a ring).all
structure yD(D:DS)(a:Int)(ring:Nat):Prop where
 a0:0<=a/\a+44<=(D.n:Int)
 u:ic D a=0->uZ (fV D a)=0
 j:Og D (a+44) ring
 d:∀b∈(jY D a ring).all,oc b=0
theorem yD.bs{ring k:Nat}(y:dB D k)(h:yD D a ring):∀b∈(jY D a ring).all,Bytes b/\b.length<=43:=by
 intro b B;obtain⟨x,J,rfl⟩:=oK.1 B;have:=(h.j.open y).b0 x J;exact⟨this.2.1,this.1⟩
abbrev jb(j S W:Nat)(a:Int)(ring:Nat)(k:Bool):Vq:= #[pO j,pO S,pO W,iI a,iI 21,iI (ring:Nat),.bool k]
theorem FT{I:aH}{L:List aw}(A:ml I)(j F:Nat)(D:DS)(a:Int)(ring:Nat)(w:World)(y:dB D F)(o:F<=900000)(k:yD D a ring)(h:St I w (da j D::L)):
 Calls prog 33 #[pO j,iI a,iI 21,iI (ring:Nat)] w λe O=>∃R S W,e= .returned (.tuple #[pO R,iI 0])/\St I O (ab R 151 (jb j S W a ring false)::jR S j (jY D a ring)::dL W (mE D a ring)::da j (lO D a ring)::L):=by
 refine bm y k λP z=>?_;have K:=k.a0;have Z:=k.j.a0;have U:IntKind.i64.wrap (a+2)=a+2:=IntWalk.i64_in _ oM;have p:IntKind.i64.wrap (a+2+42)=a+44:=(IntWalk.i64_in _ oM).trans oM;have H:=aa h;clear h y k K Z
 go_enter func33,ntmps33
 go_wp2_with fail
 refine(RM A j F D a _ P z.a0 z.u H).mono ?_;rintro e l⟨W,rfl,h⟩;have r:=aa h.swap;clear h H
 go_wp2_with fail
 refine(PP A j F D (a+44) ring _ P o z.j r).mono ?_;rintro e X⟨S,E,rfl,h⟩;have h:St I X (aB 1 dP E (jY D a ring).all::jR S j (jY D a ring)::da j (lO D a ring)::dL W (mu D a)::L):=h;have T:=aa (h.pk 4 [0,3,1,2]);clear h r
 go_wp2_with fail
 refine qK (ON W _ E _ _ (Sk P a z.u) (by have Z:=(z.j.open P).h0;have V:=(z.j.open P).n0;show(List.map _ _).length<=100;rw[nL];exact qJ Z V.2) (z.bs P) z.d T) λY h=>?_;have h:St I Y (dL W (mE D a ring)::jR S j (jY D a ring)::da j (lO D a ring)::L):=h;have N:=aa ((h.alloc 151 (jb j S W a ring false)).pk 3 [0,2,1]);clear h T
 go_wp2_with fail
 go_ret2
 exact⟨_,S,W,rfl,N⟩
theorem tN{R j S W:Nat}{ring:Nat}{k:Bool}{w:World}(h:eF w R 151 (jb j S W a ring k)):
 w.cell? (aD R 0)=some (pO j)/\w.cell? (aD R 1)=some (pO S)/\w.cell? (aD R 2)=some (pO W)/\w.cell? (aD R 3)=some (iI a)/\w.cell? (aD R 4)=some (iI 21)/\w.cell? (aD R 5)=some (iI (ring:Nat))/\w.cell? (aD R 6)=some (.bool k):=
 ⟨h.cell 0,h.cell 1,h.cell 2,h.cell 3,h.cell 4,h.cell 5,h.cell 6⟩
theorem Qe{I:aH}{L:List aw}(R j S W ge C:Nat)(a:Int)(ring:Nat)(k:Bool)(v:Int)(u:FrameMode)(w:World)(h:St I w (ab R 151 (jb j S W a ring k)::ab ge 32 #[iI v]::ab C 118 #[pO R]::L)):
 CallsD prog 227 #[pO ge,pO C] u w λe b O=>b=u/\(e= .returned (.tuple #[])/\St I O (ab R 151 (jb j S W a ring (v==43))::ab ge 32 #[iI v]::ab C 118 #[pO R]::L)):=by
 have y:=(h.ah 0 rfl).cell 6;have f:=(h.ah 0 rfl).frozen;have M:=(h.ah 1 rfl).cell 0;have i:=(h.ah 2 rfl).cell 0;have H:=aa (h.br 6 (.bool (v==43)) (jb j S W a ring (v==43)));clear h
 go_enter_d func227,ntmps227
 exact aff
def VL(M:Nat->Rg)(D:DS)(a:Int):Int:=qj D a (bj M)
def Pt(M:Nat->Rg)(D:DS)(a:Int):DS:=fG D a (bj M)
def zZ(M:Nat->Rg)(D:DS)(J:JM)(a:Int):Int:=if VL M D a=0 then g7 (Pt M D a) J.at_ J.trim.slot else VL M D a
def uA(M:Nat->Rg)(D:DS)(J:JM)(a:Int):DS:=if VL M D a=0 then cE (Pt M D a) J.at_ J.trim.slot else Pt M D a
def Bl(M:Nat->Rg)(D:DS)(J:JM)(a:Int):JM:=if VL M D a=0 then J.trim else J
structure Yu(M:Nat->Rg):Prop where
 ok:∀k,(M k).ok
 pl:(bj M).length<=903
 pb:Bytes (bj M)
theorem ZI{I:aH}{L:List aw}(hT:ml I)(R j S W F:Nat)(a:Int)(ring:Nat)(M:Nat->Rg)(D:DS)(J:JM)(w:World)(y:dB D F)(P0:F<=800000)(H:Yu M)(q:vR J)(hf:J.first+(J.held.length:Nat)<=4000000000)(ha:0<=a/\a+44<=(D.n:Int))(hj:0<=J.at_/\J.at_+1<(D.n:Int))
 (h:St I w (ab R 151 (jb j S W a ring false)::jR S j J::dL W M::da j D::L)):
 Rt I w 218 #[pO R] (iI (zZ M D J a)) (ab R 151 (jb j S W a ring (zZ M D J a==43))::jR S j (Bl M D J a)::dL W M::da j (uA M D J a)::L):=by
 have Q0:∀(fn:Fn) (first cap:Vq) (w:World),(Instr.makeFunc fn first cap).run prog w= .ok (.func fn first cap) w:=λ_ _ _ _=>rfl;have Z:=(h.alloc 118 #[pO R]).alloc 32 #[iI 0];simp only[World.size_alloc]at Z;obtain⟨_,_,_,_,_,_,c6⟩:=tN (Z.ah 2 rfl);refine Cz y H q ha (Gn a y H.pb H.pl) λHD K HJ HA N=>?_;have HT:=aa (λ(E:DS) (Y:Nat) (L':List aw) (B0:World) (N0:dB E Y) (O0:Y<=900000) (hn:E.n=D.n) (h':St I B0 (jR S j J::da j E::L'))=>RW hT S j Y E J J.held.length B0 rfl N0 O0 q hf (by rw[hn];exact hj) h');have r:=aa Z;obtain⟨C,P⟩:=nM (w.heap.size);rw[<-P]at r;have E0:=aa P;clear h Z y H q hf ha hj P
 go_enter_defers func218,ntmps218
 go_wp2_with fail
 rw[<-E0.out];obtain⟨ge,D0⟩:=nM (C+1);rw[<-D0]at r⊢;obtain⟨c,n⟩:=nM (bj M);obtain⟨k,X⟩:=nM (qj D a c);obtain⟨b,T⟩:=nM (fG D a c);have i:=aa (show VL M D a=k by rw[X,n];rfl);have l:=aa (show Pt M D a=b by rw[T,n];rfl);have H0:=aa (show c.length<=903 by rw[n];exact K.pl);have F0:=aa (show Bytes c by rw[n];exact K.pb);rw[<-n,<-T]at N;refine ib n X T λG0 M0 K0=>?_;have h0:=r.pk 6 [2,1,4,5,0,3];clear r D0 n X T c6;refine ak (I:=I) (L0:=ab ge 32 #[iI 0]::jR S j J::L) [⟨none,none,λe=>ab R 151 (jb j S W a ring false)⟩,⟨none,none,λe=>ab C 118 #[pO R]⟩,⟨none,none,λe=>dL W M⟩,⟨none,some 17,λe=>da j D⟩,⟨some 16,some 17,λe=>ai .u8 (.slice (e 16).A c.length (e 16).n) c⟩,⟨some 17,none,λe=>da j b⟩] [[],[0],[0,1],rG 3,[],[4],[4,5],[4,5,6],[],[8],[8,9],[8,9,10],[],[12],[12,13],[12,13,14],[12,13,14,15],rG 17,rG 18] (rG 19) rfl kR kR kR (by rfl) (λ_=>rfl) h0.fk ?_;refine aaF ?_;refine aZ 13 (λe=> #[pO W]) (λe=> .slice (e 16).A c.length (e 16).n) rfl (λe p O h=>by(
  have h:=h.fn;refine(UL W M _ K.ok (h.fi 2)).mono ?_;rintro u wy⟨v,rfl,Z⟩;obtain⟨A',c',rfl⟩:=Z.slice;have h2:=Z.ints;rw[<-G0.out]at h2⊢;exact⟨⟨A',c',default⟩,rfl,h2.fk⟩)) ?_
 simp only[aR];refine aZ 228 (λe=> #[pO j,iI a,iI 21,.slice (e 16).A c.length (e 16).n]) (λe=> iI k) rfl (λe p O h=>by(
  have h:=h.fn;refine(QP hT j F D a (e 16).A c.length (e 16).n c _ HD P0 HA H0 F0 ((h.fi 4).fi 4)).mono ?_;rintro u wy⟨rfl,Z⟩;rw[<-K0.out]at Z;rw[<-M0.out];exact⟨⟨none,0,default⟩,rfl,Z.fk⟩)) ?_
 simp only[aR];refine lY ?_;refine ax ?_;intro e w1 h;have h:=h.fn;obtain⟨A0,x⟩:∃A0,(e 16).A=A0:=⟨_,rfl⟩;obtain⟨C0,B⟩:∃C0,(e 16).n=C0:=⟨_,rfl⟩;have d:=aa (h.pk 6 [0,1,5,3,4,2]);clear h h0;by_cases G:k=0
 case neg=>
  have d0:(k !=0)=true:=by simpa using G
  have f:=(d.ah 4 rfl).frozen;have x0:=(d.ah 4 rfl).cell 0;have h5:=(d.fi 4).br 0 (iI k) #[iI k];have V:=aa (λu=>Qe R j S W ge C a ring false k u _ (h5.pk 2 [1,0]));have U:Hid (zZ M D J a=k):=(iN (by rw[i.out];exact G)).trans i;have z:Hid (uA M D J a=b):=(iN (by rw[i.out];exact G)).trans l;have t:Hid (Bl M D J a=J):=iN (by rw[i.out];exact G);clear G h5
  go_wp2_with fail
  rw[x,B];clear x B
  go_wp2_with fail
  refine leaves_cons (f:=227) (args:= #[pO ge,pO C]) acy adl ?_;refine(V _).mono ?_;rintro e u' w9⟨rfl,rfl,h⟩;have y0:=(h.ah 1 rfl).cell 0;refine⟨iI k,aL rfl _ rfl ?_,by rw[U.out];try rfl,?_⟩
  ·go_simp
  ·rw[U.out,z.out,t.out]
   exact h.sub
 case pos=>
  obtain⟨g,Q⟩:=nM (g7 b J.at_ J.trim.slot);obtain⟨sd,A⟩:=nM (cE b J.at_ J.trim.slot);have o:=i.trans G;refine Cz (show zZ M D J a=g from(iP o).trans (by rw[Q,l.out])) (show uA M D J a=sd from(iP o).trans (by rw[A,l.out])) (show Bl M D J a=J.trim from iP o) Q A λU z t J0 I0=>?_;subst G;clear Q A o
  go_wp2_with fail
  rw[x,B];clear x B
  go_wp2_with fail
  refine ak (I:=I) (L0:=dL W M::L) [⟨none,none,λe=>ab R 151 (jb j S W a ring false)⟩,⟨none,none,λe=>ab C 118 #[pO R]⟩,⟨none,some 9,λe=>jR S j J⟩,⟨none,some 9,λe=>da j b⟩,⟨none,some 10,λe=>ab ge 32 #[iI 0]⟩,⟨some 9,none,λe=>jR S j J.trim⟩,⟨some 9,none,λe=>da j sd⟩,⟨some 10,none,λe=>ab ge 32 #[iI g]⟩] [[],[0],[0,1],rG 3,[],[4],[4,5],[4,5,6],[4,5,6,7],rG 9,rG 10] (rG 11) rfl kR kR kR (by rfl) (λ_=>rfl) d.fk ?_;refine Sq ?_;refine aZ 217 (λe=> #[pO S]) (λe=> iI (J.held.length:Nat)) rfl (λe p O h=>by(
   have h:=h.fn;refine(KV S j J _ (h.fi 2)).mono ?_;rintro u wy⟨rfl,Z⟩;exact⟨⟨none,0,default⟩,rfl,Z.fk⟩)) ?_
  simp only[aR];refine aZ 229 (λe=> #[pO S,iI (J.held.length:Nat)]) (λe=> iI g) rfl (λe p O h=>by(
   have h:=h.fn;refine(HT b (F+22) _ _ N.1 oM N.2 ((h.fi 3).fi 3)).mono ?_;rintro u wy⟨rfl,Z⟩;rw[<-I0.out]at Z;rw[<-J0.out];exact⟨⟨none,0,default⟩,rfl,Z.fk⟩)) ?_
  simp only[aR];refine jA (λe=> pO ge) (λe=> iI g) rfl rfl (λe p O h=>by(
   have h:=h.fn;have x0:=(h.ah 2 rfl).cell 0;have f:=(h.ah 2 rfl).frozen;have Z:=(h.fi 2).br 0 (iI g) #[iI g];exact⟨_,gS,Z.fk⟩)) ?_
  simp only[Act.put];refine ax ?_;intro e w1 h;have h:=h.fn;have V:=aa (λu=>Qe R j S W ge C a ring false g u _ (h.pk 5 [0,4,1,2,3]));clear h d
  go_wp2_with fail
  refine leaves_cons (f:=227) (args:= #[pO ge,pO C]) acy adl ?_;refine(V _).mono ?_;rintro e u' w9⟨rfl,rfl,h⟩;have y0:=(h.ah 1 rfl).cell 0;refine⟨iI g,aL rfl _ rfl ?_,by rw[U.out];try rfl,?_⟩
  ·go_simp
  ·rw[U.out,z.out,t.out]
   exact h.sub
theorem JM.pS(J:JM):Bytes J.slot:=((cg _ _).append (cg _ _)).append (cg _ _)
theorem Qf{M:Nat->Rg}{k:Nat}(y:dB D k)(H:Yu M):dB (uA M D J a) (k+23)/\(uA M D J a).n=D.n:=by
 have h:=Gn a y H.pb H.pl;unfold uA Pt
 split
 ·exact⟨h.1.save _ (JM.pS _),by rw[LM];exact h.2⟩
 ·exact⟨h.1.mono oM,h.2⟩
theorem Rj{M:Nat->Rg}(h:zZ M D J a=0):Bl M D J a=J.trim:=by
 unfold zZ at h;unfold Bl
 split at h
 ·rename_i K;exact iP K
 ·rename_i K;exact absurd h K
def Au(M:Nat->Rg)(D:DS)(J:JM)(a:Int)(ring:Nat):DS:=if ring<=J.held.length then uA M D J a else D
def AP(M:Nat->Rg)(D:DS)(J:JM)(a:Int)(ring:Nat):JM:=if ring<=J.held.length then Bl M D J a else J
def vK(M:Nat->Rg)(D:DS)(J:JM)(a:Int)(ring:Nat):Int:=if ring<=J.held.length then zZ M D J a else 0
def rY(D:DS)(J:JM)(b:LI):DS:=if J.wE D b=0 then(J.CH D b).sync else J.CH D b
def CQ(D:DS)(J:JM)(b:LI):Int:=if(rY D J b).down=true then 43 else J.wE D b
def RT(M:Nat->Rg)(D:DS)(J:JM)(a:Int)(ring:Nat)(b:LI):Int:=if vK M D J a ring=0 then CQ (Au M D J a ring) (AP M D J a ring) b else vK M D J a ring
def KT(M:Nat->Rg)(D:DS)(J:JM)(a:Int)(ring:Nat)(b:LI):DS:=if vK M D J a ring=0 then rY (Au M D J a ring) (AP M D J a ring) b else Au M D J a ring
def Pb(M:Nat->Rg)(D:DS)(J:JM)(a:Int)(ring:Nat)(b:LI):JM:=if vK M D J a ring=0 then(AP M D J a ring).oU b else AP M D J a ring
def OT(M:Nat->Rg)(D:DS)(J:JM)(a:Int)(ring:Nat)(b:LI):Bool:=if vK M D J a ring=0 then(rY (Au M D J a ring) (AP M D J a ring) b).down else vK M D J a ring==43
theorem xX{I:aH}{L:List aw}(R j S W ge C:Nat)(a:Int)(ring:Nat)(D:DS)(v:Int)(u:FrameMode)(w:World)(h:St I w (ab R 151 (jb j S W a ring false)::ab ge 32 #[iI v]::ab C 118 #[pO R]::da j D::L)):
 CallsD prog 219 #[pO C,pO ge] u w λe b O=>b=u/\(e= .returned (.tuple #[])/\St I O (ab R 151 (jb j S W a ring D.down)::ab ge 32 #[iI (if D.down=true then 43 else v)]::ab C 118 #[pO R]::da j D::L)):=by
 obtain⟨z,_,_,_,_,_,_⟩:=tN (h.ah 0 rfl);have i:=(h.ah 2 rfl).cell 0;have H:=aa (h.pk 4 [3,0,1,2]);clear h
 cases q:D.down with
 |true=>
  go_enter_d func219,ntmps219
  go_wp2_with (go_at_call 119;refine qK (ya H) λl h=>?_;rw[q];clear z i H;obtain⟨_,_,_,_,_,_,y⟩:=tN (h.ah 1 rfl);have f6:=(h.ah 1 rfl).frozen;have G:=(h.ah 2 rfl).cell 0;have f0:=(h.ah 2 rfl).frozen;have i:=(h.ah 3 rfl).cell 0;have V:=(h.fi 2).br 0 (iI 43) #[iI 43];obtain⟨_,_,_,_,_,_,d⟩:=tN (V.ah 2 rfl);have N:=aa ((V.fi 2).br 6 (.bool true) (jb j S W a ring true));clear h V)
  go_end0
  exact⟨rfl,N.sub⟩
 |false=>
  go_enter_d func219,ntmps219
  go_wp2_with (go_at_call 119;refine qK (ya H) λl h=>?_;rw[q];have N:=aa h;clear z i H h)
  go_end0
  exact⟨rfl,N.sub⟩
theorem Im{k:Nat}(y:dB D k)(B:Bytes b):dB (J.CH D b) (k+1)/\(J.CH D b).n=D.n:=⟨y.write _ (er _ _ B),DS.zu _ _ _⟩
theorem Xq{I:aH}{L:List aw}(hT:ml I)(R j S c kk:Nat)(a:Int)(ring:Nat)(M:Nat->Rg)(D:DS)(J:JM)(r:RQ)(A1:OA)(n1 c1:Nat)(w:World)(hD:dB D kk)(B1:kk<=700000)(hM:Yu M)(hJ:vR J)(hf:J.first+(J.held.length:Nat)<=4000000000)(ha:0<=a/\a+44<=(D.n:Int))(hj:0<=J.at_/\J.at_+1<(D.n:Int))(V0:r.ok)(hg:J.n=ring)(hb:Bytes (aY r))(hl:(aY r).length<=43)
 (h:St I w (ai .u8 (.slice A1 n1 c1) r.data::ab R 151 (jb j S c a ring false)::jR S j J::dL c M::da j D::L)):
 Rt I w 202 #[pO R,nQ r (.slice A1 n1 c1)] (iI (RT M D J a ring (aY r))) (ab R 151 (jb j S c a ring (OT M D J a ring (aY r)))::jR S j (Pb M D J a ring (aY r))::dL c M::da j (KT M D J a ring (aY r))::L):=by
 have C1:∀(fn:Fn) (first cap:Vq) (w:World),(Instr.makeFunc fn first cap).run prog w= .ok (.func fn first cap) w:=λ_ _ _ _=>rfl;have h1:=((h.alloc 118 #[pO R]).alloc 175 #[iI r.op,iI r.region,iI r.index,iU r.token,iW r.seq,.slice A1 n1 c1]).alloc 32 #[iI 0];simp only[World.size_alloc]at h1;obtain⟨n,U0⟩:=nM (w.heap.size);rw[<-U0]at h1;refine xH U0 h1 hD hM hJ ha λZ0 H1 HD HM HJ HA=>?_;refine xH hj hf V0 hb hl hg λY0 HF HR HB HL HG=>?_;clear h h1 hD hM hJ hf ha hj V0 hb hl hg U0
 go_enter_defers func202,ntmps202
 go_wp2_with fail
 rw[<-Z0.out];obtain⟨gr,X0⟩:=nM (n+1);obtain⟨ge,W0⟩:=nM (n+1+1);rw[<-W0,<-X0]at H1⊢;have h0:=H1.pk 6 [4,2,5,1,0,3];clear H1 W0 X0;refine ak (I:=I) (L0:=ab gr 175 #[iI r.op,iI r.region,iI r.index,iU r.token,iW r.seq,.slice A1 n1 c1]::ab ge 32 #[iI 0]::ai .u8 (.slice A1 n1 c1) r.data::dL c M::da j D::L) [⟨none,none,λe=>ab R 151 (jb j S c a ring false)⟩,⟨none,none,λe=>ab n 118 #[pO R]⟩,⟨none,none,λe=>jR S j J⟩] [[],[0],[0,1],rG 3,rG 4,[],[5],[5,6],[5,6,7],rG 9] (rG 10) rfl kR kR kR (by rfl) (λ_=>rfl) h0.fk ?_;refine AG ?_;refine aZ 217 (λe=> #[pO S]) (λe=> iI (J.held.length:Nat)) rfl (λe wx Lx h=>by(
  have h:=h.fn;refine(KV S j J _ (h.fi 2)).mono ?_;rintro C0 wy⟨rfl,h1⟩;exact⟨⟨none,0,default⟩,rfl,h1.fk⟩)) ?_
 simp only[aR];refine sO ?_;refine ax ?_;intro e w1 h;have h:=h.fn;have H2:=aa (h.pk 8 [0,2,6,7,1,3,4,5]);clear h h0;by_cases hc:ring<=J.held.length
 case pos=>
  have d0:decide ((ring:Int)<=(J.held.length:Int))=true:=decide_eq_true (by omega);have E0:decide (ring<=J.held.length)=true:=dZ hc;have O0:decide (J.held.length≥ring)=true:=E0;have i:=(H2.ah 4 rfl).cell 0;have P0:=aa hc;clear hc
  go_wp2_with fail
  refine qK (ZI hT R j S c kk a ring M D J _ HD oM HM HJ HF HA Y0 H2) λw3 h=>?_;clear d0 E0 O0 i;refine ib (show vK M D J a ring=zZ M D J a from iP P0) (show AP M D J a ring=Bl M D J a from iP P0) (show Au M D J a ring=uA M D J a from iP P0) λH0 Z B0=>?_;by_cases G:zZ M D J a=0
  case neg=>
   have p:¬vK M D J a ring=0:=by rw[H0.out];exact G
   refine mr (show RT M D J a ring (aY r)=zZ M D J a from(iN p).trans H0) (show KT M D J a ring (aY r)=uA M D J a from(iN p).trans B0) (show Pb M D J a ring (aY r)=Bl M D J a from(iN p).trans Z) (show OT M D J a ring (aY r)=(zZ M D J a==43)from(iN p).trans (by rw[H0.out])) λV l u T=>?_;have d1:(zZ M D J a !=0)=true:=by simpa using G
   clear G p;generalize zZ M D J a=e1 at*;have C:=(h.ah 6 rfl).cell 0;have y:=(h.ah 6 rfl).frozen;have P:=(h.fi 6).br 0 (iI e1) #[iI e1];have o:=aa P;clear h P H2
   go_wp2_with fail
   have y0:=(o.ah 0 rfl).cell 0;refine⟨iI e1,aL rfl _ rfl ?_,by rw[V.out];try rfl,?_⟩
   ·go_simp
   ·rw[T.out,u.out,l.out]
    exact o.sub
  case pos=>
   have p:vK M D J a ring=0:=by rw[H0.out];exact G
   obtain⟨q,Q⟩:∃x,x=Au M D J a ring:=⟨_,rfl⟩;obtain⟨k,B⟩:∃x,x=AP M D J a ring:=⟨_,rfl⟩;rw[<-B0.out,<-Z.out,<-Q,<-B,G]at h;rw[show((0:Int)==43)=false from rfl]at h;rw[G];have T0:k=J.trim:=by rw[B,Z.out];exact Rj G
   have K0:Hid (dB q (kk+23)):=by rw[Q,B0.out];exact(Qf HD HM).1
   have Q0:Hid (vR k):=by rw[T0];exact HJ.trim HF
   have R0:Hid (k.held.length<k.n):=by rw[T0];exact(show 0<J.n from HJ.n0.1)
   refine Cz (show RT M D J a ring (aY r)=CQ q k (aY r)from(iP p).trans (by rw[<-Q,<-B])) (show KT M D J a ring (aY r)=rY q k (aY r)from(iP p).trans (by rw[<-Q,<-B])) (show Pb M D J a ring (aY r)=k.oU (aY r)from(iP p).trans (by rw[<-B])) (show OT M D J a ring (aY r)=(rY q k (aY r)).down from(iP p).trans (by rw[<-Q,<-B])) (h.pk 8 [7,0,4,1,2,3,5,6]) λG0 F0 I0 J0 g=>?_;clear h G p T0 H2 Q B H0 Z B0;exact adQ
 case neg=>
  have d0:decide ((ring:Int)<=(J.held.length:Int))=false:=decide_eq_false (by omega);have E0:decide (ring<=J.held.length)=false:=dQ hc;have O0:decide (J.held.length≥ring)=false:=E0;have p:vK M D J a ring=0:=iN hc;obtain⟨q,Q⟩:∃x,x=Au M D J a ring:=⟨_,rfl⟩;obtain⟨k,B⟩:∃x,x=AP M D J a ring:=⟨_,rfl⟩;have B0:q=D:=Q.trans (iN hc);have Z:k=J:=B.trans (iN hc);refine mr (show RT M D J a ring (aY r)=CQ q k (aY r)from(iP p).trans (by rw[<-Q,<-B])) (show KT M D J a ring (aY r)=rY q k (aY r)from(iP p).trans (by rw[<-Q,<-B])) (show Pb M D J a ring (aY r)=k.oU (aY r)from(iP p).trans (by rw[<-B])) (show OT M D J a ring (aY r)=(rY q k (aY r)).down from(iP p).trans (by rw[<-Q,<-B])) λG0 F0 I0 J0=>?_;have K0:Hid (dB q (kk+23)):=by rw[B0];exact HD.mono oM
  have Q0:Hid (vR k):=by rw[Z];exact HJ.out
  have R0:Hid (k.held.length<k.n):=by rw[Z];show _<_;rw[HG.out];omega
  have g:=aa (H2.pk 8 [7,0,4,1,2,3,5,6]);rw[<-B0,<-Z]at g;clear p H2 Q B Z B0;exact adQ
structure SM where
 M:Nat->Rg
 D:DS
 J:JM
 dn:Bool
def SM.lg(s:SM)(r:RQ):Bool:= !s.dn&&(aC s.M r).2==0&&(aC s.M r).1
def SM.IG(s:SM)(a:Int)(ring:Nat)(r:RQ):Int:=if s.lg r=true then RT s.M s.D s.J a ring (aY r)else 0
def SM.nH(s:SM)(a:Int)(ring:Nat)(r:RQ):Int:=if s.dn=true then 43 else if s.IG a ring r=0 then(aC s.M r).2 else s.IG a ring r
def SM.AQ(s:SM)(a:Int)(ring:Nat)(r:RQ):SM:=if s.lg r=true then⟨s.M,KT s.M s.D s.J a ring (aY r),Pb s.M s.D s.J a ring (aY r),OT s.M s.D s.J a ring (aY r)⟩else s
def SM.kd(s:SM)(a:Int)(ring:Nat)(r:RQ):SM:=if s.nH a ring r=0 then{s.AQ a ring r with M:=gJ s.M r}else s.AQ a ring r
def SM.mR(s:SM)(a:Int)(ring:Nat)(r:RQ):List (LI):=if s.nH a ring r=0 then Go.Proofs.YtblpaldggenbaaaGreatDoor.mR s.M r else []
structure Yr(s:SM)(a:Int)(ring kk:Nat):Prop where
 d:dB s.D kk
 m:Yu s.M
 j:vR s.J
 f:s.J.first+(s.J.held.length:Nat)<=4000000000
 a0:0<=a/\a+44<=(s.D.n:Int)
 j0:0<=s.J.at_/\s.J.at_+1<(s.D.n:Int)
 g:s.J.n=ring
def eV(R j S W:Nat)(a:Int)(ring:Nat)(s:SM)(L:List aw):List aw:=ab R 151 (jb j S W a ring s.dn)::jR S j s.J::dL W s.M::da j s.D::L
theorem St.tC{I:aH}{w:World}{L:List aw}(h:St I w L):St I w (aB 1 dP sN []::L):=
 St.cZ (f:=λb=>aS (λw=>bF w 1 dP sN b [])) (λ_=>[]) (h.bG (λ_w' _=>bF.none_ _ _ _ _))
theorem XA{I:aH}{L:List aw}(hT:ml I)(X j S W F:Nat)(a:Int)(ring:Nat)(s:SM)(r:RQ)(R:OA)(T Y:Nat)(w:World)(I0:F<=700000)(hS:Yr s a ring F)(G:r.ok)(hb:Bytes (aY r))(hl:(aY r).length<=43)
 (h:St I w (ai .u8 (.slice R T Y) r.data::eV X j S W a ring s L)):
 Calls prog 169 #[pO X,nQ r (.slice R T Y)] w λe H0=>∃E,e= .returned (.tuple #[E,iI (s.nH a ring r)])/\St I H0 (aB 1 dP E (s.mR a ring r)::eV X j S W a ring (s.kd a ring r) L):=by
 obtain⟨M,D,J,dn⟩:=s;have C0:T=r.data.length:=(h.get 0 rfl).sl.1;have G0:=aa C0;have h:St I w (ai .u8 (.slice R T Y) r.data::ab X 151 (jb j S W a ring dn)::jR S j J::dL W M::da j D::L):=h;have Z:=h.alloc 175 #[iI r.op,iI r.region,iI r.index,iU r.token,iW r.seq,.slice R T Y];obtain⟨_,_,_,_,_,_,x6⟩:=tN (Z.ah 2 rfl);obtain⟨i,k⟩:=nM (w.heap.size);rw[<-k]at Z;have Z:=Z.pk 5 [2,0,4,1,3];have F0:=aa k;have z:=Z;refine mr hS G hb hl λV K HB HL=>?_;clear h Z hS G hb hl k C0
 cases dn with
 |true=>
  refine ib z (show SM.nH ⟨M,D,J,true⟩ a ring r=43 from iP rfl) (show SM.lg ⟨M,D,J,true⟩ r=false from rfl) λE0 c o=>?_;clear z
  go_enter func169,ntmps169
  go_wp2_with fail
  go_ret2
  refine⟨sN,by rw[c.out];try rfl,?_⟩;have u:SM.AQ ⟨M,D,J,true⟩ a ring r=⟨M,D,J,true⟩:=iN adb;have P:SM.kd ⟨M,D,J,true⟩ a ring r=⟨M,D,J,true⟩:=(iN (by rw[c.out];decide)).trans u;have t:SM.mR ⟨M,D,J,true⟩ a ring r=[]:=iN (by rw[c.out];decide);rw[P,t];exact(E0.tC).sub acB
 |false=>
  go_enter func169,ntmps169
  go_wp2_with fail
  rw[<-F0.out];clear x6;obtain⟨q,B0⟩:∃x,(aC M r).2=x:=⟨_,rfl⟩;obtain⟨cb,A0⟩:∃x,(aC M r).1=x:=⟨_,rfl⟩;refine bm B0 A0 λn A=>?_;clear B0 A0;refine ak (I:=I) (L0:=ai .u8 (.slice R T Y) r.data::jR S j J::da j D::L) [⟨none,none,λe=>ab X 151 (jb j S W a ring false)⟩,⟨none,none,λe=>ab i 175 #[iI r.op,iI r.region,iI r.index,iU r.token,iW r.seq,.slice R T Y]⟩,⟨none,none,λe=>dL W M⟩] [[],[0],[0,1],rG 3,[],rG 5,rG 6,rG 7,rG 7,rG 8,rG 10] (rG 11) rfl kR kR kR (by rfl) (λ_=>rfl) z.fk ?_;refine sO ?_;refine aZ 144 (λe=> #[pO W,nQ r (.slice R T Y)]) (λe=> .tuple #[.bool cb,iI q]) rfl (λe wx Lx h=>by(
   have h:=h.fn;refine(Fc W M r R T Y _ K V.m.ok G0 (h.fi 2)).mono ?_;rintro D0 wy⟨rfl,Z⟩;rw[A.out,n.out];exact⟨⟨none,0,default⟩,rfl,Z.fk⟩)) ?_
  simp only[aR];refine sO ?_;refine ax ?_;intro e w1 h;have h:=h.fn;have N:=aa (h.pk 6 [0,1,4,2,5,3]);clear h z;by_cases H:q=0
  case neg=>
   have d0:(q==0)=false:=by simpa using H
   have d1:(q !=0)=true:=by simpa using H
   have o:=aa (show SM.lg ⟨M,D,J,false⟩ r=false by unfold SM.lg;simp only[n.out];simp[d0]);have U:Hid (SM.IG ⟨M,D,J,false⟩ a ring r=0):=iN adb;refine bm (show SM.nH ⟨M,D,J,false⟩ a ring r=q from((iN gV).trans (iP U)).trans n) H λc g=>?_;clear H
   go_wp2_with fail
   go_ret2
   refine⟨sN,by rw[c.out];try rfl,?_⟩;have u:SM.AQ ⟨M,D,J,false⟩ a ring r=⟨M,D,J,false⟩:=iN adb;have P:SM.kd ⟨M,D,J,false⟩ a ring r=⟨M,D,J,false⟩:=(iN adh).trans u;have t:SM.mR ⟨M,D,J,false⟩ a ring r=[]:=iN adh;rw[P,t];exact(N.tC).sub acB
  case pos=>
   subst H;have B:=n
   cases cb with
   |false=>
    have o:=aa (show SM.lg ⟨M,D,J,false⟩ r=false by unfold SM.lg;simp only[n.out,A.out];rfl);have U:Hid (SM.IG ⟨M,D,J,false⟩ a ring r=0):=iN adb;have c:Hid (SM.nH ⟨M,D,J,false⟩ a ring r=0):=((iN gV).trans (iP U)).trans n;have u:SM.AQ ⟨M,D,J,false⟩ a ring r=⟨M,D,J,false⟩:=iN adb;refine bm (show SM.kd ⟨M,D,J,false⟩ a ring r=⟨gJ M r,D,J,false⟩from(iP c).trans (by rw[u])) (show SM.mR ⟨M,D,J,false⟩ a ring r=Go.Proofs.YtblpaldggenbaaaGreatDoor.mR M r from iP c) λy b=>?_;clear u
    go_wp2_with fail
    refine ak (I:=I) (L0:=jR S j J::da j D::L) [⟨none,none,λe=>ab X 151 (jb j S W a ring false)⟩,⟨none,none,λe=>ab i 175 #[iI r.op,iI r.region,iI r.index,iU r.token,iW r.seq,.slice R T Y]⟩,⟨none,some 5,λe=>dL W M⟩,⟨none,none,λe=>ai .u8 (.slice R T Y) r.data⟩,⟨some 5,none,λe=>dL W (gJ M r)⟩,⟨some 5,none,λe=>aB 1 dP (e 5).v (Go.Proofs.YtblpaldggenbaaaGreatDoor.mR M r)⟩] [[],[0],[0,1],rG 3,[],rG 5,rG 6,rG 6,rG 8,rG 9] (rG 10) rfl kR kR kR (by rfl) (λ_=>rfl) N.fk ?_;refine sO ?_;refine aZ 92 (λe=> #[pO W,nQ r (.slice R T Y)]) (λe=> .tuple #[(e 5).v,iI 0]) rfl (λe wx Lx h=>by(
     have h:=h.fn;refine(Ql W M r R T Y _ K V.m.ok (((h.jT (Q:=λw=>aA w .u8 (.slice R T Y) r.data)).fi 3).fi 1)).mono ?_;rintro D0 wy⟨E,rfl,Z⟩;rw[B.out];exact⟨⟨none,0,E⟩,rfl,Z.fk⟩)) ?_
    exact aei
   |true=>
    have o:=aa (show SM.lg ⟨M,D,J,false⟩ r=true by unfold SM.lg;simp only[n.out,A.out];rfl);obtain⟨le,p⟩:∃x,x=RT M D J a ring (aY r):=⟨_,rfl⟩;refine bm (show SM.IG ⟨M,D,J,false⟩ a ring r=le from(iP o).trans p.symm) (show SM.AQ ⟨M,D,J,false⟩ a ring r=⟨M,KT M D J a ring (aY r),Pb M D J a ring (aY r),OT M D J a ring (aY r)⟩from iP o) λU u=>?_;have l:Hid (SM.nH ⟨M,D,J,false⟩ a ring r=if le=0 then(aC M r).2 else le):=(iN gV).trans (by rw[U.out]);obtain⟨r0,r1,r2,r3,r4,r5⟩:=(N.ah 1 rfl).ni;have O:=aa p;clear p
    go_wp2_with fail
    refine qK (Xq hT X j S W F a ring M D J r R T Y _ V.d I0 V.m V.j V.f V.a0 V.j0 K V.g HB HL ((N.jT (Q:=λw=>aA w .u8 (.slice R T Y) r.data)).pk 7 [0,1,3,4,5,6,2])) λw4 h=>?_;rw[<-O.out];clear r0 r1 r2 r3 r4 r5 N O;generalize KT M D J a ring (aY r)=D2 at*;generalize Pb M D J a ring (aY r)=J2 at*;generalize OT M D J a ring (aY r)=n2 at*;by_cases H:le=0
    case neg=>
     have d1:(le !=0)=true:=by simpa using H
     refine ib (l.trans (iN H)) h H λc H5 g=>?_;clear h H
     go_wp2_with fail
     go_ret2
     refine⟨sN,by rw[c.out];try rfl,?_⟩;have P:SM.kd ⟨M,D,J,false⟩ a ring r=⟨M,D2,J2,n2⟩:=(iN adh).trans u.out;have t:SM.mR ⟨M,D,J,false⟩ a ring r=[]:=iN adh;rw[P,t];exact(H5.tC).sub acB
    case pos=>
     have c:Hid (SM.nH ⟨M,D,J,false⟩ a ring r=0):=(l.trans (iP H)).trans n;refine ib (show SM.kd ⟨M,D,J,false⟩ a ring r=⟨gJ M r,D2,J2,n2⟩from(iP c).trans (by rw[u.out])) (show SM.mR ⟨M,D,J,false⟩ a ring r=Go.Proofs.YtblpaldggenbaaaGreatDoor.mR M r from iP c) (h.pk 6 [0,5,2,4,1,3]) λy b H4=>?_;subst H;clear h
     go_wp2_with fail
     refine ak (I:=I) (L0:=jR S j J2::da j D2::L) [⟨none,none,λe=>ab X 151 (jb j S W a ring n2)⟩,⟨none,none,λe=>ab i 175 #[iI r.op,iI r.region,iI r.index,iU r.token,iW r.seq,.slice R T Y]⟩,⟨none,some 5,λe=>dL W M⟩,⟨none,none,λe=>ai .u8 (.slice R T Y) r.data⟩,⟨some 5,none,λe=>dL W (gJ M r)⟩,⟨some 5,none,λe=>aB 1 dP (e 5).v (Go.Proofs.YtblpaldggenbaaaGreatDoor.mR M r)⟩] [[],[0],[0,1],rG 3,[],rG 5,rG 6,rG 6,rG 8,rG 9] (rG 10) rfl kR kR kR (by rfl) (λ_=>rfl) H4.fk ?_;refine sO ?_;refine aZ 92 (λe=> #[pO W,nQ r (.slice R T Y)]) (λe=> .tuple #[(e 5).v,iI 0]) rfl (λe wx Lx h=>by(
      have h:=h.fn;refine(Ql W M r R T Y _ K V.m.ok (((h.jT (Q:=λw=>aA w .u8 (.slice R T Y) r.data)).fi 3).fi 1)).mono ?_;rintro D0 wy⟨E,rfl,Z⟩;rw[B.out];exact⟨⟨none,0,E⟩,rfl,Z.fk⟩)) ?_
     exact aei
theorem xy(T U:List α)(o k:Nat)(h:o+U.length<=T.length):(bh T o U)[k]? =if o<=k/\k<o+U.length then U[k-o]? else T[k]? :=by
 unfold bh;by_cases Z:k<o
 ·rw[iN oM,nX,Uu acT,AH,iP Z]
 ·rw[nX,OU acT,fJ,Ho oM]
  by_cases V:k<o+U.length
  ·rw[iP oM,Uu oM]
  ·rw[iN oM,OU oM,xV]
   exact aeC
theorem WQ{s v:LI}{i:Nat}(j:Nat)(K:v.length=64)(U:i*64+64<=s.length):((bh s (i*64) v).drop (j*64)).take 64=if j=i then v else(s.drop (j*64)).take 64:=by
 apply YB;intro k;rw[AH]
 split
 ·rename_i F
  rw[xV,xy _ _ _ _ oM];by_cases S:j=i
  ·subst S
   rw[iP oM,iP rfl,zcE]
  ·rw[iN oM,iN S,AH,iP F,xV]
 ·rename_i F
  split
  ·rw[KP oM]
  ·rw[KP acT]
structure Live(D:DS):Prop where
 ok:D.ok
 fz:D.gG= -1
 dn:D.down=false
theorem Live.after(h:Live D):D.after=D:=by
 obtain⟨n,g,b,Q,a,k⟩:=D;have Z:a= -1:=h.fz;have V:k=false:=h.dn;subst Z;subst V
 rfl
theorem Live.goes(h:Live D):D.goes=true:=by
 unfold DS.goes;rw[h.dn,h.fz]
 rfl
theorem Live.put(h:Live D)(K:0<=i)(W:i<(D.n:Int))(B:b.length<=64):D.eU i b=0/\D.write i b=D.put i.toNat b:=by
 have Z:¬(i<0\/(D.n:Int)<=i):=oM
 have V:¬64<b.length:=oM
 unfold DS.eU DS.write;rw[iN Z,iN V,iP h.goes,iN Z,iN V,iP h.goes,h.after];exact adZ
theorem Live.write(h:Live D)(K:0<=i)(W:i<(D.n:Int))(B:b.length<=64):D.eU i b=0/\Live (D.write i b)/\∀j,(D.write i b).read j=if j=i then full b else D.read j:=by
 obtain⟨Z,V⟩:=h.put K W B;refine⟨Z,⟨h.ok.write i b,by rw[V];exact h.fz,by rw[V];exact h.dn⟩,λj=> ?_⟩;rw[V];unfold DS.read;by_cases N:j<0\/(D.n:Int)<=j
 ·have I:¬j=i:=oM
  rw[iN I];show(if j<0\/(D.n:Int)<=j then []else _)=_;rw[iP N,iP N]
 ·show(if j<0\/(D.n:Int)<=j then []else _)=_
  rw[iN N,iN N];show((bh D.seen (i.toNat*64) (full b)).drop (j.toNat*64)).take 64=_;have U:=h.ok.hs;rw[WQ j.toNat (jV B) oM];by_cases S:j=i
  ·rw[iP S,iP (by rw[S])]
  ·rw[iN S,iN oM]
   rfl
theorem Live.sync(h:Live D):Live D.sync/\D.sync.au=[]/\∀j,D.sync.read j=D.read j:=by
 have Z:D.sync={D with sure:=qT D.sure D.au,au:=[]}:=by
  unfold DS.sync;rw[iP h.goes,h.after]
 refine⟨⟨h.ok.sync,by rw[Z];exact h.fz,by rw[Z];exact h.dn⟩,by rw[Z],λj=> ?_⟩;rw[Z]
 rfl
theorem mN{x:Int}{k:Nat}(K:0<=x)(Z:x<256^k):ik (aT x k)=x:=by
 obtain⟨n,rfl⟩:=zY K;rw[Gy];have V:n<256^k:=by
  have M:((256^k:Nat):Int)=(256:Int)^k:=Int.natCast_pow 256 k;rw[<-M]at Z;exact Int.ofNat_lt.1 Z
 rw[Wg V]
theorem kG{T R:List α}{k:Nat}(h:T.length=k):(T++R).take k=T:=by rw[<-h,XL]
theorem mg{T R:List α}{k:Nat}(h:T.length=k):(T++R).drop k=R:=by rw[<-h,Ym]
theorem xR(h:b.length=64):full b=b:=by
 unfold full bV;rw[h];exact acy
theorem lW(P:0<q/\q<4294967296)(Y:0<=e/\e<4294967296)(B:b.length<=43):cQ (aP q e b)=⟨q,e,b,true⟩:=by
 have C:=dE q e B;have H:=pL q e B;obtain⟨s,U⟩:=nM (aP q e b);have M:(aP q e b).drop 52=aT (rp (lP q e b)) 4++aT q 4++aT e 4:=mg H;have t0:(aP q e b).take 52=lP q e b:=kG H;have k:aP q e b=aT q 4++(aT e 4++(aT (b.length:Nat) 1++(b++(bV (43-b.length)++(aT (rp (lP q e b)) 4++aT q 4++aT e 4))))):=by
  unfold aP lP;simp only[nX]
 have d4:(aP q e b).drop 4=aT e 4++(aT (b.length:Nat) 1++(b++(bV (43-b.length)++(aT (rp (lP q e b)) 4++aT q 4++aT e 4)))):=by rw[k];exact mg (aq _ _)
 have d8:(aP q e b).drop 8=aT (b.length:Nat) 1++(b++(bV (43-b.length)++(aT (rp (lP q e b)) 4++aT q 4++aT e 4))):=by
  rw[show(8:Nat)=4+4 from rfl,<-Fj,d4];exact mg (aq _ _)
 have d9:(aP q e b).drop 9=b++(bV (43-b.length)++(aT (rp (lP q e b)) 4++aT q 4++aT e 4)):=by
  rw[show(9:Nat)=8+1 from rfl,<-Fj,d8];exact mg (aq _ _)
 have d56:(aP q e b).drop 56=aT q 4++aT e 4:=by
  rw[show(56:Nat)=52+4 from rfl,<-Fj,M,nX];exact mg (aq _ _)
 have d60:(aP q e b).drop 60=aT e 4:=by
  rw[show(60:Nat)=56+4 from rfl,<-Fj,d56];exact mg (aq _ _)
 have i:(256:Int)^4=4294967296:=dC
 have O:mv (aP q e b)=q:=by
  show ik (((aP q e b).drop 0).take 4)=q;rw[AW,k,kG (aq _ _)];exact mN oM (by rw[i];omega)
 have d:np (aP q e b)=e:=by
  show ik (((aP q e b).drop 4).take 4)=e;rw[d4,kG (aq _ _)];exact mN oM (by rw[i];omega)
 have n:xP (aP q e b)=(b.length:Nat):=by
  show ik (((aP q e b).drop 8).take 1)=_;rw[d8,kG (aq _ _)];exact mN oM acQ
 have w:IM (aP q e b)=rp (lP q e b):=by
  show ik (((aP q e b).drop 52).take 4)=_;rw[M,nX,kG (aq _ _)];have:=zj (lP q e b);exact mN this.1 (by rw[i];omega)
 have c:jh (aP q e b)=q:=by
  show ik (((aP q e b).drop 56).take 4)=q;rw[d56,kG (aq _ _)];exact mN oM (by rw[i];omega)
 have j:kX (aP q e b)=e:=by
  show ik (((aP q e b).drop 60).take 4)=e;rw[d60,nS (by rw[aq];exact g9 _)];exact mN oM (by rw[i];omega)
 have a:jS (aP q e b)=true:=by
  unfold jS;rw[O,d,n,w,c,j,t0,C];have Z:(q==0)=false:=by simpa using(show¬q=0 by omega)
  have V:decide (((b.length:Nat):Int)>43)=false:=decide_eq_false (by omega);rw[Z,V];exact acy
 have X:tf (aP q e b)=b:=by
  show((aP q e b).drop 9).take (xP (aP q e b)).toNat=b;rw[n,d9,qG];exact kG rfl
 unfold cQ;rw[iP a,O,d,X]
theorem nz(D:DS)(a:Int):aK D a=eR D (a+1) (eR D a ⟨a+1,0,[]⟩):=by
 show eR D (a+((1:Nat):Int)) (eR D (a+((0:Nat):Int)) ⟨a+1,0,[]⟩)=_;rw[show a+((0:Nat):Int)=a from WY a]
 rfl
theorem nW{D E:DS}(h:E.read i=D.read i):cn E i=cn D i:=by unfold cn;rw[h]
theorem fS{D E:DS}(K:E.read a=D.read a)(Z:E.read (a+1)=D.read (a+1)):aK E a=aK D a:=by
 rw[nz,nz];unfold eR;rw[nW K,nW Z]
theorem zW{D E:DS}(h:aK E a=aK D a):gZ E a=gZ D a/\j8 E a=j8 D a:=by
 unfold gZ j8;rw[h];exact adZ
theorem IU{D E:DS}(h:aK E a=aK D a):cJ E a=cJ D a:=by
 unfold cJ;rw[(zW h).1,(zW h).2]
theorem oC(D:DS)(a:Int):dh D a=a\/dh D a=a+1:=by
 unfold dh;rcases mX D a 2 oM with h|h
 ·have h:(aK D a).at_=a:=h
  rw[h];omega
 ·have h:(aK D a).at_=a+1:=h
  rw[h];omega
theorem tY(B:Bytes D.seen)(a:Int):0<=(aK D a).q/\(aK D a).q<4294967296:=⟨(iG B a 2).1,(iG B a 2).2.1⟩
theorem Fv{D E:DS}{a q:Int}(d:q=(aK D a).q+1)(K:0<=(aK D a).q)(G:∀j,cn E j=if j=dh D a then⟨q,0,b,true⟩else cn D j):aK E a=⟨dh D a,q,b⟩:=by
 have N:dh D a=2*a+1-(aK D a).at_:=rfl;have g:=nz D a;rw[nz E a];obtain⟨x,J⟩:=nM (eR D a ⟨a+1,0,[]⟩);rw[<-J]at g;by_cases o:dh D a=a
 ·
  have S:eR E a ⟨a+1,0,[]⟩=⟨a,q,b⟩:=by
   unfold eR;rw[show cn E a=⟨q,0,b,true⟩from(G _).trans (iP o.symm)];rw[iP ⟨rfl,by show q>0;omega⟩]
  rw[S,o];unfold eR;rw[show cn E (a+1)=cn D (a+1)from(G _).trans (iN oM)];refine iN ?_;rintro⟨Z,V⟩;have V:(cn D (a+1)).q>q:=V;have M:(aK D a).q≥(cn D (a+1)).q:=by
   rw[g];unfold eR
   split
   ·exact ef _
   ·rename_i W
    have:¬(cn D (a+1)).q>x.q:=λh=>W ⟨Z,h⟩;omega
  omega
 ·have X:dh D a=a+1:=(oC D a).resolve_left o
  have S:eR E a ⟨a+1,0,[]⟩=x:=by
   rw[J];unfold eR;rw[show cn E a=cn D a from(G _).trans (iN oM)]
  rw[S,X];unfold eR;rw[show cn E (a+1)=⟨q,0,b,true⟩from(G _).trans (iP X.symm)];refine iP ⟨rfl,?_⟩;show q>x.q;have M:(aK D a).q≥x.q:=by
   rw[g];unfold eR
   split
   ·rename_i W;show(cn D (a+1)).q≥x.q;omega
   ·exact ef _
  omega
theorem Live.save(h:Live D)(B:Bytes D.seen)(Q:0<=a/\a+1<(D.n:Int))(C:b.length<=43)(d:(aK D a).q<4294967295):
 g7 D a b=0/\Live (cE D a b)/\(cE D a b).au=[]/\aK (cE D a b) a=⟨dh D a,(aK D a).q+1,b⟩/\∀j,j≠a->j≠a+1->(cE D a b).read j=D.read j:=by
 have K:=tY B a;have U:=h.sync;have F:(lL D a b).length=64:=dE _ _ C;have I:¬(aK D a).q=4294967295:=oM
 have N:=oC D a;have W:D.sync.n=D.n:=DS.kI D;obtain⟨l,X,Y⟩:=U.1.write (i:=dh D a) (b:=lL D a b) oM (by rw[W];omega) oM;have q:qb D a b=0:=(iN I).trans l;have y:qn D a b=D.sync.write (dh D a) (lL D a b):=iN I;have z:cE D a b=(D.sync.write (dh D a) (lL D a b)).sync:=(iP q).trans (by rw[y]);have E:=X.sync;have M:∀j,(cE D a b).read j=if j=dh D a then lL D a b else D.read j:=by
  intro j;rw[z,E.2.2 j,Y j,xR F]
  split
  ·rfl
  ·exact U.2.2 j
 refine⟨?_,by rw[z];exact E.1,by rw[z];exact E.2.1,?_,?_⟩
 ·unfold g7
  rw[iP q,y,E.1.dn]
  rfl
 ·refine Fv rfl K.1 (λj=> ?_)
  unfold cn;rw[M j]
  split
  ·exact lW oM oM C
  ·rfl
 ·intro j Z V
  rw[M j,iN oM]
theorem sG(h:b.length<=24):(bE b).length<=26:=by
 unfold bE;rw[eG,aq,fJ];omega
theorem Li:∀(l:List (LI)),(∀x∈l,x.length<=24)->(l.flatMap bE).length<=l.length*26
 |[],_=>by simp
 |x::r,h=>by
  have Z:=sG (h x acy);have V:=Li r (λy E=>h y (Dl _ E));rw[Bo,eG,oO];omega
theorem vh{x:Rg}(h:x.ok):(gF x).length<=221:=by
 have N:=sG (h.bb 0);have d:=sG (h.bb 1);have g:=sG (h.bb 2);have Q:=sG (h.bb 3);have C:=Li x.log h.lb;have H:=h.ll;have i:=dM x.aE 8;have O:(bL x.seq 4).length=4:=by rw[uO,aq]
 have J:(bL (x.log.length:Nat) 1).length=1:=by rw[LR,aq]
 unfold gF;simp only[eG];omega
structure MB(m:Nat->Rg):Prop where
 b:∀k j,Bytes ((m k).b j)
 l:∀k,∀x∈(m k).log,Bytes x
theorem MB.tA:MB tA:=⟨λ_ _=>Bytes.nil,λ_ x J=>by simp[Go.Proofs.YtblpaldggenbaaaGreatDoor.tA,Rg.zero]at J⟩
theorem tp:∀(l:List (LI)),(∀x∈l,Bytes x)->Bytes (l.flatMap bE)
 |[],_=>Bytes.nil
 |x::r,h=>by
  rw[Bo];exact(kV (h x acy)).append (tp r (λy E=>h y (Dl _ E)))
theorem pM{m:Nat->Rg}(h:MB m)(k:Nat):Bytes (gF (m k)):=by
 unfold gF;exact(((((((iB _ _).append (iB _ _)).append (kV (h.b k 0))).append (kV (h.b k 1))).append (kV (h.b k 2))).append (kV (h.b k 3))).append (iB _ _)).append (tp _ (h.l k))
theorem MB.Uo{m:Nat->Rg}(h:MB m)(H:∀k,(m k).ok):Yu m:=by
 have e:bj m=((([]++gF (m 0))++gF (m 1))++gF (m 2))++gF (m 3):=by
  show iX m 4=_;rw[cR,cR,cR,cR]
  rfl
 refine⟨H,?_,?_⟩
 ·rw[e]
  simp only[eG,OV];have K:=vh (H 0);have Z:=vh (H 1);have V:=vh (H 2);have M:=vh (H 3);omega
 ·rw[e]
  exact(((Bytes.nil.append (pM h 0)).append (pM h 1)).append (pM h 2)).append (pM h 3)
theorem MB.gJ{m:Nat->Rg}{r:RQ}(h:MB m)(G:Bytes r.data):MB (gJ m r):=by
 unfold Go.Proofs.YtblpaldggenbaaaGreatDoor.gJ
 split
 ·refine⟨λk j=> ?_,λk x J=> ?_⟩
  ·unfold aJ
   split
   ·show Bytes ((if r.op=2 then aJ _ r.index.toNat r.data else _) j)
    split
    ·unfold aJ
     split
     ·exact G
     ·exact h.b _ j
    ·exact h.b _ j
   ·exact h.b k j
  ·unfold aJ at J
   split at J
   ·have J:x∈(if r.op=4 then(m r.region.toNat).log++[r.data]else if r.op=5 then(m r.region.toNat).log.drop r.index.toNat else(m r.region.toNat).log):=J
    split at J
    ·rcases lU.1 J with J|J
     ·exact h.l _ x J
     ·rw[lA.1 J];exact G
    ·split at J
     ·exact h.l _ x (Ud J)
     ·exact h.l _ x J
   ·exact h.l k x J
 ·exact h
theorem TE{m:SB}(h:0<=m.ar/\m.ar<=1)(W:0<=m.nu/\m.nu<4294967296)(U:0<=m.sz/\m.sz<65536)(F:m.ok=true):nU (eX m)=m:=by
 have S:(Rd.mk (eX m) false).num 1=(m.ar,⟨aT m.nu 4++aT m.sz 2,false⟩):=by
  have:=Rd.iR (eX m) 1 oM oM (by rw[qi];omega);rw[show((1:Nat):Int)=1 from rfl]at this;rw[this];unfold eX;rw[nX,kG (aq _ _),mg (aq _ _),mN h.1 acQ]
 have P:(⟨aT m.nu 4++aT m.sz 2,false⟩:Rd).num 4=(m.nu,⟨aT m.sz 2,false⟩):=by
  have:=Rd.iR (aT m.nu 4++aT m.sz 2) 4 oM oM (by rw[eG,aq];omega);rw[show((4:Nat):Int)=4 from rfl]at this;rw[this,kG (aq _ _),mg (aq _ _),mN W.1 (by rw[show(256:Int)^4=4294967296 by decide];omega)]
 have t:(⟨aT m.sz 2,false⟩:Rd).num 2=(m.sz,⟨[],false⟩):=by
  have:=Rd.iR (aT m.sz 2) 2 oM oM (by rw[aq];omega);rw[show((2:Nat):Int)=2 from rfl]at this;rw[this,nS (by rw[aq];omega),VY (by rw[aq];omega),mN U.1 (by rw[show(256:Int)^2=65536 by decide];omega)]
 have x:Dv (eX m)=⟨m.ar,m.nu,m.sz,true⟩:=by unfold Dv;rw[S,P,t]
 have r:(YH (eX m)).kx=0:=by unfold YH;rw[S,P,t];rfl
 unfold nU;rw[x,r,iN (by show¬((0:Int)≠0\/m.ar>1);omega)];obtain⟨d,g,E,ok⟩:=m;have F:ok=true:=F;subst F
 rfl
def SM.YF(s:SM)(a:Int):SM:=⟨s.M,uA s.M s.D s.J a,Bl s.M s.D s.J a,zZ s.M s.D s.J a==43⟩
theorem JM.qU(J:JM):J.slot.length=12:=by simp only[JM.slot,eG,aq]
theorem yl(r:RQ):(aY r).length<=43:=by
 unfold aY
 split
 ·rename_i U
  have:=RQ.gO U;have B:=sG this.2.2.2.2.2.2;unfold wm;simp only[eG];have O:∀x:Int,(bL x 1).length=1:=λx=>by rw[LR,aq]
  have D:∀x:Int,(bL x 4).length=4:=λx=>by rw[uO,aq]
  have a:=dM r.token 8;rw[O,O,O,D];omega
 ·exact jG _
theorem pP(T R:LI):ik (T++R)=ik T+256^T.length*ik R:=by
 induction T with
 |nil=>simp[ik]
 |cons x r K=>
  rw[MV,ik,ik,K,oO,zde,Int.mul_add,zdA (256^r.length) 256,Int.mul_assoc];omega
theorem KS{T R:LI}(J:Bytes T)(E:Bytes R)(C:T.length=R.length)(h:ik T=ik R):T=R:=by
 rw[<-zO J,<-zO E,h,C]
def ir(x s:LI)(p:Nat):LI:=x.take p++s.drop p
theorem xt{p:Nat}(J:x.length=64)(U:s.length=64):(ir x s p).length=64:=by
 unfold ir;rw[eG,fJ,km];omega
theorem AD{p:Nat}(J:Bytes x)(U:Bytes s):Bytes (ir x s p):=(J.take p).append (U.drop p)
theorem KJ{p o n:Nat}(h:o+n<=p)(J:p<=x.length):((ir x s p).drop o).take n=(x.drop o).take n:=by
 unfold ir;rw[Wi acT,VQ (by rw[km,fJ];omega),Yp,OR,Ho oM]
theorem ou{p o:Nat}(h:p<=o)(J:p<=x.length):(ir x s p).drop o=s.drop o:=by
 unfold ir;rw[zdg,VY acT,xL,fJ,Fj]
 exact aeC
theorem yu{p:Nat}(h:s.drop p=x.drop p):ir x s p=x:=by
 unfold ir;rw[h,IY]
theorem PD{p:Nat}(h:s.take p=x.take p):ir x s p=s:=by
 unfold ir;rw[<-h,IY]
theorem zz{o m:Nat}(y:m<=4)(J:o+4<=x.length)(_hs:o+4<=s.length):((ir x s (o+m)).drop o).take 4=((x.drop o).take 4).take m++((s.drop o).take 4).drop m:=by
 unfold ir;rw[Wi acT,Yp,zdc,fJ,km,OR,OR,Yp,Fj]
 congr 1
 ·congr 1;omega
 ·congr 1;omega
theorem px(s:LI)(o m:Nat)(U:o+4<=s.length)(y:m<=4):s.drop (o+m)=((s.drop o).take 4).drop m++s.drop (o+4):=by
 have h:=IY 4 (s.drop o);rw[Fj]at h;have V:=congrArg (List.drop m) h;rw[Wi (by rw[fJ,km];omega),Fj]at V;exact V.symm
theorem CZ{m:Nat}(Z:1<=m)(M:m<=3):(256:Int)^m=256\/(256:Int)^m=65536\/(256:Int)^m=16777216:=by
 have:m=1\/m=2\/m=3:=oM
 rcases this with rfl|rfl|rfl
 ·exact .inl dC
 ·exact .inr (.inl dC)
 ·exact .inr (.inr dC)
theorem ld{s:LI}{o m:Nat}(h:Bytes s)(U:o+4<=s.length)(y:m<=4):yN s o=ik (((s.drop o).take 4).take m)+256^m*ik (((s.drop o).take 4).drop m)/\0<=ik (((s.drop o).take 4).take m)/\ik (((s.drop o).take 4).take m)<256^m/\0<=ik (((s.drop o).take 4).drop m):=by
 have B:Bytes ((s.drop o).take 4):=(h.drop o).take 4;have C:(((s.drop o).take 4).take m).length=m:=by rw[fJ,fJ,km];omega
 have e:=pP (((s.drop o).take 4).take m) (((s.drop o).take 4).drop m);rw[IY,C]at e;have N:=iH (B.take m);rw[C]at N;exact⟨e,N.1,N.2,(iH (B.drop m)).1⟩
theorem Dc{o m:Nat}(J:Bytes x)(U:Bytes s)(a:o+4<=x.length)(d:o+4<=s.length)(h:ik (((x.drop o).take 4).drop m)=ik (((s.drop o).take 4).drop m)):((x.drop o).take 4).drop m=((s.drop o).take 4).drop m:=
 KS (((J.drop o).take 4).drop m) (((U.drop o).take 4).drop m) (by rw[km,km,fJ,fJ,km,km];omega) h
theorem Ju{o:Nat}(J:Bytes x)(U:Bytes s)(a:o+4<=x.length)(d:o+4<=s.length)(h:yN x o=yN s o):(x.drop o).take 4=(s.drop o).take 4:=
 KS ((J.drop o).take 4) ((U.drop o).take 4) (by rw[fJ,fJ,km,km];omega) h
theorem qw(d:0<q/\q<4294967296)(Y:0<=e/\e<4294967296)(B:b.length<=43):jS (aP q e b)=true/\mv (aP q e b)=q/\np (aP q e b)=e/\jh (aP q e b)=q/\kX (aP q e b)=e:=by
 have h:=lW d Y B;have a:jS (aP q e b)=true:=by
  cases a:jS (aP q e b)with
  |true=>rfl
  |false=>rw[mS a]at h;cases h
 rw[pV a]at h;have Z:mv (aP q e b)=q:=congrArg PM.q h;have V:np (aP q e b)=e:=congrArg PM.e h;have t:=a;unfold jS at t;simp only[mq,zcH,Yw,bne_eq_false_iff_eq]at t;obtain⟨_,⟨⟨⟨_,M⟩,Q⟩,_⟩,_⟩:=t;exact⟨a,Z,V,M▸Z,Q▸V⟩
theorem rT{s:LI}(h:jS s=true):mv s=jh s/\np s=kX s/\mv s≠0:=by
 unfold jS at h;simp only[mq,zcH,Yw,bne_eq_false_iff_eq,beq_eq_false_iff_ne]at h;obtain⟨_,⟨⟨⟨K,M⟩,Q⟩,_⟩,_⟩:=h;exact⟨M,Q,K⟩
def vT(l:Int)(s:LI):Prop:=s.length=64/\Bytes s/\kX s=0/\(jh s<l\/jh s=0)
theorem Nb{l:Int}{b s:LI}{p:Nat}(C:0<=l/\l<4294967295)(B:b.length<=43)(S:Bytes b)(d:p<=64)(h:vT l s):
 ir (aP (l+1) 0 b) s p=aP (l+1) 0 b\/vT l (ir (aP (l+1) 0 b) s p):=by
 obtain⟨U,r,K,Q⟩:=h;have J:=dE (l+1) 0 B;have M:=er (l+1) 0 S;obtain⟨_,_,_,f3,f4⟩:=qw (q:=l+1) (e:=0) oM oM B;generalize aP (l+1) 0 b=x at*;have R:=xt (p:=p) J U;have g:=AD (p:=p) M r;have N:0<=jh s:=(fK r 56).1;have X:s.drop 60=x.drop 60:=by
  have:=Ju (o:=60) r M oM oM (K.trans f4.symm);rw[nS acO,nS acO]at this;exact this
 by_cases Z:p<=56
 ·refine .inr ⟨R,g,?_,?_⟩
  ·unfold kX yN at K⊢
   rw[ou oM oM];exact K
  ·unfold jh yN at Q⊢
   rw[ou oM oM];exact Q
 ·by_cases V:p<60
  ·obtain⟨m,rfl⟩:∃m,p=56+m:=⟨p-56,oM⟩
   have i:kX (ir x s (56+m))=0:=by
    unfold kX yN at K⊢;rw[ou oM oM];exact K
   obtain⟨O,W,n,w⟩:=ld (o:=56) (m:=m) r oM oM;obtain⟨c,F,D,a⟩:=ld (o:=56) (m:=m) M oM oM;have c:jh x=_:=c;have O:jh s=_:=O;have L:jh (ir x s (56+m))=ik (((x.drop 56).take 4).take m)+256^m*ik (((s.drop 56).take 4).drop m):=by
    exact af3
   by_cases Y:ik (((s.drop 56).take 4).drop m)=ik (((x.drop 56).take 4).drop m)
   ·refine .inl (yu ?_)
    rw[px s 56 m oM oM,px x 56 m oM oM,Dc r M oM oM Y,X]
   ·refine .inr ⟨R,g,i,.inl ?_⟩
    rw[L];rw[f3]at c;generalize ik (((x.drop 56).take 4).take m)=u at*;generalize ik (((s.drop 56).take 4).take m)=v at*;generalize ik (((x.drop 56).take 4).drop m)=y at*;generalize ik (((s.drop 56).take 4).drop m)=z at*
    (have H:=CZ (m:=m) oM oM;generalize(256:Int)^m=gw at*;rcases H with rfl|rfl|rfl<;>omega)
  ·refine .inl (yu ?_)
   obtain⟨m,rfl⟩:∃m,p=60+m:=⟨p-60,oM⟩;rw[<-Fj,<-Fj,X]
theorem vT.abw{l:Int}{s:LI}(h:vT l s)(V:(cQ s).ok=true):(cQ s).q<l:=by
 cases a:jS s with
 |false=>rw[mS a]at V;cases V
 |true=>
  rw[pV a];obtain⟨M,_,F⟩:=rT a;show mv s<l;rcases h.2.2.2 with Q|Q<;>omega
structure nA(q e:Int)(s:LI):Prop where
 l:s.length=64
 b:Bytes s
 a:kX s<=e
 p:np s<=e
 w:jh s=q->kX s<e/\mv s=q
 n:¬(jS s=true/\mv s=q)
theorem nA.mono{q e A:Int}{s:LI}(h:nA q e s)(Y:e<=A):nA q A s:=
 ⟨h.l,h.b,xK h.a Y,xK h.p Y,λx=>⟨Yv (h.w x).1 Y,(h.w x).2⟩,h.n⟩
theorem OG{b s:LI}{p:Nat}(J:0<q/\q<4294967296)(Y:0<=e/\e<256)(B:b.length<=43)(n:Bytes b)(d:p<=64)(h:nA q e s):
 ir (aP q e b) s p=aP q e b\/nA q (e+1) (ir (aP q e b) s p):=by
 obtain⟨w,r,ha,B0,U,W⟩:=h;have hx:=dE q e B;have M:=er q e n;obtain⟨f0,f1,f2,f3,f4⟩:=qw (q:=q) (e:=e) J oM B;generalize aP q e b=x at*;have R:=xt (p:=p) hx w;have N:=AD (p:=p) M r;have a0:0<=kX s:=(fK r 60).1;have p0:0<=np s:=(fK r 4).1;by_cases P:ir x s p=x
 ·exact .inl P
 refine .inr ?_;by_cases Z:p<=4
 ·have t:np (ir x s p)=np s:=by unfold np yN;rw[ou oM oM]
  have A:jh (ir x s p)=jh s:=by unfold jh yN;rw[ou oM oM]
  have L:kX (ir x s p)=kX s:=by unfold kX yN;rw[ou oM oM]
  have k:jh s=q->ir x s p=s:=by
   intro G;obtain⟨_,A0⟩:=U G;have g:=Ju (o:=0) r M oM oM (A0.trans f1.symm);rw[AW,AW]at g;refine PD ?_;have:=congrArg (List.take p) g;rw[OR,OR,Ho Z]at this;exact this
  refine⟨R,N,by rw[L];omega,by rw[t];omega,λG=> ?_,λ⟨V,E⟩=> ?_⟩
  ·rw[A]at G
   have C:=k G;rw[C];exact⟨by have:=(U G).1;omega,(U G).2⟩
  ·obtain⟨j,_,_⟩:=rT V
   rw[A,E]at j;have C:=k j.symm;rw[C]at V E;exact W ⟨V,E⟩
 ·have l:mv (ir x s p)=q:=by
   rw[<-f1];unfold mv yN;rw[KJ oM oM]
  have t:np (ir x s p)=e:=by
   by_cases h8:8<=p
   ·rw[<-f2];unfold np yN;rw[KJ oM oM]
   ·obtain⟨m,rfl⟩:∃m,p=4+m:=⟨p-4,oM⟩
    obtain⟨O,s2,s3,s4⟩:=ld (o:=4) (m:=m) r oM oM;obtain⟨c,F,D,X⟩:=ld (o:=4) (m:=m) M oM oM;have c:np x=_:=c;have O:np s=_:=O;show ik (((ir x s (4+m)).drop 4).take 4)=_;rw[zz oM oM oM,pP,fJ,fJ,km,show min m (min 4 (x.length-4))=m by omega];generalize ik (((x.drop 4).take 4).take m)=u at*;generalize ik (((s.drop 4).take 4).take m)=v at*;generalize ik (((x.drop 4).take 4).drop m)=y at*;generalize ik (((s.drop 4).take 4).drop m)=z at*
    (have H:=CZ (m:=m) oM oM;generalize(256:Int)^m=gw at*;rcases H with rfl|rfl|rfl<;>omega)
  by_cases h2:p<=60
  ·have L:kX (ir x s p)=kX s:=by unfold kX yN;rw[ou oM oM]
   refine⟨R,N,by rw[L];omega,by rw[t];omega,λ_=>⟨by rw[L];omega,l⟩,λ⟨V,_⟩=> ?_⟩;obtain⟨j,i,_⟩:=rT V;rw[l]at j;rw[t,L]at i;by_cases h5:p<=56
   ·have A:jh (ir x s p)=jh s:=by unfold jh yN;rw[ou oM oM]
    rw[A]at j;have:=(U j.symm).1;omega
   ·refine P (yu ?_)
    have a:s.drop 60=x.drop 60:=by
     have:=Ju (o:=60) r M oM oM (i.symm.trans f4.symm);rw[nS acO,nS acO]at this;exact this
    obtain⟨m,rfl⟩:∃m,p=56+m:=⟨p-56,oM⟩;obtain⟨c,F,D,X⟩:=ld (o:=56) (m:=m) M oM oM;have c:jh x=_:=c;have T:jh (ir x s (56+m))=ik (((x.drop 56).take 4).take m)+256^m*ik (((s.drop 56).take 4).drop m):=by
     exact af3
    have Y:ik (((s.drop 56).take 4).drop m)=ik (((x.drop 56).take 4).drop m):=by
     rw[f3]at c;rw[T]at j;have I:(256:Int)^m≠0:=by
      have:m=0\/m=4\/(1<=m/\m<=3):=oM
      rcases this with rfl|rfl|K
      ·decide
      ·decide
      ·rcases CZ K.1 K.2 with d|d|d<;>rw[d]<;>decide
     have S:256^m*ik (((s.drop 56).take 4).drop m)=256^m*ik (((x.drop 56).take 4).drop m):=oM
     exact Int.eq_of_mul_eq_mul_left I S
    rw[px s 56 m oM oM,px x 56 m oM oM,Dc r M oM oM Y,a]
  ·refine absurd (yu ?_) P
   obtain⟨m,rfl⟩:∃m,p=60+m:=⟨p-60,oM⟩;have hz:ik (((s.drop 60).take 4).drop m)=ik (((x.drop 60).take 4).drop m):=by
    by_cases Q:m=4
    ·subst Q
     rw[VY acT,VY acT]
    ·obtain⟨O,s2,s3,s4⟩:=ld (o:=60) (m:=m) r oM oM
     obtain⟨c,F,D,X⟩:=ld (o:=60) (m:=m) M oM oM;have c:kX x=_:=c;have O:kX s=_:=O;generalize ik (((x.drop 60).take 4).take m)=u at*;generalize ik (((s.drop 60).take 4).take m)=v at*;generalize ik (((x.drop 60).take 4).drop m)=y at*;generalize ik (((s.drop 60).take 4).drop m)=z at*
     (have H:=CZ (m:=m) oM oM;generalize(256:Int)^m=gw at*;rcases H with rfl|rfl|rfl<;>omega)
   rw[px s 60 m oM oM,px x 60 m oM oM,Dc r M oM oM hz,VY (show s.length<=60+4 by omega),VY (show x.length<=60+4 by omega)]
def sec(s:LI)(j:Nat):LI:=(s.drop (j*64)).take 64
theorem Le{s:LI}{j:Nat}(h:j*64+64<=s.length):(sec s j).length=64:=by
 unfold sec;rw[fJ,km];omega
theorem Dg{s v:LI}{i:Nat}(j:Nat)(K:v.length<=64)(U:i*64+64<=s.length):sec (bh s (i*64) v) j=if j=i then v++(sec s i).drop v.length else sec s j:=by
 unfold sec;apply YB;intro k;rw[AH];by_cases F:k<64
 ·rw[iP F,xV,xy _ _ _ _ oM]
  by_cases S:j=i
  ·subst S
   rw[iP rfl];by_cases Z:k<v.length
   ·rw[iP oM,Uu Z,zcE]
   ·rw[iN oM,OU oM,xV,AH,iP oM,xV]
    exact aeC
  ·rw[iN oM,iN S,AH,iP F,xV]
 ·rw[iN F]
  split
  ·rw[KP (by rw[eG,km,fJ];omega)]
  ·rw[KP acT]
theorem Ew(V:LI){j:Nat}:∀(l:List (Nat×LI)) (s:LI) (k:Nat),(∀p∈l,p.1*64+64<=s.length/\p.2.length=64)->(∀p∈l,p.1≠j)->sec (qk V s k l) j=sec s j
 |[],_,_,_,_=>rfl
 |p::r,s,k,h,N=>by
  have Z:=h p Je;have C:(p.2.take (keeps V k)).length<=64:=by rw[fJ];omega
  have P:(bh s (p.1*64) (p.2.take (keeps V k))).length=s.length:=ia _ _ _ oM;show sec (qk V (bh s (p.1*64) (p.2.take (keeps V k))) (k+1) r) j=_;rw[Ew V r _ (k+1) (λq d=>by rw[P];exact h q (Dl _ d)) (λq d=>N q (Dl _ d)),Dg j C Z.1,iN (λe=>N p Je e.symm)]
theorem Si(V:LI){s b:LI}{i:Nat}(j:Nat)(U:i*64+64<=s.length)(B:b.length=64):sec (qk V s 0 [(i,b)]) j=if j=i then ir b (sec s i) (keeps V 0)else sec s j:=by
 show sec (bh s (i*64) (b.take (keeps V 0))) j=_;have F:=Ah V 0;rw[Dg j acT U,fJ,B,Ho F]
 rfl
structure DB(D:DS):Prop where
 ok:D.ok
 b:Bytes D.seen
 u:Bytes D.sure
 p:∀x∈D.au,Bytes x.2
 so:D.seen=qT D.sure D.au
theorem zK:∀(l:List (Nat×LI)) (s:LI),Bytes s->(∀x∈l,Bytes x.2)->Bytes (qT s l)
 |[],_,h,_=>h
 |p::r,_,h,C=>zK r _ (mK h (C p Je)) (λq d=>C q (Dl _ d))
theorem zy(V:LI):∀(l:List (Nat×LI)) (s:LI) (k:Nat),Bytes s->(∀x∈l,Bytes x.2)->Bytes (qk V s k l)
 |[],_,_,h,_=>h
 |p::r,_,_,h,C=>zy V r _ _ (mK h ((C p Je).take _)) (λq d=>C q (Dl _ d))
theorem DB.after(h:DB D):DB D.after:=⟨h.ok.after,h.b,h.u,h.p,h.so⟩
theorem Aa(h:Bytes b):Bytes (full b):=h.append (jM _)
theorem DB.put(h:DB D){i:Nat}(z:i<D.n)(B:b.length<=64)(S:Bytes b):DB (D.put i b):=by
 refine⟨h.ok.put i b z B,mK h.b (Aa S),h.u,λx J=> ?_,?_⟩
 ·rcases lU.1 J with J|J
  ·exact h.p x J
  ·rw[lA.1 J];exact Aa S
 ·show bh D.seen (i*64) (full b)=qT D.sure (D.au++[(i,full b)])
  rw[xw,<-h.so]
  rfl
theorem DB.sync(h:DB D):DB D.sync:=by
 have F:=h.ok.sync;unfold DS.sync at F⊢
 split
 ·rename_i u
  rw[iP u]at F;exact⟨F,h.b,zK _ _ h.u h.p,λx J=>absurd J nK,h.so⟩
 ·exact h.after
structure Calm(D:DS):Prop where
 db:DB D
 dn:D.down=false
 pn:D.au=[]
theorem Calm.su(h:Calm D):D.sure=D.seen:=by
 have:=h.db.so;rw[h.pn]at this;exact this.symm
theorem Calm.MH(h:Calm D)(k:Nat):dB D k:=⟨h.db.ok,h.db.b,by rw[h.pn];exact jG _⟩
theorem DB.bz(h:DB D)(V:LI):Calm (D.bz V)/\Live (D.bz V):=by
 have F:=h.ok.bz V;have B:=zy V D.au D.sure 0 h.u h.p;exact⟨⟨⟨F,B,B,λx J=>absurd J nK,rfl⟩,rfl,rfl⟩,⟨F,rfl,rfl⟩⟩
theorem Mb{D E:DS}(W:E.n=D.n)(h:0<=j->j<(D.n:Int)->sec E.seen j.toNat=sec D.seen j.toNat):E.read j=D.read j:=by
 unfold DS.read;rw[W]
 split
 ·rfl
 ·exact h oM oM
theorem x9(K:0<=j)(Z:j<(D.n:Int)):D.read j=sec D.seen j.toNat:=iN oM
theorem rH(h:D.ok)(K:0<=j)(Z:j<(D.n:Int)):(D.read j).length=64:=by
 rw[x9 K Z];have:=h.hs;exact Le oM
theorem Calm.zl(h:Calm D)(V:LI)(j:Int):(D.bz V).read j=D.read j:=by
 refine Mb (D:=D) (E:=D.bz V) (j:=j) rfl (λ_ _=> ?_);show sec (qk V D.sure 0 D.au) _=_;rw[h.pn,h.su]
 rfl
structure kN(D:DS)(P:DS->Prop):Prop where
 db:DB D
 dn:D.down=true
 cr:∀V,P (D.bz V)
theorem kN.mono{P Q:DS->Prop}(h:kN D P)(d:∀E,Calm E->Live E->P E->Q E):kN D Q:=⟨h.db,h.dn,λp=>d _ (h.db.bz p).1 (h.db.bz p).2 (h.cr p)⟩
theorem kN.goes(h:kN D P):D.goes=false:=by unfold DS.goes;rw[h.dn];rfl
theorem kN.after(h:kN D P):kN D.after P:=⟨h.db.after,by show(D.down||_)=true;rw[h.dn];rfl,h.cr⟩
theorem kN.sync(h:kN D P):kN D.sync P:=by
 have:D.sync=D.after:=by unfold DS.sync;rw[h.goes];rfl
 rw[this];exact h.after
theorem kN.write(h:kN D P)(K:0<=i)(W:i<(D.n:Int))(B:b.length<=64):D.eU i b=43/\kN (D.write i b) P:=by
 have Z:¬(i<0\/(D.n:Int)<=i):=oM
 have V:¬64<b.length:=oM
 have u:¬D.goes=true:=by rw[h.goes];exact gV
 unfold DS.eU DS.write;rw[iN Z,iN V,iN u,iN Z,iN V,iN u];exact⟨rfl,h.after⟩
theorem DV(h:D.down=false):(D.goes=true/\D.after.down=false)\/(D.goes=false/\D.after.down=true):=by
 unfold DS.goes DS.after;rw[h];show(!(false||D.gG==0))=true/\(false||D.gG==0)=false\/(!(false||D.gG==0))=false/\(false||D.gG==0)=true
 cases D.gG==0
 ·exact .inl ⟨rfl,rfl⟩
 ·exact .inr ⟨rfl,rfl⟩
structure OS(D0 D:DS)(A:Nat->Prop):Prop where
 db:DB D
 dn:D.down=false
 n:D.n=D0.n
 su:D.sure=D0.seen
 pa:∀x∈D.au,A x.1
 rd:∀j:Int,0<=j->¬A j.toNat->D.read j=D0.read j
theorem Calm.mid(h:Calm D)(A:Nat->Prop):OS D D A:=⟨h.db,h.dn,rfl,h.su,λx J=>by rw[h.pn]at J;exact absurd J nK,λ_ _ _=>rfl⟩
theorem OS.VZ{c D:DS}{A:Nat->Prop}(h:OS c D A)(V:LI)(_h0:0<=j)(N:¬A j.toNat):(D.bz V).read j=c.read j:=by
 refine Mb (D:=c) (E:=D.bz V) (j:=j) h.n (λ_ _=> ?_);show sec (qk V D.sure 0 D.au) _=_;have r:=h.db.ok.hu;rw[Ew V (j:=j.toNat) D.au D.sure 0 (λp o=>⟨by have:=(h.db.ok.hp p o).1;rw[r];omega,(h.db.ok.hp p o).2⟩) (λp o e=>N (by rw[<-e];exact h.pa p o)),h.su]
theorem OS.dead{c D:DS}{A:Nat->Prop}(h:OS c D A)(q:D.after.down=true):kN D.after (λE=>E.n=c.n/\∀j:Int,0<=j->¬A j.toNat->E.read j=c.read j):=
 ⟨h.db.after,q,λp=>⟨h.n,λ_ K N=>h.VZ p K N⟩⟩
theorem OS.write{c D:DS}{A:Nat->Prop}(h:OS c D A)(K:0<=i)(W:i<(c.n:Int))(r:A i.toNat)(B:b.length<=64)(H:Bytes b):
 (D.eU i b=0/\OS c (D.write i b) A/\(D.write i b).au=D.au++[(i.toNat,full b)]/\∀j,0<=j->(D.write i b).read j=if j=i then full b else D.read j)\/
 (D.eU i b=43/\kN (D.write i b) (λE=>E.n=c.n/\∀j:Int,0<=j->¬A j.toNat->E.read j=c.read j)):=by
 have z:=h.n;have Z:¬(i<0\/(D.n:Int)<=i):=oM
 have V:¬64<b.length:=oM
 unfold DS.eU DS.write;rw[iN Z,iN V,iN Z,iN V];rcases DV h.dn with⟨u,q⟩|⟨u,q⟩
 ·refine .inl ?_
  rw[iP u,iP u];have U:=h.db.ok.hs;have M:∀j,0<=j->(D.after.put i.toNat b).read j=if j=i then full b else D.read j:=by
   intro j g;unfold DS.read;show(if j<0\/(D.n:Int)<=j then []else _)=_;by_cases N:j<0\/(D.n:Int)<=j
   ·rw[iP N,iP N,iN oM]
   ·rw[iN N,iN N]
    show sec (bh D.seen (i.toNat*64) (full b)) j.toNat=_;have a:=jV B;rw[Dg _ oM oM];by_cases S:j=i
    ·rw[iP S,iP (by rw[S]),a,VY (by rw[Le oM];omega),rX]
    ·rw[iN S,iN oM]
     rfl
  refine⟨rfl,⟨h.db.after.put (by show i.toNat<D.n;omega) B H,q,h.n,h.su,λx J=> ?_,λj g N=> ?_⟩,rfl,M⟩
  ·rcases lU.1 J with J|J
   ·exact h.pa x J
   ·rw[lA.1 J];exact r
  ·have I:¬j=i:=λe=>N (by rw[e];exact r)
   rw[M j g,iN I];exact h.rd j g N
 ·have u:¬D.goes=true:=by rw[u];exact gV
  rw[iN u,iN u];exact .inr ⟨rfl,h.dead q⟩
theorem OS.sync{c D:DS}{A:Nat->Prop}(h:OS c D A):
 (Calm D.sync/\D.sync.n=c.n/\∀j,D.sync.read j=D.read j)\/kN D.sync (λE=>E.n=c.n/\∀j:Int,0<=j->¬A j.toNat->E.read j=c.read j):=by
 rcases DV h.dn with⟨u,q⟩|⟨u,q⟩
 ·have e:D.sync={D.after with sure:=qT D.sure D.au,au:=[]}:=by unfold DS.sync;rw[iP u]
  refine .inl ⟨⟨h.db.sync,by rw[e];exact q,by rw[e]⟩,by rw[e];exact h.n,λj=>by rw[e];rfl⟩
 ·have e:D.sync=D.after:=by unfold DS.sync;rw[u];rfl
  rw[e];exact .inr (h.dead q)
theorem Calm.one(h:Calm D)(K:0<=i)(W:i<(D.n:Int))(B:b.length=64)(S:Bytes b):
 ((
  D.eU i b=0)/\((Calm (D.write i b).sync/\(D.write i b).sync.n=D.n/\∀j,0<=j->(D.write i b).sync.read j=if j=i then b else D.read j)\/
  kN (D.write i b).sync (λE=>E.n=D.n/\∃p,p<=64/\∀j,0<=j->E.read j=if j=i then ir b (D.read i) p else D.read j)))\/
 (D.eU i b=43/\kN (D.write i b) (λE=>E.n=D.n/\∀j,E.read j=D.read j)):=by
 rcases(h.mid (λk=>k=i.toNat)).write K W rfl oM S with⟨l,X,Y,t⟩|⟨l,X⟩
 ·refine .inl ⟨l,?_⟩
  rw[xR B]at Y;have t:∀j,0<=j->(D.write i b).read j=if j=i then b else D.read j:=λj N=>by rw[t j N,xR B]
  rcases X.sync with⟨O,H,n⟩|s
  ·exact .inl ⟨O,H,λj N=>(n j).trans (t j N)⟩
  ·refine .inr ⟨s.db,s.dn,λV=>⟨?_,keeps V 0,Ah _ _,λj N=> ?_⟩⟩
   ·exact(s.cr V).1
   ·by_cases r:j=i
    ·subst r
     rw[iP rfl];have d:(D.write j b).sync.bz V=(D.write j b).bz V:=by
      have u:(D.write j b).goes=false:=by
       cases u:(D.write j b).goes with
       |false=>rfl
       |true=>
        have J:=s.dn;unfold DS.sync at J;rw[iP u]at J;have M:(D.write j b).after.down=true:=J;rcases DV X.dn with⟨_,Q⟩|⟨Q,_⟩
        ·rw[Q]at M;cases M
        ·rw[Q]at u;cases u
      have e:(D.write j b).sync=(D.write j b).after:=by unfold DS.sync;rw[u];rfl
      rw[e]
      rfl
     rw[d,x9 (D:=(D.write j b).bz V) K (by show j<((D.write j b).n:Int);rw[X.n];exact W)];show sec (qk V (D.write j b).sure 0 (D.write j b).au) j.toNat=_;rw[Y,h.pn,X.su];have U:=h.db.ok.hs;rw[xL,Si V _ oM B,iP rfl,x9 K W]
    ·rw[iN r]
     exact(s.cr V).2 j N oM
 ·refine .inr ⟨l,X.db,X.dn,λV=>⟨(X.cr V).1,λj=> ?_⟩⟩
  have q:=X.cr V;by_cases g:0<=j
  ·by_cases r:j=i
   ·subst r
    have Z:¬(j<0\/(D.n:Int)<=j):=oM
    have J:¬64<b.length:=oM
    have u:¬D.goes=true:=by
     intro u;unfold DS.eU at l;rw[iN Z,iN J,iP u]at l
     cases l
    have e:D.write j b=D.after:=by unfold DS.write;rw[iN Z,iN J,iN u]
    rw[e];exact h.zl V j
   ·exact q.2 j g oM
  ·unfold DS.read
   rw[iP oM,iP oM]
structure jm(D:DS)(a:Int):Prop where
 s:∀i,i=a\/i=a+1->(D.read i).length=64/\Bytes (D.read i)/\kX (D.read i)=0/\jh (D.read i)<=(aK D a).q
 o:jh (D.read (dh D a))<(aK D a).q\/jh (D.read (dh D a))=0
theorem jm.tail(h:jm D a):vT (aK D a).q (D.read (dh D a)):=by
 obtain⟨Z,V,M,_⟩:=h.s _ (oC D a);exact⟨Z,V,M,h.o⟩
theorem jm.same{D E:DS}(h:jm D a)(K:E.read a=D.read a)(Z:E.read (a+1)=D.read (a+1)):jm E a:=by
 have C:=fS K Z;have o:dh E a=dh D a:=by unfold dh;rw[C]
 refine⟨λi z=> ?_,?_⟩
 ·rw[C]
  rcases z with rfl|rfl
  ·rw[K];exact h.s _ (.inl rfl)
  ·rw[Z];exact h.s _ (.inr rfl)
 ·rw[o,C]
  rcases oC D a with V|V
  ·rw[V,K];have:=h.o;rw[V]at this;exact this
  ·rw[V,Z];have:=h.o;rw[V]at this;exact this
theorem Ei{D E:DS}(y:Bytes D.seen)(h:jm D a)(d:(aK D a).q<4294967295)(B:b.length<=43)(S:Bytes b)
 (G:∀j,E.read j=if j=dh D a then aP ((aK D a).q+1) 0 b else D.read j):aK E a=⟨dh D a,(aK D a).q+1,b⟩/\jm E a:=by
 have J:=(tY y a).1;have C:aK E a=⟨dh D a,(aK D a).q+1,b⟩:=by
  refine Fv rfl J (λj=> ?_);unfold cn;rw[G j]
  split
  ·exact lW oM oM B
  ·rfl
 obtain⟨f0,f1,f2,f3,f4⟩:=qw (q:=(aK D a).q+1) (e:=0) (b:=b) oM oM B;have g:dh E a=(aK D a).at_:=by
  unfold dh;rw[C];show 2*a+1-(2*a+1-(aK D a).at_)=_;omega
 refine⟨C,⟨λi z=> ?_,?_⟩⟩
 ·rw[C,G i]
  by_cases o:i=dh D a
  ·rw[iP o]
   exact⟨dE _ _ B,er _ _ S,f4,by rw[f3];exact ef _⟩
  ·rw[iN o]
   obtain⟨Z,V,M,Q⟩:=h.s i z;exact⟨Z,V,M,by show _<=(aK D a).q+1;omega⟩
 ·rw[g,C,G]
  have I:(aK D a).at_≠dh D a:=by unfold dh;have:=mX D a 2 oM;have:(aK D a).at_=a\/(aK D a).at_=a+1:=this;omega
  rw[iN I];obtain⟨_,_,_,Q⟩:=h.s _ (mX D a 2 oM);have Q:jh (D.read (aK D a).at_)<=(aK D a).q:=Q;exact .inl (by show _<(aK D a).q+1;omega)
theorem Qr{D E:DS}{t:LI}(u:Bytes D.seen)(h:jm D a)(R:vT (aK D a).q t)
 (G:∀j,E.read j=if j=dh D a then t else D.read j):aK E a=aK D a/\jm E a:=by
 have K:=(tY u a).1;have w:wP (cQ t)=true->(cQ t).q<(aK D a).q:=λz=>R.abw (by unfold wP at z;simp only[mq]at z;exact z.1);have C:aK E a=aK D a:=by
  have g:=nz D a;rw[nz E a];rcases oC D a with d|d
  ·have M:cn E a=cQ t:=by unfold cn;rw[G a,iP d.symm]
   have S:cn E (a+1)=cn D (a+1):=by unfold cn;rw[G (a+1),iN oM]
   have o:(aK D a).at_=a+1:=by unfold dh at d;omega
   obtain⟨x,J⟩:=nM (eR D a ⟨a+1,0,[]⟩);obtain⟨y,H⟩:=nM (eR E a ⟨a+1,0,[]⟩);rw[<-J]at g;rw[<-H];unfold eR at g⊢;rw[S];by_cases Y:wP (cn D (a+1))=true/\(cn D (a+1)).q>x.q
   ·rw[iP Y]at g
    rw[g,iP];refine⟨Y.1,?_⟩;have P:(aK D a).q=(cn D (a+1)).q:=by rw[g]
    rw[H];unfold eR;rw[M]
    split
    ·rename_i Z
     have:=w Z.1;show _>(cQ t).q;omega
    ·show _>(0:Int)
     have O:0<=x.q:=by
      rw[J];unfold eR
      split
      ·exact(iJ (DS.fU u a)).1
      ·exact ef _
     omega
   ·rw[iN Y]at g
    have c:x=⟨a+1,0,[]⟩:=by
     have Z:x.at_=a+1:=by rw[<-g];exact o
     rw[J]at Z⊢;unfold eR at Z⊢
     split at Z
     ·have Z:a=a+1:=Z
      omega
     ·rename_i V
      rw[iN V]
    have A:(aK D a).q=0:=by rw[g,c]
    have l:y=⟨a+1,0,[]⟩:=by
     rw[H];unfold eR;rw[M,iN];rintro⟨Z,V⟩;have:=w Z;have V:(cQ t).q>0:=V;omega
    rw[l,g,c,iN];rw[c]at Y;exact Y
  ·have M:cn E a=cn D a:=by unfold cn;rw[G a,iN oM]
   have S:cn E (a+1)=cQ t:=by unfold cn;rw[G (a+1),iP d.symm]
   have o:(aK D a).at_=a:=by unfold dh at d;omega
   have k:eR E a ⟨a+1,0,[]⟩=eR D a ⟨a+1,0,[]⟩:=by unfold eR;rw[M]
   rw[k];obtain⟨x,J⟩:=nM (eR D a ⟨a+1,0,[]⟩);rw[<-J]at g⊢;have e:aK D a=x:=by
    rw[g];unfold eR;refine iN (λY=> ?_);rw[g]at o;unfold eR at o;rw[iP Y]at o;have o:a+1=a:=o;omega
   rw[e];unfold eR;rw[S];refine iN (λY=> ?_);have:=w Y.1;rw[e]at this;omega
 have d:dh E a=dh D a:=by unfold dh;rw[C]
 refine⟨C,⟨λi z=> ?_,?_⟩⟩
 ·rw[C,G i]
  by_cases b:i=dh D a
  ·rw[iP b]
   exact⟨R.1,R.2.1,R.2.2.1,by rcases R.2.2.2 with F|F<;>omega⟩
  ·rw[iN b];exact h.s i z
 ·rw[d,C,G,iP rfl]
  exact R.2.2.2
theorem Calm.save(h:Calm D)(ha:0<=a/\a+1<(D.n:Int))(C:b.length<=43)(B:Bytes b)(U:jm D a)(Y:(aK D a).q<4294967295):
 (g7 D a b=0/\Calm (cE D a b)/\(cE D a b).n=D.n/\aK (cE D a b) a=⟨dh D a,(aK D a).q+1,b⟩/\jm (cE D a b) a/\∀j,j≠a->j≠a+1->(cE D a b).read j=D.read j)\/
 (g7 D a b=43/\kN (cE D a b) (λE=>E.n=D.n/\(aK E a=⟨dh D a,(aK D a).q+1,b⟩\/aK E a=aK D a)/\jm E a/\∀j,j≠a->j≠a+1->E.read j=D.read j)):=by
 have q0:=(tY h.db.b a).1;have Q:(lL D a b).length=64:=dE _ _ C;have n:Bytes (lL D a b):=er _ _ B;have I:¬(aK D a).q=4294967295:=oM
 have hI:=oC D a;have e:qb D a b=D.sync.eU (dh D a) (lL D a b):=iN I;have r:qn D a b=D.sync.write (dh D a) (lL D a b):=iN I;have H:∀(E:DS) (j:Int),j<0->E.n=D.n->E.read j=D.read j:=λE j N W=>by unfold DS.read;rw[iP oM,iP oM]
 have K:∀E:DS,E.n=D.n->(∀j,0<=j->E.read j=D.read j)->E.n=D.n/\(aK E a=⟨dh D a,(aK D a).q+1,b⟩\/aK E a=aK D a)/\jm E a/\∀j,j≠a->j≠a+1->E.read j=D.read j:=by
  intro E W G;have y:∀j,E.read j=D.read j:=λj=>by
   by_cases N:0<=j
   ·exact G j N
   ·exact H E j oM W
  exact⟨W,.inr (fS (y _) (y _)),U.same (y _) (y _),λj _ _=>y j⟩
 rcases(h.mid (λ_=>False)).sync with⟨u,o,R⟩|c
 ·
  have F:=fS (R a) (R (a+1));have A0:dh D.sync a=dh D a:=by unfold dh;rw[F]
  rcases u.one (i:=dh D a) (b:=lL D a b) oM (by rw[o];omega) Q n with⟨l,w⟩|⟨l,X⟩
  ·have q:qb D a b=0:=e.trans l
   have z:cE D a b=(D.sync.write (dh D a) (lL D a b)).sync:=(iP q).trans (by rw[r]);have O:g7 D a b=if(D.sync.write (dh D a) (lL D a b)).sync.down=true then 43 else 0:=(iP q).trans (by rw[r]);rcases w with⟨t,A,L⟩|g
   ·refine .inl ?_
    rw[O,z,t.dn];have M:∀j,(D.sync.write (dh D a) (lL D a b)).sync.read j=if j=dh D a then aP ((aK D a).q+1) 0 b else D.read j:=by
     intro j;by_cases N:0<=j
     ·rw[L j N]
      split
      ·rfl
      ·exact R j
     ·rw[iN oM]
      exact H _ j oM (A.trans o)
    obtain⟨T,J⟩:=Ei h.db.b U Y C B M;exact⟨rfl,t,A.trans o,T,J,λj Z V=>by rw[M j,iN oM]⟩
   ·refine .inr ?_
    rw[O,z,g.dn];refine⟨rfl,g.mono (λE _ _ ⟨S,p,hp,P⟩=> ?_)⟩;have W:=S.trans o;rw[R (dh D a)]at P;have M:∀j,E.read j=if j=dh D a then ir (lL D a b) (D.read (dh D a)) p else D.read j:=by
     intro j;by_cases N:0<=j
     ·rw[P j N]
      split
      ·rfl
      ·exact R j
     ·rw[iN oM]
      exact H _ j oM W
    rcases Nb (p:=p) ⟨q0,Y⟩ C B hp U.tail with d|d
    ·have d:ir (lL D a b) (D.read (dh D a)) p=aP ((aK D a).q+1) 0 b:=d
     rw[d]at M;obtain⟨T,J⟩:=Ei h.db.b U Y C B M;exact⟨W,.inl T,J,λj Z V=>by rw[M j,iN oM]⟩
    ·obtain⟨T,J⟩:=Qr h.db.b U d M
     exact⟨W,.inr T,J,λj Z V=>by rw[M j,iN oM]⟩
  ·have q:qb D a b=43:=e.trans l
   have k:¬qb D a b=0:=by rw[q];decide
   refine .inr ⟨(iN k).trans q,?_⟩;rw[show cE D a b=D.sync.write (dh D a) (lL D a b)from(iN k).trans r];exact X.mono (λE _ _ ⟨S,P⟩=>K E (S.trans o) (λj _=>(P j).trans (R j)))
 ·have W:D.sync.n=D.n:=DS.kI D
  obtain⟨l,X⟩:=c.write (i:=dh D a) (b:=lL D a b) oM (by rw[W];omega) oM;have q:qb D a b=43:=e.trans l;have k:¬qb D a b=0:=by rw[q];decide
  refine .inr ⟨(iN k).trans q,?_⟩;rw[show cE D a b=D.sync.write (dh D a) (lL D a b)from(iN k).trans r];exact X.mono (λE _ _ ⟨S,P⟩=>K E S (λj N=>P j N (λx=>x)))
end Go.Proofs.YtblpaldggenbaaaGreatDoor
